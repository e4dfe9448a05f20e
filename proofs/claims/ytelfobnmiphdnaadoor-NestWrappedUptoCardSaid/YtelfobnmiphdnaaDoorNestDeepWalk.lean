/- The statement NestDeep, walked: the call returns true. -/
import Derived.Test.YtelfobnmiphdnaaDoorLaw09
import Derived.Test.YtelfobnmiphdnaaDoorDeepP
namespace Go.Proofs.YtelfobnmiphdnaaDoor
set_option linter.all false
attribute [local irreducible] Calls
open Go.RowKit

/-- A text so many times. -/
def rep (s : ByteArray) : Nat → ByteArray
  | 0 => ByteArray.empty
  | n + 1 => rep s n ++ s
theorem rep_size (s : ByteArray) : ∀ n, (rep s n).size = n * s.size
  | 0 => by rw [rep, Nat.zero_mul]; rfl
  | n + 1 => by rw [rep, ByteArray.size_append, rep_size s n, Nat.add_mul, Nat.one_mul]
theorem bt_appL {a b : ByteArray} {j : Nat} (h : j < a.size) : bt (a ++ b) j = bt a j := by
  unfold bt; rw [get!_list, get!_list, ByteArray.data_append, Array.toList_append, List.getD_eq_getElem?_getD, List.getD_eq_getElem?_getD, List.getElem?_append_left (by rw [← size_data]; exact h)]
theorem bt_appR {a b : ByteArray} {j : Nat} (h : a.size ≤ j) : bt (a ++ b) j = bt b (j - a.size) := by
  unfold bt; rw [get!_list, get!_list, ByteArray.data_append, Array.toList_append, List.getD_eq_getElem?_getD, List.getD_eq_getElem?_getD, List.getElem?_append_right (by rw [← size_data]; exact h), ← size_data]
theorem rep_bt (c : UInt8) : ∀ (n j : Nat), j < n → bt (rep ⟨#[c]⟩ n) j = c.toNat
  | 0, _, h => by omega
  | n + 1, j, h => by
    have hz : (rep ⟨#[c]⟩ n).size = n := by rw [rep_size]; show n * 1 = n; omega
    rw [rep]
    by_cases g : j < n
    · rw [bt_appL (by omega)]; exact rep_bt c n j g
    · rw [bt_appR (by omega), hz, show j - n = 0 by omega]; rfl
set_option maxRecDepth 100000 in
set_option maxHeartbeats 4000000 in
theorem law09_repeat (s : ByteArray) (hs : s.size ≤ 1000) (n : Nat) (hn : n ≤ 1000) (w : World) :
    Calls Tryd.prog 9 #[.string s, .int .i64 (n : Int)] w fun e w' => e = .returned (.string (rep s n)) ∧ w = w' := by
  have HQ : RowKit.Hid (∀ x, x = rep s n → (fun (e : Ending) w' => e = .returned (.string (rep s n)) ∧ w = w') (.returned (.string x)) w) := Lib.hid fun x h => ⟨by rw [h], rfl⟩
  generalize (fun (e : Ending) w' => e = .returned (.string (rep s n)) ∧ w = w') = Q at *
  go_enter Tryd.func9, Tryd.ntmps9
  go_wp2_with fail
  go_loopw [5, 6] (fun t i wr => ∃ k : Nat, i = .int .i64 (k : Int) ∧ k ≤ n ∧ t = .string (rep s k) ∧ wr = w) (fun _ i _ => n - (intOf i).toNat)
  case atStart => exact ⟨0, rfl, Nat.zero_le _, rfl, rfl⟩
  case round =>
    obtain ⟨k, rfl, hk, rfl, rfl⟩ := hrel
    have hz : (rep s k).size ≤ 1000000 := by rw [rep_size]; exact Nat.le_trans (Nat.mul_le_mul (show k ≤ 1000 by omega) hs) (by decide)
    by_cases hlt : k < n
    · have hlt' : (k : Int) < n := by omega
      have hwk : IntKind.i64.wrap ((k : Int) + 1) = ((k + 1 : Nat) : Int) := by rw [IntKind.wrap_i64]; omega
      have hzz : ¬ 9223372036854775807 < (rep s k).size + s.size := by omega
      have HK1 : RowKit.Hid (k + 1 ≤ n) := Lib.hid hlt
      have HML : RowKit.Hid (n - (k + 1) < n - k) := Lib.hid (by omega)
      have HX : RowKit.Hid (rep s k ++ s = rep s (k + 1)) := Lib.hid rfl
      generalize rep s k = t at *
      go_wp2_with fail
      refine ⟨⟨k + 1, congrArg (Value.int .i64) (by omega), HK1.out, by rw [HX.out], (by first | trivial | rfl)⟩, ?_⟩
      have := HML.out
      simp only [intOf]
      omega
    · have hlt' : ¬ (k : Int) < n := by omega
      obtain rfl : k = n := by omega
      go_wp2_with fail
      exact HQ.out _ rfl
/-- The bytes of the two texts. -/
theorem deep_u {o c : UInt8} {k : Nat} (u : ByteArray) (hu : u = (rep ⟨#[o]⟩ k ++ ⟨#[120]⟩) ++ rep ⟨#[c]⟩ k) : u.size = k + 1 + k ∧ bt u k = 120 ∧ (∀ j, j < k → bt u j = o.toNat) ∧ (∀ j, k < j → j < u.size → bt u j = c.toNat) := by
  have z1 : (rep ⟨#[o]⟩ k).size = k := by rw [rep_size]; show k * 1 = k; omega
  have z2 : (rep ⟨#[c]⟩ k).size = k := by rw [rep_size]; show k * 1 = k; omega
  have z3 : (rep ⟨#[o]⟩ k ++ ⟨#[120]⟩ : ByteArray).size = k + 1 := by rw [ByteArray.size_append, z1]; rfl
  have hz : u.size = k + 1 + k := by rw [hu, ByteArray.size_append, z2, z3]
  refine ⟨hz, ?_, fun j hj => ?_, fun j j1 j2 => ?_⟩
  · rw [hu, bt_appL (by omega), bt_appR (by omega), z1, Nat.sub_self]; rfl
  · rw [hu, bt_appL (by omega), bt_appL (by omega)]; exact rep_bt o k j hj
  · rw [hu, bt_appR (by omega), z3]; exact rep_bt c k _ (by omega)
theorem deep_v {o : UInt8} {k : Nat} (u : ByteArray) (hu : u = (⟨#[97]⟩ : ByteArray) ++ rep ⟨#[o]⟩ k) : u.size = 1 + k ∧ bt u 0 = 97 ∧ (∀ j, 1 ≤ j → j < u.size → bt u j = o.toNat) := by
  have z1 : (rep ⟨#[o]⟩ k).size = k := by rw [rep_size]; show k * 1 = k; omega
  have z2 : (⟨#[97]⟩ : ByteArray).size = 1 := rfl
  have hz : u.size = 1 + k := by rw [hu, ByteArray.size_append, z1]; rfl
  refine ⟨hz, ?_, fun j j1 j2 => ?_⟩
  · rw [hu, bt_appL (by rw [z2]; omega)]; rfl
  · rw [hu, bt_appR (by rw [z2]; omega), z2]; exact rep_bt o k _ (by omega)
/-- What the two texts' nests are. -/
theorem deep_all (o c : UInt8) (hoc : (o = 40 ∧ c = 41) ∨ (o = 91 ∧ c = 93) ∨ (o = 123 ∧ c = 125)) (k : Nat) (hk : k ≤ 130) (u v : ByteArray) (hu : u = (rep ⟨#[o]⟩ k ++ ⟨#[120]⟩) ++ rep ⟨#[c]⟩ k) (hv : v = (⟨#[97]⟩ : ByteArray) ++ rep ⟨#[o]⟩ k) :
    ((nestAll u).2.2 = if 100 < k then (0, 6, 100) else ((k : Int), 0, 0)) ∧ ((nestAll v).2.2.2 = if 100 < k then (6, 101) else if k = 0 then (0, 0) else (5, (k : Int))) := by
  obtain ⟨a1, a2, a3, a4⟩ := deep_u u hu
  obtain ⟨b1, b2, b3⟩ := deep_v v hv
  have h1 : o.toNat = 40 ∨ o.toNat = 91 ∨ o.toNat = 123 := by rcases hoc with ⟨rfl, _⟩ | ⟨rfl, _⟩ | ⟨rfl, _⟩ <;> decide
  have h2 : closer o.toNat = c.toNat := by rcases hoc with ⟨rfl, rfl⟩ | ⟨rfl, rfl⟩ | ⟨rfl, rfl⟩ <;> decide
  obtain ⟨e1, e2⟩ := nest_deep u k o.toNat c.toNat a1 (by omega) a2 h1 h2 a3 a4
  obtain ⟨f1, f2, f3⟩ := nest_open v k b1 (by omega) b2 (fun j j1 j2 => by rw [b3 j j1 j2]; exact h1)
  by_cases hk1 : 100 < k
  · rw [if_pos hk1, if_pos hk1, e1 hk1, f1 hk1]; exact ⟨rfl, rfl⟩
  · rw [if_neg hk1, if_neg hk1]
    obtain ⟨l, p, e⟩ := e2 (by omega)
    refine ⟨by rw [e], ?_⟩
    by_cases hk0 : k = 0
    · obtain ⟨l, p, e⟩ := f3 hk0
      rw [if_pos hk0, e]
    · rw [if_neg hk0, f2 (by omega) (by omega)]
theorem depth_known {q : List Tok × List Int × Int × Int × Int} {w0 w' : World} {e : Ending} {M E A : Int} (h : depthPost q w0 e w') (hq : q.2.2 = (M, E, A)) : e = .returned (.tuple #[.int .i64 M, .agg #[.int .i64 E, .int .i64 A]]) ∧ Below w0.heap.size w0 w' := by
  unfold depthPost at h; rw [hq] at h; exact h
theorem of_known {q : List Tok × List Int × Int × Int × Int} {w0 w' : World} {e : Ending} {E A : Int} (h : nofPost q w0 e w') (hq : q.2.2.2 = (E, A)) : ∃ a1 n1 c1 a2 n2 c2, e = .returned (.tuple #[.slice a1 n1 c1, .slice a2 n2 c2, .agg #[.int .i64 E, .int .i64 A]]) ∧ Below w0.heap.size w0 w' := by
  unfold nofPost at h; rw [hq] at h
  obtain ⟨v1, v2, rfl, hb, ⟨a1, c1, rfl, _⟩, hp, _⟩ := h
  obtain ⟨a2, c2, rfl, _⟩ := hp.open'
  exact ⟨_, _, _, _, _, _, rfl, hb⟩
theorem bounds_u8 {r : Int} (h : (Lit.int .u8 r).wf = true) : 0 ≤ r ∧ r < 256 := by
  unfold Lit.wf at h
  simp only [Bool.and_eq_true, decide_eq_true_eq] at h
  have h1 : IntKind.u8.min = 0 := by decide
  have h2 : IntKind.u8.max = 255 := by decide
  omega
set_option maxRecDepth 100000 in
set_option maxHeartbeats 16000000 in
theorem NestDeep_walk (x : Int) (hx : (Lit.int .u8 x).wf = true) (y : Int) (hy : (Lit.int .u8 y).wf = true) (w : World) (_ : True) (hT : Tabs w) (hM : MaxC w) :
    Calls Tryd.prog 5 #[.int .u8 x, .int .u8 y] w fun e w' => e = .returned (.bool true) ∧ Below w.heap.size w w' := by
  have HQ : RowKit.Hid (∀ w', Below w.heap.size w w' → (fun (e : Ending) w' => e = .returned (.bool true) ∧ Below w.heap.size w w') (.returned (.bool true)) w') := Lib.hid fun w' h => ⟨rfl, h⟩
  generalize (fun (e : Ending) w' => e = .returned (.bool true) ∧ Below w.heap.size w w') = Q at *
  have CF := Lib.hid (fun w' (hb : Below w.heap.size w w') => law09_fixed w' (hT.below hb) (hM.below hb))
  have CD := Lib.hid (fun p (hp : p.size ≤ 2147483647) w' (hb : Below w.heap.size w w') => nest_Depth p hp w' (hT.below hb) (hM.below hb))
  have CO := Lib.hid (fun p (hp : p.size ≤ 2147483647) w' (hb : Below w.heap.size w w') => nest_Of p hp w' (hT.below hb) (hM.below hb))
  have CR := Lib.hid (fun s hs n hn w' => law09_repeat s hs n hn w')
  have bx := bounds_u8 hx
  have by' := bounds_u8 hy
  clear hx hy
  have hwx : IntKind.i64.wrap x = x := IntWalk.i64_in _ (by omega)
  obtain ⟨k, hk⟩ : ∃ k : Nat, (k : Int) = x.tmod 130 := ⟨(x % 130).toNat, by rw [Int.tmod_eq_emod_of_nonneg bx.1]; omega⟩
  have hkb : k < 130 := by
    have : x.tmod 130 < 130 := by rw [Int.tmod_eq_emod_of_nonneg bx.1]; omega
    omega
  have hk' : x.tmod 130 = (k : Int) := hk.symm
  clear hk
  have hwk : IntKind.i64.wrap (k : Int) = (k : Int) := IntWalk.i64_in _ (by omega)
  have hy3 : y.tmod 3 = 0 ∨ y.tmod 3 = 1 ∨ y.tmod 3 = 2 := by rw [Int.tmod_eq_emod_of_nonneg by'.1]; omega
  have HZ := Lib.hid (fun c => show (rep ⟨#[c]⟩ k).size = k by rw [rep_size]; show k * 1 = k; omega)
  have hcase : 100 < k ∨ k = 0 ∨ (0 < k ∧ k ≤ 100) := by omega
  rcases hy3 with hy3 | hy3 | hy3
  · obtain ⟨hA1, hA2⟩ := deep_all 40 41 (by decide) k (by omega) _ _ rfl rfl
    rcases hcase with hc | hc | hc
    · rw [if_pos hc] at hA1; rw [if_pos hc] at hA2
      have HD := Lib.hid hA1
      have HV := Lib.hid hA2
      clear hA1 hA2
      have hk1 : (100 : Int) < k := by omega
      go_enter Tryd.func5, Tryd.ntmps5
      go_wp2_with fail
      refine (CR.out ⟨#[40]⟩ (by decide) k (by omega) _).mono ?_
      rintro e w1 ⟨rfl, rfl⟩
      have hz1 := HZ.out 40
      have hz2 := HZ.out 41
      have hsz1 : ¬ 9223372036854775807 < (rep ⟨#[40]⟩ k).size + (⟨#[120]⟩ : ByteArray).size := by rw [hz1]; show ¬ _ < k + 1; omega
      have hsz2 : ¬ 9223372036854775807 < (rep ⟨#[40]⟩ k ++ (⟨#[120]⟩ : ByteArray)).size + (rep ⟨#[41]⟩ k).size := by rw [ByteArray.size_append, hz1, hz2]; show ¬ _ < k + 1 + k; omega
      have hsz3 : ¬ 9223372036854775807 < (⟨#[97]⟩ : ByteArray).size + (rep ⟨#[40]⟩ k).size := by rw [hz1]; show ¬ _ < 1 + k; omega
      have hu2 : ((rep ⟨#[40]⟩ k ++ (⟨#[120]⟩ : ByteArray)) ++ rep ⟨#[41]⟩ k).size ≤ 2147483647 := by rw [ByteArray.size_append, ByteArray.size_append, hz1, hz2]; show k + 1 + k ≤ _; omega
      have hv2 : ((⟨#[97]⟩ : ByteArray) ++ rep ⟨#[40]⟩ k).size ≤ 2147483647 := by rw [ByteArray.size_append, hz1]; show 1 + k ≤ _; omega
      clear hz1 hz2
      go_wp2_with fail
      refine (CR.out ⟨#[41]⟩ (by decide) k (by omega) _).mono ?_
      rintro e w1 ⟨rfl, rfl⟩
      go_wp2_with fail
      refine (CD.out _ hu2 _ (((Below.refl _ _).alloc (Nat.le_refl _) _).alloc (by simp) _)).mono ?_
      intro e w2 h2
      obtain ⟨rfl, hb2⟩ := depth_known h2 HD.out
      have HB2 := Lib.hid (bthen (((Below.refl _ _).alloc (Nat.le_refl _) _).alloc (by simp) _) hb2)
      have HF2 : RowKit.Hid (FK (w2.alloc (.cells #[.int .i64 6, .int .i64 100] 26)) w2.heap.size 6 100) := Lib.hid (by unfold FK; exact heap_alloc_new _ _)
      have HA2 : RowKit.Hid (Below w2.heap.size w2 (w2.alloc (.cells #[.int .i64 6, .int .i64 100] 26))) := Lib.hid ((Below.refl _ _).alloc (Nat.le_refl _) _)
      clear h2 hb2 hsz1 hsz2 hu2
      go_wp2_with fail
      refine (CR.out ⟨#[40]⟩ (by decide) k (by omega) _).mono ?_
      rintro e w1 ⟨rfl, rfl⟩
      go_wp2_with fail
      refine (CO.out _ hv2 _ (bthen HB2.out HA2.out)).mono ?_
      intro e w3 h3
      obtain ⟨a1, n1, c1, a2, n2, c2, rfl, hb3⟩ := of_known h3 HV.out
      have HA3 := Lib.hid (bthen HA2.out hb3)
      have HF3 := Lib.hid ((HF2.out.keep hb3).alloc (.cells #[.int .i64 6, .int .i64 101] 26))
      have HG3 : RowKit.Hid (FK (w3.alloc (.cells #[.int .i64 6, .int .i64 101] 26)) w3.heap.size 6 101) := Lib.hid (by unfold FK; exact heap_alloc_new _ _)
      have HA4 := Lib.hid (HA3.out.alloc HA3.out.size (.cells #[.int .i64 6, .int .i64 101] 26))
      clear h3 hb3 hsz3 hv2 HF2
      go_wp2_with fail
      refine (CF.out _ (bthen HB2.out HA4.out)).mono ?_
      rintro e w4 ⟨rfl, hb4⟩
      have HF4 := Lib.hid (HF3.out.keep hb4)
      have HG4 := Lib.hid (HG3.out.keep hb4)
      have f0 := HF4.out.c0; have f1 := HF4.out.c1
      have g0 := HG4.out.c0; have g1 := HG4.out.c1
      have HB4 := Lib.hid (bthen (bthen HB2.out HA4.out) hb4)
      clear hb4
      go_wp2_with fail
      show Q (.returned (.bool true)) _
      exact HQ.out _ HB4.out
    · rw [if_neg (by omega)] at hA1; rw [if_neg (by omega), if_pos hc] at hA2
      subst hc
      have HD := Lib.hid hA1
      have HV := Lib.hid hA2
      clear hA1 hA2
      go_enter Tryd.func5, Tryd.ntmps5
      go_wp2_with fail
      refine (CR.out ⟨#[40]⟩ (by decide) 0 (by omega) _).mono ?_
      rintro e w1 ⟨rfl, rfl⟩
      have hz1 := HZ.out 40
      have hz2 := HZ.out 41
      have hsz1 : ¬ 9223372036854775807 < (rep ⟨#[40]⟩ 0).size + (⟨#[120]⟩ : ByteArray).size := by rw [hz1]; show ¬ _ < 0 + 1; omega
      have hsz2 : ¬ 9223372036854775807 < (rep ⟨#[40]⟩ 0 ++ (⟨#[120]⟩ : ByteArray)).size + (rep ⟨#[41]⟩ 0).size := by rw [ByteArray.size_append, hz1, hz2]; show ¬ _ < 0 + 1 + 0; omega
      have hsz3 : ¬ 9223372036854775807 < (⟨#[97]⟩ : ByteArray).size + (rep ⟨#[40]⟩ 0).size := by rw [hz1]; show ¬ _ < 1 + 0; omega
      have hu2 : ((rep ⟨#[40]⟩ 0 ++ (⟨#[120]⟩ : ByteArray)) ++ rep ⟨#[41]⟩ 0).size ≤ 2147483647 := by rw [ByteArray.size_append, ByteArray.size_append, hz1, hz2]; show 0 + 1 + 0 ≤ _; omega
      have hv2 : ((⟨#[97]⟩ : ByteArray) ++ rep ⟨#[40]⟩ 0).size ≤ 2147483647 := by rw [ByteArray.size_append, hz1]; show 1 + 0 ≤ _; omega
      clear hz1 hz2
      go_wp2_with fail
      refine (CR.out ⟨#[41]⟩ (by decide) 0 (by omega) _).mono ?_
      rintro e w1 ⟨rfl, rfl⟩
      go_wp2_with fail
      refine (CD.out _ hu2 _ (((Below.refl _ _).alloc (Nat.le_refl _) _).alloc (by simp) _)).mono ?_
      intro e w2 h2
      obtain ⟨rfl, hb2⟩ := depth_known h2 HD.out
      have HB2 := Lib.hid (bthen (((Below.refl _ _).alloc (Nat.le_refl _) _).alloc (by simp) _) hb2)
      have HF2 : RowKit.Hid (FK (w2.alloc (.cells #[.int .i64 0, .int .i64 0] 26)) w2.heap.size 0 0) := Lib.hid (by unfold FK; exact heap_alloc_new _ _)
      have HA2 : RowKit.Hid (Below w2.heap.size w2 (w2.alloc (.cells #[.int .i64 0, .int .i64 0] 26))) := Lib.hid ((Below.refl _ _).alloc (Nat.le_refl _) _)
      clear h2 hb2 hsz1 hsz2 hu2
      go_wp2_with fail
      refine (CR.out ⟨#[40]⟩ (by decide) 0 (by omega) _).mono ?_
      rintro e w1 ⟨rfl, rfl⟩
      go_wp2_with fail
      refine (CO.out _ hv2 _ (bthen HB2.out HA2.out)).mono ?_
      intro e w3 h3
      obtain ⟨a1, n1, c1, a2, n2, c2, rfl, hb3⟩ := of_known h3 HV.out
      have HA3 := Lib.hid (bthen HA2.out hb3)
      have HF3 := Lib.hid ((HF2.out.keep hb3).alloc (.cells #[.int .i64 0, .int .i64 0] 26))
      have HG3 : RowKit.Hid (FK (w3.alloc (.cells #[.int .i64 0, .int .i64 0] 26)) w3.heap.size 0 0) := Lib.hid (by unfold FK; exact heap_alloc_new _ _)
      have HA4 := Lib.hid (HA3.out.alloc HA3.out.size (.cells #[.int .i64 0, .int .i64 0] 26))
      clear h3 hb3 hsz3 hv2 HF2
      go_wp2_with fail
      refine (CF.out _ (bthen HB2.out HA4.out)).mono ?_
      rintro e w4 ⟨rfl, hb4⟩
      have HF4 := Lib.hid (HF3.out.keep hb4)
      have HG4 := Lib.hid (HG3.out.keep hb4)
      have f0 := HF4.out.c0; have f1 := HF4.out.c1
      have g0 := HG4.out.c0; have g1 := HG4.out.c1
      have HB4 := Lib.hid (bthen (bthen HB2.out HA4.out) hb4)
      clear hb4
      go_wp2_with fail
      show Q (.returned (.bool true)) _
      exact HQ.out _ HB4.out
    · rw [if_neg (by omega)] at hA1; rw [if_neg (by omega), if_neg (by omega)] at hA2
      have HD := Lib.hid hA1
      have HV := Lib.hid hA2
      clear hA1 hA2
      have hk1 : ¬ (100 : Int) < k := by omega
      have hk2 : ((k : Int) == 0) = false := by rw [beq_eq_false_iff_ne]; omega
      go_enter Tryd.func5, Tryd.ntmps5
      go_wp2_with fail
      refine (CR.out ⟨#[40]⟩ (by decide) k (by omega) _).mono ?_
      rintro e w1 ⟨rfl, rfl⟩
      have hz1 := HZ.out 40
      have hz2 := HZ.out 41
      have hsz1 : ¬ 9223372036854775807 < (rep ⟨#[40]⟩ k).size + (⟨#[120]⟩ : ByteArray).size := by rw [hz1]; show ¬ _ < k + 1; omega
      have hsz2 : ¬ 9223372036854775807 < (rep ⟨#[40]⟩ k ++ (⟨#[120]⟩ : ByteArray)).size + (rep ⟨#[41]⟩ k).size := by rw [ByteArray.size_append, hz1, hz2]; show ¬ _ < k + 1 + k; omega
      have hsz3 : ¬ 9223372036854775807 < (⟨#[97]⟩ : ByteArray).size + (rep ⟨#[40]⟩ k).size := by rw [hz1]; show ¬ _ < 1 + k; omega
      have hu2 : ((rep ⟨#[40]⟩ k ++ (⟨#[120]⟩ : ByteArray)) ++ rep ⟨#[41]⟩ k).size ≤ 2147483647 := by rw [ByteArray.size_append, ByteArray.size_append, hz1, hz2]; show k + 1 + k ≤ _; omega
      have hv2 : ((⟨#[97]⟩ : ByteArray) ++ rep ⟨#[40]⟩ k).size ≤ 2147483647 := by rw [ByteArray.size_append, hz1]; show 1 + k ≤ _; omega
      clear hz1 hz2
      go_wp2_with fail
      refine (CR.out ⟨#[41]⟩ (by decide) k (by omega) _).mono ?_
      rintro e w1 ⟨rfl, rfl⟩
      go_wp2_with fail
      refine (CD.out _ hu2 _ (((Below.refl _ _).alloc (Nat.le_refl _) _).alloc (by simp) _)).mono ?_
      intro e w2 h2
      obtain ⟨rfl, hb2⟩ := depth_known h2 HD.out
      have HB2 := Lib.hid (bthen (((Below.refl _ _).alloc (Nat.le_refl _) _).alloc (by simp) _) hb2)
      have HF2 : RowKit.Hid (FK (w2.alloc (.cells #[.int .i64 0, .int .i64 0] 26)) w2.heap.size 0 0) := Lib.hid (by unfold FK; exact heap_alloc_new _ _)
      have HA2 : RowKit.Hid (Below w2.heap.size w2 (w2.alloc (.cells #[.int .i64 0, .int .i64 0] 26))) := Lib.hid ((Below.refl _ _).alloc (Nat.le_refl _) _)
      clear h2 hb2 hsz1 hsz2 hu2
      go_wp2_with fail
      refine (CR.out ⟨#[40]⟩ (by decide) k (by omega) _).mono ?_
      rintro e w1 ⟨rfl, rfl⟩
      go_wp2_with fail
      refine (CO.out _ hv2 _ (bthen HB2.out HA2.out)).mono ?_
      intro e w3 h3
      obtain ⟨a1, n1, c1, a2, n2, c2, rfl, hb3⟩ := of_known h3 HV.out
      have HA3 := Lib.hid (bthen HA2.out hb3)
      have HF3 := Lib.hid ((HF2.out.keep hb3).alloc (.cells #[.int .i64 5, .int .i64 k] 26))
      have HG3 : RowKit.Hid (FK (w3.alloc (.cells #[.int .i64 5, .int .i64 k] 26)) w3.heap.size 5 k) := Lib.hid (by unfold FK; exact heap_alloc_new _ _)
      have HA4 := Lib.hid (HA3.out.alloc HA3.out.size (.cells #[.int .i64 5, .int .i64 k] 26))
      clear h3 hb3 hsz3 hv2 HF2
      go_wp2_with fail
      refine (CF.out _ (bthen HB2.out HA4.out)).mono ?_
      rintro e w4 ⟨rfl, hb4⟩
      have HF4 := Lib.hid (HF3.out.keep hb4)
      have HG4 := Lib.hid (HG3.out.keep hb4)
      have f0 := HF4.out.c0; have f1 := HF4.out.c1
      have g0 := HG4.out.c0; have g1 := HG4.out.c1
      have HB4 := Lib.hid (bthen (bthen HB2.out HA4.out) hb4)
      clear hb4
      go_wp2_with fail
      show Q (.returned (.bool true)) _
      exact HQ.out _ HB4.out
  · obtain ⟨hA1, hA2⟩ := deep_all 91 93 (by decide) k (by omega) _ _ rfl rfl
    rcases hcase with hc | hc | hc
    · rw [if_pos hc] at hA1; rw [if_pos hc] at hA2
      have HD := Lib.hid hA1
      have HV := Lib.hid hA2
      clear hA1 hA2
      have hk1 : (100 : Int) < k := by omega
      go_enter Tryd.func5, Tryd.ntmps5
      go_wp2_with fail
      refine (CR.out ⟨#[91]⟩ (by decide) k (by omega) _).mono ?_
      rintro e w1 ⟨rfl, rfl⟩
      have hz1 := HZ.out 91
      have hz2 := HZ.out 93
      have hsz1 : ¬ 9223372036854775807 < (rep ⟨#[91]⟩ k).size + (⟨#[120]⟩ : ByteArray).size := by rw [hz1]; show ¬ _ < k + 1; omega
      have hsz2 : ¬ 9223372036854775807 < (rep ⟨#[91]⟩ k ++ (⟨#[120]⟩ : ByteArray)).size + (rep ⟨#[93]⟩ k).size := by rw [ByteArray.size_append, hz1, hz2]; show ¬ _ < k + 1 + k; omega
      have hsz3 : ¬ 9223372036854775807 < (⟨#[97]⟩ : ByteArray).size + (rep ⟨#[91]⟩ k).size := by rw [hz1]; show ¬ _ < 1 + k; omega
      have hu2 : ((rep ⟨#[91]⟩ k ++ (⟨#[120]⟩ : ByteArray)) ++ rep ⟨#[93]⟩ k).size ≤ 2147483647 := by rw [ByteArray.size_append, ByteArray.size_append, hz1, hz2]; show k + 1 + k ≤ _; omega
      have hv2 : ((⟨#[97]⟩ : ByteArray) ++ rep ⟨#[91]⟩ k).size ≤ 2147483647 := by rw [ByteArray.size_append, hz1]; show 1 + k ≤ _; omega
      clear hz1 hz2
      go_wp2_with fail
      refine (CR.out ⟨#[93]⟩ (by decide) k (by omega) _).mono ?_
      rintro e w1 ⟨rfl, rfl⟩
      go_wp2_with fail
      refine (CD.out _ hu2 _ (((Below.refl _ _).alloc (Nat.le_refl _) _).alloc (by simp) _)).mono ?_
      intro e w2 h2
      obtain ⟨rfl, hb2⟩ := depth_known h2 HD.out
      have HB2 := Lib.hid (bthen (((Below.refl _ _).alloc (Nat.le_refl _) _).alloc (by simp) _) hb2)
      have HF2 : RowKit.Hid (FK (w2.alloc (.cells #[.int .i64 6, .int .i64 100] 26)) w2.heap.size 6 100) := Lib.hid (by unfold FK; exact heap_alloc_new _ _)
      have HA2 : RowKit.Hid (Below w2.heap.size w2 (w2.alloc (.cells #[.int .i64 6, .int .i64 100] 26))) := Lib.hid ((Below.refl _ _).alloc (Nat.le_refl _) _)
      clear h2 hb2 hsz1 hsz2 hu2
      go_wp2_with fail
      refine (CR.out ⟨#[91]⟩ (by decide) k (by omega) _).mono ?_
      rintro e w1 ⟨rfl, rfl⟩
      go_wp2_with fail
      refine (CO.out _ hv2 _ (bthen HB2.out HA2.out)).mono ?_
      intro e w3 h3
      obtain ⟨a1, n1, c1, a2, n2, c2, rfl, hb3⟩ := of_known h3 HV.out
      have HA3 := Lib.hid (bthen HA2.out hb3)
      have HF3 := Lib.hid ((HF2.out.keep hb3).alloc (.cells #[.int .i64 6, .int .i64 101] 26))
      have HG3 : RowKit.Hid (FK (w3.alloc (.cells #[.int .i64 6, .int .i64 101] 26)) w3.heap.size 6 101) := Lib.hid (by unfold FK; exact heap_alloc_new _ _)
      have HA4 := Lib.hid (HA3.out.alloc HA3.out.size (.cells #[.int .i64 6, .int .i64 101] 26))
      clear h3 hb3 hsz3 hv2 HF2
      go_wp2_with fail
      refine (CF.out _ (bthen HB2.out HA4.out)).mono ?_
      rintro e w4 ⟨rfl, hb4⟩
      have HF4 := Lib.hid (HF3.out.keep hb4)
      have HG4 := Lib.hid (HG3.out.keep hb4)
      have f0 := HF4.out.c0; have f1 := HF4.out.c1
      have g0 := HG4.out.c0; have g1 := HG4.out.c1
      have HB4 := Lib.hid (bthen (bthen HB2.out HA4.out) hb4)
      clear hb4
      go_wp2_with fail
      show Q (.returned (.bool true)) _
      exact HQ.out _ HB4.out
    · rw [if_neg (by omega)] at hA1; rw [if_neg (by omega), if_pos hc] at hA2
      subst hc
      have HD := Lib.hid hA1
      have HV := Lib.hid hA2
      clear hA1 hA2
      go_enter Tryd.func5, Tryd.ntmps5
      go_wp2_with fail
      refine (CR.out ⟨#[91]⟩ (by decide) 0 (by omega) _).mono ?_
      rintro e w1 ⟨rfl, rfl⟩
      have hz1 := HZ.out 91
      have hz2 := HZ.out 93
      have hsz1 : ¬ 9223372036854775807 < (rep ⟨#[91]⟩ 0).size + (⟨#[120]⟩ : ByteArray).size := by rw [hz1]; show ¬ _ < 0 + 1; omega
      have hsz2 : ¬ 9223372036854775807 < (rep ⟨#[91]⟩ 0 ++ (⟨#[120]⟩ : ByteArray)).size + (rep ⟨#[93]⟩ 0).size := by rw [ByteArray.size_append, hz1, hz2]; show ¬ _ < 0 + 1 + 0; omega
      have hsz3 : ¬ 9223372036854775807 < (⟨#[97]⟩ : ByteArray).size + (rep ⟨#[91]⟩ 0).size := by rw [hz1]; show ¬ _ < 1 + 0; omega
      have hu2 : ((rep ⟨#[91]⟩ 0 ++ (⟨#[120]⟩ : ByteArray)) ++ rep ⟨#[93]⟩ 0).size ≤ 2147483647 := by rw [ByteArray.size_append, ByteArray.size_append, hz1, hz2]; show 0 + 1 + 0 ≤ _; omega
      have hv2 : ((⟨#[97]⟩ : ByteArray) ++ rep ⟨#[91]⟩ 0).size ≤ 2147483647 := by rw [ByteArray.size_append, hz1]; show 1 + 0 ≤ _; omega
      clear hz1 hz2
      go_wp2_with fail
      refine (CR.out ⟨#[93]⟩ (by decide) 0 (by omega) _).mono ?_
      rintro e w1 ⟨rfl, rfl⟩
      go_wp2_with fail
      refine (CD.out _ hu2 _ (((Below.refl _ _).alloc (Nat.le_refl _) _).alloc (by simp) _)).mono ?_
      intro e w2 h2
      obtain ⟨rfl, hb2⟩ := depth_known h2 HD.out
      have HB2 := Lib.hid (bthen (((Below.refl _ _).alloc (Nat.le_refl _) _).alloc (by simp) _) hb2)
      have HF2 : RowKit.Hid (FK (w2.alloc (.cells #[.int .i64 0, .int .i64 0] 26)) w2.heap.size 0 0) := Lib.hid (by unfold FK; exact heap_alloc_new _ _)
      have HA2 : RowKit.Hid (Below w2.heap.size w2 (w2.alloc (.cells #[.int .i64 0, .int .i64 0] 26))) := Lib.hid ((Below.refl _ _).alloc (Nat.le_refl _) _)
      clear h2 hb2 hsz1 hsz2 hu2
      go_wp2_with fail
      refine (CR.out ⟨#[91]⟩ (by decide) 0 (by omega) _).mono ?_
      rintro e w1 ⟨rfl, rfl⟩
      go_wp2_with fail
      refine (CO.out _ hv2 _ (bthen HB2.out HA2.out)).mono ?_
      intro e w3 h3
      obtain ⟨a1, n1, c1, a2, n2, c2, rfl, hb3⟩ := of_known h3 HV.out
      have HA3 := Lib.hid (bthen HA2.out hb3)
      have HF3 := Lib.hid ((HF2.out.keep hb3).alloc (.cells #[.int .i64 0, .int .i64 0] 26))
      have HG3 : RowKit.Hid (FK (w3.alloc (.cells #[.int .i64 0, .int .i64 0] 26)) w3.heap.size 0 0) := Lib.hid (by unfold FK; exact heap_alloc_new _ _)
      have HA4 := Lib.hid (HA3.out.alloc HA3.out.size (.cells #[.int .i64 0, .int .i64 0] 26))
      clear h3 hb3 hsz3 hv2 HF2
      go_wp2_with fail
      refine (CF.out _ (bthen HB2.out HA4.out)).mono ?_
      rintro e w4 ⟨rfl, hb4⟩
      have HF4 := Lib.hid (HF3.out.keep hb4)
      have HG4 := Lib.hid (HG3.out.keep hb4)
      have f0 := HF4.out.c0; have f1 := HF4.out.c1
      have g0 := HG4.out.c0; have g1 := HG4.out.c1
      have HB4 := Lib.hid (bthen (bthen HB2.out HA4.out) hb4)
      clear hb4
      go_wp2_with fail
      show Q (.returned (.bool true)) _
      exact HQ.out _ HB4.out
    · rw [if_neg (by omega)] at hA1; rw [if_neg (by omega), if_neg (by omega)] at hA2
      have HD := Lib.hid hA1
      have HV := Lib.hid hA2
      clear hA1 hA2
      have hk1 : ¬ (100 : Int) < k := by omega
      have hk2 : ((k : Int) == 0) = false := by rw [beq_eq_false_iff_ne]; omega
      go_enter Tryd.func5, Tryd.ntmps5
      go_wp2_with fail
      refine (CR.out ⟨#[91]⟩ (by decide) k (by omega) _).mono ?_
      rintro e w1 ⟨rfl, rfl⟩
      have hz1 := HZ.out 91
      have hz2 := HZ.out 93
      have hsz1 : ¬ 9223372036854775807 < (rep ⟨#[91]⟩ k).size + (⟨#[120]⟩ : ByteArray).size := by rw [hz1]; show ¬ _ < k + 1; omega
      have hsz2 : ¬ 9223372036854775807 < (rep ⟨#[91]⟩ k ++ (⟨#[120]⟩ : ByteArray)).size + (rep ⟨#[93]⟩ k).size := by rw [ByteArray.size_append, hz1, hz2]; show ¬ _ < k + 1 + k; omega
      have hsz3 : ¬ 9223372036854775807 < (⟨#[97]⟩ : ByteArray).size + (rep ⟨#[91]⟩ k).size := by rw [hz1]; show ¬ _ < 1 + k; omega
      have hu2 : ((rep ⟨#[91]⟩ k ++ (⟨#[120]⟩ : ByteArray)) ++ rep ⟨#[93]⟩ k).size ≤ 2147483647 := by rw [ByteArray.size_append, ByteArray.size_append, hz1, hz2]; show k + 1 + k ≤ _; omega
      have hv2 : ((⟨#[97]⟩ : ByteArray) ++ rep ⟨#[91]⟩ k).size ≤ 2147483647 := by rw [ByteArray.size_append, hz1]; show 1 + k ≤ _; omega
      clear hz1 hz2
      go_wp2_with fail
      refine (CR.out ⟨#[93]⟩ (by decide) k (by omega) _).mono ?_
      rintro e w1 ⟨rfl, rfl⟩
      go_wp2_with fail
      refine (CD.out _ hu2 _ (((Below.refl _ _).alloc (Nat.le_refl _) _).alloc (by simp) _)).mono ?_
      intro e w2 h2
      obtain ⟨rfl, hb2⟩ := depth_known h2 HD.out
      have HB2 := Lib.hid (bthen (((Below.refl _ _).alloc (Nat.le_refl _) _).alloc (by simp) _) hb2)
      have HF2 : RowKit.Hid (FK (w2.alloc (.cells #[.int .i64 0, .int .i64 0] 26)) w2.heap.size 0 0) := Lib.hid (by unfold FK; exact heap_alloc_new _ _)
      have HA2 : RowKit.Hid (Below w2.heap.size w2 (w2.alloc (.cells #[.int .i64 0, .int .i64 0] 26))) := Lib.hid ((Below.refl _ _).alloc (Nat.le_refl _) _)
      clear h2 hb2 hsz1 hsz2 hu2
      go_wp2_with fail
      refine (CR.out ⟨#[91]⟩ (by decide) k (by omega) _).mono ?_
      rintro e w1 ⟨rfl, rfl⟩
      go_wp2_with fail
      refine (CO.out _ hv2 _ (bthen HB2.out HA2.out)).mono ?_
      intro e w3 h3
      obtain ⟨a1, n1, c1, a2, n2, c2, rfl, hb3⟩ := of_known h3 HV.out
      have HA3 := Lib.hid (bthen HA2.out hb3)
      have HF3 := Lib.hid ((HF2.out.keep hb3).alloc (.cells #[.int .i64 5, .int .i64 k] 26))
      have HG3 : RowKit.Hid (FK (w3.alloc (.cells #[.int .i64 5, .int .i64 k] 26)) w3.heap.size 5 k) := Lib.hid (by unfold FK; exact heap_alloc_new _ _)
      have HA4 := Lib.hid (HA3.out.alloc HA3.out.size (.cells #[.int .i64 5, .int .i64 k] 26))
      clear h3 hb3 hsz3 hv2 HF2
      go_wp2_with fail
      refine (CF.out _ (bthen HB2.out HA4.out)).mono ?_
      rintro e w4 ⟨rfl, hb4⟩
      have HF4 := Lib.hid (HF3.out.keep hb4)
      have HG4 := Lib.hid (HG3.out.keep hb4)
      have f0 := HF4.out.c0; have f1 := HF4.out.c1
      have g0 := HG4.out.c0; have g1 := HG4.out.c1
      have HB4 := Lib.hid (bthen (bthen HB2.out HA4.out) hb4)
      clear hb4
      go_wp2_with fail
      show Q (.returned (.bool true)) _
      exact HQ.out _ HB4.out
  · obtain ⟨hA1, hA2⟩ := deep_all 123 125 (by decide) k (by omega) _ _ rfl rfl
    rcases hcase with hc | hc | hc
    · rw [if_pos hc] at hA1; rw [if_pos hc] at hA2
      have HD := Lib.hid hA1
      have HV := Lib.hid hA2
      clear hA1 hA2
      have hk1 : (100 : Int) < k := by omega
      go_enter Tryd.func5, Tryd.ntmps5
      go_wp2_with fail
      refine (CR.out ⟨#[123]⟩ (by decide) k (by omega) _).mono ?_
      rintro e w1 ⟨rfl, rfl⟩
      have hz1 := HZ.out 123
      have hz2 := HZ.out 125
      have hsz1 : ¬ 9223372036854775807 < (rep ⟨#[123]⟩ k).size + (⟨#[120]⟩ : ByteArray).size := by rw [hz1]; show ¬ _ < k + 1; omega
      have hsz2 : ¬ 9223372036854775807 < (rep ⟨#[123]⟩ k ++ (⟨#[120]⟩ : ByteArray)).size + (rep ⟨#[125]⟩ k).size := by rw [ByteArray.size_append, hz1, hz2]; show ¬ _ < k + 1 + k; omega
      have hsz3 : ¬ 9223372036854775807 < (⟨#[97]⟩ : ByteArray).size + (rep ⟨#[123]⟩ k).size := by rw [hz1]; show ¬ _ < 1 + k; omega
      have hu2 : ((rep ⟨#[123]⟩ k ++ (⟨#[120]⟩ : ByteArray)) ++ rep ⟨#[125]⟩ k).size ≤ 2147483647 := by rw [ByteArray.size_append, ByteArray.size_append, hz1, hz2]; show k + 1 + k ≤ _; omega
      have hv2 : ((⟨#[97]⟩ : ByteArray) ++ rep ⟨#[123]⟩ k).size ≤ 2147483647 := by rw [ByteArray.size_append, hz1]; show 1 + k ≤ _; omega
      clear hz1 hz2
      go_wp2_with fail
      refine (CR.out ⟨#[125]⟩ (by decide) k (by omega) _).mono ?_
      rintro e w1 ⟨rfl, rfl⟩
      go_wp2_with fail
      refine (CD.out _ hu2 _ (((Below.refl _ _).alloc (Nat.le_refl _) _).alloc (by simp) _)).mono ?_
      intro e w2 h2
      obtain ⟨rfl, hb2⟩ := depth_known h2 HD.out
      have HB2 := Lib.hid (bthen (((Below.refl _ _).alloc (Nat.le_refl _) _).alloc (by simp) _) hb2)
      have HF2 : RowKit.Hid (FK (w2.alloc (.cells #[.int .i64 6, .int .i64 100] 26)) w2.heap.size 6 100) := Lib.hid (by unfold FK; exact heap_alloc_new _ _)
      have HA2 : RowKit.Hid (Below w2.heap.size w2 (w2.alloc (.cells #[.int .i64 6, .int .i64 100] 26))) := Lib.hid ((Below.refl _ _).alloc (Nat.le_refl _) _)
      clear h2 hb2 hsz1 hsz2 hu2
      go_wp2_with fail
      refine (CR.out ⟨#[123]⟩ (by decide) k (by omega) _).mono ?_
      rintro e w1 ⟨rfl, rfl⟩
      go_wp2_with fail
      refine (CO.out _ hv2 _ (bthen HB2.out HA2.out)).mono ?_
      intro e w3 h3
      obtain ⟨a1, n1, c1, a2, n2, c2, rfl, hb3⟩ := of_known h3 HV.out
      have HA3 := Lib.hid (bthen HA2.out hb3)
      have HF3 := Lib.hid ((HF2.out.keep hb3).alloc (.cells #[.int .i64 6, .int .i64 101] 26))
      have HG3 : RowKit.Hid (FK (w3.alloc (.cells #[.int .i64 6, .int .i64 101] 26)) w3.heap.size 6 101) := Lib.hid (by unfold FK; exact heap_alloc_new _ _)
      have HA4 := Lib.hid (HA3.out.alloc HA3.out.size (.cells #[.int .i64 6, .int .i64 101] 26))
      clear h3 hb3 hsz3 hv2 HF2
      go_wp2_with fail
      refine (CF.out _ (bthen HB2.out HA4.out)).mono ?_
      rintro e w4 ⟨rfl, hb4⟩
      have HF4 := Lib.hid (HF3.out.keep hb4)
      have HG4 := Lib.hid (HG3.out.keep hb4)
      have f0 := HF4.out.c0; have f1 := HF4.out.c1
      have g0 := HG4.out.c0; have g1 := HG4.out.c1
      have HB4 := Lib.hid (bthen (bthen HB2.out HA4.out) hb4)
      clear hb4
      go_wp2_with fail
      show Q (.returned (.bool true)) _
      exact HQ.out _ HB4.out
    · rw [if_neg (by omega)] at hA1; rw [if_neg (by omega), if_pos hc] at hA2
      subst hc
      have HD := Lib.hid hA1
      have HV := Lib.hid hA2
      clear hA1 hA2
      go_enter Tryd.func5, Tryd.ntmps5
      go_wp2_with fail
      refine (CR.out ⟨#[123]⟩ (by decide) 0 (by omega) _).mono ?_
      rintro e w1 ⟨rfl, rfl⟩
      have hz1 := HZ.out 123
      have hz2 := HZ.out 125
      have hsz1 : ¬ 9223372036854775807 < (rep ⟨#[123]⟩ 0).size + (⟨#[120]⟩ : ByteArray).size := by rw [hz1]; show ¬ _ < 0 + 1; omega
      have hsz2 : ¬ 9223372036854775807 < (rep ⟨#[123]⟩ 0 ++ (⟨#[120]⟩ : ByteArray)).size + (rep ⟨#[125]⟩ 0).size := by rw [ByteArray.size_append, hz1, hz2]; show ¬ _ < 0 + 1 + 0; omega
      have hsz3 : ¬ 9223372036854775807 < (⟨#[97]⟩ : ByteArray).size + (rep ⟨#[123]⟩ 0).size := by rw [hz1]; show ¬ _ < 1 + 0; omega
      have hu2 : ((rep ⟨#[123]⟩ 0 ++ (⟨#[120]⟩ : ByteArray)) ++ rep ⟨#[125]⟩ 0).size ≤ 2147483647 := by rw [ByteArray.size_append, ByteArray.size_append, hz1, hz2]; show 0 + 1 + 0 ≤ _; omega
      have hv2 : ((⟨#[97]⟩ : ByteArray) ++ rep ⟨#[123]⟩ 0).size ≤ 2147483647 := by rw [ByteArray.size_append, hz1]; show 1 + 0 ≤ _; omega
      clear hz1 hz2
      go_wp2_with fail
      refine (CR.out ⟨#[125]⟩ (by decide) 0 (by omega) _).mono ?_
      rintro e w1 ⟨rfl, rfl⟩
      go_wp2_with fail
      refine (CD.out _ hu2 _ (((Below.refl _ _).alloc (Nat.le_refl _) _).alloc (by simp) _)).mono ?_
      intro e w2 h2
      obtain ⟨rfl, hb2⟩ := depth_known h2 HD.out
      have HB2 := Lib.hid (bthen (((Below.refl _ _).alloc (Nat.le_refl _) _).alloc (by simp) _) hb2)
      have HF2 : RowKit.Hid (FK (w2.alloc (.cells #[.int .i64 0, .int .i64 0] 26)) w2.heap.size 0 0) := Lib.hid (by unfold FK; exact heap_alloc_new _ _)
      have HA2 : RowKit.Hid (Below w2.heap.size w2 (w2.alloc (.cells #[.int .i64 0, .int .i64 0] 26))) := Lib.hid ((Below.refl _ _).alloc (Nat.le_refl _) _)
      clear h2 hb2 hsz1 hsz2 hu2
      go_wp2_with fail
      refine (CR.out ⟨#[123]⟩ (by decide) 0 (by omega) _).mono ?_
      rintro e w1 ⟨rfl, rfl⟩
      go_wp2_with fail
      refine (CO.out _ hv2 _ (bthen HB2.out HA2.out)).mono ?_
      intro e w3 h3
      obtain ⟨a1, n1, c1, a2, n2, c2, rfl, hb3⟩ := of_known h3 HV.out
      have HA3 := Lib.hid (bthen HA2.out hb3)
      have HF3 := Lib.hid ((HF2.out.keep hb3).alloc (.cells #[.int .i64 0, .int .i64 0] 26))
      have HG3 : RowKit.Hid (FK (w3.alloc (.cells #[.int .i64 0, .int .i64 0] 26)) w3.heap.size 0 0) := Lib.hid (by unfold FK; exact heap_alloc_new _ _)
      have HA4 := Lib.hid (HA3.out.alloc HA3.out.size (.cells #[.int .i64 0, .int .i64 0] 26))
      clear h3 hb3 hsz3 hv2 HF2
      go_wp2_with fail
      refine (CF.out _ (bthen HB2.out HA4.out)).mono ?_
      rintro e w4 ⟨rfl, hb4⟩
      have HF4 := Lib.hid (HF3.out.keep hb4)
      have HG4 := Lib.hid (HG3.out.keep hb4)
      have f0 := HF4.out.c0; have f1 := HF4.out.c1
      have g0 := HG4.out.c0; have g1 := HG4.out.c1
      have HB4 := Lib.hid (bthen (bthen HB2.out HA4.out) hb4)
      clear hb4
      go_wp2_with fail
      show Q (.returned (.bool true)) _
      exact HQ.out _ HB4.out
    · rw [if_neg (by omega)] at hA1; rw [if_neg (by omega), if_neg (by omega)] at hA2
      have HD := Lib.hid hA1
      have HV := Lib.hid hA2
      clear hA1 hA2
      have hk1 : ¬ (100 : Int) < k := by omega
      have hk2 : ((k : Int) == 0) = false := by rw [beq_eq_false_iff_ne]; omega
      go_enter Tryd.func5, Tryd.ntmps5
      go_wp2_with fail
      refine (CR.out ⟨#[123]⟩ (by decide) k (by omega) _).mono ?_
      rintro e w1 ⟨rfl, rfl⟩
      have hz1 := HZ.out 123
      have hz2 := HZ.out 125
      have hsz1 : ¬ 9223372036854775807 < (rep ⟨#[123]⟩ k).size + (⟨#[120]⟩ : ByteArray).size := by rw [hz1]; show ¬ _ < k + 1; omega
      have hsz2 : ¬ 9223372036854775807 < (rep ⟨#[123]⟩ k ++ (⟨#[120]⟩ : ByteArray)).size + (rep ⟨#[125]⟩ k).size := by rw [ByteArray.size_append, hz1, hz2]; show ¬ _ < k + 1 + k; omega
      have hsz3 : ¬ 9223372036854775807 < (⟨#[97]⟩ : ByteArray).size + (rep ⟨#[123]⟩ k).size := by rw [hz1]; show ¬ _ < 1 + k; omega
      have hu2 : ((rep ⟨#[123]⟩ k ++ (⟨#[120]⟩ : ByteArray)) ++ rep ⟨#[125]⟩ k).size ≤ 2147483647 := by rw [ByteArray.size_append, ByteArray.size_append, hz1, hz2]; show k + 1 + k ≤ _; omega
      have hv2 : ((⟨#[97]⟩ : ByteArray) ++ rep ⟨#[123]⟩ k).size ≤ 2147483647 := by rw [ByteArray.size_append, hz1]; show 1 + k ≤ _; omega
      clear hz1 hz2
      go_wp2_with fail
      refine (CR.out ⟨#[125]⟩ (by decide) k (by omega) _).mono ?_
      rintro e w1 ⟨rfl, rfl⟩
      go_wp2_with fail
      refine (CD.out _ hu2 _ (((Below.refl _ _).alloc (Nat.le_refl _) _).alloc (by simp) _)).mono ?_
      intro e w2 h2
      obtain ⟨rfl, hb2⟩ := depth_known h2 HD.out
      have HB2 := Lib.hid (bthen (((Below.refl _ _).alloc (Nat.le_refl _) _).alloc (by simp) _) hb2)
      have HF2 : RowKit.Hid (FK (w2.alloc (.cells #[.int .i64 0, .int .i64 0] 26)) w2.heap.size 0 0) := Lib.hid (by unfold FK; exact heap_alloc_new _ _)
      have HA2 : RowKit.Hid (Below w2.heap.size w2 (w2.alloc (.cells #[.int .i64 0, .int .i64 0] 26))) := Lib.hid ((Below.refl _ _).alloc (Nat.le_refl _) _)
      clear h2 hb2 hsz1 hsz2 hu2
      go_wp2_with fail
      refine (CR.out ⟨#[123]⟩ (by decide) k (by omega) _).mono ?_
      rintro e w1 ⟨rfl, rfl⟩
      go_wp2_with fail
      refine (CO.out _ hv2 _ (bthen HB2.out HA2.out)).mono ?_
      intro e w3 h3
      obtain ⟨a1, n1, c1, a2, n2, c2, rfl, hb3⟩ := of_known h3 HV.out
      have HA3 := Lib.hid (bthen HA2.out hb3)
      have HF3 := Lib.hid ((HF2.out.keep hb3).alloc (.cells #[.int .i64 5, .int .i64 k] 26))
      have HG3 : RowKit.Hid (FK (w3.alloc (.cells #[.int .i64 5, .int .i64 k] 26)) w3.heap.size 5 k) := Lib.hid (by unfold FK; exact heap_alloc_new _ _)
      have HA4 := Lib.hid (HA3.out.alloc HA3.out.size (.cells #[.int .i64 5, .int .i64 k] 26))
      clear h3 hb3 hsz3 hv2 HF2
      go_wp2_with fail
      refine (CF.out _ (bthen HB2.out HA4.out)).mono ?_
      rintro e w4 ⟨rfl, hb4⟩
      have HF4 := Lib.hid (HF3.out.keep hb4)
      have HG4 := Lib.hid (HG3.out.keep hb4)
      have f0 := HF4.out.c0; have f1 := HF4.out.c1
      have g0 := HG4.out.c0; have g1 := HG4.out.c1
      have HB4 := Lib.hid (bthen (bthen HB2.out HA4.out) hb4)
      clear hb4
      go_wp2_with fail
      show Q (.returned (.bool true)) _
      exact HQ.out _ HB4.out
end Go.Proofs.YtelfobnmiphdnaaDoor
