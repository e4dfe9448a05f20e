/- The statement FillRowsUptoCardSaid: for every input of bulk at most the given bound the call of emendlaw20.FillRows returns true and leaves its arguments as they were.
   Conditions: what its card names: the two tables of unicode/utf8 lie as the program's text lays them (the card ties them); the bound on the bulk of the arguments. -/
import Derived.Test.YtmklemelgdilkaaDoorCards
import Derived.Test.YtmklemelgdilkaaDoorTie
import Derived.Test.YtmklemelgdilkaaDoorLaidMh
import Derived.Test.YtmklemelgdilkaaDoorFillRowsWalkMh
import Derived.Test.YtmklemelgdilkaaDoorMaxCMh
namespace Go.Proofs.YtmklemelgdilkaaDoor.fillRowsU
open Go.ChangeShapes Go.WideShapes Go.ChangeAt Go.RowKit
open Go.ChangeMaps (open_string shut_string)

set_option maxRecDepth 100000 in
theorem contract (H : Type) (enc : TypeId × Value → H) (W : World) (base : Nat) (args : Array Value) (ds gs : List (DataW H)) (before : List MemPlace)
  (hval : ∀ (j : Nat) t v, Tryd.f4.params[j]? = some t → args[j]? = some v → Value.okWide Tryd.prog W .any base t v)
  (hW : DataW.Whole enc Tryd.prog Tryd.f4.params.toList Rows.fillRowsSpec.vars false W args.toList ds gs before)
  (hcond : Rows.uptoSmall H (ds ++ gs) = true)
  (hL : laidMet Tryd.prog theList W) (hsh : W.ShapedOpen Tryd.prog) :
  Calls Tryd.prog 4 args W fun e W' => ∃ v, e = .returned v ∧ Rows.fillRowsSpec.post enc Tryd.prog Tryd.f4 false true false false W args v W' := by
 have hH : HeldM W := ⟨tabs hL, maxC hsh⟩
 have hW' := hW
 obtain ⟨p, q, hA0, hV, rfl, hfz, hnd⟩ := hW
 have hA : DataW.TrodAll enc Tryd.prog W 0 (fun _ => true) true Tryd.f4.params.toList args.toList ds p := hA0
 rw [Tryd.params4] at hA hval
 obtain ⟨v0, vs0, d0, ds0, p0, q0, hargs, rfl, rfl, h0, r0⟩ := trodAll_cons hA
 obtain ⟨v1, vs1, d1, ds1, p1, q1, rfl, rfl, rfl, h1, r1⟩ := trodAll_cons r0
 obtain ⟨v2, vs2, d2, ds2, p2, q2, rfl, rfl, rfl, h2, r2⟩ := trodAll_cons r1
 obtain ⟨rfl, rfl, rfl⟩ := trodAll_nil r2
 obtain rfl : args = #[v0, v1, v2] := by cases args; simp_all
 obtain ⟨rfl, rfl⟩ := trodVars_none hV
 have k0 := h0
 have lt0 : ∀ x ∈ p0, x.block < W.heap.size := by obtain ⟨m, hm⟩ := k0; exact DataW.trod_lt m _ _ _ hm
 have k1 := h1
 have lt1 : ∀ x ∈ p1, x.block < W.heap.size := by obtain ⟨m, hm⟩ := k1; exact DataW.trod_lt m _ _ _ hm
 have k2 := h2
 have lt2 : ∀ x ∈ p2, x.block < W.heap.size := by obtain ⟨m, hm⟩ := k2; exact DataW.trod_lt m _ _ _ hm
 obtain ⟨x0, rx0, wx0, bx0⟩ := open_sluint8 (hval 0 39 v0 rfl rfl) h0
 obtain ⟨x1, rfl, rfl, rfl, wx1⟩ := open_int Tryd.underlying5 (hval 1 5 v1 rfl rfl) h1
 obtain ⟨n1, rfl⟩ : ∃ n : Nat, x1 = (n : Int) := ⟨x1.toNat, by have := bounds_u8 wx1; omega⟩
 obtain ⟨x2, rfl, rfl, rfl, wx2⟩ := open_int Tryd.underlying5 (hval 2 5 v2 rfl rfl) h2
 obtain ⟨n2, rfl⟩ : ∃ n : Nat, x2 = (n : Int) := ⟨x2.toNat, by have := bounds_u8 wx2; omega⟩
 have hu := upto_bound hcond
 simp only [Rows.uptoBulkAll, Rows.uptoBulk, List.cons_append, List.nil_append] at hu
 clear hA0
 refine (FillRows_walk W v0 x0 rx0 (fun u hu => by have := bounds_u8 (wx0 u hu); omega) (by omega) n1 (by have := bounds_u8 wx1; omega) n2 (by have := bounds_u8 wx2; omega) hH).mono fun e W' hans => ?_
 obtain ⟨he, bel⟩ := hans.out
 subst he
 exact ⟨_, rfl, _, _, _, [], _, [], hW', trodAll_mk1 (shut_bool Tryd.underlying4 _), (trodAll_cons_mk (Below.trod laidOut (by kernel_rfl) (of_decide_eq_true (by kernel_rfl)) k0 bel lt0) (trodAll_cons_mk (Below.trod laidOut (by kernel_rfl) (of_decide_eq_true (by kernel_rfl)) k1 bel lt1) (trodAll_cons_mk (Below.trod laidOut (by kernel_rfl) (of_decide_eq_true (by kernel_rfl)) k2 bel lt2) trodAll_mk0))), rfl, bel.frame _, fun h => by cases h⟩

set_option maxRecDepth 100000 in
theorem reads (os : Os) {H : Type} (enc : TypeId × Value → H) : ∃ places, DataW.whole enc Tryd.prog ((laidWorld os).forCall (fun _ _ => 0) ⟨#[], #[.slice none 0 0, .int .u8 0, .int .u8 0], []⟩).memory Tryd.f4.params.toList Rows.fillRowsSpec.vars false (#[.slice none 0 0, .int .u8 0, .int .u8 0] : Array Value).toList 8 = some ([.nil, .lit (.int .u8 0), .lit (.int .u8 0)], [], places) :=
 ⟨[], by kernel_rfl⟩
set_option maxRecDepth 100000 in
theorem lifted (os : Os) (started : os.Started) (H : Type) (enc : TypeId × Value → H) (F : Stop.Interp) :
  ReturnsInHanded {} Tryd.checked os 4 .any ((Rows.OpenSpec.upto Rows.fillRowsSpec).preRow enc Tryd.prog Tryd.f4 Rows.fillRowsUptoRow.domain false Rows.fillRowsUptoRow.laid) (((Rows.OpenSpec.upto Rows.fillRowsSpec).at F).post enc Tryd.prog Tryd.f4 false true false false) := by
 obtain ⟨places, hx⟩ := reads os enc
 refine returnsInHanded_of_row (C := Tryd.checked) (s := (Rows.OpenSpec.upto Rows.fillRowsSpec)) own started (by kernel_rfl) Tryd.func4
  (witness_row_at (enc := enc) (C := Tryd.checked) false (laidWorld os) #[.slice none 0 0, .int .u8 0, .int .u8 0] rfl (by kernel_rfl) (by kernel_rfl) (by kernel_rfl)
   (OpenSpec.preRow_of_cond 8 hx (by kernel_rfl) (fun k hk => by cases hk; kernel_rfl) (by kernel_rfl) (laid_met os #[.slice none 0 0, .int .u8 0, .int .u8 0]))) ?_
 intro W base args ds gs before hval hW _ hcond hsz hL hsh _
 exact contract H enc W base args ds gs before hval hW (hcond _ rfl) hL hsh

theorem said : Rows.FillRowsUptoSaid :=
 OpenClaim.holds_of_cond 4 Tryd.f4 rfl rfl rfl rfl rfl rfl rfl ⟨rfl, rfl, rfl, rfl, rfl⟩ rfl rfl rfl rfl rfl (by kernel_rfl) Tryd.func4 (by kernel_rfl)
  (of_decide_eq_true (by kernel_rfl)) (by unfold Func.isWrapper; first | (rw [if_pos (by decide +kernel)]; kernel_rfl) | (rw [if_neg (by decide +kernel)]; exact ⟨rfl, rfl⟩))
  (fun os started H enc _ F => by rw [OpenClaim.pre_eq_preRow]; exact lifted os started H enc F)
theorem plain (f : FuncId) (fn : Func) (hf : Tryd.pinned.checked.prog.funcNamed Tryd.f4.name = some f) (hfn : Tryd.pinned.checked.prog.funcs[f]? = some fn) :
  false = Tryd.pinned.checked.prog.looks [] ∧ ∀ (j : Nat) t, fn.params[j]? = some t → Tryd.pinned.checked.prog.wantsStandIn t = false := by
 obtain rfl : f = 4 := Option.some.inj ((show Tryd.prog.funcNamed Tryd.f4.name = some 4 by kernel_rfl).symm.trans hf) |>.symm
 obtain rfl : fn = Tryd.f4 := (Option.some.inj (Tryd.func4.symm.trans hfn)).symm
 refine ⟨by kernel_rfl, fun j t ht => ?_⟩
 have hm : t ∈ Tryd.f4.params.toList := by simpa using Array.mem_of_getElem? ht
 rw [Tryd.params4] at hm
 have hall : ∀ t ∈ [39, 5, 5], Tryd.prog.wantsStandIn t = false := by
  intro t ht
  simp only [List.mem_cons, List.mem_nil_iff, or_false] at ht
  rcases ht with rfl | rfl | rfl
  all_goals kernel_rfl
 exact hall t (by simpa using hm)
theorem card : Rows.FillRowsUptoCardSaid :=
 Claim7.holds_tied_plain_at .later [] _ _ _ _ said (fun _ h => by cases h) (by kernel_rfl) (fun _ h => by cases h) fillRowsUpto_row_tie rfl ⟨rfl, rfl⟩ (by kernel_rfl) rfl plain (by kernel_rfl)
end Go.Proofs.YtmklemelgdilkaaDoor.fillRowsU
