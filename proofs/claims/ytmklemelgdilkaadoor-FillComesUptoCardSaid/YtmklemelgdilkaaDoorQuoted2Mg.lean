/- Layer 6: the program's reader, walked: escapes. -/
import Derived.Test.YtmklemelgdilkaaDoorQuotedMg
namespace Go.Proofs.YtmklemelgdilkaaDoor
set_option linter.all false
open Go.RowKit

theorem step_append_lit {P : Program} {ops : Array Oper} {o : Oper} {a : Act} {w : World} {K : Act → World → Prop} {Q : Exit → Act → World → Prop} {E : Prop} {C : Array Value} {e' : TypeId}
  (hgd : o.guard = none) (sl x : Operand) (t e : TypeId) (ho : o.op = .call { callee := .builtin .append, args := #[sl, x], argTypes := #[t, t] })
  (ht : P.underlying t = some (.slice e)) (base : Nat) {z : Value} {bytes : Nat} (hinfo : (P.info? e).map (fun i => (i.zero, i.size, i.bytes)) = some (some z, 1, bytes)) (hzs : z.cells.size = 1)
  (v : Value) (n : Nat) (xs : List Value) (hs : a.eval sl = v) (hown : w.ownsRow base e 1 v n xs)
  (m c : Nat) (hx : a.eval x = .slice (some ⟨w.heap.size, 0, none⟩) m c) (hl : C.size = m) (hm : 0 < m) (h1 : ∀ u ∈ C.toList, u.oneCell' = true)
  (hbytes : (n + m) * bytes ≤ 140737488355328) (h63 : n + m ≤ 140737488355328) (hbase : base ≤ w.heap.size)
  (h : ∀ v' w', w'.ownsRow base e 1 v' (n + m) (xs ++ C.toList) → (w.alloc (.cells C e')).grownBy w' v.ownBlock → K (a.put o.dst v') w') :
  if Region.wanted o (yielded ops a.tmps) = true then Oper.wp P o a (w.alloc (.cells C e')) K Q else E := by
 obtain ⟨i, hi, hz0, hz1, hz2⟩ := info_parts hinfo
 have hw : Region.wanted o (yielded ops a.tmps) = true := by simp [Region.wanted, hgd]
 rw [if_pos hw]
 obtain ⟨v', w', hr, h2, h3, h4⟩ := run_append_own (P := P) (w := w.alloc (.cells C e')) base t o.type e i z 1 bytes ht hi hz0 hz1 hz2 hzs (by omega) v n xs (hown.alloc _) ⟨w.heap.size, 0, none⟩ m c C.toList (by simpa using hl) (fun j u hj => by
  have e1 : (⟨w.heap.size, 0, none⟩ : Addr).add j = ⟨w.heap.size, j, none⟩ := by simp [Addr.add]; omega
  rw [e1, World.cell?_alloc_at _ _ _ _ rfl]
  simpa using hj) h1 (by unfold maxLen; omega) hbytes (by simp; omega)
 unfold Oper.wp execOp
 simp only [ho, resolve, invoke, builtin, Sem.run_bind, Sem.run_pure, Result.andThen_ok, List.map_toArray, List.map_cons, List.map_nil, hs, hx, hr]
 exact h v' w' h2 h3

theorem RS.put1 {w w0 w' : World} {b : Nat} {s : ByteArray} {i mark : Int} {l : List Int} {bad : Bool} (h : RS w b s i mark l bad) (h0 : Below b w0 w) {C : Array Value} {e' : TypeId} {out out' : Value} {y : Int} (hC : C.toList = [Value.int .u8 y])
  (hc : w.cell? ⟨b, 3, none⟩ = some out) (hg : (w.alloc (.cells C e')).grownBy w' out.ownBlock) (hown : w'.ownsRow (b + 1) 5 1 out' (l.length + 1) (l.map (Value.int .u8) ++ C.toList)) :
  RS (w'.setCell ⟨b, 3, none⟩ out') b s i mark (l ++ [y]) bad ∧ Below b w0 (w'.setCell ⟨b, 3, none⟩ out') := by
 have hb1 : Below w.heap.size w (w.alloc (.cells C e')) := (Below.refl _ _).alloc (Nat.le_refl _) _
 exact ⟨h.grew hb1 hc hg (by simp) (by rw [hC]; simp) hown, h.grew_below h0 hb1 hc hg⟩
theorem says_at (k : Nat) (h : k < 8) (hq : k < (⟨#[7, 8, 12, 10, 13, 9, 11, 92]⟩ : ByteArray).size) : (((⟨#[7, 8, 12, 10, 13, 9, 11, 92]⟩ : ByteArray)[k]'hq).toNat : Int) = escSays.getD k 0 := by
 rw [← get!_lt]
 revert h; revert k
 intro k hq h
 exact (by decide +kernel : ∀ k, k < 8 → (((⟨#[7, 8, 12, 10, 13, 9, 11, 92]⟩ : ByteArray).get! k).toNat : Int) = escSays.getD k 0) k h
theorem and255 (n : Int) (h0 : 0 ≤ n) (h : n < 512) : bits .and .i64 n 255 = n % 256 := by
 have := (by decide +kernel : ∀ k, k < 512 → bits .and .i64 ((k : Nat) : Int) 255 = ((k : Nat) : Int) % 256) n.toNat (by omega)
 rwa [Int.toNat_of_nonneg h0] at this
theorem codeZ_small (n : Int) (h0 : 0 ≤ n) (h : n < 256) (mark : Nat) (hmark : mark = 34 ∨ mark = 39) : codeZ n false mark = some (small n mark) := by
 unfold codeZ small
 rcases hmark with rfl | rfl
 ·simp; omega
 ·have : may n = true := by rw [may_iff]; omega
  simp [this]
theorem code_bad {s : ByteArray} {b : Nat} {i mark : Int} {l : List Int} {n : Int} {char : Bool} {w0 w' : World} {e : Ending} (h : codePost s b i mark l true n char w0 e w') : Below b w0 w' ∧ e = .returned (.tuple #[]) ∧ ∃ j l', RS w' b s j mark l' true := by
 unfold codePost at h
 obtain ⟨h1, h2, h3⟩ := h
 refine ⟨h1, h2, ?_⟩
 split at h3
 ·exact ⟨_, _, h3⟩
 ·exact ⟨_, _, h3⟩
theorem code_good {s : ByteArray} {b : Nat} {i mark : Int} {l x : List Int} {bad : Bool} {n : Int} {char : Bool} {w0 w' : World} {e : Ending} (h : codePost s b i mark l bad n char w0 e w') (hz : codeZ n char mark = some x) : Below b w0 w' ∧ e = .returned (.tuple #[]) ∧ RS w' b s i mark (l ++ x) bad := by
 unfold codePost at h
 rw [hz] at h
 exact h
theorem code_none {s : ByteArray} {b : Nat} {i mark : Int} {l : List Int} {bad : Bool} {n : Int} {char : Bool} {w0 w' : World} {e : Ending} (h : codePost s b i mark l bad n char w0 e w') (hz : codeZ n char mark = none) : Below b w0 w' ∧ e = .returned (.tuple #[]) ∧ RS w' b s i mark l true := by
 unfold codePost at h
 rw [hz] at h
 exact h
theorem names_index : ∀ c, c < 256 → Lib.indexByte [97, 98, 102, 110, 114, 116, 118, 92] (UInt8.ofNat c) = if escNames.idxOf c < 8 then (escNames.idxOf c : Int) else -1 := by decide +kernel
@[irreducible] def escPost (s : ByteArray) (b i mark : Nat) (l : List Int) (w0 : World) (e : Ending) (w' : World) : Prop :=
 Below b w0 w' ∧ e = .returned (.tuple #[]) ∧ match esc s i mark with
  | some (n, x) => RS w' b s (i + n : Nat) mark (l ++ x) false
  | none => ∃ j l', RS w' b s j mark l' true
set_option maxRecDepth 100000 in
set_option maxHeartbeats 4000000 in
theorem reader_escape (s : ByteArray) (b i mark : Nat) (hmark : mark = 34 ∨ mark = 39) (l : List Int) (w0 : World) (hR : RS w0 b s (i + 1 : Nat) mark l false) (hi : i < s.size) (hs : s.size ≤ 140737488351232) (hl : l.length ≤ i) :
  Calls Tryd.prog 76 #[.pointer (some ⟨b, 0, none⟩)] w0 (escPost s b i mark l w0) := by
 have HQ : RowKit.Hid (∀ w', Below b w0 w' → (∀ n x, esc s i mark = some (n, x) → RS w' b s (i + n : Nat) mark (l ++ x) false) → (esc s i mark = none → ∃ j l', RS w' b s j mark l' true) → escPost s b i mark l w0 (.returned (.tuple #[])) w') :=
  Lib.hid fun w' h1 h3 h4 => by
   unfold escPost
   refine ⟨h1, rfl, ?_⟩
   cases hz : esc s i mark with
   | some x => exact h3 x.1 x.2 hz
   | none => exact h4 hz
 generalize escPost s b i mark l w0 = Q at *
 have c0 := hR.c0; have c1 := hR.c1; have c4 := hR.c4; have z4 := hR.fz 4
 have HR := Lib.hid hR
 clear hR
 by_cases hp : i + 1 < s.size
 ·have hp1 : ((i + 1 : Nat) : Int) < s.size := by omega
  generalize hP : i + 1 = p at *
  have hc := bt_at s p hp
  have hb := bt_lt s p
  have hE : esc s i mark = _ := rfl
  conv at hE => rhs; rw [esc, if_neg (by omega), hP]
  generalize bt s p = c at *
  have HC := Lib.hid hc
  have HE := Lib.hid hE
  clear hE
  have CI : ∀ w, _ := fun w => (Tryd.strings_IndexByte ⟨#[97, 98, 102, 110, 114, 116, 118, 92]⟩ c w).mono (fun e w' h => (⟨h.1, h.2.symm⟩ : _ ∧ w = w'))
  rw [show ((⟨#[97, 98, 102, 110, 114, 116, 118, 92]⟩ : ByteArray).data.toList) = [97, 98, 102, 110, 114, 116, 118, 92] from rfl, show (c : Int).toNat.toUInt8 = UInt8.ofNat c from rfl, names_index c hb] at CI
  generalize hix : (if escNames.idxOf c < 8 then (escNames.idxOf c : Int) else -1) = ix at *
  have CI := Lib.hid CI
  go_enter Tryd.func76, Tryd.ntmps76
  go_wp2_with fail
  go_quiet (fail)
  have hr1 := HR.out.drewN nq
  have hb1 := bdrewN (Below.refl b w0) nq
  generalize w0.drewN nq = w1 at *
  have c0 := hr1.c0; have c1 := hr1.c1
  go_wp2_with fail
  go_quiet (fail)
  have hr2 := hr1.drewN nq
  have hb2 := bdrewN hb1 nq
  generalize w1.drewN nq = w2 at *
  have c0 := hr2.c0; have c1 := hr2.c1; have c2 := hr2.c2; have z1 := hr2.fz 1
  have HR2 := Lib.hid hr2
  have HB2 := Lib.hid hb2
  clear hr1 hb1 hr2 hb2
  go_wp2_with fail
  refine (CI.out _).mono ?_; rintro e w' ⟨rfl, rfl⟩
  by_cases hk : escNames.idxOf c < 8
  ·rw [if_pos hk] at HE hix
   generalize escNames.idxOf c = k at *
   subst hix
   have hk8 : (k : Int) < 8 := by omega
   go_wp2_with fail
   have hr3 := HR2.out.at' ((p : Int) + 1)
   have hb3 := HB2.out.setCell (p := ⟨b, 1, none⟩) (Nat.le_refl b) (.int .i64 ((p : Int) + 1))
   generalize w2.setCell ⟨b, 1, none⟩ (.int .i64 ((p : Int) + 1)) = w3 at *
   obtain ⟨out, c3, ho⟩ := hr3.c3
   have z3 := hr3.fz 3
   have HR3 := Lib.hid hr3.drew
   have c3d : w3.drew.cell? ⟨b, 3, none⟩ = some out := c3
   have HO3 : RowKit.Hid (w3.drew.ownsRow (b + 1) 5 1 out l.length (l.map (Value.int .u8))) := ho
   have hbase : b + 1 ≤ w3.drew.heap.size := HR3.out.lt
   have hb3d := hb3.drew
   have ca : ∀ o : Obj, (w3.alloc o).cell? ⟨b, 3, none⟩ = some out := fun o => by rw [← c3]; exact World.cell?_of_block (Below.heap_alloc _ _ _ hr3.lt)
   clear hr3 ho
   go_region_law
    (first
     | (refine step_append_lit (w := w3.drew) rfl _ _ 39 5 rfl Tryd.underlying39 (b + 1) info_u8 rfl out l.length (l.map (Value.int .u8)) rfl HO3.out 1 1 rfl rfl (by decide) (by intro u hu; simp at hu; subst hu; rfl) (by omega) (by omega) hbase ?_; intro v' w4 hown hgr; obtain ⟨c3', z3'⟩ := HR3.out.grew_cell ((Below.refl _ _).alloc (Nat.le_refl _) _) c3d hgr; obtain ⟨va, vm, vc, rfl⟩ := owns_slice hown))
   all_goals (
    go_wp2_with fail
    refine bodyPost_ret (results_none rfl _ _ _) rfl ?_
    obtain ⟨hr4, hb4⟩ := HR3.out.put1 hb3d (y := escSays.getD k 0) (by simp only [says_at k hk]) c3d hgr hown
    refine HQ.out _ hb4 (fun n x hx => ?_) (fun hx => ?_)
    ·rw [HE.out] at hx
     cases hx
     rw [show ((i + 2 : Nat) : Int) = (p : Int) + 1 by omega]
     exact hr4
    ·rw [HE.out] at hx; cases hx)
  ·rw [if_neg hk] at HE hix
   subst hix
   have hnot : ∀ x ∈ escNames, c ≠ x := fun x hx e => hk (List.idxOf_lt_length_of_mem (e ▸ hx))
   clear hk
   by_cases hm : c = mark
   ·rw [if_pos hm] at HE
    have hm' : (c : Int) = mark := by omega
    have hr3 := HR2.out.at' ((p : Int) + 1)
    have hb3 := HB2.out.setCell (p := ⟨b, 1, none⟩) (Nat.le_refl b) (.int .i64 ((p : Int) + 1))
    obtain ⟨out, c3', ho'⟩ := HR2.out.c3
    have c3 : (w2.setCell ⟨b, 1, none⟩ (.int .i64 ((p : Int) + 1))).cell? ⟨b, 3, none⟩ = some out := by
     rw [World.cell?_setCell_other _ _ _ _ (by simp)]; exact c3'
    have ho : (w2.setCell ⟨b, 1, none⟩ (.int .i64 ((p : Int) + 1))).ownsRow (b + 1) 5 1 out l.length (l.map (Value.int .u8)) := owns_blk ho' fun g hg _ => heap_setCell_other _ _ _ _ (by show g ≠ b; omega)
    have HR3 := Lib.hid hr3
    have HO3 := Lib.hid ho
    have hbase : b + 1 ≤ (w2.setCell ⟨b, 1, none⟩ (.int .i64 ((p : Int) + 1))).heap.size := HR3.out.lt
    clear hr3 ho ho'
    have hsz : (w2.setCell ⟨b, 1, none⟩ (.int .i64 ((p : Int) + 1))).heap.size = w2.heap.size := by simp [World.setCell]
    go_wp2_with (at_builtin; generalize w2.setCell ⟨b, 1, none⟩ (.int .i64 ((p : Int) + 1)) = w3 at *; refine wpList_append_lit w3 #[.int .u8 (mark : Int)] _ rfl _ _ 39 5 rfl Tryd.underlying39 (b + 1) info_u8 rfl (by decide) out _ _ rfl HO3.out 1 1 (congrArg (fun n => Value.slice (some ⟨n, 0, none⟩) 1 1) hsz.symm) rfl (by decide) (by intro u hu; simp at hu; subst hu; rfl) (by omega) (by omega) hbase ?_)
    intro v' w4 hown hgr _
    obtain ⟨c3', z3'⟩ := HR3.out.grew_cell ((Below.refl _ _).alloc (Nat.le_refl _) _) c3 hgr
    obtain ⟨va, vm, vc, rfl⟩ := owns_slice hown
    go_wp2_with fail
    refine bodyPost_ret (results_none rfl _ _ _) rfl ?_
    obtain ⟨hr4, hb4⟩ := HR3.out.put1 hb3 (y := (mark : Int)) rfl c3 hgr hown
    refine HQ.out _ hb4 (fun n x hx => ?_) (fun hx => ?_)
    ·rw [HE.out] at hx
     cases hx
     rw [show ((i + 2 : Nat) : Int) = (p : Int) + 1 by omega, hm']
     exact hr4
    ·rw [HE.out] at hx; cases hx
   ·rw [if_neg hm] at HE
    have hm' : ¬ (c : Int) = mark := by omega
    have hr3 : RS (w2.setCell ⟨b, 1, none⟩ (.int .i64 ((p : Int) + 1))) b s ((i + 2 : Nat) : Int) mark l false := by
     rw [show ((i + 2 : Nat) : Int) = (p : Int) + 1 by omega]; exact HR2.out.at' _
    have hb3 := HB2.out.setCell (p := ⟨b, 1, none⟩) (Nat.le_refl b) (.int .i64 ((p : Int) + 1))
    have HR3 := Lib.hid hr3
    have HB3 := Lib.hid hb3
    clear hr3 hb3
    by_cases g1 : c = 120
    ·rw [if_pos g1] at HE
     have g1' : (c : Int) = 120 := by omega
     go_wp2_with fail
     generalize w2.setCell ⟨b, 1, none⟩ (.int .i64 ((p : Int) + 1)) = w3 at *
     refine (reader_number s b (i + 2) mark l 16 (Or.inr rfl) 2 (by omega) w3 HR3.out (by omega) (by omega)).mono ?_
     intro e w4 h4
     unfold numPost at h4
     obtain ⟨hb4, h4⟩ := h4
     have hb04 := HB3.out.trans hb4
     rcases h4 with ⟨n, hn, rfl, hr4⟩ | ⟨hn, rfl, j, hr4⟩
     ·have hrg := num_range s 16 (by omega) 2 (i + 2) 0 n (by omega) hn
      have hn256 : n < 256 := by have := hrg.2.1; omega
      have hz := codeZ_small n hrg.1 hn256 mark hmark
      have HN := Lib.hid hn
      have HZ := Lib.hid hz
      clear hn hz
      go_wp2_with fail
      refine (reader_code s b _ mark l false n (by omega) false w4 hr4 (by omega)).mono ?_
      intro e w5 h5
      obtain ⟨hb5, rfl, hr5⟩ := code_good h5 HZ.out
      go_wp2_with fail
      refine bodyPost_ret (results_none rfl _ _ _) rfl ?_
      refine HQ.out _ (hb04.trans hb5) (fun n' x hx => ?_) (fun hx => ?_)
      ·rw [HE.out, HN.out] at hx
       cases hx
       exact hr5
      ·rw [HE.out, HN.out] at hx; cases hx
     ·have HN := Lib.hid hn
      clear hn
      go_wp2_with fail
      refine (reader_code s b _ mark l true 0 (by omega) false w4 hr4 (by omega)).mono ?_
      intro e w5 h5
      obtain ⟨hb5, rfl, hr5⟩ := code_bad h5
      go_wp2_with fail
      refine bodyPost_ret (results_none rfl _ _ _) rfl ?_
      refine HQ.out _ (hb04.trans hb5) (fun n' x hx => ?_) (fun hx => hr5)
      rw [HE.out, HN.out] at hx; cases hx
    ·rw [if_neg g1] at HE
     have g1' : ¬ (c : Int) = 120 := by omega
     by_cases g2 : c = 85
     ·have g2' : (c : Int) = 85 := by omega
      have HE : RowKit.Hid (esc s i mark = (num s 16 (i + 2) 8 0).bind fun n => if may n = true then some (2 + 8, formZ n) else none) := by
       have := HE.out; rw [if_pos (Or.inr g2), if_pos g2] at this; exact this
      go_wp2_with fail
      generalize w2.setCell ⟨b, 1, none⟩ (.int .i64 ((p : Int) + 1)) = w3 at *
      refine (reader_number s b (i + 2) mark l 16 (Or.inr rfl) 8 (by omega) w3 HR3.out (by omega) (by omega)).mono ?_
      intro e w4 h4
      unfold numPost at h4
      obtain ⟨hb4, h4⟩ := h4
      have hb04 := HB3.out.trans hb4
      rcases h4 with ⟨n, hn, rfl, hr4⟩ | ⟨hn, rfl, j, hr4⟩
      ·have hrg := num_range s 16 (by omega) 8 (i + 2) 0 n (by omega) hn
       have hn256 : n < 4294967296 := by have := hrg.2.1; omega
       have hz : codeZ n true mark = if may n then some (formZ n) else none := by unfold codeZ; rw [if_neg (by simp)]
       have HN := Lib.hid hn
       have HZ := Lib.hid hz
       clear hn hz
       go_wp2_with fail
       refine (reader_code s b _ mark l false n (by omega) true w4 hr4 (by omega)).mono ?_
       intro e w5 h5
       by_cases hmay : may n = true
       ·obtain ⟨hb5, rfl, hr5⟩ := code_good h5 (by rw [HZ.out, if_pos hmay])
        go_wp2_with fail
        refine bodyPost_ret (results_none rfl _ _ _) rfl ?_
        refine HQ.out _ (hb04.trans hb5) (fun n' x hx => ?_) (fun hx => ?_)
        ·rw [HE.out, HN.out, Option.bind_some, if_pos hmay] at hx
         cases hx
         exact hr5
        ·rw [HE.out, HN.out, Option.bind_some, if_pos hmay] at hx; cases hx
       ·obtain ⟨hb5, rfl, hr5⟩ := code_none h5 (by rw [HZ.out, if_neg hmay])
        go_wp2_with fail
        refine bodyPost_ret (results_none rfl _ _ _) rfl ?_
        refine HQ.out _ (hb04.trans hb5) (fun n' x hx => ?_) (fun hx => ⟨_, _, hr5⟩)
        rw [HE.out, HN.out, Option.bind_some, if_neg hmay] at hx; cases hx
      ·have HN := Lib.hid hn
       clear hn
       go_wp2_with fail
       refine (reader_code s b _ mark l true 0 (by omega) true w4 hr4 (by omega)).mono ?_
       intro e w5 h5
       obtain ⟨hb5, rfl, hr5⟩ := code_bad h5
       go_wp2_with fail
       refine bodyPost_ret (results_none rfl _ _ _) rfl ?_
       refine HQ.out _ (hb04.trans hb5) (fun n' x hx => ?_) (fun hx => hr5)
       rw [HE.out, HN.out] at hx; cases hx
     ·have g2' : ¬ (c : Int) = 85 := by omega
      by_cases g3 : c = 117
      ·have g3' : (c : Int) = 117 := by omega
       have HE : RowKit.Hid (esc s i mark = (num s 16 (i + 2) 4 0).bind fun n => if may n = true then some (2 + 4, formZ n) else none) := by
        have := HE.out; rw [if_pos (Or.inl g3), if_neg g2] at this; exact this
       go_wp2_with fail
       generalize w2.setCell ⟨b, 1, none⟩ (.int .i64 ((p : Int) + 1)) = w3 at *
       refine (reader_number s b (i + 2) mark l 16 (Or.inr rfl) 4 (by omega) w3 HR3.out (by omega) (by omega)).mono ?_
       intro e w4 h4
       unfold numPost at h4
       obtain ⟨hb4, h4⟩ := h4
       have hb04 := HB3.out.trans hb4
       rcases h4 with ⟨n, hn, rfl, hr4⟩ | ⟨hn, rfl, j, hr4⟩
       ·have hrg := num_range s 16 (by omega) 4 (i + 2) 0 n (by omega) hn
        have hn256 : n < 4294967296 := by have := hrg.2.1; omega
        have hz : codeZ n true mark = if may n then some (formZ n) else none := by unfold codeZ; rw [if_neg (by simp)]
        have HN := Lib.hid hn
        have HZ := Lib.hid hz
        clear hn hz
        go_wp2_with fail
        refine (reader_code s b _ mark l false n (by omega) true w4 hr4 (by omega)).mono ?_
        intro e w5 h5
        by_cases hmay : may n = true
        ·obtain ⟨hb5, rfl, hr5⟩ := code_good h5 (by rw [HZ.out, if_pos hmay])
         go_wp2_with fail
         refine bodyPost_ret (results_none rfl _ _ _) rfl ?_
         refine HQ.out _ (hb04.trans hb5) (fun n' x hx => ?_) (fun hx => ?_)
         ·rw [HE.out, HN.out, Option.bind_some, if_pos hmay] at hx
          cases hx
          exact hr5
         ·rw [HE.out, HN.out, Option.bind_some, if_pos hmay] at hx; cases hx
        ·obtain ⟨hb5, rfl, hr5⟩ := code_none h5 (by rw [HZ.out, if_neg hmay])
         go_wp2_with fail
         refine bodyPost_ret (results_none rfl _ _ _) rfl ?_
         refine HQ.out _ (hb04.trans hb5) (fun n' x hx => ?_) (fun hx => ⟨_, _, hr5⟩)
         rw [HE.out, HN.out, Option.bind_some, if_neg hmay] at hx; cases hx
       ·have HN := Lib.hid hn
        clear hn
        go_wp2_with fail
        refine (reader_code s b _ mark l true 0 (by omega) true w4 hr4 (by omega)).mono ?_
        intro e w5 h5
        obtain ⟨hb5, rfl, hr5⟩ := code_bad h5
        go_wp2_with fail
        refine bodyPost_ret (results_none rfl _ _ _) rfl ?_
        refine HQ.out _ (hb04.trans hb5) (fun n' x hx => ?_) (fun hx => hr5)
        rw [HE.out, HN.out] at hx; cases hx
      ·have g3' : ¬ (c : Int) = 117 := by omega
       have HE : RowKit.Hid (esc s i mark = (num s 8 (i + 1) 3 0).bind fun n => if 255 < n then none else some (4, small n mark)) := by
        have := HE.out; rw [if_neg (by omega), ← hP] at this; exact this
       clear HR3 HB3
       have HR2' : RowKit.Hid (RS w2 b s ((i + 1 : Nat) : Int) mark l false) := by rw [hP]; exact HR2
       go_wp2_with fail
       refine (reader_number s b (i + 1) mark l 8 (Or.inl rfl) 3 (by omega) w2 HR2'.out (by omega) (by omega)).mono ?_
       intro e w4 h4
       unfold numPost at h4
       obtain ⟨hb4, h4⟩ := h4
       have hb04 := HB2.out.trans hb4
       rcases h4 with ⟨n, hn, rfl, hr4⟩ | ⟨hn, rfl, j, hr4⟩
       ·have hrg := num_range s 8 (by omega) 3 (i + 1) 0 n (by omega) hn
        have hn512 : n < 512 := by have := hrg.2.1; omega
        have HN := Lib.hid hn
        clear hn
        have c4 := hr4.c4; have z4 := hr4.fz 4
        have HR4 := Lib.hid hr4
        clear hr4
        have hand := and255 n hrg.1 hn512
        by_cases hbig : 255 < n
        ·go_wp2_with fail
         refine (reader_code s b _ mark l true (n % 256) (by omega) false _ (HR4.out.bad' true) (by omega)).mono ?_
         intro e w5 h5
         obtain ⟨hb5, rfl, hr5⟩ := code_bad h5
         go_wp2_with fail
         refine bodyPost_ret (results_none rfl _ _ _) rfl ?_
         refine HQ.out _ ((hb04.setCell (by exact Nat.le_refl b) _).trans hb5) (fun n' x hx => ?_) (fun hx => hr5)
         rw [HE.out, HN.out, Option.bind_some, if_pos hbig] at hx; cases hx
        ·have hz := codeZ_small n hrg.1 (by omega) mark hmark
         have HZ := Lib.hid hz
         clear hz
         replace hand : bits .and .i64 n 255 = n := by rw [hand]; omega
         have hdec : decide (255 < n) = false := decide_eq_false hbig
         go_wp2_with fail
         refine (reader_code s b _ mark l false n (by omega) false _ (HR4.out.bad' false) (by omega)).mono ?_
         intro e w5 h5
         obtain ⟨hb5, rfl, hr5⟩ := code_good h5 HZ.out
         go_wp2_with fail
         refine bodyPost_ret (results_none rfl _ _ _) rfl ?_
         refine HQ.out _ ((hb04.setCell (by exact Nat.le_refl b) _).trans hb5) (fun n' x hx => ?_) (fun hx => ?_)
         ·rw [HE.out, HN.out, Option.bind_some, if_neg (Int.not_lt.2 hbig)] at hx
          cases hx
          exact hr5
         ·rw [HE.out, HN.out, Option.bind_some, if_neg (Int.not_lt.2 hbig)] at hx; cases hx
       ·have HN := Lib.hid hn
        clear hn
        have c4 := hr4.c4; have z4 := hr4.fz 4
        have HR4 := Lib.hid hr4
        clear hr4
        have hand : bits .and .i64 0 255 = 0 := by rw [and255 0 (by omega) (by omega)]; rfl
        go_wp2_with fail
        refine (reader_code s b _ mark l true 0 (by omega) false _ (HR4.out.bad' true) (by omega)).mono ?_
        intro e w5 h5
        obtain ⟨hb5, rfl, hr5⟩ := code_bad h5
        go_wp2_with fail
        refine bodyPost_ret (results_none rfl _ _ _) rfl ?_
        refine HQ.out _ ((hb04.setCell (by exact Nat.le_refl b) _).trans hb5) (fun n' x hx => ?_) (fun hx => hr5)
        rw [HE.out, HN.out] at hx; cases hx
 ·have c1s : (s.size : Int) ≤ (i + 1 : Nat) := by omega
  have HE : esc s i mark = none := by rw [esc, if_pos (by omega)]
  go_enter Tryd.func76, Tryd.ntmps76
  go_wp2_with fail
  go_quiet (fail)
  have hr1 := HR.out.drewN nq
  have hb1 := bdrewN (Below.refl b w0) nq
  generalize w0.drewN nq = w1 at *
  have c4 := hr1.c4; have z4 := hr1.fz 4
  go_wp2_with fail
  refine bodyPost_ret (results_none rfl _ _ _) rfl ?_
  refine HQ.out _ (hb1.setCell (by exact Nat.le_refl b) _) (fun n x hx => ?_) (fun hx => ⟨_, _, hr1.bad' true⟩)
  rw [HE] at hx; cases hx
end Go.Proofs.YtmklemelgdilkaaDoor
