/- Layer 18: find.All, walked. -/
import Derived.Test.YtbhicblkgjgenaaGreatDoorEachM
import Derived.Test.YtbhicblkgjgenaaGreatDoorEachSM
import Derived.Test.YtbhicblkgjgenaaGreatDoorSeekPM
import Derived.Test.YtbhicblkgjgenaaGreatDoorAppEqM
namespace Go.Proofs.YtbhicblkgjgenaaGreatDoor
set_option linter.all false
attribute [local irreducible] Calls
attribute [local irreducible] wpStill
attribute [local go_sem] Oper.semAt_some
open Go.RowKit Go.Shelf

set_option maxRecDepth 100000 in
set_option maxHeartbeats 4000000 in
theorem find_each (ar al : Option Addr) (nr cr nl cl : Nat) (w : World) : Calls Tryz.prog 57 #[.slice ar nr cr, .slice al nl cl] w fun e w' =>
    e = .returned (.func (.func 85) #[] #[.pointer (some ⟨w.heap.size + 1, 0, none⟩), .pointer (some ⟨w.heap.size, 0, none⟩)]) ∧ w' = (w.alloc (.cells #[.slice ar nr cr] 34)).alloc (.cells #[.slice al nl cl] 23) := by
  go_enter Tryz.func57, Tryz.ntmps57
  go_wp2_with fail
  go_ret
  exact ⟨rfl, rfl⟩
theorem Minfo_match : (Tryz.prog.info? 63).map (fun i => (i.zero, i.size, i.bytes)) = some (some (.agg #[.int .i64 0, .int .i64 0, .slice none 0 0]), 3, 40) := by kernel_rfl
theorem fold_one (p : Nat) (v : Value) (T : Array Value) : (#[p].zip #[v]).foldl (fun t (p, v) => t.setIfInBounds p v) T = T.setIfInBounds p v := by simp
theorem lit_cells (w : World) (e : TypeId) (news : List Value) : ∀ (j : Nat) (u : Value), news[j]? = some u → (w.alloc (.cells news.toArray e)).cell? ((⟨w.heap.size, 0, none⟩ : Addr).add j) = some u := by
  intro j u hj
  have e1 : (⟨w.heap.size, 0, none⟩ : Addr).add j = ⟨w.heap.size, j, none⟩ := by simp [Addr.add]; omega
  rw [e1, World.cell?_alloc_at _ _ _ _ rfl]
  simpa using hj
/-- What All answers. -/
@[irreducible] def fallPost (rules : List RuleM) (l : List Prt) (w0 : World) (e : Ending) (w' : World) : Prop :=
  Below w0.heap.size w0 w' ∧ ∃ v xs, e = .returned (.tuple #[v, .int .i64 (findErr rules l)]) ∧ xs.map (·.1) = (if findErr rules l = 0 then allM rules l else []) ∧ w'.ownsRow w0.heap.size 63 3 v xs.length (mchsV xs) ∧ ∀ x ∈ xs, MemM w0.heap.size x w'
/-- What All holds between two rounds. -/
def allJ (w : World) (bo : Nat) (pre : List MchX) (W : World) : Prop :=
  ∃ v, W.heap[bo]? = some (.cells #[v] 59 (0, 0)) ∧ W.ownsRow w.heap.size 63 3 v pre.length (mchsV pre) ∧ (∀ x ∈ pre, MemM w.heap.size x W) ∧ Below w.heap.size w W
theorem MemM.ext {B : Nat} {x : MchX} {W W' : World} (h : MemM B x W) (hb : Below W.heap.size W W') : MemM B x W' := owns_below h hb
theorem allJ.ext {w : World} {bo : Nat} {pre : List MchX} {W W' : World} (h : allJ w bo pre W) (hb : Below W.heap.size W W') : allJ w bo pre W' := by
  obtain ⟨v, h1, h2, h3, h4⟩ := h
  exact ⟨v, keeps hb h1, owns_below h2 hb, fun x hx => (h3 x hx).ext hb, bthen h4 hb⟩
/-- A row that lies in cells stays where another block is turned. -/
theorem owns_other {W W' : World} {B : Nat} {e : TypeId} {size n : Nat} {v : Value} {xs : List Value} (h : W.ownsRow B e size v n xs) (hk : ∀ (k : Nat) (cs : Array Value) (fr : Nat × Nat), W.heap[k]? = some (.cells cs e fr) → W'.heap[k]? = W.heap[k]?) : W'.ownsRow B e size v n xs := by
  obtain ⟨g1, g2⟩ := h
  refine ⟨g1, ?_⟩
  rcases g2 with g2 | ⟨k, cap, cur, hv, hB, hh, r⟩
  · exact Or.inl g2
  · exact Or.inr ⟨k, cap, cur, hv, hB, (hk k _ _ hh).trans hh, r⟩
theorem put_keeps {W : World} {D : Nat} {r : Loop} (o : Obj) (h : W.heap[D]? = some (.loop r)) {k : Nat} {cs : Array Value} {T : TypeId} {fr : Nat × Nat} (hc : W.heap[k]? = some (.cells cs T fr)) : (W.putObj D o).heap[k]? = W.heap[k]? :=
  World.putObj_heap_other (fun e => by subst e; rw [h] at hc; cases hc)
theorem put_below {w W : World} {D : Nat} (o : Obj) (hD : w.heap.size ≤ D) (h : Below w.heap.size w W) : Below w.heap.size w (W.putObj D o) :=
  ⟨h.os, h.tape, h.output, by have := h.size; simp [World.putObj]; exact this, fun k hk => (World.putObj_heap_other (by omega)).trans (h.block k hk)⟩
theorem allJ.put {w : World} {bo : Nat} {pre : List MchX} {W : World} {D : Nat} {r : Loop} (o : Obj) (hD : w.heap.size ≤ D) (hl : W.heap[D]? = some (.loop r)) (h : allJ w bo pre W) : allJ w bo pre (W.putObj D o) := by
  obtain ⟨v, h1, h2, h3, h4⟩ := h
  exact ⟨v, (put_keeps o hl h1).trans h1, owns_other h2 (fun k cs fr hc => put_keeps o hl hc), fun x hx => owns_other (h3 x hx) (fun k cs fr hc => put_keeps o hl hc), put_below o hD h4⟩
theorem MemM.put {B : Nat} {x : MchX} {W : World} {D : Nat} {r : Loop} (o : Obj) (hl : W.heap[D]? = some (.loop r)) (h : MemM B x W) : MemM B x (W.putObj D o) := owns_other h (fun k cs fr hc => put_keeps o hl hc)
/-- A match more. -/
theorem allJ.step {w : World} {bo : Nat} {pre : List MchX} {x : MchX} {W : World} (hx : MemM w.heap.size x W) (hbo : w.heap.size ≤ bo) {v v' : Value} {o : Obj} {w6 : World} (h1 : W.heap[bo]? = some (.cells #[v] 59 (0, 0))) (h2 : W.ownsRow w.heap.size 63 3 v pre.length (mchsV pre)) (h3 : ∀ x ∈ pre, MemM w.heap.size x W) (h4 : Below w.heap.size w W)
    (ho : w6.ownsRow w.heap.size 63 3 v' (pre.length + 1) (mchsV pre ++ mchV x)) (hg : (W.alloc o).grownBy w6 v.ownBlock) :
    allJ w bo (pre ++ [x]) (w6.setCell ⟨bo, 0, none⟩ v') ∧ KpF w.heap.size none W (w6.setCell ⟨bo, 0, none⟩ v') ∧ (∀ D, D < W.heap.size → (∀ cs T fr, W.heap[D]? ≠ some (.cells cs T fr)) → (w6.setCell ⟨bo, 0, none⟩ v').heap[D]? = W.heap[D]?) ∧ w6.cell? ⟨bo, 0, none⟩ = some v ∧ w6.frozen? ⟨bo, 0, none⟩ = false := by
  have hs := h4.size
  have h2a := h2.alloc o
  have hrow : ∀ k, v.ownBlock = some k → w.heap.size ≤ k ∧ ∃ (cs : Array Value) (fr : Nat × Nat), W.heap[k]? = some (.cells cs 63 fr) := fun k hk => by
    rcases h2.2 with ⟨hv, _⟩ | ⟨q, cap, cur, hv, hB, hh, _⟩
    · rw [hv] at hk; simp [Value.ownBlock] at hk
    · rw [hv] at hk; simp [Value.ownBlock] at hk; subst hk; exact ⟨hB, _, _, hh⟩
  have hkeep : ∀ k, k < W.heap.size → v.ownBlock ≠ some k → w6.heap[k]? = W.heap[k]? := fun k hk hne => by
    rw [hg.block k (by simp; omega) (fun e => hne e.symm), Below.heap_alloc _ _ _ hk]
  have hcell : ∀ (k : Nat) (cs : Array Value) (T : TypeId) (fr : Nat × Nat), W.heap[k]? = some (.cells cs T fr) → T ≠ 63 → w6.heap[k]? = W.heap[k]? := fun k cs T fr hc hT => hkeep k (keeps_lt hc) (fun e => by
    obtain ⟨_, cs', fr', h⟩ := hrow k e
    rw [hc] at h; cases h; exact hT rfl)
  have hb6 : w6.heap[bo]? = some (.cells #[v] 59 (0, 0)) := (hcell _ _ _ _ h1 (by decide)).trans h1
  have hset : ∀ k, k ≠ bo → (w6.setCell ⟨bo, 0, none⟩ v').heap[k]? = w6.heap[k]? := fun k hk => heap_setCell_other _ _ _ _ hk
  have hmem : ∀ y, MemM w.heap.size y W → MemM w.heap.size y (w6.setCell ⟨bo, 0, none⟩ v') := fun y hy => owns_other hy (fun k cs fr hc => by
    rw [hset k (fun e => by subst e; rw [h1] at hc; cases hc), hcell k _ _ _ hc (by decide)])
  refine ⟨⟨v', ?_, ?_, ?_, ?_⟩, ⟨?_, ?_, ?_, ?_, ?_, ?_⟩, ?_, ?_, ?_⟩
  · have := heap_setCell_same w6 bo 0 _ _ v' hb6
    exact this
  · rw [List.length_append, mchsV_snoc]
    exact owns_other ho (fun k cs fr hc => hset k (fun e => by subst e; rw [hb6] at hc; cases hc))
  · intro y hy
    rcases List.mem_append.1 hy with hy | hy
    · exact hmem y (h3 y hy)
    · obtain rfl : y = x := by simpa using hy
      exact hmem y hx
  · exact ((h4.alloc hs o).grown hg (by simp; omega) (fun q e => (hrow q e).1)).setCell (p := ⟨bo, 0, none⟩) hbo _
  · exact hg.os
  · exact hg.tape
  · exact hg.output
  · have := hg.size; simp at this ⊢; omega
  · intro k hk hk2
    rw [hset k (by omega), hkeep k hk2 (fun e => by have := (hrow k e).1; omega)]
  · intro k cs T fr hc hT1 hT2 _
    rw [hset k (fun e => by subst e; rw [h1] at hc; cases hc; exact hT2 rfl), hcell k _ _ _ hc hT1]
  · intro D hD hno
    rw [hset D (fun e => by subst e; exact hno _ _ _ h1), hkeep D hD (fun e => by obtain ⟨_, cs, fr, h⟩ := hrow D e; exact hno _ _ _ h)]
  · simp only [World.cell?, hb6]; rfl
  · simp [World.frozen?, hb6]
theorem all_enter (args : Array Value) (w : World) : (callFunc 85 args).run Tryz.prog w = .ok (.enter 85 args) w := enter_own Tryz.func85 (by kernel_rfl) rfl args w
set_option maxRecDepth 100000 in
set_option maxHeartbeats 8000000 in
theorem find_All (rs : List RuleX) (hs : ∀ x ∈ rs, SmallR x.1) (l : List Prt) (hl : SmallL l) (vr vl : Value) (w : World) (hT : Tabs w) (hM : MaxC w) (hr : RulesIn w vr rs) (hlr : PartRow w vl l) :
    Calls Tryz.prog 32 #[vr, vl] w (fallPost (rs.map (·.1)) l w) := by
  have HQ : RowKit.Hid (∀ z v xs w', findErr (rs.map (·.1)) l = z → xs.map (·.1) = (if z = 0 then allM (rs.map (·.1)) l else []) → Below w.heap.size w w' → w'.ownsRow w.heap.size 63 3 v xs.length (mchsV xs) → (∀ x ∈ xs, MemM w.heap.size x w') → fallPost (rs.map (·.1)) l w (.returned (.tuple #[v, .int .i64 z])) w') := Lib.hid fun z v xs w' h1 h2 h3 h4 h5 => by
    subst h1; unfold fallPost; exact ⟨h3, v, xs, rfl, h2, h4, h5⟩
  generalize fallPost (rs.map (·.1)) l w = Q at *
  obtain ⟨ar, cpr, rfl, hcr⟩ := hr.shape
  obtain ⟨al, cpl, rfl, hcl⟩ := hlr.slice
  have CC := Lib.hid (find_check rs hs l hl.1 _ _ w hT hM hr hlr)
  have HS := Lib.hid hs
  have HL := Lib.hid hl
  have HT := Lib.hid hT
  have HMX := Lib.hid hM
  have HR := Lib.hid hr
  have HLR := Lib.hid hlr
  have hll := hl.1
  clear hs hl hT hM hr hlr
  refine (callsIn_wide (n := 3)).1 ?_
  refine callsIn_of_wp_marks Tryz.func32 rfl trivial ?_ rfl
  simp only [Tryz.ntmps32, List.size_toArray, List.length_cons, List.length_nil, Nat.reduceAdd, Nat.reduceSub, Array.replicate_succ, Array.replicate_zero, List.push_toArray, List.append_toArray, List.nil_append, List.cons_append]
  gi_wp2_with (refine ⟨trivial, ?_⟩; gi_at_call 56; fail)
  refine ⟨trivial, (callsIn_wide.2 CC.out).mono ?_⟩
  rintro e w1 ⟨rfl, hb1⟩
  have HB1 := Lib.hid hb1
  clear hb1 CC
  by_cases hz : findErr (rs.map (·.1)) l = 0
  case neg =>
    have HX := Lib.hid (HQ.out _ (.slice none 0 0) [] w1 rfl (by rw [if_neg hz]; rfl) HB1.out (World.ownsRow_nil _ _ _ _) (fun x hx => by cases hx))
    have g1 : (findErr (rs.map (·.1)) l != 0) = true := by rw [bne_iff_ne]; exact hz
    clear hz
    generalize findErr (rs.map (·.1)) l = z at *
    gi_wp2
    refine ⟨.tuple #[.slice none 0 0, .int .i64 z], ?_, HX.out⟩
    simp [results, Tryz.f32, go_sem]
  have HZ := Lib.hid hz
  rw [hz]
  clear hz
  gi_wp2_with (refine ⟨trivial, ?_⟩; gi_at_call 57; fail)
  refine ⟨trivial, (callsIn_wide.2 (find_each _ _ _ _ _ _ _)).mono ?_⟩
  rintro e w3 ⟨rfl, rfl⟩
  have HB2 : RowKit.Hid (Below w.heap.size w (w1.alloc (.cells #[.slice none 0 0] 59))) := Lib.hid (HB1.out.alloc HB1.out.size _)
  have HO2 : RowKit.Hid ((w1.alloc (.cells #[.slice none 0 0] 59)).heap[w1.heap.size]? = some (.cells #[.slice none 0 0] 59 (0, 0))) := Lib.hid (heap_alloc_new _ _)
  have HBO : RowKit.Hid (w.heap.size ≤ w1.heap.size) := Lib.hid HB1.out.size
  generalize w1.alloc (.cells #[.slice none 0 0] 59) = w2 at *
  generalize w1.heap.size = bo at *
  gi_wp2
  have HB3 : RowKit.Hid (Below w.heap.size w ((w2.alloc (.cells #[.slice ar rs.length cpr] 34)).alloc (.cells #[.slice al l.length cpl] 23))) := Lib.hid ((HB2.out.alloc HB2.out.size _).alloc (by have := HB2.out.size; simp; omega) _)
  have HO3 : RowKit.Hid (((w2.alloc (.cells #[.slice ar rs.length cpr] 34)).alloc (.cells #[.slice al l.length cpl] 23)).heap[bo]? = some (.cells #[.slice none 0 0] 59 (0, 0))) := Lib.hid (by
    have := keeps_lt HO2.out
    rw [Below.heap_alloc _ _ _ (by simp; omega), Below.heap_alloc _ _ _ (by omega)]; exact HO2.out)
  have HR3 : RowKit.Hid (((w2.alloc (.cells #[.slice ar rs.length cpr] 34)).alloc (.cells #[.slice al l.length cpl] 23)).heap[w2.heap.size]? = some (.cells #[.slice ar rs.length cpr] 34 (0, 0))) := Lib.hid (by
    rw [Below.heap_alloc _ _ _ (by simp)]; exact heap_alloc_new _ _)
  have HL3 : RowKit.Hid (((w2.alloc (.cells #[.slice ar rs.length cpr] 34)).alloc (.cells #[.slice al l.length cpl] 23)).heap[w2.heap.size + 1]? = some (.cells #[.slice al l.length cpl] 23 (0, 0))) := Lib.hid (by
    have := heap_alloc_new (w2.alloc (.cells #[.slice ar rs.length cpr] 34)) (.cells #[.slice al l.length cpl] 23)
    rw [World.size_alloc] at this; exact this)
  have HCR : RowKit.Hid (w.heap.size ≤ w2.heap.size) := Lib.hid HB2.out.size
  generalize (w2.alloc (.cells #[.slice ar rs.length cpr] 34)).alloc (.cells #[.slice al l.length cpl] 23) = w3 at *
  generalize w2.heap.size = cr at *
  clear HB2 HO2
  have hfz := findErr_zero.1 HZ.out
  have HH := Lib.hid (show (∀ x ∈ rs, ruleZ x.1 = 0) ∧ rs.length ≤ 32 ∧ wellB l = true from ⟨fun x hx => hfz.2.2 x.1 (List.mem_map_of_mem hx), by have := hfz.2.1; rw [List.length_map] at this; exact this, hfz.1⟩)
  clear hfz
  have hN : l.length * rs.length ≤ 1048576 * 32 := Nat.mul_le_mul hll HH.out.2.1
  refine range_mem (enc := encM) (gf := 85) (lb := #[.pointer (some ⟨cr + 1, 0, none⟩), .pointer (some ⟨cr, 0, none⟩)]) (Mem := MemM w.heap.size) (Kp := KpF w.heap.size none) (S := fun xs => xs.map (·.1) = allM (rs.map (·.1)) l) (N := l.length * rs.length) rfl all_enter (fun _ => rfl) (allJ w bo)
    (fun x a' W => ∃ B, W.heap[B]? = some (.cells #[.int .i64 (x.1.1 : Int), .int .i64 (x.1.2.1 : Int), x.2] 63 (0, 0)) ∧ a' = { tmps := #[.slice ar rs.length cpr, .slice al l.length cpl, undef, undef, .slice none 0 0, .int .i64 0, .int .i64 0, .pointer (some ⟨bo, 0, none⟩), .pointer (some ⟨B, 0, none⟩), .slice ar rs.length cpr, .slice al l.length cpl, .int .i64 0, .int .i64 0, .bool false, undef, .slice ar rs.length cpr, .slice al l.length cpl, .func (.func 85) #[] #[.pointer (some ⟨cr + 1, 0, none⟩), .pointer (some ⟨cr, 0, none⟩)], .agg #[.int .i64 (x.1.1 : Int), .int .i64 (x.1.2.1 : Int), x.2], undef, undef, undef, undef, undef], defers := [] })
    (fun o => each_is rs HS.out HH.out.1 HH.out.2.1 l HH.out.2.2 HL.out _ _ w _ HT.out HMX.out HR.out HLR.out w.heap.size (cr + 1) cr none ⟨(HB3.out.alloc HB3.out.size _).alloc (by have := HB3.out.size; simp; omega) _, ?eL, ?eR, ⟨by have := HCR.out; omega, HCR.out, Nat.le_refl _⟩, fun k e => by cases e⟩ (by have := HB3.out.size; simp; omega))
    (fun pre W W' h hb => h.ext hb) (fun x W W' h hb => h.ext hb) (fun pre W o r hl h => h.put o (by have := HB3.out.size; omega) hl) (fun x W o r hl h => h.put o hl)
    (fun x a' W o r hl h => by obtain ⟨B, h1, h2⟩ := h; exact ⟨B, (put_keeps o hl h1).trans h1, h2⟩)
    (fun h k => h.trans k) (fun W W' h => KpF.of_below h) (fun W o r hl => KpF.put o (by have := HB3.out.size; omega) hl)
    ⟨.slice none 0 0, HO3.out, World.ownsRow_nil _ _ _ _, (fun x hx => by cases hx), HB3.out⟩ ?assign ?body ?done
  case eL => rw [Below.heap_alloc _ _ _ (by have := keeps_lt HL3.out; simp; omega), Below.heap_alloc _ _ _ (keeps_lt HL3.out)]; exact HL3.out
  case eR => rw [Below.heap_alloc _ _ _ (by have := keeps_lt HR3.out; simp; omega), Below.heap_alloc _ _ _ (keeps_lt HR3.out)]; exact HR3.out
  case assign =>
    intro lp x W K hm hK
    obtain ⟨⟨xr, xi, xb⟩, xv⟩ := x
    obtain ⟨xa, xn, xc, rfl⟩ : ∃ a n c, xv = .slice a n c := owns_slice hm
    clear hm
    unfold encM
    rw [fold_one]
    change Code.wpIn (Fence.wide.inRound lp) 2 Tryz.prog _ _ { tmps := #[.slice ar rs.length cpr, .slice al l.length cpl, undef, undef, .slice none 0 0, .int .i64 0, .int .i64 0, .pointer (some ⟨bo, 0, none⟩), undef, .slice ar rs.length cpr, .slice al l.length cpl, .int .i64 0, .int .i64 0, .bool false, undef, .slice ar rs.length cpr, .slice al l.length cpl, .func (.func 85) #[] #[.pointer (some ⟨cr + 1, 0, none⟩), .pointer (some ⟨cr, 0, none⟩)], .agg #[.int .i64 (xr : Int), .int .i64 (xi : Int), .slice xa xn xc], undef, undef, undef, undef, undef], defers := [] } W
    have HX := Lib.hid (hK _ _ ((Below.refl _ W).alloc (Nat.le_refl _) (.cells #[.int .i64 (xr : Int), .int .i64 (xi : Int), .slice xa xn xc] 63)) ⟨W.heap.size, heap_alloc_new _ _, rfl⟩)
    clear hK
    gi_wp2
    exact HX.out
  case body =>
    rintro lp pre x a' W hj hm ⟨B, hB, rfl⟩ hlen hsz hl hd
    obtain ⟨⟨xr, xi, xb⟩, xv⟩ := x
    obtain ⟨xa, xn, xc, rfl⟩ : ∃ a n c, xv = .slice a n c := owns_slice hm
    simp only [] at hB
    obtain ⟨v, h1, h2, h3, h4⟩ := hj
    have HM := Lib.hid hm
    have H1 := Lib.hid h1
    have H2 := Lib.hid h2
    have H3 := Lib.hid h3
    have H4 := Lib.hid h4
    have HLD := Lib.hid hl
    have HDD := Lib.hid hd
    obtain ⟨va, vn, vc, rfl⟩ := owns_slice h2
    have c1 : W.cell? ⟨bo, 0, none⟩ = some (.slice va vn vc) := by simp [World.cell?, h1]
    have c2 : W.cell? ⟨B, 0, none⟩ = some (.int .i64 (xr : Int)) ∧ W.cell? ⟨B, 1, none⟩ = some (.int .i64 (xi : Int)) ∧ W.cell? ⟨B, 2, none⟩ = some (.slice xa xn xc) := by simp [World.cell?, hB]
    obtain ⟨c2, c3, c4⟩ := c2
    obtain ⟨i0, hi, hz0, hz1, hz2⟩ := info_parts Minfo_match
    have h4s := h4.size
    clear hm h1 h2 h3 h4 hl hd hB
    simp only []
    gi_wp2_with (gi_at_builtin; refine wpListIn_append_own _ rfl _ _ 59 rfl w.heap.size 63 i0 _ 3 40 Tryz.underlying59 hi hz0 hz1 hz2 rfl (by decide) _ _ _ rfl (H2.out.alloc _) ⟨W.heap.size, 0, none⟩ 1 1 [.int .i64 (xr : Int), .int .i64 (xi : Int), .slice xa xn xc] rfl rfl (lit_cells _ _ _) (by intro u hu; simp at hu; rcases hu with rfl | rfl | rfl <;> rfl) (by unfold maxLen; omega) (by omega) (by simp; omega) ?_; intro v' w6 hown hgr _; obtain ⟨va', vn', vc', rfl⟩ := owns_slice hown; obtain ⟨g1, g2, g3, g4, g5⟩ := allJ.step (x := ((xr, xi, xb), .slice xa xn xc)) HM.out HBO.out H1.out H2.out H3.out H4.out hown hgr)
    have HX : RowKit.Hid (roundM (allJ w bo) (KpF w.heap.size none) w3.heap.size (pre ++ [((xr, xi, xb), .slice xa xn xc)]) W   .normal { tmps := #[], defers := [] } (w6.setCell ⟨bo, 0, none⟩ (.slice va' vn' vc'))) := Lib.hid
      ⟨g3 _ (by omega) (fun cs T fr e => by rw [HDD.out] at e; cases e), g3 _ (by omega) (fun cs T fr e => by obtain ⟨r, hr⟩ := HLD.out; rw [hr] at e; cases e), g2, g1⟩
    clear hown hgr g1 g2 g3
    gi_wp2
    exact HX.out
  case done =>
    rintro xs W hS ⟨v, h1, h2, h3, h4⟩ hd
    obtain ⟨va, vn, vc, rfl⟩ := owns_slice h2
    have c1 : W.cell? ⟨bo, 0, none⟩ = some (.slice va vn vc) := by simp [World.cell?, h1]
    have hpk : ∀ (k : Nat) (cs : Array Value) (T : TypeId) (fr : Nat × Nat), W.heap[k]? = some (.cells cs T fr) → (W.putObj w3.heap.size (.deferred none)).heap[k]? = W.heap[k]? := fun k cs T fr hc => World.putObj_heap_other (fun e => by subst e; rw [hd] at hc; cases hc)
    have HX := Lib.hid (HQ.out 0 (.slice va vn vc) xs (W.putObj w3.heap.size (.deferred none)) HZ.out (by rw [if_pos rfl]; exact hS) (put_below _ HB3.out.size h4) (owns_other h2 (fun k cs fr hc => hpk k cs _ fr hc)) (fun x hx => owns_other (h3 x hx) (fun k cs fr hc => hpk k cs _ fr hc)))
    have HD := Lib.hid hd
    clear h1 h2 h3 h4 hpk hS hd
    gi_wp2
    refine ⟨by simp, .inl ⟨_, _, rfl, run_takeDeferred HD.out, ?_⟩⟩
    refine ⟨.tuple #[.slice va vn vc, .int .i64 0], ?_, HX.out⟩
    simp [results, Tryz.f32, go_sem]
end Go.Proofs.YtbhicblkgjgenaaGreatDoor
namespace Go.Proofs.YtbhicblkgjgenaaGreatDoor
set_option linter.all false
attribute [local irreducible] Calls
open Go.RowKit

/-- What find.All answers, in one form. -/
def FlatF (rules : List RuleM) (l : List Prt) (w0 : World) (e : Ending) (w' : World) : Prop :=
  ∃ va vc xs, e = .returned (.tuple #[.slice va xs.length vc, .int .i64 (findErr rules l)]) ∧ xs.length ≤ vc ∧ xs.map (·.1) = (if findErr rules l = 0 then allM rules l else []) ∧ MchsIn w' (.slice va xs.length vc) xs ∧ Below w0.heap.size w0 w' ∧ w'.ownsRow w0.heap.size 63 3 (.slice va xs.length vc) xs.length (mchsV xs) ∧ ∀ x ∈ xs, MemM w0.heap.size x w'
theorem all_flat (rs : List RuleX) (hs : ∀ x ∈ rs, SmallR x.1) (l : List Prt) (hl : SmallL l) (vr vl : Value) (w : World) (hT : Tabs w) (hM : MaxC w) (hr : RulesIn w vr rs) (hlr : PartRow w vl l) :
    Calls Tryz.prog 32 #[vr, vl] w (FlatF (rs.map (·.1)) l w) := by
  refine (find_All rs hs l hl vr vl w hT hM hr hlr).mono fun e w' h => ?_
  unfold fallPost at h
  obtain ⟨hb, v, xs, he, hxs, hown, hmem⟩ := h
  obtain ⟨va, vc, rfl, hvc⟩ := Row.shape (Row.of_owns hown)
  exact ⟨va, vc, xs, he, hvc, hxs, ⟨Row.of_owns hown, fun x hx => Row.of_owns (hmem x hx)⟩, hb, hown, hmem⟩
/-- A match's binds are few. -/
theorem allM_small {rules : List RuleM} {l : List Prt} (hs : ∀ r ∈ rules, r.holes.length ≤ 1048576) (hl : l.length ≤ 1048576) : ∀ m ∈ allM rules l, m.2.2.length ≤ 1048576 := by
  intro m hm
  obtain ⟨_, r, τ, hr, ha, he⟩ := mem_allM.1 hm
  rw [he, (binds_small ha hl).1]
  exact hs r (List.mem_of_getElem? hr)
end Go.Proofs.YtbhicblkgjgenaaGreatDoor
namespace Go.Proofs.YtbhicblkgjgenaaGreatDoor
set_option linter.all false
open Go.RowKit

structure FreshW (B0 B1 ka : Nat) (w2 W : World) (xs : List MchX) : Prop where
  os : W.os = w2.os
  tape : W.tape = w2.tape
  output : W.output = w2.output
  size : W.heap.size = w2.heap.size
  far : ∀ k, (k < B0 ∨ B1 ≤ k) → W.heap[k]? = w2.heap[k]?
  row : 0 < xs.length → B0 ≤ ka ∧ ka < B1 ∧ ∃ cs, W.heap[ka]? = some (.cells cs 63 (0, 0)) ∧ xs.length * 3 ≤ cs.size ∧ ∀ i (hi : i < xs.length), cs[i * 3 + 2]? = some (xs[i]).2
  binds : ∀ x ∈ xs, 0 < x.1.2.2.length → ∃ g cs c, x.2 = .slice (some ⟨g, 0, none⟩) x.1.2.2.length c ∧ x.1.2.2.length ≤ c ∧ B0 ≤ g ∧ g < B1 ∧ W.heap[g]? = some (.cells cs 41 (0, 0)) ∧ x.1.2.2.length * 3 ≤ cs.size
theorem FreshW.bind {B0 B1 ka : Nat} {w2 W : World} {xs : List MchX} (h : FreshW B0 B1 ka w2 W xs) {g : Nat} {cs : Array Value} (hg : W.heap[g]? = some (.cells cs 41 (0, 0))) (h0 : B0 ≤ g) (h1 : g < B1) (j : Nat) (v : Value) : FreshW B0 B1 ka w2 (W.setCell ⟨g, j, none⟩ v) xs := by
  have hs := heap_setCell_same W g j _ _ v hg
  refine ⟨h.os, h.tape, h.output, by simpa using h.size, fun k hk => ?_, fun hp => ?_, fun x hx hl => ?_⟩
  · rw [heap_setCell_other _ _ _ _ (by show k ≠ g; omega)]; exact h.far k hk
  · obtain ⟨a, b, ds, c, d⟩ := h.row hp
    refine ⟨a, b, ds, ?_, d⟩
    rw [heap_setCell_other _ _ _ _ (by show ka ≠ g; intro e; rw [e, hg] at c; simp at c)]
    exact c
  · obtain ⟨g', ds, c, e1, e2, e3, e4, e5, e6⟩ := h.binds x hx hl
    by_cases e : g' = g
    · subst e
      rw [hg] at e5
      simp only [Option.some.injEq, Obj.cells.injEq, and_true] at e5
      subst e5
      exact ⟨g', _, c, e1, e2, e3, e4, hs, by simpa using e6⟩
    · exact ⟨g', ds, c, e1, e2, e3, e4, by rw [heap_setCell_other _ _ _ _ (by exact e)]; exact e5, e6⟩
theorem FreshW.part {B0 B1 ka : Nat} {w2 W : World} {xs : List MchX} (h : FreshW B0 B1 ka w2 W xs) (hp : 0 < xs.length) (i : Nat) (v : Value) : FreshW B0 B1 ka w2 (W.setCell ⟨ka, i * 3 + 1, none⟩ v) xs := by
  obtain ⟨a, b, cs, c, d, f⟩ := h.row hp
  have hs := heap_setCell_same W ka (i * 3 + 1) _ _ v c
  refine ⟨h.os, h.tape, h.output, by simpa using h.size, fun k hk => ?_, fun _ => ?_, fun x hx hl => ?_⟩
  · rw [heap_setCell_other _ _ _ _ (by show k ≠ ka; omega)]; exact h.far k hk
  · refine ⟨a, b, _, hs, by simpa using d, fun i' hi' => ?_⟩
    rw [Array.getElem?_setIfInBounds_ne (by omega)]
    exact f i' hi'
  · obtain ⟨g', ds, c', e1, e2, e3, e4, e5, e6⟩ := h.binds x hx hl
    exact ⟨g', ds, c', e1, e2, e3, e4, by rw [heap_setCell_other _ _ _ _ (by show g' ≠ ka; intro e; rw [e, c] at e5; simp at e5)]; exact e5, e6⟩
theorem FreshW.start {B0 : Nat} {w1 w2 : World} {xs : List MchX} {a : Option Addr} {c : Nat} (ho : w1.ownsRow B0 63 3 (.slice a xs.length c) xs.length (mchsV xs)) (hm : ∀ x ∈ xs, MemM B0 x w1) (hb : Below w1.heap.size w1 w2) :
    ∃ ka, (0 < xs.length → a = some ⟨ka, 0, none⟩ ∧ xs.length ≤ c) ∧ FreshW B0 w1.heap.size ka w2 w2 xs := by
  have hbs : ∀ x ∈ xs, 0 < x.1.2.2.length → ∃ g cs c, x.2 = .slice (some ⟨g, 0, none⟩) x.1.2.2.length c ∧ x.1.2.2.length ≤ c ∧ B0 ≤ g ∧ g < w1.heap.size ∧ w2.heap[g]? = some (.cells cs 41 (0, 0)) ∧ x.1.2.2.length * 3 ≤ cs.size := by
    intro x hx hl
    rcases (hm x hx).2 with ⟨_, e⟩ | ⟨g, cap, cur, hv, hk, hh, h1, _, h2, _⟩
    · omega
    · exact ⟨g, cur, cap, hv, h1, hk, keeps_lt hh, keeps hb hh, by rw [h2]; exact Nat.mul_le_mul_right 3 h1⟩
  rcases ho.2 with ⟨_, e⟩ | ⟨g, cap, cur, hv, hk, hh, h1, _, h2, h3⟩
  · exact ⟨0, fun h => by omega, ⟨rfl, rfl, rfl, rfl, fun _ _ => rfl, fun h => by omega, hbs⟩⟩
  · simp only [Value.slice.injEq] at hv
    obtain ⟨rfl, _, rfl⟩ := hv
    refine ⟨g, fun _ => ⟨rfl, h1⟩, ⟨rfl, rfl, rfl, rfl, fun _ _ => rfl, fun _ => ⟨hk, keeps_lt hh, cur, keeps hb hh, by rw [h2]; exact Nat.mul_le_mul_right 3 h1, fun i hi => ?_⟩, hbs⟩⟩
    have h4 := flat_at (g := mchV) (sz := 3) (fun _ => rfl) xs i 2 hi (by decide)
    have h5 : (mchsV xs)[i * 3 + 2]? = some (xs[i]).2 := h4.trans rfl
    rw [← h3, List.getElem?_take_of_lt (by omega), Array.getElem?_toList] at h5
    exact h5
theorem FreshW.below {B0 B1 ka : Nat} {w w2 W : World} {xs : List MchX} (h : FreshW B0 B1 ka w2 W xs) (hb : Below w.heap.size w w2) (h0 : w.heap.size ≤ B0) : Below w.heap.size w W :=
  ⟨h.os.trans hb.os, h.tape.trans hb.tape, h.output.trans hb.output, by rw [h.size]; exact hb.size, fun k hk => (h.far k (Or.inl (by omega))).trans (hb.block k hk)⟩
theorem FreshW.owns {B0 B1 ka : Nat} {w2 W : World} {xs : List MchX} (h : FreshW B0 B1 ka w2 W xs) {C : Nat} (hC : B1 ≤ C) {e : TypeId} {size n : Nat} {v : Value} {ys : List Value} (ho : w2.ownsRow C e size v n ys) : W.ownsRow C e size v n ys := by
  obtain ⟨h1, h2⟩ := ho
  refine ⟨h1, ?_⟩
  rcases h2 with h2 | ⟨g, cap, cur, hv, hk, hh, r⟩
  · exact Or.inl h2
  · exact Or.inr ⟨g, cap, cur, hv, hk, (h.far g (Or.inr (by omega))).trans hh, r⟩
theorem FreshW.rowc {B0 B1 ka : Nat} {w2 W : World} {xs : List MchX} (h : FreshW B0 B1 ka w2 W xs) {i : Nat} (hi : i < xs.length) : W.cell? ⟨ka, i * 3 + 2, none⟩ = some (xs[i]).2 ∧ (∃ v, W.cell? ⟨ka, i * 3 + 1, none⟩ = some v) ∧ W.frozen? ⟨ka, i * 3 + 1, none⟩ = false := by
  obtain ⟨_, _, cs, c, d, f⟩ := h.row (by omega)
  refine ⟨?_, ⟨cs[i * 3 + 1]'(by omega), ?_⟩, ?_⟩
  · simpa [World.cell?, c] using f i hi
  · simp [World.cell?, c]
  · simp [World.frozen?, c]
theorem FreshW.bindc {B0 B1 ka : Nat} {w2 W : World} {xs : List MchX} (h : FreshW B0 B1 ka w2 W xs) {x : MchX} (hx : x ∈ xs) {j : Nat} (hj : j < x.1.2.2.length) : ∃ g c, x.2 = .slice (some ⟨g, 0, none⟩) x.1.2.2.length c ∧ x.1.2.2.length ≤ c ∧ (∃ v0 v1 v2, W.cell? ⟨g, j * 3, none⟩ = some v0 ∧ W.cell? ⟨g, j * 3 + 1, none⟩ = some v1 ∧ W.cell? ⟨g, j * 3 + 2, none⟩ = some v2) ∧ W.frozen? ⟨g, j * 3, none⟩ = false ∧ W.frozen? ⟨g, j * 3 + 1, none⟩ = false ∧ W.frozen? ⟨g, j * 3 + 2, none⟩ = false ∧ ∀ a b c', FreshW B0 B1 ka w2 (((W.setCell ⟨g, j * 3, none⟩ a).setCell ⟨g, j * 3 + 1, none⟩ b).setCell ⟨g, j * 3 + 2, none⟩ c') xs := by
  obtain ⟨g, cs, c, e1, e2, e3, e4, e5, e6⟩ := h.binds x hx (by omega)
  refine ⟨g, c, e1, e2, ⟨cs[j * 3]'(by omega), cs[j * 3 + 1]'(by omega), cs[j * 3 + 2]'(by omega), by simp [World.cell?, e5], by simp [World.cell?, e5], by simp [World.cell?, e5]⟩, by simp [World.frozen?, e5], by simp [World.frozen?, e5], by simp [World.frozen?, e5], fun a b c' => ?_⟩
  have s1 := heap_setCell_same W g (j * 3) _ _ a e5
  have s2 := heap_setCell_same _ g (j * 3 + 1) _ _ b s1
  exact ((h.bind e5 e3 e4 _ a).bind s1 e3 e4 _ b).bind s2 e3 e4 _ c'
end Go.Proofs.YtbhicblkgjgenaaGreatDoor
