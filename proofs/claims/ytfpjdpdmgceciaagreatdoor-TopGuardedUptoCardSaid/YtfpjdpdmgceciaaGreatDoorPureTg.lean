/- Operations that only compute, taken all at once: the kernel runs them. -/
import Derived.Test.YtfpjdpdmgceciaaGreatDoorCoreTg
import Derived.Laws.Tables
import Derived.Deep.Cut
import Derived.Deep.WholeRow
namespace Go.Proofs.YtfpjdpdmgceciaaGreatDoor
open Go.RowKit
section
variable {P:Program}
def runAll(P:Program):List Oper->Act->World->Result Act
 |[],a,w=>.ok a w
 |o::l,a,w=>match(execOp a.eval o).run P w with
  | .ok (.value v) w'=>runAll P l (a.put o.dst v) w'
  | .ok .skip w'=>runAll P l (a.put o.dst undef) w'
  | .ok _ w' => .halt (.stuck "") w'
  | .halt h w'=>.halt h w'
def actAfter(P:Program)(l:List Oper)(a:Act):Act:=match runAll P l a default with
 | .ok a' _=>a'
 | .halt _ _=>a
theorem zAn{ops:Array Oper}{Q:Exit->Act->World->Prop}:∀(l1 l2:List Oper)(a a':Act)(w w':World),(l1.all λo=>o.guard.isNone)=true->runAll P l1 a w=.ok a' w'->wpList P ops Q l2 a' w'->wpList P ops Q (l1++l2) a w
 |[],l2,a,a',w,w',_,h,h2=>by simp only[runAll,Result.ok.injEq]at h;obtain⟨rfl,rfl⟩:=h;exact h2
 |o::l1,l2,a,a',w,w',hg,h,h2=>by
  simp only[List.all_cons,Bool.and_eq_true]at hg;have hg1:o.guard=none:=Option.isNone_iff_eq_none.1 hg.1;simp only[List.cons_append];refine wpList_plain hg1 λK hK=>?_;unfold runAll at h;unfold Oper.wp Oper.upon;generalize(execOp a.eval o).run P w=r at *;cases r with
  |halt h' w1=>simp at h
  |ok nx w1 =>
   cases nx with
   |value v=>exact hK _ _ (zAn l1 l2 _ _ _ _ hg.2 h h2)
   |skip=>exact hK _ _ (zAn l1 l2 _ _ _ _ hg.2 h h2)
   |_=>simp at h
theorem zNd{ops:Array Oper}{Q:Exit->Act->World->Prop}(n:Nat){l:List Oper}{a:Act}{w:World}(hg:((l.take n).all λo=>o.guard.isNone)=true)(h:runAll P (l.take n) a w=.ok (actAfter P (l.take n) a) w)(h2:wpList P ops Q (l.drop n) (actAfter P (l.take n) a) w):wpList P ops Q l a w:=by
 have:=zAn (ops:=ops) (Q:=Q) (l.take n) (l.drop n) a _ w w hg h h2
 rwa [List.take_append_drop]at this
def actOf(P:Program)(l:List Oper)(a:Act)(w:World):Act:=match runAll P l a w with
 | .ok a' _=>a'
 | .halt _ _=>a
theorem jW{ops:Array Oper}{Q:Exit->Act->World->Prop}(n:Nat){l:List Oper}{a:Act}{w:World}(w':World)(hg:((l.take n).all λo=>o.guard.isNone)=true)(h:runAll P (l.take n) a w=.ok (actOf P (l.take n) a w) w')(h2:wpList P ops Q (l.drop n) (actOf P (l.take n) a w) w'):wpList P ops Q l a w:=by
 have:=zAn (ops:=ops) (Q:=Q) (l.take n) (l.drop n) a _ w w' hg h h2
 rwa [List.take_append_drop]at this
end
end Go.Proofs.YtfpjdpdmgceciaaGreatDoor
