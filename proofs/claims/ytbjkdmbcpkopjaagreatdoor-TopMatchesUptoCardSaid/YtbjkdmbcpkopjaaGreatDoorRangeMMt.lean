/- A range over a function whose rounds are told what lies in memory at each call of yield, and whose body goes on in every round. -/
import Derived.RangeFuncNested
import Derived.RangeFuncBound
import Derived.Test.YtbjkdmbcpkopjaaGreatDoorCoreMt
namespace Go.Proofs.YtbjkdmbcpkopjaaGreatDoor
set_option linter.all false
open Go.RowKit

section
variable {P:Program} {α:Type}
def EachIs (P:Program) (gf:FuncId) (lb:Array Value) (enc:α→Array Value) (Mem:α→World→Prop) (Kp:World→World→Prop) (S:List α→Prop) (N:Nat) (w:World):Prop :=
 ∀ (l:Nat) (J:List α→World→Prop),(∀ pre W W',J pre W→Below W.heap.size W W'→J pre W') →
  (∀ pre x W1,J pre W1→Mem x W1→pre.length<N→YieldAt Fence.wide 2 P l (enc x) W1 fun e W'=>e=.returned (.bool true)∧J (pre++[x]) W'∧Kp W1 W') →
  J [] w→Calls P gf (#[.func (.yield l) #[] #[]]++lb) w fun e W'=>(∃ v,e=.returned v)∧∃ xs,S xs∧J xs W'
def roundM (J:List α→World→Prop) (Kp:World→World→Prop) (D:Nat) (pre:List α) (W:World):Exit→Act→World→Prop
 | .normal,_,W'=>W'.heap[D]?=W.heap[D]?∧W'.heap[D+1]?=W.heap[D+1]?∧Kp W W'∧J pre W'
 | _,_,_=>False
theorem zVl {g:Operand} {ps:Array Tmp} {assign body:Code} {Q:Exit→Act→World→Prop} {a:Act} {w:World}
  {gf:Nat} {lb:Array Value} (hg:a.eval g=.func (.func gf) #[] lb) (eg:∀ args w,(callFunc gf args).run P w=.ok (.enter gf args) w)
  {enc:α→Array Value} (hps:∀ x,(enc x).size=ps.size) (J:List α→World→Prop) {Mem:α→World→Prop} {Kp:World→World→Prop} {S:List α→Prop} {N:Nat} (Ax:α→Act→World→Prop)
  (hseq:∀ o,EachIs P gf lb enc Mem Kp S N ((w.alloc (.deferred (some []))).alloc o))
  (hJB:∀ pre W W',J pre W→Below W.heap.size W W'→J pre W') (hMB:∀ x W W',Mem x W→Below W.heap.size W W'→Mem x W')
  (hJP:∀ pre W o r,W.heap[w.heap.size+1]?=some (.loop r)→J pre W→J pre (W.putObj (w.heap.size+1) o)) (hMP:∀ x W o r,W.heap[w.heap.size+1]?=some (.loop r)→Mem x W→Mem x (W.putObj (w.heap.size+1) o))
  (hAP:∀ x a' W o r,W.heap[w.heap.size+1]?=some (.loop r)→Ax x a' W→Ax x a' (W.putObj (w.heap.size+1) o))
  (hKt:∀ {A B C:World},Kp A B→Kp B C→Kp A C) (hKB:∀ W W',Below W.heap.size W W'→Kp W W') (hKP:∀ W o r,W.heap[w.heap.size+1]?=some (.loop r)→Kp W (W.putObj (w.heap.size+1) o))
  (h0:J [] w)
  (hassign:∀ (l:Nat) (x:α) (W:World) (K:Act→World→Prop),Mem x W→(∀ a' W',Below W.heap.size W W'→Ax x a' W'→K a' W') →
   assign.wpIn (Fence.wide.inRound l) 2 P (Exit.then K (fun _ _ _=>False)) { tmps:=(ps.zip (enc x)).foldl (fun t (p,v)=>t.setIfInBounds p v) a.tmps,defers:=[] } W)
  (hbody:∀ (l:Nat) (pre:List α) (x:α) (a':Act) (W:World),J pre W→Mem x W→Ax x a' W→pre.length<N→w.heap.size+2≤W.heap.size→(∃ r,W.heap[w.heap.size+1]?=some (.loop r))→W.heap[w.heap.size]?=some (.deferred (some [])) →
   body.wpIn (Fence.wide.inRound l) 2 P (roundM J Kp w.heap.size (pre++[x]) W) a' W)
  (hdone:∀ (xs:List α) (W:World),S xs→J xs W→W.heap[w.heap.size]?=some (.deferred (some []))→Q .normal { a with defers:={ target:=.collected w.heap.size,args:=#[] }::a.defers } W) :
  (Code.rangeFunc g ps assign body).wpIn Fence.wide 3 P Q a w:=by
 refine wpIn_rangeFunc ?_;intro fn hfn;obtain ⟨rec,hrec⟩:∃ rec:LoopState→Option Code→Loop,rec=fun st pe=>{ state:=st,pending:=pe,fn,tmps:=a.tmps,params:=ps,assign,body,defers:=w.heap.size }:=⟨_,rfl⟩
 have hseq1:=hseq (.loop (rec .ready none));obtain ⟨W1,hW1⟩:∃ W1,(w.alloc (.deferred (some []))).alloc (.loop (rec .ready none))=W1:=⟨_,rfl⟩;rw [hW1] at hseq1;have hL1:W1.heap[w.heap.size+1]?=some (.loop (rec .ready none)):=by
  rw [← hW1];have:=World.alloc_heap_new (w.alloc (.deferred (some []))) (.loop (rec .ready none));rwa [World.size_alloc] at this
 have hK1:W1.heap[w.heap.size]?=some (.deferred (some [])):=by
  rw [← hW1];exact (Below.heap_alloc _ _ _ (by simp)).trans (World.alloc_heap_new w _)
 have hJ1:J [] W1:=by rw [← hW1];exact hJB _ _ _ h0 (((bR _ w).alloc (nR _) _).alloc (by simp) _)
 refine ⟨w.heap.size+1,[{ target:=.collected w.heap.size,args:=#[] }],W1,{ target:=.fn (.func gf) lb,args:=#[.func (.yield (w.heap.size+1)) #[] #[]] },W1,gf,
  #[.func (.yield (w.heap.size+1)) #[] #[]]++lb,W1,?_,?_,?_,?_,fun _=>by omega,?_⟩
 ·rw [← hW1,hrec];exact run_enterLoop_outer _ _ _ _ _
 ·simp only [resolve,hg];simp [go_sem]
 ·intro f' hf';trivial
 ·simp [invoke,go_sem,eg]
 ·refine callsIn_wide.2 ((hseq1 (w.heap.size+1)
   (fun pre W=>J pre W∧W.heap[w.heap.size+1]?=some (.loop (rec .ready none))∧W.heap[w.heap.size]?=some (.deferred (some [])))
   (fun pre W W' hs hb=>⟨hJB _ _ _ hs.1 hb,keeps hb hs.2.1,keeps hb hs.2.2⟩) ?_ ⟨hJ1,hL1,hK1⟩).mono ?_)
  ·rintro pre x W ⟨hj,hl,hk⟩ hm hlen;have hlt:w.heap.size+1<W.heap.size:=zG hl;have hy:=run_yield (P:=P) (args:=enc x) hl (by rw [hrec];exact hps x);rw [hrec] at hy;refine ⟨fn,_,assign,body,hy,roundIn_of_wpIn hfn (hassign _ x W _ hm ?_)⟩;clear hy;intro a' Wa hba hax;have hla:=keeps hba hl;have hka:=keeps hba hk;have hja:=hJB _ _ _ hj hba;have hma:=hMB _ _ _ hm hba;have hlta:w.heap.size+1<Wa.heap.size:=zG hla;refine ⟨_,run_beginRound hla (by rw [hrec]),?_⟩;obtain ⟨Wb,hWb⟩:∃ Wb,Wa.putObj (w.heap.size+1) (.loop { rec .ready none with state:=.busy })=Wb:=⟨_,rfl⟩;have hlb:Wb.heap[w.heap.size+1]?=some (.loop { rec .ready none with state:=.busy }):=by rw [← hWb];exact World.putObj_heap_same hlta
   have hkb:Wb.heap[w.heap.size]?=some (.deferred (some [])):=by rw [← hWb];exact (World.putObj_heap_other (by omega)).trans hka
   have hjb:J pre Wb:=by rw [← hWb];exact hJP _ _ _ _ hla hja
   have hmb:Mem x Wb:=by rw [← hWb];exact hMP _ _ _ _ hla hma
   have hab:Ax x a' Wb:=by rw [← hWb];exact hAP _ _ _ _ _ hla hax
   have hkp:Kp W Wb:=hKt (hKB _ _ hba) (by rw [← hWb];exact hKP _ _ _ hla);have hltb:w.heap.size+1<Wb.heap.size:=zG hlb;rw [hWb];refine wpIn_mono (hbody _ pre x a' Wb hjb hmb hab hlen (by omega) ⟨_,hlb⟩ hkb) ?_;rintro e a3 W3 hp;cases e with
   | normal =>
    obtain ⟨h3k,h3l,h3p,h3j⟩:=hp;rw [hlb] at h3l;rw [hkb] at h3k;have hr:=run_endRound (P:=P) none h3l;have hlt3:=zG h3l;refine ⟨_,_,hr,rfl,⟨hJP _ _ _ _ h3l h3j,?_,?_⟩,hKt (hKt hkp h3p) (hKP _ _ _ h3l)⟩
    ·rw [World.putObj_heap_same hlt3,hrec];rfl
    ·exact (World.putObj_heap_other (by omega)).trans h3k
   | ret=>exact hp.elim
   | exit id=>exact hp.elim
   | goto t=>exact hp.elim
   | panic ch=>exact hp.elim
   | outgrown=>exact hp.elim
  ·rintro e W2 ⟨⟨v,rfl⟩,xs,hS,hj,hl,hk⟩;exact ⟨none,_,by have:=run_endLoop (P:=P) hl (by rw [hrec];simp);rw [hrec] at this;exact this,hdone xs _ hS (hJP _ _ _ _ hl hj) ((World.putObj_heap_other (by omega)).trans hk)⟩
end
end Go.Proofs.YtbjkdmbcpkopjaaGreatDoor
