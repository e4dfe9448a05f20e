/- Layer 11 in plain Lean: how many kids a kind has, which words. -/
import Derived.Test.YtfpjdpdmgceciaaGreatDoorCoreTg
import Derived.Lib.IndexMore
import Derived.Test.YtfpjdpdmgceciaaGreatDoorTermTg
namespace Go.Proofs.YtfpjdpdmgceciaaGreatDoor
set_option linter.all false
def arL(k:Nat):Nat×Bool :=
 if k=2\/k=4\/k=11\/k=12\/k=13\/k=14\/k=20\/k=23\/k=25 then(0,true)
 else if k=10\/k=16\/k=18 then(1,true)
 else if k=0\/k=26\/k=27\/k=49 then(0,false)
 else if k=3\/k=19\/k=28\/k=33\/k=35\/k=36\/k=42\/k=43\/k=45\/k=46\/k=47\/k=48\/k=50\/k=52\/k=54\/k=55\/k=56\/k=57\/k=58\/k=63\/k=68 then(1,false)
 else if k=1\/k=6\/k=7\/k=21\/k=60\/k=66 then(3,false)
 else if k=31\/k=59\/k=61\/k=65 then(4,false)
 else if k=8 then(5,false)else(2,false)
def wGen:List (List UInt8):=[[105,109,112,111,114,116],[99,111,110,115,116],[118,97,114],[116,121,112,101]]
def wUn:List (List UInt8):=[[43],[45],[33],[94],[38],[60,45]]
def wBin:List (List UInt8):=[[124,124],[38,38],[61,61],[33,61],[60],[60,61],[62],[62,61],[43],[45],[124],[94],[42],[47],[37],[60,60],[62,62],[38],[38,94]]
def wChan:List (List UInt8):=[[99,104,97,110],[99,104,97,110,60,45],[60,45,99,104,97,110]]
def wInc:List (List UInt8):=[[43,43],[45,45]]
def wAsg:List (List UInt8):=[[61],[58,61],[43,61],[45,61],[42,61],[47,61],[37,61],[38,61],[124,61],[94,61],[60,60,61],[62,62,61],[38,94,61]]
def wBr:List (List UInt8):=[[98,114,101,97,107],[99,111,110,116,105,110,117,101],[103,111,116,111],[102,97,108,108,116,104,114,111,117,103,104]]
def wordsT(k:Nat):List (List UInt8) :=
 if k=3\/k=4 then wGen else if k=5 then[[46]]else if k=7 then[[61]]else if k=15\/k=34 then[[46,46,46]]else if k=36 then wUn else if k=37 then wBin
 else if k=45 then wChan else if k=52 then wInc else if k=53 then wAsg else if k=57 then wBr else if k=66 then[[61],[58,61]]else[]
def noneT(k:Nat):Bool:=!(decide (k=3\/k=4\/k=26\/k=27\/k=36\/k=37\/k=45\/k=52\/k=53\/k=57))
def jn:List (List UInt8)->List UInt8
 |[]=>[32]
 |v::vs=>32::(v++jn vs)
theorem zLv(ws:List (List UInt8)):∃t,jn ws=32::t:=by cases ws with
 |nil=>exact⟨_,rfl⟩
 |cons v vs=>exact⟨_,rfl⟩
theorem zFo:∀{v w a b:List UInt8},(32:UInt8)∉v->(32:UInt8)∉w->v++32::a=w++32::b->v=w/\a=b
 |[],[],a,b,_,_,h=>⟨rfl,by simpa using h⟩
 |[],c::w,a,b,_,h2,h=>by
  simp only[List.nil_append,List.cons_append,List.cons.injEq]at h;exact absurd (by rw[<-h.1];exact List.mem_cons_self) h2
 |c::v,[],a,b,h1,_,h=>by
  simp only[List.nil_append,List.cons_append,List.cons.injEq]at h;exact absurd (by rw[h.1];exact List.mem_cons_self) h1
 |c::v,d::w,a,b,h1,h2,h=>by
  simp only[List.cons_append,List.cons.injEq]at h;obtain⟨rfl,h⟩:=h;have:=zFo (λg=>h1 (List.mem_cons_of_mem _ g)) (λg=>h2 (List.mem_cons_of_mem _ g)) h;exact⟨by rw[this.1],this.2⟩
theorem zFp:∀{v t a c:List UInt8},(32:UInt8)∉v->v++t=a++32::c->∃a',a=v++a'/\t=a'++32::c
 |[],t,a,c,_,h=>⟨a,rfl,by simpa using h⟩
 |x::v,t,[],c,h1,h=>by
  simp only[List.nil_append,List.cons_append,List.cons.injEq]at h;exact absurd (by rw[h.1];exact List.mem_cons_self) h1
 |x::v,t,y::a,c,h1,h=>by
  simp only[List.cons_append,List.cons.injEq]at h;obtain⟨rfl,h⟩:=h;obtain⟨a',h2,h3⟩:=zFp (λg=>h1 (List.mem_cons_of_mem _ g)) h;exact⟨a',by rw[h2];rfl,h3⟩
theorem zKl:∀{ws:List (List UInt8)}{w a b:List UInt8},(∀v∈ws,(32:UInt8)∉v)->(32:UInt8)∉w->jn ws=a++32::(w++32::b)->w∈ws
 |[],w,a,b,_,_,h=>by
  have:=congrArg List.length h;simp[jn]at this;omega
 |v::vs,w,[],b,h1,h2,h=>by
  simp only[jn,List.nil_append,List.cons.injEq,true_and]at h;obtain⟨t,ht⟩:=zLv vs;rw[ht]at h;have:=(zFo (h1 v List.mem_cons_self) h2 h).1;rw[this];exact List.mem_cons_self
 |v::vs,w,c::a,b,h1,h2,h=>by
  simp only[jn,List.cons_append,List.cons.injEq]at h;obtain⟨a',h3,h4⟩:=zFp (h1 v List.mem_cons_self) h.2;exact List.mem_cons_of_mem _ (zKl (λu hu=>h1 u (List.mem_cons_of_mem _ hu)) h2 h4)
theorem zZd:∀{ws:List (List UInt8)}{w:List UInt8},w∈ws->∃a b,jn ws=a++(32::(w++[32]))++b
 |v::vs,w,h=>by
  rcases List.mem_cons.1 h with rfl|h
  .obtain⟨t,ht⟩:=zLv vs;exact⟨[],t,by rw[jn,ht];simp⟩
  .obtain⟨a,b,h2⟩:=zZd h;exact⟨32::(v++a),b,by rw[jn,h2];simp⟩
theorem zUo{s sub:List UInt8}{j:Nat}(hj:j<=s.length):Lib.occAt s sub j=true↔∃b,s=s.take j++(sub++b):=by
 unfold Lib.occAt;rw[List.isPrefixOf_iff_prefix];constructor
 .rintro⟨t,ht⟩;exact⟨t,by rw[ht,List.take_append_drop]⟩
 .rintro⟨b,hb⟩;refine⟨b,?_⟩;have h2:=List.take_append_drop j s
  conv at h2=>rhs;rw[hb]
  exact(List.append_cancel_left h2).symm
theorem zAe{s sub:List UInt8}:Lib.contains s sub=true↔∃a b,s=a++sub++b:=by
 unfold Lib.contains;rw[decide_eq_true_iff];constructor
 .intro h;rcases Lib.index_spec s sub with⟨h1,_⟩|⟨i,h1,h2,h3,_⟩
  .omega
  .obtain⟨b,hb⟩:=(zUo h2).1 h3;exact⟨s.take i,b,by rw[List.append_assoc];exact hb⟩
 .rintro⟨a,b,h⟩;rcases Lib.index_spec s sub with⟨_,h2⟩|⟨i,h1,_,_,_⟩
  .have hl:a.length<=s.length:=by rw[h,List.append_assoc,lA];omega
   have:=h2 a.length hl;rw[Bool.eq_false_iff]at this;refine absurd ((zUo hl).2 ⟨b,?_⟩) this;rw[List.append_assoc]at h;have e:s.take a.length=a:=by rw[h,List.take_append_of_le_length (nR _),List.take_length]
   rw[e];exact h
  .omega
theorem zAy{w:List UInt8}:Lib.contains w [32]=true↔(32:UInt8)∈w:=by
 rw[zAe];constructor
 .rintro⟨a,b,rfl⟩;simp
 .intro h;obtain⟨a,b,h⟩:=List.append_of_mem h;exact⟨a,b,by rw[h];simp⟩
theorem zOk{ws:List (List UInt8)}{w:List UInt8}(h1:∀v∈ws,(32:UInt8)∉v/\v≠[]):(decide (w≠[])&&(!Lib.contains w [32]&&Lib.contains (jn ws) (32::(w++[32]))))=decide (w∈ws):=by
 rw[Bool.eq_iff_iff];simp only[Bool.and_eq_true,decide_eq_true_eq,Bool.not_eq_true'];constructor
 .rintro⟨_,g2,g3⟩;obtain⟨a,b,h⟩:=zAe.1 g3;have h2:(32:UInt8)∉w:=λhw=>by rw[zAy.2 hw]at g2;cases g2
  exact zKl (a:=a) (b:=b) (λv hv=>(h1 v hv).1) h2 (by rw[h];simp)
 .intro h;refine⟨(h1 w h).2,?_,zAe.2 ?_⟩
  .rw[Bool.eq_false_iff];intro g;exact(h1 w h).1 (zAy.1 g)
  .obtain⟨a,b,e⟩:=zZd h;exact⟨a,b,e⟩
def wordsP(k:Nat):List UInt8 :=
 if k=3\/k=4 then jn wGen else if k=36 then jn wUn else if k=37 then jn wBin
 else if k=45 then jn wChan else if k=52 then jn wInc else if k=53 then jn wAsg else if k=57 then jn wBr else[]
theorem zOl(k:Nat):∀v∈wordsT k,(32:UInt8)∉v/\v≠[]:=by
 by_cases h:k<67
 .have:∀k,k<67->∀v∈wordsT k,(32:UInt8)∉v/\v≠[]:=V;exact this k h
 .have e:wordsT k=[]:=by unfold wordsT;repeat rw[iN Z]
  rw[e];intro v hv;cases hv
set_option maxRecDepth 100000
set_option maxHeartbeats 32000000
open Go.RowKit
theorem zRr(k:Nat)(hk:k<256)(w:World) :
  Calls Tryz.prog 47 #[.int .u8 (k:Int)] w λe w'=>e=.returned (.tuple #[.int .i64 ((arL k).1:Int),.bool (arL k).2])/\w=w':=by
 have HQ:Hid (∀(a:Nat) b,arL k=(a,b)->(λ(e:Ending) w'=>e=.returned (.tuple #[.int .i64 ((arL k).1:Int),.bool (arL k).2])/\w=w') (.returned (.tuple #[.int .i64 (a:Int),.bool b])) w):=Hd λa b h=>⟨by rw[h],rfl⟩
 generalize(λ(e:Ending) w'=>e=.returned (.tuple #[.int .i64 ((arL k).1:Int),.bool (arL k).2])/\w=w')=Q at *;go_enter Tryz.func47,Tryz.ntmps47;go_wp2_with fail;all_goals simp only[beq_iff_eq,bE]at *
 all_goals first
  |exact HQ.out 0 true (by unfold arL;rw[iP Z])
  |exact HQ.out 1 true (by unfold arL;rw[iN Z,iP Z])
  |exact HQ.out 0 false (by unfold arL;rw[iN Z,iN Z,iP Z])
  |exact HQ.out 1 false (by unfold arL;rw[iN Z,iN Z,iN Z,iP Z])
  |exact HQ.out 3 false (by unfold arL;rw[iN Z,iN Z,iN Z,iN Z,iP Z])
  |exact HQ.out 4 false (by unfold arL;rw[iN Z,iN Z,iN Z,iN Z,iN Z,iP Z])
  |exact HQ.out 5 false (by unfold arL;rw[iN Z,iN Z,iN Z,iN Z,iN Z,iN Z,iP Z])
  |exact HQ.out 2 false (by unfold arL;rw[iN Z,iN Z,iN Z,iN Z,iN Z,iN Z,iN Z])
theorem zRs(k:Nat)(hk:k<256)(w:World) :
  Calls Tryz.prog 80 #[.int .u8 (k:Int)] w λe w'=>e=.returned (.string ⟨(wordsP k).toArray⟩)/\w=w':=by
 have HQ:Hid (∀l,wordsP k=l->(λ(e:Ending) w'=>e=.returned (.string ⟨(wordsP k).toArray⟩)/\w=w') (.returned (.string ⟨l.toArray⟩)) w):=Hd λl h=>⟨by rw[h],rfl⟩
 generalize(λ(e:Ending) w'=>e=.returned (.string ⟨(wordsP k).toArray⟩)/\w=w')=Q at *;go_enter Tryz.func80,Tryz.ntmps80;go_wp2_with fail;all_goals simp only[beq_iff_eq,bE]at *
 all_goals first
  |exact HQ.out (jn wGen) (by unfold wordsP;rw[iP Z])
  |exact HQ.out (jn wUn) (by unfold wordsP;rw[iN Z,iP Z])
  |exact HQ.out (jn wBin) (by unfold wordsP;rw[iN Z,iN Z,iP Z])
  |exact HQ.out (jn wChan) (by unfold wordsP;rw[iN Z,iN Z,iN Z,iP Z])
  |exact HQ.out (jn wInc) (by unfold wordsP;rw[iN Z,iN Z,iN Z,iN Z,iP Z])
  |exact HQ.out (jn wAsg) (by unfold wordsP;rw[iN Z,iN Z,iN Z,iN Z,iN Z,iP Z])
  |exact HQ.out (jn wBr) (by unfold wordsP;rw[iN Z,iN Z,iN Z,iN Z,iN Z,iN Z,iP Z])
  |exact HQ.out [] (by unfold wordsP;rw[iN Z,iN Z,iN Z,iN Z,iN Z,iN Z,iN Z])
end Go.Proofs.YtfpjdpdmgceciaaGreatDoor
