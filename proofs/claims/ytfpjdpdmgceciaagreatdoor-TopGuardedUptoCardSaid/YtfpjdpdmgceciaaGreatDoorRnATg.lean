/- Layer 14: the text of a tree of expressions. -/
import Derived.Test.YtfpjdpdmgceciaaGreatDoorRnXTg
import Derived.Test.YtfpjdpdmgceciaaGreatDoorGtPTg
import Derived.Test.YtfpjdpdmgceciaaGreatDoorCoreTg
import Derived.Test.YtfpjdpdmgceciaaGreatDoorCheckBTg
namespace Go.Proofs.YtfpjdpdmgceciaaGreatDoor
set_option linter.all false
attribute [local irreducible] Calls
open Go.RowKit
section
variable {E:WrE} {us:List Nat}
theorem fG(hE:E.en=endsL E.l){x:ExT}(hx:x.srt=1\/x.srt=2){k:Nat}{post:List Prt}(h:E.l.drop k=x.flat++post)(hp:zC post=some us):E.en[k]?=some ((k+x.flat.length:Nat):Int):=by
 have hl:k<E.l.length:=by
  rcases Nat.lt_or_ge k E.l.length with c|c
  .exact c
  .rw[List.drop_eq_nil_of_le c]at h;obtain⟨q,hq⟩:=ExT.one_ne hx;rw[hq]at h;cases h
 rw[hE];unfold endsL;rw[List.getElem?_map,List.getElem?_range hl,Option.map_some,ExT.end_one hx h hp]
theorem zBr{k stop:Nat}{p:Prt}{q:List Prt}{ks:List Nat}{t:List UInt8}(HL:Hid (zG E.w0 E.lv E.l))(hl:E.l.length<=1000000)(hE:E.en=endsL E.l)(hd:E.l.drop k=p::q)(h49:p.1<49)(hst:zB E.l k=stop)(hs:stop<=E.l.length)(hch:Chn E.en (k+1) ks stop)(hks:ks.length<=1000000)(h:∀(g:Nat)(out:List UInt8)(W1:World)(kv:Value),Hid (Wt E g out W1)->KdV W1 kv ks->(out++t).length<=1000000000->Calls Tryz.prog (if p.1<26 then 84 else 85) #[wpV g,prtV p,kv] W1 (WP E g (out++t) W1 (.tuple #[]))):PO E k t:=by
 intro g out W HW hln;have hk:k<E.l.length:=by
  rcases Nat.lt_or_ge k E.l.length with c|c
  .exact c
  .rw[List.drop_eq_nil_of_le c]at hd;cases hd
 have he:E.l[k]=p:=by
  have:=List.getElem?_drop (xs:=E.l) (i:=k) (j:=0);rw[hd,Nat.add_zero,gE hk]at this;exact(Option.some.inj this).symm
 have hen:E.en[k]?=some (stop:Int):=by
  rw[hE];unfold endsL;rw[List.getElem?_map,List.getElem?_range hk,Option.map_some,hst]
 refine yFw HL HW.out hk (by rw[he];exact h49) hen hch ⟨by rw[hE];unfold endsL;simp;exact hl,Z,hks⟩ (λh26 W1 kv h1 h2=>?_) (λh26 W1 kv h1 h2=>?_)
 .rw[he]at h26 ⊢;have:=h g out W1 kv h1 h2 hln;rw[iP h26]at this;exact this
 .rw[he]at h26 ⊢;have:=h g out W1 kv h1 h2 hln;rw[iN h26]at this;exact this
theorem zNr:∀{r:ExT},r.srt=3->allT [44,32] r.rowT=r.txt
 | .nil,_=>rfl
 | .cons a r,h=>by
  have ha:a.srt=1/\r.srt=3:=by simp only[ExT.srt]at h;split at h<;>first|assumption|omega
  rw[ExT.rowT,zQq,zNr ha.2,ExT.txt];cases r<;>first|rfl|(simp[ExT.srt]at ha;done)|(exfalso;have:=ha.2;simp only[ExT.srt]at this;split at this<;>omega)
 | .none,h| .name _,h| .lit _,h=>by simp[ExT.srt]at h
 | .paren _,h| .sel _ _,h| .index _ _,h| .slice _ _ _ _,h| .call _ _ _,h| .star _,h| .un _ _,h| .bin _ _ _,h=>by simp only[ExT.srt]at h;split at h<;>omega
theorem zQp{a:ExT}(h:a.srt=1):(if a.head.1=27 then[32]else[]:List UInt8)=if a.isLit then[32]else[]:=by
 cases a<;>first|rfl|(exfalso;exact zIh (Or.inl h))|(simp[ExT.srt]at h)
theorem zVg{a:ExT}(h:a.srt=1):(if a.head.1=36 then[32]else[]:List UInt8)=if a.isUn then[32]else[]:=by
 cases a<;>first|rfl|(exfalso;exact zIh (Or.inl h))|(simp[ExT.srt]at h)
theorem yCr:∀{r:ExT},r.srt=3->r.cnt<=r.flat.length
 | .nil,_=>nR _
 | .cons a r,h=>by
  have ha:a.srt=1/\r.srt=3:=by simp only[ExT.srt]at h;split at h<;>first|assumption|omega
  have:=yCr ha.2;have:=ExT.len_pos (Or.inl ha.1);simp only[ExT.cnt,ExT.flat,lA];omega
 | .none,h| .name _,h| .lit _,h=>by simp[ExT.srt]at h
 | .paren _,h| .sel _ _,h| .index _ _,h| .slice _ _ _ _,h| .call _ _ _,h| .star _,h| .un _ _,h| .bin _ _ _,h=>by simp only[ExT.srt]at h;split at h<;>omega
theorem zVh{a:ExT}(ha:a.srt=1){k:Nat}{post:List Prt}(h:E.l.drop k=a.flat++post):∃hk:k<E.l.length,E.l[k]=a.head:=by
 obtain⟨q,hq⟩:=ExT.one_ne (Or.inl ha);rw[hq]at h;have hk:k<E.l.length:=by
  rcases Nat.lt_or_ge k E.l.length with c|c
  .exact c
  .rw[List.drop_eq_nil_of_le c]at h;cases h
 refine⟨hk,?_⟩;have:=List.getElem?_drop (xs:=E.l) (i:=k) (j:=0);rw[h,Nat.add_zero,gE hk]at this;exact(Option.some.inj this).symm
theorem kN{k:Nat}{x post:List Prt}(hpos:0<x.length)(h:E.l.drop k=x++post):k+x.length<=E.l.length:=by
 have:=congrArg List.length h;rw[List.length_drop,lA]at this;omega
section
variable (HL:Hid (zG E.w0 E.lv E.l)) (hl:E.l.length<=1000000) (hE:E.en=endsL E.l)
include HL hl hE
theorem zVi{r:ExT}{k:Nat}{post:List Prt}(hr:r.srt=3)(h:E.l.drop k=(11,(r.cnt:Int),bE0)::(r.flat++post))(hp:zC post=some us)(hk:∃ks,ks.length=r.cnt/\Chn E.en (k+1) ks (k+1+r.flat.length)/\POs E ks r.rowT):PO E k r.txt/\E.en[k]?=some ((k+1+r.flat.length:Nat):Int):=by
 obtain⟨ks,k1,k2,k3⟩:=hk;obtain⟨g1,g2⟩:=ExT.row_sizes hr;have he:zB E.l k=k+1+r.flat.length:=by
  unfold zB;rw[h,yY (t:=1+r.flat.length) (ts:=us) (by
   rw[yC (ExT.rows_x r Z hp) Ob (by simp;omega)];simp only[Int.toNat_natCast,<-g1,List.take_left',List.drop_left',g2])]
  omega
 have hlen:=kN (x:=(11,(r.cnt:Int),bE0)::r.flat) Ob h;simp only[lC]at hlen;have hc:=yCr hr;refine⟨zBr HL hl hE h Ob he Z k2 Z λg out W1 kv h1 h2 h3=>?_,?_⟩
 .have:=yIc (E:=E) (k:=11) (n:=(r.cnt:Int)) (w:=bE0) (ts:=r.rowT) rfl h1 h2 k3 Z (by rw[zNr hr];exact h3);rw[zNr hr]at this;exact this
 .rw[hE];unfold endsL;rw[List.getElem?_map,List.getElem?_range Z,Option.map_some,he]
theorem zNs{x:ExT}{kd:Nat}{w:ByteArray}(hk:kd=26\/kd=27)(hx:x.srt=1)(hf:x.flat=[(kd,0,w)]){k:Nat}{post:List Prt}(h:E.l.drop k=x.flat++post)(hp:zC post=some us):PO E k w.data.toList:=by
 have he:=ExT.end_one (Or.inl hx) h hp;have hs:=kN (by rw[hf];simp) h;rw[hf]at h he hs;refine zBr (ks:=[]) HL hl hE h (by rcases hk with rfl|rfl<;>simp) he hs rfl Ob λg out W1 kv h1 h2 h3=>?_;rcases hk with rfl|rfl
 .exact zVk (Or.inl rfl) h1 h3
 .exact zVk (Or.inr rfl) h1 h3
theorem rn_x(z:ExT):(∀p∈z.flat,p.2.2.size<=1000000)->∀{k:Nat}{post:List Prt}{us:List Nat},E.l.drop k=z.flat++post->zC post=some us->
  (z.srt=1\/z.srt=2->PO E k z.txt)/\(z.srt=3->∃ks,ks.length=z.cnt/\Chn E.en k ks (k+z.flat.length)/\POs E ks z.rowT):=by
 induction z with
 |none =>
  intro hw k post us h hp;refine⟨λhz=>?_,λh3=>by simp[ExT.srt]at h3⟩;have he:=ExT.end_one hz h hp;exact zBr (ks:=[]) HL hl hE h Ob he (kN (by simp[ExT.flat]) h) rfl Ob λg out W1 kv h1 h2 h3=>by
   have:=yFx (E:=E) (k:=0) (n:=0) (w:=bE0) rfl h1 h2
   simpa[ExT.txt]using this
 |nil =>
  intro hw k post us h hp;exact⟨λhz=>by simp[ExT.srt]at hz,λ_=>⟨[],rfl,rfl,trivial⟩⟩
 |name w =>
  intro hw k post us h hp;exact⟨λhz=>zNs HL hl hE (Or.inl rfl) rfl rfl h hp,λh3=>by simp[ExT.srt]at h3⟩
 |lit w =>
  intro hw k post us h hp;exact⟨λhz=>zNs HL hl hE (Or.inr rfl) rfl rfl h hp,λh3=>by simp[ExT.srt]at h3⟩
 |cons a r iha ihr =>
  intro hw k post us h hp;refine⟨λhz=>(zIh hz).elim,λh3=>?_⟩;have ha:a.srt=1/\r.srt=3:=by simp only[ExT.srt]at h3;split at h3<;>first|assumption|omega
  simp only[ExT.flat,List.append_assoc]at h hw;have h2:=ExT.drop_app h;have p2:=ExT.rows_x r Z hp;have P:=(iha (λp hp=>hw p (List.mem_append_left _ hp)) h p2).1 (Or.inl ha.1);obtain⟨ks,k1,k2,k3⟩:=(ihr (λp hp=>hw p (List.mem_append_right _ hp)) h2 hp).2 ha.2;have hpos:=ExT.len_pos (Or.inl ha.1);refine⟨k::ks,by simp[k1,ExT.cnt],⟨rfl,_,fG hE (Or.inl ha.1) h p2,Z,?_⟩,⟨P,k3⟩⟩;rw[show k+(ExT.cons a r).flat.length=k+a.flat.length+r.flat.length by simp[ExT.flat];omega];exact k2
 |paren a ih =>
  intro hw k post us h hp;refine⟨λhz=>?_,λh3=>by simp only[ExT.srt]at h3;split at h3<;>omega⟩;have ha:a.srt=1:=by simp only[ExT.srt]at hz;split at hz<;>omega
  have he:=ExT.end_one hz h hp;have hs:=kN (by simp[ExT.flat]) h;have h1:=(ExT.drop_tl h).2;have P:=(ih (λp hp=>hw p (.tail _ hp)) h1 hp).1 (Or.inl ha);have hpos:=ExT.len_pos (Or.inl ha);refine zBr (ks:=[k+1]) HL hl hE h Ob he hs ⟨rfl,_,fG hE (Or.inl ha) h1 hp,Z,by show _=_;simp[ExT.flat];omega⟩ Ob λg out W1 kv g1 g2 g3=>?_;have:=zHc (E:=E) (k:=28) (n:=1) (w:=bE0) (ts:=[a.txt]) (Or.inl rfl) g1 g2 ⟨P,trivial⟩ rfl (by simpa[mixT,wrapK,ExT.txt]using g3) V
  simpa[mixT,wrapK,ExT.txt]using this
 |star a ih =>
  intro hw k post us h hp;refine⟨λhz=>?_,λh3=>by simp only[ExT.srt]at h3;split at h3<;>omega⟩;have ha:a.srt=1:=by simp only[ExT.srt]at hz;split at hz<;>omega
  have he:=ExT.end_one hz h hp;have hs:=kN (by simp[ExT.flat]) h;have h1:=(ExT.drop_tl h).2;have P:=(ih (λp hp=>hw p (.tail _ hp)) h1 hp).1 (Or.inl ha);have hpos:=ExT.len_pos (Or.inl ha);refine zBr (ks:=[k+1]) HL hl hE h Ob he hs ⟨rfl,_,fG hE (Or.inl ha) h1 hp,Z,by show _=_;simp[ExT.flat];omega⟩ Ob λg out W1 kv g1 g2 g3=>?_;have:=zHc (E:=E) (k:=35) (n:=1) (w:=bE0) (ts:=[a.txt]) (Or.inr (Or.inr (Or.inl rfl))) g1 g2 ⟨P,trivial⟩ rfl (by simpa[mixT,wrapK,ExT.txt]using g3) V
  simpa[mixT,wrapK,ExT.txt]using this
 |un w a ih =>
  intro hw k post us h hp;refine⟨λhz=>?_,λh3=>by simp only[ExT.srt]at h3;split at h3<;>omega⟩;have ha:a.srt=1:=by simp only[ExT.srt]at hz;split at hz<;>omega
  have he:=ExT.end_one hz h hp;have hs:=kN (by simp[ExT.flat]) h;have h1:=(ExT.drop_tl h).2;have P:=(ih (λp hp=>hw p (.tail _ hp)) h1 hp).1 (Or.inl ha);have hpos:=ExT.len_pos (Or.inl ha);obtain⟨hk,hh⟩:=zVh ha h1;refine zBr (ks:=[k+1]) HL hl hE h Ob he hs ⟨rfl,_,fG hE (Or.inl ha) h1 hp,Z,by show _=_;simp[ExT.flat];omega⟩ Ob λg out W1 kv g1 g2 g3=>?_;have:=yJa (E:=E) (k:=36) (n:=1) (w:=w) rfl HL g1 g2 P hk (by rw[hh,zVg ha];exact g3);rw[hh,zVg ha]at this;exact this
 |bin w a b iha ihb =>
  intro hw k post us h hp;refine⟨λhz=>?_,λh3=>by simp only[ExT.srt]at h3;split at h3<;>omega⟩;have ha:a.srt=1/\b.srt=1:=by simp only[ExT.srt]at hz;split at hz<;>first|assumption|omega
  have he:=ExT.end_one hz h hp;have hs:=kN (by simp[ExT.flat]) h;have hws:w.size<=1000000:=hw _ (.head _);have h1:E.l.drop (k+1)=a.flat++(b.flat++post):=(ExT.drop_tl h).2.trans (List.append_assoc _ _ _);have h2:=ExT.drop_app h1;have p2:=ExT.rows_x b Z hp;have P:=(iha (λp hp=>hw p (.tail _ (List.mem_append_left _ hp))) h1 p2).1 (Or.inl ha.1);have P2:=(ihb (λp hp=>hw p (.tail _ (List.mem_append_right _ hp))) h2 hp).1 (Or.inl ha.2);have hpos:=ExT.len_pos (Or.inl ha.1);have hpos2:=ExT.len_pos (Or.inl ha.2);refine zBr (ks:=[k+1,k+1+a.flat.length]) HL hl hE h Ob he hs ⟨rfl,_,fG hE (Or.inl ha.1) h1 p2,Z,rfl,_,fG hE (Or.inl ha.2) h2 hp,Z,by show _=_;simp[ExT.flat];omega⟩ Ob λg out W1 kv g1 g2 g3=>?_;have:=zHc (E:=E) (k:=37) (n:=2) (w:=w) (ts:=[a.txt,b.txt]) (Or.inr (Or.inr (Or.inr rfl))) g1 g2 ⟨P,P2,trivial⟩ rfl (by simpa[mixT,wrapK,ExT.txt]using g3) hws
  simpa[mixT,wrapK,ExT.txt]using this
 |sel a w ih =>
  intro hw k post us h hp;refine⟨λhz=>?_,λh3=>by simp only[ExT.srt]at h3;split at h3<;>omega⟩;have ha:a.srt=1:=by simp only[ExT.srt]at hz;split at hz<;>omega
  have he:=ExT.end_one hz h hp;have hs:=kN (by simp[ExT.flat]) h;have h1:E.l.drop (k+1)=a.flat++((ExT.name w).flat++post):=(ExT.drop_tl h).2.trans (List.append_assoc _ _ _);have h2:=ExT.drop_app h1;have p2:=ExT.rows_x (.name w) (by simp[ExT.srt]) hp;have P:=(ih (λp hp=>hw p (.tail _ (List.mem_append_left _ hp))) h1 p2).1 (Or.inl ha);have P2:=zNs HL hl hE (Or.inl rfl) rfl rfl h2 hp;have hpos:=ExT.len_pos (Or.inl ha);obtain⟨hk,hh⟩:=zVh ha h1;refine zBr (ks:=[k+1,k+1+a.flat.length]) HL hl hE h Ob he hs ⟨rfl,_,fG hE (Or.inl ha) h1 p2,Z,rfl,_,fG hE (x:=.name w) (Or.inl rfl) h2 hp,by simp[ExT.flat],by show _=_;simp[ExT.flat];omega⟩ Ob λg out W1 kv g1 g2 g3=>?_;have:=yId (E:=E) (k:=29) (n:=2) (w:=bE0) rfl HL g1 g2 P P2 hk (by rw[hh,zQp ha];exact g3);rw[hh,zQp ha]at this;exact this
 |index a r iha ihr =>
  intro hw k post us h hp;refine⟨λhz=>?_,λh3=>by simp only[ExT.srt]at h3;split at h3<;>omega⟩;have ha:a.srt=1/\r.srt=3/\1<=r.cnt:=by simp only[ExT.srt]at hz;split at hz<;>first|assumption|omega
  have he:=ExT.end_one hz h hp;have hs:=kN (by simp[ExT.flat]) h;have h1:E.l.drop (k+1)=a.flat++((11,(r.cnt:Int),bE0)::(r.flat++post)):=(ExT.drop_tl h).2.trans (by simp[ExT.flat]);have h2:=ExT.drop_app h1;obtain⟨s1,s2⟩:=ExT.row_sizes ha.2.1;have p2:zC (((11,(r.cnt:Int),bE0):Prt)::(r.flat++post))=some ((1+r.flat.length)::us):=by
   rw[yC (ExT.rows_x r Z hp) Ob (by simp;omega)];simp only[Int.toNat_natCast,<-s1,List.take_left',List.drop_left',s2]
  have P:=(iha (λp hp=>hw p (.tail _ (List.mem_append_left _ hp))) h1 p2).1 (Or.inl ha.1);obtain⟨P2,e2⟩:=zVi HL hl hE ha.2.1 h2 hp ((ihr (λp hp=>hw p (.tail _ (List.mem_append_right _ (.tail _ hp)))) (ExT.drop_tl h2).2 hp).2 ha.2.1);have hpos:=ExT.len_pos (Or.inl ha.1);refine zBr (ks:=[k+1,k+1+a.flat.length]) HL hl hE h Ob he hs ⟨rfl,_,fG hE (Or.inl ha.1) h1 p2,Z,rfl,_,e2,Z,by show _=_;simp[ExT.flat];omega⟩ Ob λg out W1 kv g1 g2 g3=>?_;have:=zHc (E:=E) (k:=30) (n:=2) (w:=bE0) (ts:=[a.txt,r.txt]) (Or.inr (Or.inl rfl)) g1 g2 ⟨P,P2,trivial⟩ rfl (by simpa[mixT,wrapK,ExT.txt]using g3) V
  simpa[mixT,wrapK,ExT.txt]using this
 |call a r w iha ihr =>
  intro hw k post us h hp;refine⟨λhz=>?_,λh3=>by simp only[ExT.srt]at h3;split at h3<;>omega⟩;have ha:a.srt=1/\r.srt=3/\(w≠bE0->1<=r.cnt):=by simp only[ExT.srt]at hz;split at hz<;>first|assumption|omega
  have he:=ExT.end_one hz h hp;have hs:=kN (by simp[ExT.flat]) h;have h1:E.l.drop (k+1)=a.flat++((11,(r.cnt:Int),bE0)::(r.flat++post)):=(ExT.drop_tl h).2.trans (by simp[ExT.flat]);have h2:=ExT.drop_app h1;obtain⟨s1,s2⟩:=ExT.row_sizes ha.2.1;have p2:zC (((11,(r.cnt:Int),bE0):Prt)::(r.flat++post))=some ((1+r.flat.length)::us):=by
   rw[yC (ExT.rows_x r Z hp) Ob (by simp;omega)];simp only[Int.toNat_natCast,<-s1,List.take_left',List.drop_left',s2]
  have P:=(iha (λp hp=>hw p (.tail _ (List.mem_append_left _ hp))) h1 p2).1 (Or.inl ha.1);obtain⟨P2,e2⟩:=zVi HL hl hE ha.2.1 h2 hp ((ihr (λp hp=>hw p (.tail _ (List.mem_append_right _ (.tail _ hp)))) (ExT.drop_tl h2).2 hp).2 ha.2.1);have hpos:=ExT.len_pos (Or.inl ha.1);refine zBr (ks:=[k+1,k+1+a.flat.length]) HL hl hE h Ob he hs ⟨rfl,_,fG hE (Or.inl ha.1) h1 p2,Z,rfl,_,e2,Z,by show _=_;simp[ExT.flat];omega⟩ Ob λg out W1 kv g1 g2 g3=>?_;exact yFy (E:=E) (k:=34) (n:=2) (w:=w) rfl g1 g2 P P2 g3
 |slice a b c d iha ihb ihc ihd =>
  intro hw k post us h hp;refine⟨λhz=>?_,λh3=>by simp only[ExT.srt]at h3;split at h3<;>omega⟩;have hab:a.srt=1/\(b.srt=1\/b.srt=2)/\(c.srt=1\/c.srt=2)/\(d.srt=1\/d.srt=2)/\(c.srt=2->d.srt=2):=by simp only[ExT.srt]at hz;split at hz<;>first|assumption|omega
  obtain⟨ha,hb,hc,hd,-⟩:=hab;have he:=ExT.end_one hz h hp;have hs:=kN (by simp[ExT.flat]) h;have h1:E.l.drop (k+1)=a.flat++(b.flat++(c.flat++(d.flat++post))):=(ExT.drop_tl h).2.trans (by simp[ExT.flat]);have h2:=ExT.drop_app h1;have h3:=ExT.drop_app h2;have h4:=ExT.drop_app h3;have p4:=ExT.rows_x d Z hp;have p3:=ExT.rows_x c Z p4;have p2:=ExT.rows_x b Z p3;have m:∀x,x∈a.flat++(b.flat++(c.flat++d.flat))->x.2.2.size<=1000000:=λx hx=>hw x (.tail _ hx)
  have P1:=(iha (λp hp=>m p (List.mem_append_left _ hp)) h1 p2).1 (Or.inl ha);have P2:=(ihb (λp hp=>m p (List.mem_append_right _ (List.mem_append_left _ hp))) h2 p3).1 hb;have P3:=(ihc (λp hp=>m p (List.mem_append_right _ (List.mem_append_right _ (List.mem_append_left _ hp)))) h3 p4).1 hc;have P4:=(ihd (λp hp=>m p (List.mem_append_right _ (List.mem_append_right _ (List.mem_append_right _ hp)))) h4 hp).1 hd;have q1:=ExT.len_pos (Or.inl ha);have q2:=ExT.len_pos hb;have q3:=ExT.len_pos hc;have q4:=ExT.len_pos hd;refine zBr (ks:=[k+1,k+1+a.flat.length,k+1+a.flat.length+b.flat.length,k+1+a.flat.length+b.flat.length+c.flat.length]) HL hl hE h Ob he hs ⟨rfl,_,fG hE (Or.inl ha) h1 p2,Z,rfl,_,fG hE hb h2 p3,Z,rfl,_,fG hE hc h3 p4,Z,rfl,_,fG hE hd h4 hp,Z,by show _=_;simp[ExT.flat];omega⟩ Ob λg out W1 kv g1 g2 g3=>?_;exact yCw (E:=E) (k:=31) (n:=4) (w:=bE0) rfl g1 g2 P1 P2 P3 P4 g3
end
end
set_option maxRecDepth 100000
set_option maxHeartbeats 32000000
attribute [local irreducible] wpStill
abbrev endO(X:List Int):Obj:=.cells (X.map (Value.int .i64)).toArray 3 (0,0)
@[irreducible] def weRel(l:List Prt)(w:World)(B:Nat)(o:Obj)(iv:Value)(wr:World):Prop :=
 ∃(k:Nat) (X:List Int),iv=.int .i64 ((k:Int)-1)/\k<=l.length/\X.length=l.length/\(∀j,k<=j->j<l.length->X.getD j 0=(zB l j:Int))/\wr.heap[B]?=some (endO X)/\wr.heap[B+1]?=some o/\Below B w wr
@[irreducible] def weIn(l:List Prt)(w:World)(B:Nat)(o:Obj)(X:List Int)(i q:Nat)(cv:Value)(wr:World):Prop :=
 ∃c:Nat,cv=.int .i64 (c:Int)/\c<=q/\wr.heap[B]?=some (endO (X.set i (jU l c (i+1):Int)))/\wr.heap[B+1]?=some o/\Below B w wr
@[irreducible] def WrQ(t:List UInt8)(w:World)(e:Ending)(W':World):Prop:=e=.returned (.tuple #[.string ⟨t.toArray⟩,.int .i64 0])/\Below w.heap.size w W'
theorem yFp{x:ExT}(hx:x.srt=1)(hl:x.flat.length<=1000000)(hw:∀p∈x.flat,p.2.2.size<=1000000)(ht:x.txt.length<=65536)(v:Value)(w:World)(hr:zG w v x.flat):Calls Tryz.prog 31 #[v,.slice none 0 0] w (WrQ x.txt w):=by
 have HQ:Hid (∀W',Below w.heap.size w W'->WrQ x.txt w (.returned (.tuple #[.string ⟨x.txt.toArray⟩,.int .i64 0])) W'):=Hd λW' h=>by unfold WrQ;exact⟨rfl,h⟩
 generalize WrQ x.txt w=Q at *;obtain⟨us,hus⟩:∃us,zC x.flat=some us:=⟨_,by have:=ExT.rows_x x Z xJ;rw[List.append_nil]at this;exact this⟩;have HTL:=Hd ht;have HR:=Hd hr;have HU:=Hd hus;have HXX:Hid (x.srt=1/\∀p∈x.flat,p.2.2.size<=1000000):=Hd ⟨hx,hw⟩;obtain⟨va,vc,rfl,hvc⟩:=hr.slice;have hpos:=ExT.len_pos (Or.inl hx);obtain⟨l,hle⟩:∃l,l=x.flat:=⟨_,rfl⟩;rw[<-hle]at HR HU hl hpos hvc ⊢;have HLE:=Hd hle;clear hr hus hx hw ht hle;have hmk:=zDe l.length Z;have hwl:IntKind.i64.wrap ((l.length:Int)-1)=(l.length:Int)-1:=wI Z;obtain⟨o,ho⟩:∃o:Obj,o=.cells #[.pointer none,.slice none 0 0,.slice va l.length vc,.slice none 0 0,.slice (some ⟨w.heap.size,0,none⟩) l.length l.length] 96 (0,0):=⟨_,rfl⟩;go_enter Tryz.func31,Tryz.ntmps31;go_wp2_with fail;have HAT:Hid (weRel l w w.heap.size o (.int .i64 ((l.length:Int)-1)) ((w.alloc (.cells (Array.replicate l.length (Value.int .i64 0)) 3)).alloc o)):=Hd (by
  unfold weRel;refine⟨l.length,List.replicate l.length 0,rfl,nR _,Ob,λi h1 h2=>Z,?_,?_,?_⟩
  .rw[Below.heap_alloc _ _ _ Ob,heap_alloc_new];simp[endO]
  .have:=heap_alloc_new (w.alloc (.cells (Array.replicate l.length (Value.int .i64 0)) 3)) o
   simpa using this
  .exact((bR _ _).alloc (nR _) _).alloc Ob _)
 rw[<-ho];generalize(w.alloc (.cells (Array.replicate l.length (Value.int .i64 0)) 3)).alloc o=W0 at *;generalize hBB:w.heap.size=B at *;have HBB:=Hd hBB;have HO:=Hd ho;have CO:Hid (∀wr:World,wr.heap[B+1]?=some o->wr.cell? ⟨B+1,4,none⟩=some (.slice (some ⟨B,0,none⟩) l.length l.length)):=Hd λwr h=>by simp[World.cell?,h,HO.out]
 clear hBB ho;go_loopw [7] (λj wr=>weRel l w B o j wr) (λj _=>(intOf j+1).toNat)
 case atStart=>exact HAT.out
 case round =>
  unfold weRel at hrel;obtain⟨k,X,rfl,hk,hEl,hEq,hh,hho,hb⟩:=hrel;have HB:=Hd hb;have HH:=Hd hh;have HHO:=Hd hho;have HEQ:=Hd hEq;have HEL:=Hd hEl;have hlt1:B+1<wr.heap.size:=yH hho;clear hb hh hEq hEl hho HAT;by_cases hk0:0<k
  .obtain⟨i,rfl⟩:∃i,k=i+1:=⟨k-1,Z⟩;rw[show(((i+1:Nat):Int)-1)=(i:Int)by omega];have hil:i<l.length:=hk;obtain⟨b,off,rfl,_,_,hbl,hcell⟩:=HR.out.at (HBB.out▸HB.out) (show 0<l.length by omega);obtain⟨q,hq1,hq2,hq4,hq3⟩:=yGb HU.out hil;have c0:wr.cell? ⟨b,off+i*3+1,none⟩=some (.int .i64 (q:Int)):=by rw[(hcell i hil).2.1,hq1]
   have HKI:=Hd hq3;have HKE:=Hd hq2;have hi0:(0:Int)<=i:=Z;have hil':(i:Int)<l.length:=Z;have hic:(i:Int)<vc:=Z;have hwi:IntKind.i64.wrap ((i:Int)+1)=(i:Int)+1:=wI Z;have hwm:IntKind.i64.wrap ((i:Int)-1)=(i:Int)-1:=wI Z;have c1:wr.cell? ⟨B,i,none⟩=some (.int .i64 (X.getD i 0)):=by
    simp[World.cell?,HH.out,HEL.out,hil,gD]
   have z1:wr.frozen? ⟨B,i,none⟩=false:=by simp[World.frozen?,HH.out]
   have c4:=CO.out wr HHO.out;have hbB:b≠B:=by have:=HBB.out;omega
   have c0':(wr.setCell ⟨B,i,none⟩ (.int .i64 ((i:Int)+1))).cell? ⟨b,off+i*3+1,none⟩=some (.int .i64 (q:Int)):=by
    rw[fY (by exact hbB)];exact c0
   have HATi:Hid (weIn l w B o X i q (.int .i64 0) (wr.setCell ⟨B,i,none⟩ (.int .i64 ((i:Int)+1)))):=Hd (by
    unfold weIn;exact⟨0,rfl,Nat.zero_le _,by rw[heap_setCell_same _ _ _ _ _ _ HH.out,List.setIfInBounds_toArray,<-List.map_set];rfl,(heap_setCell_other _ _ _ _ (by show B+1≠B;omega)).trans HHO.out,HB.out.setCell (p:=⟨B,i,none⟩) (nR _) _⟩)
   clear hcell hq1 hq2 hq3 hk0 c0 hbB;go_wp2_with fail;clear c1 z1 c0' c4;go_loopw [35] (λcv wx=>weIn l w B o X i q cv wx) (λcv _=>q-(intOf cv).toNat)
   case atStart=>exact HATi.out
   case round =>
    unfold weIn at hrel;obtain⟨c,rfl,hcq,hh2,hho2,hb2⟩:=hrel;have HH2:=Hd hh2;have HHO2:=Hd hho2;have HB2:=Hd hb2;clear hh2 hho2 hb2 HATi;by_cases hlt:c<q
    .obtain⟨x1,x2⟩:=HKI.out c hlt;have HXS:=Hd (zJd l c (i+1));generalize jU l c (i+1)=y at *;have hH:=HH2.out;have d1:wr.drew.cell? ⟨B,i,none⟩=some (.int .i64 (y:Int)):=by
      show wr.cell? _=_;simp[World.cell?,hH,HEL.out,hil]
     have d2:wr.drew.cell? ⟨B,y,none⟩=some (.int .i64 (zB l y:Int)):=by
      have:=HEQ.out y Z x2;rw[gD]at this;show wr.cell? _=_;simp only[World.cell?,hH];rw[<-this];simp[HEL.out,x2,show ¬i=y by omega]
     have d3:wr.drew.frozen? ⟨B,i,none⟩=false:=by show wr.frozen? _=_;simp[World.frozen?,hH]
     have d4:=CO.out wr.drew HHO2.out;have HN:Hid (weIn l w B o X i q (.int .i64 ((c+1:Nat):Int)) (wr.drew.setCell ⟨B,i,none⟩ (.int .i64 (zB l y:Int)))):=Hd (by
      unfold weIn;exact⟨c+1,rfl,hlt,by rw[HXS.out,heap_setCell_same _ _ _ _ _ _ (show wr.drew.heap[B]?=_ from HH2.out),List.setIfInBounds_toArray,<-List.map_set,List.set_set],(heap_setCell_other _ _ _ _ (by show B+1≠B;omega)).trans HHO2.out,HB2.out.drew.setCell (p:=⟨B,i,none⟩) (nR _) _⟩)
     have hx0:(0:Int)<=(y:Int):=Z;have hxl:(y:Int)<l.length:=Z;have hci:(c:Int)<q:=Z;have hwc:IntKind.i64.wrap ((c:Int)+1)=((c+1:Nat):Int):=wI Z;generalize zB l y=e at *;clear HXS hH;go_wp2_with fail;go_region;go_wp2_with fail;exact⟨HN.out,by simp[intOf];omega⟩
    .obtain rfl:c=q:=Z;have hci:¬(c:Int)<(c:Int):=Z;have HN:Hid (weRel l w B o (.int .i64 ((i:Int)-1)) wr):=Hd (by
      unfold weRel;exact⟨i,X.set i (zB l i:Int),rfl,Z,by rw[List.length_set];exact HEL.out,λj h1 h2=>by
       rw[gD,List.getElem?_set];by_cases e:i=j
       .subst e;(rw[iP rfl,iP (by rw[HEL.out];exact hil)];try rfl)
       .rw[iN e,<-gD];exact HEQ.out j Z h2,by rw[<-HKE.out];exact HH2.out,HHO2.out,HB2.out⟩)
     go_wp2_with fail;refine⟨HN.out,by simp[intOf];try omega⟩
  .obtain rfl:k=0:=Z;rw[show(((0:Nat):Int)-1)=-1 by rfl];have hEE:X=endsL l:=by
    apply List.ext_getElem (by rw[HEL.out,zEl]);intro j h1 h2;have h3:=HEQ.out j Z (by have:=HEL.out;omega);have h4:=zYj (l:=l) (j:=j) (by have:=HEL.out;omega);rw[gD,gE h1]at h3;rw[gE h2]at h4;simp only[Option.getD_some]at h3;rw[h3];exact(Option.some.inj h4).symm
   subst hEE;have hen:=zEl l;have HWt:Hid (Wt ⟨l,endsL l,va,vc,B,w⟩ (B+1) [] wr):=Hd ⟨.pointer none,.slice none 0 0,Or.inl rfl,by rw[HBB.out];exact HB.out,by rw[HBB.out];exact Nat.le_succ B,by
    show wr.heap[B+1]?=_;rw[HHO.out,HO.out];dsimp only[wrC];rw[hen],HH.out,World.ownsRow_nil _ _ _ _,λ_=>rfl⟩
   have hPO:PO ⟨l,endsL l,va,vc,B,w⟩ 0 x.txt:=by
    refine(rn_x (E:=⟨l,endsL l,va,vc,B,w⟩) (Hd HR.out) hl rfl x HXX.out.2 (post:=[]) (us:=[]) ?_ xJ).1 (Or.inl HXX.out.1);show l.drop 0=_;rw[HLE.out];simp
   have CP:=Hd (hPO (B+1) [] wr HWt (by have:=HTL.out;rw[List.nil_append];omega));rw[List.nil_append]at CP;clear hPO hen;go_wp2_with fail;refine CP.out.mono ?_;intro e w2 h2;obtain⟨rfl,HW2,HK2⟩:=h2.go;have CL:=Hd (yHz HW2.out);have CS:=Hd (zLo HW2.out);have HB2:Hid (Below B w w2):=Hd (HB.out.trans (HK2.out.2.mono (Nat.le_succ B)));clear h2 CP;go_wp2_with fail;refine CL.out.mono ?_;rintro e w3 ⟨rfl,rfl⟩;have hno:¬(65536:Int)<(x.txt.length:Int):=by have:=HTL.out;omega
   go_wp2_with fail;refine CS.out.mono ?_;intro e w4 h4;unfold StP at h4;obtain⟨rfl,hb4⟩:=h4;have HX:=Hd (HQ.out w4 (HB2.out.trans (hb4.mono (Nat.le_succ B))));clear hb4 CS CL hno;go_wp2_with fail;exact HX.out
end Go.Proofs.YtfpjdpdmgceciaaGreatDoor
