/-
  The net in memory (layer 14): keys of links. Conditions: none.
-/
import Derived.Test.YtfndfpdhlbmboaaGreatMd27
import Derived.Test.YtfndfpdhlbmboaaGreatMdz
set_option maxRecDepth 100000
set_option linter.constructorNameAsVariable false
set_option maxHeartbeats 16000000
set_option linter.unusedVariables false
set_option linter.unusedSimpArgs false
namespace Go.Proofs.YtfndfpdhlbmboaaGreat
open Go Go.RowKit _root_.Go.Proofs.Tryz
section
open Go Go.RowKit Go.ChangeMaps
theorem aAO{α}[DecidableEq α]{enc P T j}(hu:P.underlying T=some (.struct j))(he:∀x y w,(Op.equal T (enc x) (enc y)).run P w=.ok (decide (x=y)) w)
 (hn:∀k v,Instr.sameNow (.struct j) (enc k) v=none) (t:∀(k:α) (em:Bool) (w:World),(Instr.checkKey em 10000 T (enc k)).run P w=.ok () w) (hb:∀k,Instr.sameBits 10000 (enc k) (enc k)=true):Gm P T enc:=by
 refine⟨λk es ak w h=>?_,t,hb⟩
 have key:∀(es:List MapEntry) (ak:List (α×Value)) (i:Nat),es.map (λe=>(e.key,e.val))=ak.map (λp=>(enc p.1,p.2))->(Instr.findAsking T (enc k) es i).run P w=.ok (gu k ak i) w:=by
  intro es
  induction es with
  | nil=>intro ak i h;cases ak <;> simp_all [Instr.findAsking,gu] <;> rfl
  | cons e es ih=>intro ak i h;cases ak with
   | nil=>simp at h
   | cons p r => simp only[jR,List.cons.injEq,Prod.mk.injEq]at h;obtain⟨⟨h1,u⟩,h3⟩:=h;exact afG
 cases es with
 | nil => exact afH
 | cons e es =>
  have h9:Instr.findNow (.struct j) (enc k) (e :: es) 0=none:=by rfl
  simp[Instr.findKey,run_underlying hu,h9,key (e :: es) ak 0 h]
def rU(a:Int×Int):Value:=.agg #[.int .i64 a.1,.int .i64 a.2]
theorem akV:Gm prog 153 rU :=
 aAO underlying153 (λx y w=>by
  obtain⟨a,b⟩:=x;obtain⟨c,d⟩:=y;unfold rU;show (Op.equalIn (9998+1+1) _ _ _).run _ _=_;simp[go_sem,KO];by_cases j:a=c <;> by_cases t:b=d <;> simp[j,t] <;> omega) (λk v=>by unfold Instr.sameNow rU;split <;> simp_all) (λk u w=>by unfold rU;kernel_rfl) λk=>by unfold rU;simp[Instr.sameBits]
end
theorem Ir{u t ak} a b w(hb:ai w u 149 #[.map (some t)])(hm:eC rU w t ak) :
 Calls prog 96 #[.pointer (some ⟨u,0,none⟩),.int .i64 a,.int .i64 b] w λe w'=>e=.returned (.tuple #[(dh ak (a,b)).getD (.chan none),.int .i64 (if (dh ak (a,b)).isSome then 0 else 140)])/\w'=w:=by
 have q:=hb.cell
 have j:=(DG akV underlying147 (z:=.chan none) cV hm (a,b)).1
 unfold rU at j
 simp only at j
 clear hb hm
 go_enter func96,ntmps96
 cases h:dh ak (a,b) <;> rw[h]at j
 ·simp only[Option.getD_none,Option.isSome_none]at j;go_wp2;go_ret2;exact⟨rfl,rfl⟩
 ·simp only[Option.getD_some,Option.isSome_some]at j;go_wp2;go_ret2;exact⟨rfl,rfl⟩
section
variable {gn gm c:Nat} {ak:List ((Int×Int)×Value)} {l:List Value} {w:World} {a b:Int}
theorem awu(hb:ai w gn 149 #[.map (some gm)])(hm:eC rU w gm ak)(hk:dh ak (a,b)=none) :
 Calls prog 56 #[.pointer (some ⟨gn,0,none⟩),.int .i64 a,.int .i64 b] w λe w'=>e=.returned (.tuple #[.slice none 0 0,.int .i64 140])/\w'=w:=by
 have j:=ae (Ir a b w hb hm)
 rw[hk]at j
 clear hb hm hk
 go_enter func56,ntmps56
 go_wp2_with fail
 apply aM j.aa
 rintro w' rfl
 simp only[Option.getD_none,Option.isSome_none]
 go_wp2
 go_ret2
 exact⟨rfl,rfl⟩
theorem awv{v}(hb:ai w gn 149 #[.map (some gm)])(hm:eC rU w gm ak)(hk:dh ak (a,b)=none) :
 Calls prog 47 #[.pointer (some ⟨gn,0,none⟩),.int .i64 a,.int .i64 b,v] w λe w'=>e=.returned (.int .i64 140)/\w'=w:=by
 have j:=ae (Ir a b w hb hm)
 rw[hk]at j
 clear hb hm hk
 go_enter func47,ntmps47
 go_wp2_with fail
 apply aM j.aa
 rintro w' rfl
 simp only[Option.getD_none,Option.isSome_none]
 go_wp2
 go_ret
 exact⟨rfl,rfl⟩
theorem aww(hb:ai w gn 149 #[.map (some gm)])(hm:eC rU w gm ak)(hk:dh ak (a,b)=none) :
 Calls prog 76 #[.pointer (some ⟨gn,0,none⟩),.int .i64 a,.int .i64 b] w λe w'=>e=.returned (.int .i64 0)/\w'=w:=by
 have j:=ae (Ir a b w hb hm)
 rw[hk]at j
 clear hb hm hk
 go_enter func76,ntmps76
 go_wp2_with fail
 apply aM j.aa
 rintro w' rfl
 simp only[Option.getD_none,Option.isSome_none]
 go_wp2
 go_ret
 exact⟨rfl,rfl⟩
theorem arl(hb:ai w gn 149 #[.map (some gm)])(hm:eC rU w gm ak)(hk:dh ak (a,b)=some (.chan (some c)))(u:qu c l w)(C:∀x∈l,∃A n d,x=.slice A n d) :
 Calls prog 56 #[.pointer (some ⟨gn,0,none⟩),.int .i64 a,.int .i64 b] w λe w'=>e=.returned (.tuple #[l.headD (.slice none 0 0),.int .i64 (if l=[]then 141 else 0)])/\qu c l.tail w'/\ag (λk=>k=c) w w':=by
 have j:=ae (Ir a b w hb hm)
 have B:=ae (ark c l w u)
 rw[hk]at j
 clear hb hm hk
 go_enter func56,ntmps56
 go_wp2_with fail
 apply aM j.aa
 rintro w' rfl
 simp only[Option.getD_some,Option.isSome_some]
 go_wp2_with fail
 apply aM B.aa
 rintro E⟨y,D⟩
 have t:=ae (And.intro y D)
 clear y D u j B
 cases l with
 | nil => go_wp2;go_ret2;exact⟨rfl,t.aa⟩
 | cons x l => obtain⟨A,n,d,rfl⟩:=C x aj;simp only[List.headD_cons,List.isEmpty_cons,Bool.not_false];clear C;go_wp2;go_ret2;exact⟨aj,t.aa⟩
theorem arn(hb:ai w gn 149 #[.map (some gm)])(hm:eC rU w gm ak)(hk:dh ak (a,b)=some (.chan (some c)))(j:qu c l w) :
 Calls prog 76 #[.pointer (some ⟨gn,0,none⟩),.int .i64 a,.int .i64 b] w λe w'=>e=.returned (.int .i64 l.length)/\w'=w:=by
 have t:=ae (Ir a b w hb hm)
 rw[hk]at t
 obtain⟨s,r,j⟩:=j
 have y:∀ty,(Builtin.len_ #[151] ty #[.chan (some c)]).run prog w=.ok (.int .i64 l.length) w:=λty=>by
  have u:=underlying151;have hg:(getObj c).run prog w=.ok (.chan 8 l.toArray false s r false) w:=by simp[getObj,Sem.run,j]
  simp[Builtin.len_,u,hg,go_sem]
 clear hb hm hk j
 go_enter func76,ntmps76
 go_wp2_with fail
 apply aM t.aa
 rintro w' rfl
 simp only[Option.getD_some,Option.isSome_some]
 go_wp2
 go_ret
 exact⟨rfl,rfl⟩
def Yh(l:List Value)(v:Value):List Value:=if l.length<8 then l++[v]else l
def Yi(n:Nat):Int:=if n<8 then 0 else 141
theorem aro(hb:ai w gn 149 #[.map (some gm)])(hm:eC rU w gm ak)(hk:dh ak (a,b)=some (.chan (some c)))(D:qu c l w) bs v(N:sl bs v w)(hn:bs.length<=1000000000) :
 Calls prog 47 #[.pointer (some ⟨gn,0,none⟩),.int .i64 a,.int .i64 b,v] w λe w'=>e=.returned (.int .i64 (Yi l.length))/\(∃v',qu c (Yh l v') w'/\Fx (λk=>k<w.heap.size) (λW=>sl bs v' W) w')/\ag (λk=>k=c) w w':=by
 obtain⟨A,d,rfl,I⟩:=N
 have j:=ae (Ir a b w hb hm)
 have G:=ae (OW A bs.length d _ w I (xw bs) hn)
 have J:=ae D
 rw[hk]at j
 clear hb hm hk I D
 go_enter func47,ntmps47
 go_wp2_with fail
 apply aM j.aa
 rintro w' rfl
 simp only[Option.getD_some,Option.isSome_some]
 go_wp2_with fail
 apply bS G.aa
 rintro v' E⟨C,t⟩
 have F:=ae (asS c l v' E (J.aa.aW (ag.aT t (λ_=>False)) id))
 have O:=ae (show Fx (λk=>k<w'.heap.size) (λW=>sl bs v' W) E from λW u=>eT (i6 C u λk e h=>by have:=(C.lt k e).1;omega))
 have M:=ae t
 have L:=J.aa.lt
 clear C j G t
 go_wp2_with fail
 apply aM F.aa
 rintro y⟨H,B⟩
 have H3:=ae (show (∃v',qu c (Yh l v') y/\Fx (λk=>k<w'.heap.size) (λW=>sl bs v' W) y)/\ag (λk=>k=c) w' y from ⟨⟨v',H,O.aa.up B λk e=>e▸L⟩,(ag.aT M.aa _).tr B⟩)
 clear H B F
 by_cases h8:l.length<8
 ·have h9:=ae (show Yi l.length=0 from if_pos h8);rw[decide_eq_true h8];exact aiU
 ·have h9:=ae (show Yi l.length=141 from if_neg h8);rw[decide_eq_false h8];exact aiU
end
def Oh(M C:Nat->Prop)(v:Value)(j:List (List UInt8))(W:World):Prop:=∃c vs,v=.chan (some c)/\C c/\qu c vs W/\vs.length=j.length/\∀(i:Nat) (h:i<vs.length) (h':i<j.length),j[i].length<=1000000000/\Fx M (λW=>sl j[i] vs[i] W) W
structure yp(M C:Nat->Prop)(gn gm:Nat)(ak:List ((Int×Int)×Value))(L:List pI)(W:World):Prop where
 blk:ai W gn 149 #[.map (some gm)]
 map:eC rU W gm ak
 len:ak.length=L.length
 ls:∀(i:Nat) (h:i<ak.length) (h':i<L.length),ak[i].1=L[i].1/\Oh M C ak[i].2 L[i].2 W
 nd:(ak.map (·.2)).Nodup
 kn:∀(i j:Nat) (h1:i<ak.length) (h2:j<ak.length),ak[i].1=ak[j].1->i=j
 ne:¬M gn/\¬M gm
 sub:∀k,C k->M k
def tg(M C:Nat->Prop)(t:Nat)(L:List pI)(W:World):Prop:=∃j ak,yp M C t j ak L W
section
variable {M M' C X:Nat->Prop} {gn gm:Nat} {ak:List ((Int×Int)×Value)} {L:List pI} {W W':World} {v:Value} {ms:List (List UInt8)} {a b:Int}
theorem Oh.to(h:Oh M C v ms W)(u:ag X W W')(D:∀k,X k->M k)(G:∀k,C k->¬X k)(E:∀k,k<W.heap.size->M' k->M k):Oh M' C v ms W':=by obtain⟨c,vs,e,A,F,B,y⟩:=h;exact⟨c,vs,e,A,F.aW u (G c A),B,λi t j=>⟨(y i t j).1,(y i t j).2.to u D E⟩⟩
theorem tg.to(h:tg M C gn L W)(u:ag X W W')(j:∀k,X k->M k)(F:∀k,C k->¬X k)(t:∀k,k<W.heap.size->M' k->M k)(D:∀k,C k->M' k):tg M' C gn L W':=by
 obtain⟨A,ak,h⟩:=h;have hg:=h.blk.lt;have hm:A<W.heap.size:=by obtain⟨es,c,E,-⟩:=h.map;exact (Array.getElem?_eq_some_iff.1 E).1
 exact⟨A,ak,h.blk.aW u λe=>h.ne.1 (j _ e),h.map.aW u λe=>h.ne.2 (j _ e),h.len,λi B y=>⟨(h.ls i B y).1,(h.ls i B y).2.to u j F t⟩,h.nd,h.kn,⟨λe=>h.ne.1 (t _ hg e),λe=>h.ne.2 (t _ hm e)⟩,D⟩
theorem QS:∀(ak:List ((Int×Int)×Value)) (L:List pI) (k:Int×Int),ak.length=L.length->(∀(i:Nat) (h:i<ak.length) (h':i<L.length),ak[i].1=L[i].1)->(fI L k=none/\∀j,gu k ak j=none)∨∃i,∃(h:i<ak.length) (h':i<L.length),ak[i].1=k/\fI L k=some L[i].2/\∀j,gu k ak j=some (i+j,ak[i].2)
 | [],[],k,_,_=>.inl ⟨rfl,λ_=>rfl⟩
 | [],_ :: _,_,h,_=>xy
 | _ :: _,[],_,h,_=>xy
 | p :: r,q :: s,k,h,he=>by
  have t:=he 0 aj aj;simp only[List.getElem_cons_zero]at t;by_cases hk:p.1=k
  ·exact .inr ⟨0,aj,aj,hk,by simp[fI,<- t,hk],λj=>by simp[gu,hk]⟩
  ·rcases QS r s k BX (λi h1 h2=>he (i+1) BZ yB)with ⟨h1,h2⟩|⟨i,h1,h2,h3,u,y⟩
   ·exact .inl ⟨by unfold fI at *;simpa [<- t,hk]using h1,λj=>by simp[gu,hk,h2]⟩
   ·exact .inr ⟨i+1,BZ,yB,Lo,by unfold fI at *;simpa [<- t,hk]using u,λj=>by simp[gu,hk,y];omega⟩
theorem Ya{L k l i}(h:i<(iF L k l).length)(j:i<L.length):(iF L k l)[i]=if L[i].1=k then (L[i].1,l)else L[i]:=by simp[iF]
theorem yp.set(h:yp M C gn gm ak L W){i c k}(hi:i<ak.length)(hk:ak[i].1=k)(S:ak[i].2=.chan (some c)){l}(u:ag (λk=>k=c) W W')(G:Oh M C ak[i].2 l W'):yp M C gn gm ak (iF L k l) W':=by
 have O:C c:=by
  obtain⟨Q,vs,e,h1,-⟩:=G
  grind
 have A:=h.sub c O;refine⟨h.blk.aW u λe=>h.ne.1 (e▸A),h.map.aW u λe=>h.ne.2 (e▸A),by simp[iF,h.len],λj h1 N=>?_,h.nd,h.kn,h.ne,h.sub⟩;have B:j<L.length:=by rw[<- h.len];exact h1
 obtain⟨y,I⟩:=h.ls j h1 B;rw[Ya N B];by_cases t:L[j].1=k
 ·rw[if_pos t];obtain rfl:=h.kn j i h1 hi ((y.trans t).trans hk.symm);grind
 ·rw[if_neg t];refine⟨y,?_⟩;obtain⟨c2,vs,e,F,H,J,E⟩:=I;refine⟨c2,vs,e,F,H.aW u λR=>t ?_,J,λi hi D=>⟨(E i hi D).1,(E i hi D).2.up u λk e=>e▸A⟩⟩;have:=(List.getElem_inj (h₀:=BZ) (h₁:=PN) h.nd).1 aA;subst this;exact y.symm.trans hk
theorem arp(h:tg M C gn L W) :
 Calls prog 56 #[.pointer (some ⟨gn,0,none⟩),.int .i64 a,.int .i64 b] W λe w'=>∃v E,e=.returned (.tuple #[v,.int .i64 E])/\ag C W w'/\(fI L (a,b)=none/\E=140/\tg M C gn L w'∨fI L (a,b)=some []/\E=141/\tg M C gn L w' ∨
  ∃m l,fI L (a,b)=some (m :: l)/\E=0/\tg M C gn (iF L (a,b) l) w'/\m.length<=1000000000/\Fx M (λW=>sl m v W) w'):=by
 obtain⟨D,ak,h⟩:=h
 have Z:=h.kn
 rcases QS ak L (a,b) h.len (λi t F=>(h.ls i t F).1)with ⟨t,F⟩|⟨i,t,F,J,G,h5⟩
 ·apply aM (awu h.blk h.map I4);rintro w' rfl;exact⟨_,_,rfl,ag.rf _ _,.inl ⟨t,rfl,D,ak,h⟩⟩
 ·obtain⟨c,vs,e,H,V,B,y⟩:=(h.ls i t F).2;have U:∀x∈vs,∃A n d,x=.slice A n d:=λx X=>by
   obtain⟨j,hj,rfl⟩:=List.getElem_of_mem X
   obtain⟨A,d,e,-⟩:=(y j hj af).2.now
   grind
  apply aM (arl h.blk h.map I4 V U);rintro w'⟨S,u⟩;have O:=h.sub c H;have key:∀l,vs.tail.length=l.length->(∀(j:Nat) (hj:j<vs.tail.length) (hj':j<l.length),l[j].length<=1000000000/\Fx M (λW=>sl l[j] vs.tail[j] W) w')->yp M C gn D ak (iF L (a,b) l) w':=λl Q T =>
   h.set t J e u ⟨c,vs.tail,e,H,S,Q,T⟩
  refine⟨_,_,rfl,u.more λk hk=>hk▸H,?_⟩;obtain⟨I,N⟩:∃I,L[i].2=I:=⟨_,rfl⟩;simp only[N]at G B y;cases I with
  | nil =>
   obtain rfl:vs=[]:=List.eq_nil_of_length_eq_zero (by simpa using B);have R:iF L (a,b) []=L:=List.ext_getElem (by simp[iF]) λj Y g2=>by
    rw[Ya Y g2];split
    ·next hj =>
     have:=Z j i aiV t (((h.ls j _ g2).1.trans hj).trans J.symm);subst this;exact Prod.ext rfl N.symm
    ·rfl
   exact .inr (.inl ⟨G,aj,D,ak,R▸key [] aj (λj hj=>by simp at hj)⟩)
  | cons m l =>
   cases vs with
   | nil=>simp at B
   | cons x vs => refine .inr (.inr ⟨m,l,G,aj,⟨D,ak,key l (by simpa using B) λj hj hj'=>?_⟩,(y 0 aj aj).1,(y 0 aj aj).2.up u λk e=>e▸O⟩);have:=y (j+1) DR VG;exact⟨this.1,this.2.up u λk e=>e▸O⟩
theorem arq(h:tg M C gn L W)(S:∀k,M k->k<W.heap.size) bs u(hb:sl bs u W)(hn:bs.length<=1000000000) :
 Calls prog 47 #[.pointer (some ⟨gn,0,none⟩),.int .i64 a,.int .i64 b,u] W λe w'=>∃X,e=.returned (.int .i64 X)/\ag C W w'/\tg M C gn (pP L (a,b) bs) w':=by
 obtain⟨N,ak,h⟩:=h
 have V:=h.kn
 rcases QS ak L (a,b) h.len (λi t E=>(h.ls i t E).1)with ⟨t,E⟩|⟨i,t,E,F,Q,Y⟩
 ·apply aM (awv h.blk h.map I4);rintro w' rfl;exact⟨_,rfl,ag.rf _ _,N,ak,by grind [pP]⟩
 ·obtain⟨c,vs,e,D,T,G,B⟩:=(h.ls i t E).2;apply aM (aro h.blk h.map I4 T bs u hb hn);rintro w'⟨⟨v',A,R⟩,u⟩;have J:=h.sub c D;refine⟨_,rfl,u.more λk hk=>hk▸D,N,ak,?_⟩;unfold pP;rw[Q];unfold Yh at A;simp only;by_cases h8:vs.length<8
  ·rw[if_pos h8]at A;rw[if_pos af];refine h.set t F e u ⟨c,_,e,D,A,by simp[G],λj y H=>?_⟩;by_cases I:j<vs.length
   ·simp only[List.getElem_append_left I,List.getElem_append_left (show j<L[i].2.length by omega)];exact⟨(B j I af).1,(B j I af).2.up u λk e=>e▸J⟩
   ·obtain rfl:j=vs.length:=by simp at y;omega
    simp only[List.getElem_concat_length,G];exact⟨hn,R.less S⟩
  ·rw[if_neg h8]at A;rw[if_neg af];have O:iF L (a,b) L[i].2=L:=List.ext_getElem (by simp[iF]) λj U g2=>by
    rw[Ya U g2];split
    ·next y =>
     have:=V j i aiV t (((h.ls j _ g2).1.trans y).trans F.symm);subst this;rfl
    ·rfl
   exact O▸h.set t F e u ⟨c,vs,e,D,A,G,λj y H=>⟨(B j y H).1,(B j y H).2.up u λk e=>e▸J⟩⟩
theorem ars(h:tg M C gn L W) :
 Calls prog 76 #[.pointer (some ⟨gn,0,none⟩),.int .i64 a,.int .i64 b] W λe w'=>e=.returned (.int .i64 (((fI L (a,b)).getD []).length:Int))/\w'=W:=by
 obtain⟨F,ak,h⟩:=h
 rcases QS ak L (a,b) h.len (λi j t=>(h.ls i j t).1)with ⟨j,t⟩|⟨i,j,t,D,A,G⟩
 ·rw[j];exact aww h.blk h.map I4
 ·obtain⟨c,vs,e,B,u,y,E⟩:=(h.ls i j t).2;rw[A,Option.getD_some,<- y];exact arn h.blk h.map I4 u
end
def sw(Z:Nat->Prop)(gd:Nat)(d:pC)(W:World):Prop:=∃vh,JP gd vh d W/\∀k,Z k->¬lP gd vh k/\k<W.heap.size
theorem gS.Y9{d s}(h:gS d s):Gr (d.eZ.map bL):=Gr.all (by have:=h.cnt;simp;omega) (by
 intro b hb;obtain⟨r,j,rfl⟩:=List.mem_map.1 hb;have:=(h.eZ r j).2.2;omega)
section
variable {X Z:Nat->Prop} {g gd:Nat} {B:aZ} {W W':World}
theorem sw.st{d}(h:sw Z gd d W)(k:K W W'):sw Z gd d W':=h.imp λ_ h=>⟨h.1.st k,λj t=>⟨(h.2 j t).1,bz (h.2 j t).2 k.size⟩⟩
theorem dE.dk(h:dE X Z g gd B W):sw Z gd B.dk W:=by obtain⟨-,p,hb,hg,hz⟩:=h;obtain rfl:p.gd=gd:=congrArg Prod.snd hg;exact⟨p.vd,hb.lg.dk,λk hk=>⟨λj=>(hz k hk).1 (.inr (.inr (.inr (.inr (.inr j))))),(hz k hk).2⟩⟩
theorem ayN{d}(h:sw Z gd d W) keep(hk:cD keep) :
 Calls prog 45 #[.pointer (some ⟨gd,0,none⟩),.int .i64 keep] W λe w'=>e=.returned (.tuple #[])/\sw Z gd d w'/\ag (λk=>¬Z k) W w':=by
 obtain⟨vh,u,hz⟩:=h
 apply aM (apN gd vh (jk d) d.room keep W u hk)
 rintro w'⟨y,j⟩
 exact⟨rfl,⟨vh,y,λk hk=>⟨(hz k hk).1,bz (hz k hk).2 j.up.size⟩⟩,j.up.more λk hk t=>(hz k t).1 hk⟩
theorem azv{d s}(h:sw Z gd d W)(E:gS d s)(hA:Gr (d.eZ.map bL))(F:s.life+1<18446744073709551616) p ah me y t(M:Fx (λk=>¬Z k) (λW=>aq cQ p y W) W)(J:Fx (λk=>¬Z k) (λW=>aq cQ ah t W) W)
 (B:fk p=true) (hm:fA p me=true) (A:jt p ah=true) (D:ir (cM (bP s))<=d.room) (H:∀k,X k->Z k) :
 Calls prog 86 #[.int .i64 me,y,t,.pointer (some ⟨gd,0,none⟩)] W λe w'=>∃g,e=.returned (.tuple #[.pointer (some ⟨g,0,none⟩),.int .i64 0])/\dE X Z g gd (oV me p ah ⟨cM (bP s),d.room⟩ (bP s)) w'/\ag (λk=>¬Z k) W w'/\W.heap.size<=g:=by
 obtain⟨vh,L,hz⟩:=h
 have C:∀k,lP gd vh k->¬Z k:=λk hk I=>(hz k I).1 hk
 refine (acs gd vh d s p ah me y t W L E hA F (M.less C) (J.less C) B hm A).mono ?_
 intro e w' hp
 unfold D8 at hp
 rw[if_pos D]at hp
 obtain⟨q,j⟩:=hp
 obtain⟨G,u⟩:=dE.new (X:=X) j (bE.open_ B hm A (E.life D)) (λk hk=>(hz k (H k hk)).2) hz
 exact⟨q.g,j.ret,G,u,j.g⟩
end
def yq:ei Value where
 size:=1
 rel:=λv cs _=>cs=[v]/\v.oneCell'=true
 len:=by rintro _ _ _⟨rfl,_⟩;rfl
 one:=by rintro _ _ _⟨rfl,h⟩ u j;simp at j;exact j▸h
 st:=λh _=>h
structure mM where
 gw:Nat
 gb:Nat
 vp:Value
 vh:Value
 vn:Value
 vd:Value
 vc:Value
 vg:Value
 vs:List Value
 ds:List Nat
 ak:List (Int×Value)
structure OvC(H:mM)(own:Nat->Nat)(O:bF)(W:World):Prop where
 blk:ai W H.gw 83 #[H.vp,H.vh,H.vn,H.vd,.map (some H.gb),H.vc,H.vg]
 map:eC encI W H.gb H.ak
 oob:∀k,fA O.par k=false->dh H.ak k=none
 cur:aB (λ_=>True) 0 3 cQ O.cur H.vc W
 got:aB (λ_=>True) 0 59 yq H.vs H.vg W
 own:own H.gw=2/\own H.gb=2/\(∀k,H.vc.ownBlock=some k->own k=2)/\∀k,H.vg.ownBlock=some k->own k=2
 len:H.vs.length=O.got.length
 kn:(H.ak.map (·.1)).Nodup
def OvB(H:mM)(own:Nat->Nat)(W:World)(n:Nat)(x:Kn):Prop:=∃gd,H.ds[n]?=some gd /\
 (∀B,x.up=some B->∃g,dh H.ak (n:Int)=some (.pointer (some ⟨g,0,none⟩))/\dE (λk=>own k≠0/\own k≠2*n+4) (λk=>own k≠2*n+4/\k<W.heap.size) g gd B W) /\
 (x.up=none->dh H.ak (n:Int)=none/\sw (λk=>own k≠2*n+4/\k<W.heap.size) gd x.dk W)
structure bu(H:mM)(own:Nat->Nat)(O:bF)(W:World)(S:Nat->Prop):Prop where
 lo:∀k,own k≠0->k<W.heap.size
 fx:Fx (λk=>own k≠0) (λW=>aq cQ O.par H.vp W/\aq cQ O.ah H.vh W/\aq yq (H.ds.map λg=>.pointer (some ⟨g,0,none⟩)) H.vd W) W
 fo:S 2->OvC H own O W
 cz:S 3->∃gn,H.vn=.pointer (some ⟨gn,0,none⟩)/\tg (λk=>own k≠0) (λk=>own k=3) gn O.cz W
 brk:∀n x,S (2*n+4)->O.eX[n]?=some x->OvB H own W n x
 got:∀c l,S (2*c+5)->O.got[c]?=some l->∃v,H.vs[c]?=some v/\aB (λk=>own k≠0) 0 37 (AL cO) l v W/\∀k,v.ownBlock=some k->own k=2*c+5
section
variable {X X' Z Z' Y M M' C C' S S':Nat->Prop} {g gd gn:Nat} {B:aZ} {W W':World} {H:mM} {own bN:Nat->Nat} {O:bF} {d:pC} {L:List pI}
theorem dE.to(h:dE X Z g gd B W)(u:ag Y W W')(j:∀k,Y k->X k/\Z k)(t:∀k,X' k->X k∨(W.heap.size<=k/\k<W'.heap.size))(D:∀k,Z' k->Z k∨(W.heap.size<=k/\k<W'.heap.size)):dE X' Z' g gd B W':=by obtain⟨A,p,hb,hg,hz⟩:=h;have C:=hb.low;have E:=u.size;refine⟨A,p,hb.far u (λk hk=>.inl (j k hk).1) (λk hk=>(hz k (j k hk).2).1) (λk hk y=>y.imp_left λh=>(t k h).resolve_right af) (λ_ h=>.inr h) (λk hk=>?_),hg,λk hk=>?_⟩;all_goals grind
theorem sw.to(h:sw Z gd d W)(u:ag Y W W')(y:∀k,Y k->Z k)(A:∀k,Z' k->Z k∨(W.heap.size<=k/\k<W'.heap.size)):sw Z' gd d W':=by
 obtain⟨vh,j,hz⟩:=h
 have C:=j.lt
 have B:=u.size
 refine⟨vh,j.aW u λk hk t=>(hz k (y k t)).1 hk,λk hk=>?_⟩
 grind
theorem bu.to(h:bu H own O W S)(u:ag X W W')(t:∀k,X k->own k≠0/\¬S' (own k))(E:∀i,S' i->S i)(ho:∀k,k<W.heap.size->bN k=own k)(hn:∀k,W.heap.size<=k->bN k≠0->k<W'.heap.size/\¬S' (bN k)):bu H bN O W' S':=by
 have hs:=u.size;have hm:∀k,k<W.heap.size->bN k≠0->own k≠0:=λk hk e=>ho k hk▸e
 have C:∀j,S' j->j≠0->∀k,bN k=j↔own k=j:=λj hj h0 k=>by
  by_cases hk:k<W.heap.size
  ·grind
  ·exact⟨λe=>absurd hj (e▸(hn k af af).2),λe=>by have:=h.lo k (by omega);omega⟩
 have hx:∀k,bN k≠0->own k≠0∨(W.heap.size<=k/\k<W'.heap.size):=λk e=>by
  grind
 refine⟨λk hk=>aA,h.fx.to u (λk hk=>(t k hk).1) hm,λy=>?_,λF=>?_,λn x hb V=>?_,λc l G U=>?_⟩
 ·obtain⟨a1,a2,a3,a4,a5,⟨N,Q,L,M⟩,Z,a8⟩:=h.fo (E _ y);have no:∀k,own k=2->¬X k:=λk e hk=>(t k hk).2 (e▸y)
  have A:=C 2 y ax;exact⟨a1.aW u (no _ N),a2.aW u (no _ Q),a3,a4.to u (λ_ _=>trivial) (λk hk=>no k (L k hk)) (λ_ _ _=>.inl trivial),a5.to u (λ_ _=>trivial) (λk hk=>no k (M k hk)) (λ_ _ _=>.inl trivial),⟨(A _).2 N,(A _).2 Q,λk hk=>(A k).2 (L k hk),λk hk=>(A k).2 (M k hk)⟩,Z,a8⟩
 ·obtain⟨gn,e,Y⟩:=h.cz (E _ F);have T:=C 3 F ax;rw[show (λk=>bN k=3)=λk=>own k=3 from funext λk=>propext (T k)];exact⟨gn,e,Y.to u (λk hk=>(t k hk).1) (λk e hk=>(t k hk).2 (e▸F)) hm λk e=>aA⟩
 ·obtain⟨gd,e,I,y⟩:=h.brk n x (E _ hb) V;have R:=C _ hb af;have hz:∀k,bN k≠2*n+4/\k<W'.heap.size->(own k≠2*n+4/\k<W.heap.size)∨(W.heap.size<=k/\k<W'.heap.size):=λk hk=>by
   grind
  have J:∀k,X k->own k≠2*n+4/\k<W.heap.size:=λk hk=>⟨λe=>(t k hk).2 (e▸hb),h.lo k (t k hk).1⟩
  refine⟨gd,e,λB D=>?_,λD=>⟨(y D).1,(y D).2.to u J hz⟩⟩;obtain⟨g,A,hL⟩:=I B D;exact⟨g,A,hL.to u (λk hk=>⟨⟨(t k hk).1,(J k hk).1⟩,J k hk⟩) (λk hk=>(hx k hk.1).imp_left λh=>⟨h,λe=>hk.2 ((R k).2 e)⟩) hz⟩
 ·obtain⟨v,e,I,y⟩:=h.got c l (E _ G) U;have e5:=C _ G af;exact⟨v,e,I.to u (λk hk=>(t k hk).1) (λk e hk=>(t k hk).2 (y k e▸G)) (λk hk e=>.inl (hm k hk e)),λk e=>(e5 k).2 (y k e)⟩
theorem bu.st(h:bu H own O W S)(k:K W W'):bu H own O W' S :=
 h.to (ag.aT k λ_=>False) (λ_ h=>h.elim) (λ_ h=>h) (λ_ _=>rfl) λj t e=>by have:=h.lo j e;omega
def jf(own:Nat->Nat)(i:Nat)(W W':World)(k:Nat):Nat:=if W.heap.size<=k then (if k<W'.heap.size then i else 0)else own k
theorem aiW(h:bu H own O W S){i}(y:i≠0)(u:ag X W W')(t:∀k,X k->own k=i):bu H (jf own i W W') O W' (λj=>S j/\j≠i) :=
 h.to u (λk hk=>⟨t k hk▸y,λe=>e.2 (t k hk)⟩) (λ_ h=>h.1) (λk hk=>F6) λk hk e=>by
  unfold jf at *;rw[if_pos hk]at *;split
  ·next h2=>rw[if_pos h2]at e;exact⟨h2,λh=>h.2 rfl⟩
  ·next h2=>rw[if_neg h2]at e;exact absurd rfl e
end
def dF(i:Nat):Prop:=2<=i
theorem p2:dF 2:=aD 2
theorem pB n:dF (2*n+4):=by grind [dF]
def dB(H:mM)(own:Nat->Nat)(u:bF)(w w':World):Prop :=
 ∃t j,bu t j u w' dF/\t.gw=H.gw/\ag (λk=>2<=own k) w w'/\∀k,k<w.heap.size->j k=own k
section
variable {X S:Nat->Prop} {W W' W2:World} {H H1:mM} {own Gy:Nat->Nat} {O O':bF} {n g gd gn:Nat} {B B':aZ} {x:Kn} {L:List pI}
theorem bu.now(h:bu H own O W dF)(k:K W W'):dB H own O W W':=⟨H,own,h.st k,rfl,ag.aT k _,λ_ _=>rfl⟩
theorem dB.tr(u:ag (λk=>2<=own k) W W')(hg:H1.gw=H.gw)(j:∀k,k<W.heap.size->Gy k=own k)(h:dB H1 Gy O' W' W2):dB H own O' W W2:=by obtain⟨t,A,D,B,y,C⟩:=h;have E:=u.size;exact⟨t,A,D,B.trans hg,u.gF y λk hk e=>j k hk▸e,λk hk=>(C k af).trans (j k hk)⟩
theorem dB.k(k:K W W')(h:dB H own O' W' W2):dB H own O' W W2:=dB.tr (ag.aT k _) rfl (λ_ _=>rfl) h
theorem dB.of(u:ag X W W')(A:∀k,X k->k<W.heap.size->2<=own k){i}(h:bu H1 (jf own i W W') O' W' dF)(hg:H1.gw=H.gw):dB H own O' W W' :=
 ⟨H1,_,h,hg,⟨u.os,u.tape,u.output,u.size,λk j y=>u.block k j λt=>y (A k t j)⟩,λk hk=>F6⟩
theorem bu.E6(h:bu H own O W dF)(k:K W W'):bu H (jf own 1 W W') O W' dF:=by
 refine h.to (ag.aT k λ_=>False) (λ_ h=>h.elim) (λ_ h=>h) (λk hk=>by grind [jf]) λj t e=>?_
 unfold jf at *
 grind [dF,jf]
theorem dB.E6(k:K W W'){b j}(hb:W.heap.size<=b)(y:b<W'.heap.size)(h:dB H (jf own 1 W W') O' W' W2)(u:ag (λk=>k=b) W2 j):dB H own O' W j:=by
 obtain⟨C,D,h1,F,E,B⟩:=h;have A:∀k,k<W.heap.size->jf own 1 W W' k=own k:=λk hk=>by grind [jf]
 have hk:=k.size;have t:=B b y;unfold jf at t;rw[if_pos hb,if_pos y]at t;refine⟨C,D,h1.to u (λk hk=>by grind [dF]) (λ_ h=>h) (λ_ _=>rfl) λk hk e=>XK,F,?_,λk hk=>(B k af).trans (A k hk)⟩;exact ((ag.aT k _).gF E λk hk e=>A k hk▸e).gF u λk hk e=>af
theorem bu.up(h:bu H own O W S)(u:S (2*n+4))(C:O.eX.length=O.par.length)(j:cL O n=some B) :
 ∃gd g,H.ds[n]?=some gd/\dh H.ak (n:Int)=some (.pointer (some ⟨g,0,none⟩))/\dE (λk=>own k≠0/\own k≠2*n+4) (λk=>own k≠2*n+4/\k<W.heap.size) g gd B W:=by
 unfold cL at j
 split at j
 ·obtain⟨x,t,A⟩:=Option.bind_eq_some_iff.1 j;rw[Int.toNat_natCast]at t;obtain⟨gd,e,y,-⟩:=h.brk n x u t;grind
 ·cases j
theorem bu.down(h:bu H own O W S)(u:S 2)(t:∀n,S (2*n+4))(A:O.eX.length=O.par.length){m}(j:cL O m=none):dh H.ak m=none:=by
 unfold cL at j;split at j
 ·next hi =>
  unfold gX fA at hi;simp only[dC,decide_eq_true_eq]at hi;obtain⟨n,rfl⟩:=Int.eq_ofNat_of_zero_le hi.1;rw[Int.toNat_natCast,List.getElem?_eq_getElem (show n<O.eX.length by omega)]at j;obtain⟨gd,e,-,y⟩:=h.brk n O.eX[n] (t n) (List.getElem?_eq_getElem af);grind
 ·next hi=>exact (h.fo u).oob m (by grind [gX])
theorem PJ{i k}(j:∀k,own k≠0->k<W.heap.size)(hk:jf own i W W' k≠i/\(k<W'.heap.size∨jf own i W W' k≠0)):own k≠i/\k<W.heap.size/\jf own i W W' k=own k:=by
 grind [jf]
theorem bu.akW(h:bu H own O W S)(hn:n<O.eX.length)(u:ag (λk=>¬(own k≠2*n+4/\k<W.heap.size)) W W')(R:OvB H (jf own (2*n+4) W W') W' n x):bu H (jf own (2*n+4) W W') (jU O n x) W' S:=by
 have F:ag (λk=>own k=2*n+4) W W':=⟨u.os,u.tape,u.output,u.size,λk B A=>u.block k B λt=>t ⟨A,B⟩⟩;have j:=aiW h af F λ_ h=>h
 refine⟨j.lo,j.fx,λA=>?_,λE=>j.cz ⟨E,af⟩,λm y hm t=>?_,λc l C=>j.got c l ⟨C,af⟩⟩
 ·obtain⟨M,G,J,N,I,Q,D,L⟩:=j.fo ⟨A,af⟩;exact⟨M,G,J,N,I,Q,D,L⟩
 ·simp only[jU,Int.toNat_natCast,List.getElem?_set]at t;by_cases e:n=m
  ·grind
  ·rw[if_neg e]at t;exact j.brk m y ⟨hm,af⟩ t
theorem bu.put(h:bu H own O W S)(hn:n<O.eX.length)(t:H.ds[n]?=some gd)(hg:dh H.ak (n:Int)=some (.pointer (some ⟨g,0,none⟩)))
 (j:dE (λk=>own k≠0/\own k≠2*n+4) (λk=>own k≠2*n+4/\k<W.heap.size) g gd B' W') (u:ag (λk=>¬(own k≠2*n+4/\k<W.heap.size)) W W'):bu H (jf own (2*n+4) W W') (iw O n B') W' S:=by
 refine h.akW hn u ⟨gd,t,λB e=>?_,λe=>DV⟩
 injection e with e
 subst e
 exact⟨g,hg,j.less (λk hk=>by have:=PJ h.lo ⟨hk.2,.inr hk.1⟩;exact⟨this.2.2▸hk.1,this.1⟩) λk hk=>aiX⟩
theorem bu.akX{d}(h:bu H own O W S)(hn:n<O.eX.length)(y:H.ds[n]?=some gd)(hg:dh H.ak (n:Int)=none)
 (t:sw (λk=>own k≠2*n+4/\k<W.heap.size) gd d W') (u:ag (λk=>¬(own k≠2*n+4/\k<W.heap.size)) W W'):bu H (jf own (2*n+4) W W') (jU O n ⟨none,d⟩) W' S :=
 h.akW hn u ⟨gd,y,λB e=>DV,λ_=>⟨hg,t.imp λvh j=>⟨j.1,λk hk=>j.2 k aiX⟩⟩⟩
theorem bu.less{t}(h:bu H own O W S)(j:∀i,t i->S i):bu H own O W t :=
 ⟨h.lo,h.fx,λe=>h.fo (j _ e),λe=>h.cz (j _ e),λn x e=>h.brk n x (j _ e),λc l e=>h.got c l (j _ e)⟩
theorem bu.map{ak}(h:bu H own O W λj=>S j/\j≠2*n+4)(h2:S 2)(hn:n<O.eX.length)(hl:O.eX.length=O.par.length)(hm:eC encI W' H.gb ak)(hk:(ak.map (·.1)).Nodup)(F:∀m,m≠(n:Int)->dh ak m=dh H.ak m)(u:ag (λk=>k=H.gb) W W')
 (C:OvB { H with ak:=ak } own W' n x):bu { H with ak:=ak } own (jU O n x) W' S:=by
 obtain⟨J,X,Y,G,I,⟨Z,b2,N,V⟩,U,a8⟩:=h.fo ⟨h2,af⟩
 have A:bu H own O W' λj=>(S j/\j≠2*n+4)/\j≠2:=h.to u (λk e=>aA) (λ_ h=>h.1) (λ_ _=>rfl) λk hk e=>XL
 have hne:∀t cs k,ai W k t cs->k≠H.gb:=λt cs k hb e=>(e▸X).cells hb
 refine⟨A.lo,A.fx,λ_=>⟨J.aW u (hne _ _ _ J),hm,λk e=>?_,G.to u (λ_ _=>trivial) (λk hk e=>?_) (λ_ _ _=>.inl trivial),I.to u (λ_ _=>trivial) (λk hk e=>?_) (λ_ _ _=>.inl trivial),⟨Z,b2,N,V⟩,U,hk⟩,λL=>A.cz ⟨⟨L,af⟩,af⟩,λm y hm D=>?_,λc l Q=>A.got c l ⟨⟨Q,af⟩,af⟩⟩
 ·refine (F k λT=>?_).trans (Y k e);subst T;have e:fA O.par (n:Int)=false:=e;unfold fA at e;grind
 ·obtain⟨_,_,_,hb⟩:=G.own hk;grind
 ·obtain⟨_,_,_,hb⟩:=I.own hk;grind
 ·simp only[jU,Int.toNat_natCast,List.getElem?_set]at D;by_cases e:n=m
  ·grind
  ·rw[if_neg e]at D;obtain⟨gd,M,e2,E⟩:=A.brk m y ⟨⟨hm,af⟩,af⟩ D;have R:=F (m:Int) af;refine⟨gd,M,λB C=>?_,λC=>⟨R.trans (E C).1,(E C).2⟩⟩;grind
theorem bu.akY(h:bu H own O W dF)(hn:n<O.eX.length)(t:H.ds[n]?=some gd)(hg:dh H.ak (n:Int)=some (.pointer (some ⟨g,0,none⟩)))
 (j:dE (λk=>own k≠0/\own k≠2*n+4) (λk=>own k≠2*n+4/\k<W.heap.size) g gd B' W') (u:ag (λk=>¬(own k≠2*n+4/\k<W.heap.size)) W W'):dB H own (iw O n B') W W' :=
 dB.of u (λk hk _=>af) (i:=2*n+4) (h.put hn t hg j u) rfl
theorem bu.Jm(h:bu H own O W S)(F:H.vn=.pointer (some ⟨gn,0,none⟩))(y:tg (λk=>own k≠0) (λk=>own k=3) gn L W')(u:ag (λk=>own k=3) W W'):bu H own { O with cz:=L } W' S:=by
 have t:bu H own O W' λj=>S j/\j≠3:=h.to u (λk hk=>af) (λ_ h=>h.1) (λ_ _=>rfl) λk hk e=>XL
 exact⟨t.lo,t.fx,λJ=>by
  obtain⟨I,C,E,M,D,N,B,G⟩:=t.fo ⟨J,af⟩;exact⟨I,C,E,M,D,N,B,G⟩,λ_=>⟨gn,F,y⟩,λm x hm=>t.brk m x ⟨hm,af⟩,λc l A=>t.got c l ⟨A,af⟩⟩
theorem bu.azw(h:bu H own O W dF)(j:H.vn=.pointer (some ⟨gn,0,none⟩))(t:tg (λk=>own k≠0) (λk=>own k=3) gn L W')(u:ag (λk=>own k=3) W W'):dB H own { O with cz:=L } W W' :=
 ⟨H,own,h.Jm j t u,rfl,u.more λk hk=>af,λ_ _=>rfl⟩
end
section
variable {S:Nat->Prop} {W:World} {H:mM} {own:Nat->Nat} {O:bF}
theorem KV(h:bu H own O W S)(j:S 2) n :
 Calls prog 44 #[.pointer (some ⟨H.gw,0,none⟩),.int .i64 n] W λe w'=>e=.returned (.bool (gX O n))/\w'=W:=by
 have q:=(h.fo j).blk.cell
 obtain⟨A,c,e,-⟩:=h.fx.now.1
 rw[e]at q
 have HI:Hid (gX O n=(decide (0<=n)&&decide (n<(O.par.length:Int)))):=ae rfl
 generalize gX O n=R at *
 clear h e j
 go_enter func44,ntmps44
 by_cases h0:0<=n
 ·by_cases h1:n<(O.par.length:Int)
  ·exact aiY
  ·exact aiZ
 ·exact ai0
theorem Ud(h:bu H own O W S)(j:S 2) n :
 Calls prog 68 #[.pointer (some ⟨H.gw,0,none⟩),.int .i64 n] W λe w'=>e=.returned (.bool (jP O n))/\w'=W:=by
 have q:=(h.fo j).blk.cell
 obtain⟨A,c,e,-⟩:=h.fx.now.2.1
 rw[e]at q
 have HI:Hid (jP O n=(decide (0<=n)&&decide (n<(O.ah.length:Int)))):=ae rfl
 generalize jP O n=R at *
 clear h e j
 go_enter func68,ntmps68
 by_cases h0:0<=n
 ·by_cases h1:n<(O.ah.length:Int)
  ·exact aiY
  ·exact aiZ
 ·exact ai0
theorem aeN(j:pU O){m}(hm:m<O.ah.length):mV O m=O.ah[m]/\fA O.par O.ah[m]=true:=by refine⟨by grind [mV],?_⟩;have:=j.hm;simp only[jt,dC,xC]at this;exact this.2 _ (bZ hm)
theorem bu.look(h:bu H own O W S)(u:S 2)(j:∀n,S (2*n+4))(t:pU O) m:(dh H.ak m).isSome=(cL O m).isSome/\∃v,(dh H.ak m).getD (.pointer none)=.pointer v:=by
 cases hu:cL O m with
 | none=>rw[h.down u j t.ln hu];exact⟨rfl,_,rfl⟩
 | some B =>
  have hm:0<=m:=by
   grind [dh,cL,gX,fA]
  obtain⟨n,rfl⟩:=Int.eq_ofNat_of_zero_le hm
  obtain⟨gd,g,-,y,-⟩:=h.up (j n) t.ln hu
  grind
theorem bu.q(h:bu H own O W S)(j:S 2):∀W',K W W'->∀m,(Instr.lookup 78 (.map (some H.gb)) (.int .i64 m) true).run prog W'=.ok (.tuple #[(dh H.ak m).getD (.pointer none),.bool (dh H.ak m).isSome]) W'/\(Instr.lookup 78 (.map (some H.gb)) (.int .i64 m) false).run prog W'=.ok ((dh H.ak m).getD (.pointer none)) W':=λW' k m =>
 DG (Es (P:=prog) (kt:=3) underlying3) underlying78 (z:=.pointer none) fB ((h.fo j).map.st k) m
theorem Pk(h:bu H own O W S)(j:S 2)(u:∀n,S (2*n+4))(A:pU O) n :
 Calls prog 13 #[.pointer (some ⟨H.gw,0,none⟩),.int .i64 n] W λe w'=>e=.returned (.bool (cL O n).isSome)/\w'=W:=by
 have C:=ae (KV h j n)
 have q:=(h.fo j).blk.cell
 have B:=(h.q j W (K.rf W) n).1
 obtain⟨y,v,t⟩:=h.look j u A n
 rw[y,t]at B
 have D:Hid (gX O n=false->(cL O n).isSome=false):=ae λe=>by unfold cL;rw[e];rfl
 generalize (cL O n).isSome=R at *
 clear h j u A y t
 go_enter func13,ntmps13
 go_wp2_with fail
 apply aM C.aa
 rintro w' rfl
 cases hi:gX O n
 ·have HR:=ae (D.aa hi);exact LL
 ·go_wp2;go_ret;exact⟨rfl,rfl⟩
def mG(H:mM)(O:bF)(c:Int):Value×Int:=if jP O c then (if (cL O (mV O c)).isSome then ((dh H.ak (mV O c)).getD (.pointer none),0)else (.pointer none,210))else (.pointer none,1)
theorem OZ(h:bu H own O W S)(t:S 2)(C:∀n,S (2*n+4))(y:pU O) c :
 Calls prog 48 #[.pointer (some ⟨H.gw,0,none⟩),.int .i64 c] W λe w'=>e=.returned (.tuple #[(mG H O c).1,.int .i64 (mG H O c).2])/\K W w':=by
 have u:=ae (Ud h t c)
 have q:=(h.fo t).blk.cells
 have D:=h.q t
 obtain⟨A,cc,e,E,-⟩:=h.fx.now.2.1
 rw[e]at q
 have hk:=h.look t C y (mV O c)
 have j:Hid (mG H O c=if jP O c then (if (cL O (mV O c)).isSome then ((dh H.ak (mV O c)).getD (.pointer none),0)else (.pointer none,210))else (.pointer none,1)):=ae rfl
 generalize mG H O c=R at *
 have M:=K.rf W
 cases hc:jP O c
 ·have HR:Hid (R=(.pointer none,1)):=ae (by rw[j.aa,hc];rfl);rw[hc]at u;clear h t C y e E j hk D q;go_enter func48,ntmps48;go_wp2_with fail
  apply aM u.aa;rintro w' rfl;go_wp2;go_ret2;exact⟨fW,M⟩
 ·rw[hc]at u j;unfold jP at hc;simp only[dC,decide_eq_true_eq]at hc;obtain⟨m,rfl⟩:=Int.eq_ofNat_of_zero_le hc.1;have hm:m<O.ah.length:=af;have J:=hc.2;obtain⟨b,N,rfl,G⟩:=ints_at E af;have L:=λW k=>G W k m hm
  rw[(aeN y hm).1]at hk j;generalize O.ah[m]=x at *;obtain⟨I,v,B⟩:=hk;have F:=λW k=>(D W k x).1
  rw[I,B]at F;rw[B]at j;generalize (cL O x).isSome=Q at *;have HR:Hid (R=if Q then (.pointer v,0)else (.pointer none,210)):=ae j.aa;clear h t C y e E j D G hm hc I B;go_enter func48,ntmps48;go_wp2_with fail
  apply aM u.aa;rintro w' rfl;go_wp2_with fail
  have qs:=And.intro q (And.intro F (And.intro L J));refine dV 16 ?_;iterate 16 refine au.i ?_
  intro V T kW hA;simp only[aO,aR,cC,aJ,Nat.reduceAdd]at hA;refine aH.p ?_;refine aH.h ?_;cases Q
  ·go_wp2;go_ret2;exact⟨fW,kW⟩
  ·go_wp2;go_ret2;exact⟨fW,kW⟩
def AX(H:mM)(O:bF)(c:Int)(a:aS):Value×Int:=if (mG H O c).2=0/\a.1≠mV O c then (.pointer none,1)else mG H O c
theorem abJ(h:bu H own O W S)(G:S 2)(L:∀n,S (2*n+4))(C:pU O) c a :
 Calls prog 52 #[.pointer (some ⟨H.gw,0,none⟩),.int .i64 c,cN a] W λe w'=>e=.returned (.tuple #[(AX H O c a).1,.int .i64 (AX H O c a).2])/\K W w':=by
 have y:=ae λW' (k:K W W')=>OZ (h.st k) G L C c
 have q:=(h.fo G).blk.cells
 obtain⟨A,cc,e,Q,-⟩:=h.fx.now.2.1
 rw[e]at q
 obtain⟨j,M,J⟩:=a
 have B:Hid (AX H O c (j,M,J)=if (mG H O c).2=0/\j≠mV O c then (.pointer none,1)else mG H O c):=ae rfl
 generalize AX H O c (j,M,J)=R at *
 have U:=K.rf W
 dsimp only[cN]
 by_cases h0:(mG H O c).2=0
 ·have u:jP O c=true:=by
   unfold mG at h0;cases u:jP O c
   ·grind
   ·rfl
  unfold jP at u;simp only[dC,decide_eq_true_eq]at u;obtain⟨m,rfl⟩:=Int.eq_ofNat_of_zero_le u.1;have hm:m<O.ah.length:=af;have vL:=u.2;obtain⟨b,off,rfl,Z⟩:=ints_at Q af;have D:=λW k=>Z W k m hm
  rw[(aeN C hm).1]at B;generalize O.ah[m]=x at *;obtain⟨v,F⟩:∃v,(mG H O m).1=.pointer v:=by
   unfold mG;obtain⟨v,e⟩:=(h.look G L C (mV O m)).2;split
   ·grind
   ·simp
  have HR:Hid (R=if j=x then (.pointer v,0)else (.pointer none,1)):=ae (by
   rw[B.aa,h0];by_cases D:j=x
   ·grind
   ·simp[D])
  rw[F,h0]at y;clear h G L C e Q B Z hm u h0 F;go_enter func52,ntmps52;have N:=ai.new W 26 #[.int .i64 j,.int .u64 M,.int .u64 J];have t:=N.aU;go_wp2_with fail
  apply cG (y.aa _ t) t;intro T Y E;have qb:=(N.ay Y).cells;replace q:=λW' (k:K T W')=>q W' (E.tr k)
  replace D:=λW' (k:K T W')=>D W' (E.tr k)
  clear y N t U;go_wp2_with fail
  have qs:=And.intro q (And.intro qb (And.intro D vL));refine dV 9 ?_;iterate 9 refine au.i ?_
  intro V W2 kW hA;simp only[aO,aR,cC,aJ,Nat.reduceAdd]at hA;refine aH.p ?_;refine aH.h ?_;have X:=E.tr kW;by_cases I:j=x
  ·rw[if_pos I]at HR;subst I;go_wp2;go_ret2;exact⟨fW,X⟩
  ·rw[if_neg I]at HR;have aFf:(j != x)=true:=by simpa using I
   go_wp2;go_ret2;exact⟨fW,X⟩
 ·have HR:Hid (R=mG H O c):=ae (by rw[B.aa,if_neg λe=>h0 e.1]);have hne:((mG H O c).2 != 0)=true:=La;have F:(mG H O c).1=.pointer none:=by
   unfold mG at h0⊢;split <;> try split
   all_goals simp_all
  generalize mG H O c=r at *;obtain⟨v,d⟩:=r;simp only at hne y F;subst F;clear h G L C e Q B q h0;go_enter func52,ntmps52;have t:=K.new W (.cells #[.int .i64 j,.int .u64 M,.int .u64 J] 26);go_wp2_with fail
  apply cG (y.aa _ t) t;intro T Y E;clear y t U;go_wp2;go_ret2;exact⟨fW,E⟩
end
section
variable {α:Type} [DecidableEq α] {ak:List (α×Value)} {k m:α} {v:Value}
theorem Vd(k:α):∀(r:List (α×Value)) (i:Nat),gu k r (i+1)=(gu k r i).map λq=>(q.1+1,q.2)
 | [],_=>rfl
 | p :: r,i=>by
  simp only[gu];split
  ·rfl
  ·exact Vd k r _
theorem BS p:dh (p :: ak) k=if p.1=k then some p.2 else dh ak k:=by
 unfold dh;simp only[gu];split
 ·rfl
 ·rw[Vd];cases gu k ak 0 <;> rfl
theorem ado:∀ {ak:List (α×Value)},dh ak k=none->k∉ak.map (·.1)
 | [],_=>aj
 | p :: r,h=>by
  rw[BS]at h;split at h
  ·cases h
  ·next hp =>
   simp only[jR,List.mem_cons,not_or];exact⟨λe=>hp e.symm,ado h⟩
theorem aed:∀ {ak:List (α×Value)},k∉ak.map (·.1)->dh ak k=none
 | [],_=>rfl
 | p :: r,h=>by simp only[jR,List.mem_cons,not_or]at h;rw[BS,if_neg λe=>h.1 e.symm];exact aed h.2
theorem awx(h:dh ak k=none) v:sG ak k v=ak++[(k,v)]:=by
 unfold sG
 unfold dh at h
 cases e:gu k ak 0 with
 | none=>rfl
 | some q=>rw[e]at h;cases h
theorem Ve:∀ {ak:List (α×Value)},dh (ak++[(k,v)]) m=if (dh ak m).isSome then dh ak m else if k=m then some v else none
 | []=>BS _
 | p :: r=>by rw[aR,BS,BS,Ve];by_cases hp:p.1=m <;> simp[hp]
theorem auH p:Cp (p :: ak) k=if p.1=k then ak else p :: Cp ak k:=by
 grind [Cp,gu,Vd]
theorem aee k:∀ {ak:List (α×Value)},(ak.map (·.1)).Nodup->dh (Cp ak k) k=none/\(∀m,m≠k->dh (Cp ak k) m=dh ak m)/\((Cp ak k).map (·.1)).Sublist (ak.map (·.1))
 | [],_=>⟨rfl,λ_ _=>rfl,.slnil⟩
 | p :: r,h=>by
  simp only[jR,List.nodup_cons]at h;obtain⟨u,t,j⟩:=aee k h.2;rw[auH];by_cases hp:p.1=k
  ·subst hp;rw[if_pos rfl];exact⟨aed h.1,λm hm=>by rw[BS,if_neg λe=>hm e.symm],List.sublist_cons_self _ _⟩
  ·rw[if_neg hp];exact⟨by rw[BS,if_neg hp,u],λm hm=>by rw[BS,BS,t m hm],j.cons_cons _⟩
end
section
variable {S:Nat->Prop} {W W2:World} {H:mM} {own:Nat->Nat} {O:bF} {par ah:List Int} {k:Nat}
theorem bu.Jn(h:bu H own O W S){n gd}(B:H.ds[n]?=some gd):∃b j c,H.vd=.slice (some ⟨b,j,none⟩) H.ds.length c/\n<H.ds.length/\∀W',ag (λk=>own k≠0) W W'->W'.cell? ⟨b,j+n,none⟩=some (.pointer (some ⟨gd,0,none⟩)):=by
 obtain⟨hn,hg⟩:=List.getElem?_eq_some_iff.1 B
 have key:∀W',ag (λk=>own k≠0) W W'->∃b j c,H.vd=.slice (some ⟨b,j,none⟩) H.ds.length c/\W'.cell? ⟨b,j+n,none⟩=some (.pointer (some ⟨gd,0,none⟩)):=λW' u=>by
  obtain⟨A,c,e,C,-⟩:=(h.fx W' u).2.2
  obtain⟨b,j,cs,rfl,-,t,y,-⟩:=eB C n aA ax
  obtain⟨rfl,-⟩:=t W' (K.rf W')
  have:=y W' (K.rf W')
  simp only[show yq.size=1 from rfl,Nat.mul_one]at this
  grind
 obtain⟨b,j,c,e,-⟩:=key W (ag.rf _ _)
 grind
theorem auI O n x y:jU (jU O n x) n y=jU O n y:=by simp[jU]
theorem apy(h:bu H own O W dF)(A:bQ par ah O k) n keep(hk:cD keep) :
 Calls prog 11 #[.pointer (some ⟨H.gw,0,none⟩),.int .i64 n,.int .i64 keep] W λe w'=>e=.returned (.int .i64 (sB O n).2)/\dB H own (sB O n).1 W w':=by
 have C1:=ae (KV h p2 n)
 have C2:=ae (Pk h p2 pB A.gH n)
 have HR:Hid (sB O n=if gX O n then (match cL O n with|none=>(O,(210:Int))|some B=>(jU O n ⟨none,B.dk⟩,0))else (O,1)):=ae rfl
 have HN:=ae (h.now (K.rf W))
 generalize sB O n=R at *
 cases hi:gX O n
 ·rw[hi]at C1 HR;go_enter func11,ntmps11;exact QT
 rw[hi]at C1 HR
 cases hu:cL O n with
 | none => rw[hu]at HR C2;go_enter func11,ntmps11;exact ai1
 | some B =>
  rw[hu]at HR C2;obtain⟨i,rfl,hlt,x,hx1,hx2⟩:=Ec hu;obtain⟨gd,g,y,e2,T⟩:=h.up (pB i) A.gH.ln hu;have hn:i<O.eX.length:=aA;obtain⟨W1,Q,M,Y⟩:=avo (Es (P:=prog) (kt:=3) underlying3) underlying78 (h.fo p2).map (i:Int) 0 #[78,3] rfl;obtain⟨G,X,V⟩:=aee (i:Int) (h.fo p2).kn;have u:ag (λk=>k=H.gb) W W1:=ag.eU Y λk e=>aA
  have Z:=(h.fo p2).own.2.1;have J:=T.dk.to u (Z':=λk=>own k≠2*i+4/\k<W1.heap.size) (λk e=>⟨by rw[e,Z];omega,e▸(h.fo p2).map.lt⟩) λk hk=>by omega
  have C:bu { H with ak:=Cp H.ak (i:Int) } own (jU O i ⟨none,B.dk⟩) W1 dF :=
   (h.less λ_ h=>h.1).map p2 hn A.gH.ln M ((h.fo p2).kn.sublist V) X u ⟨gd,y,λB e=>DV,λ_=>⟨G,J⟩⟩
  obtain⟨b,off,c,E,N,F⟩:=bu.Jn C (n:=i) (gd:=gd) y;have q:=(h.fo p2).blk.cell;have S:=(C.fo p2).blk.cell;have F:=F W1 (ag.rf _ _);simp only at E N;have N0:(i:Int)<H.ds.length:=af;rw[E]at q S;simp only[encI]at Q;have U:=ae (ayN J keep hk);have L:=ae λj (D:sw _ gd B.dk j) t=>C.akX (n:=i) (O:=jU O i ⟨none,B.dk⟩) (by show i<(O.eX.set _ _).length;rw[List.length_set];exact hn) y G D t
  go_enter func11,ntmps11;go_wp2_with fail
  apply aM C1.aa;rintro w' rfl;go_wp2_with fail
  apply aM C2.aa;rintro w' rfl;go_wp2_with fail
  apply aM U.aa;rintro j⟨D,t⟩;have I:=L.aa j D t;rw[auI]at I;have hs1:=u.size;have HF:=ae (show dB H own (jU O i ⟨none,B.dk⟩) w' j from ⟨_,_,I,rfl,(u.more λk e=>aA).gF t λk hk e=>af,λk hk=>F6⟩);exact Lx
end
