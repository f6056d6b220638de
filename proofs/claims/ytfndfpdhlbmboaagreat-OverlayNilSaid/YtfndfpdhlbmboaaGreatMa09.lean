/-
  The walk of fold.All (layer 16). Conditions: at most 800000 records.
-/
import Derived.Test.YtfndfpdhlbmboaaGreatMa08
import Derived.Test.YtfndfpdhlbmboaaGreatMz
set_option maxRecDepth 100000
set_option linter.constructorNameAsVariable false
set_option maxHeartbeats 16000000
set_option linter.unusedVariables false
set_option linter.unusedSimpArgs false
namespace Go.Proofs.YtfndfpdhlbmboaaGreat
open Go Go.RowKit _root_.Go.Proofs.Tryz
def jP:dW (List UInt8) where
 size:=1
 rel l cs w:=∃v,cs=[v]/\sl l v w
 len:=by rintro _ _ _⟨v,rfl,_⟩;rfl
 one:=by rintro _ _ _⟨v,rfl,A,c,rfl,_⟩ u j;simp at j;subst j;rfl
 st:=by rintro _ _ _ _⟨v,rfl,h⟩ k;exact⟨v,rfl,nC _ _ _ _ h k⟩
def rO(s:dc)(b:List UInt8):dc×Int:=if tz b=0 then mj s (tv b)else (s,tz b)
def gP:dc->List (List UInt8)->dc×Int
 | s,[]=>(s,0)
 | s,b :: l=>if (rO s b).2=0 then gP (rO s b).1 l else rO s b
def sK(l:List (List UInt8)):dc×Int:=if (gP dw l).2=0 then gP dw l else (dw,(gP dw l).2)
theorem ata l b:∀s,(gP s l).2=0->gP s (l++[b])=rO (gP s l).1 b:=by
 induction l with
 | nil =>
  grind [gP,rO]
 | cons c l j =>
  grind [gP,rO]
theorem au8 l m:∀s,(gP s l).2≠0->gP s (l++m)=gP s l:=by
 induction l with
 | nil=>intro s h;simp[gP]at h
 | cons c l j =>
  grind [gP]
theorem ars{b}(h:tz b=0):∃x,mN b=some x/\tv b=x:=by
 unfold tz at h
 cases hd:mN b with
 | none=>simp[hd]at h
 | some x=>exact⟨x,rfl,by simp[tv,hd]⟩
theorem axY{l}(h:fB l=true):l.length<=16:=by
 grind [fB]
theorem uy{x}(h:bK x=true):eB x:=by
 unfold bK at h;simp only[dE,decide_eq_true_eq]at h;obtain⟨-,h⟩:=h;split at h
 ·simp only[dE,decide_eq_true_eq,List.isEmpty_iff]at h;obtain⟨⟨⟨-,j⟩,u⟩,y⟩:=h;exact⟨aG,af,λe t=>by grind [axY,uO]⟩
 ·split at h
  ·grind [bK,eB]
  ·split at h
   ·simp only[dE,List.isEmpty_iff]at h;exact⟨by grind [De],aG,aG⟩
   ·cases h
theorem acv:eB dz:=by simp[eB,dz]
theorem ap3{x}(h:eo x=true):eB x.e:=by
 rcases zn h with ⟨-,e,-⟩|⟨-,e,-⟩|⟨-,-,-,e⟩
 ·grind [acv]
 ·exact uy e
 ·grind [acv]
theorem ajd s t r(h:dU s r=some t):t.list.length<=s.list.length+1/\t.prom.length<=s.prom.length+1/\t.ab.length<=s.ab.length+1:=by
 have j:∀(l:List aK) a,(iM l a).length<=l.length:=λl a=>ll _ _
 have u:=j s.prom (ar r.e)
 have y:=j s.prom (iA r)
 unfold dU yQ xj xm xp yR at h
 grind
theorem au9 s r:(mj s r).1.list.length<=s.list.length+1/\(mj s r).1.prom.length<=s.prom.length+1/\(mj s r).1.ab.length<=s.ab.length+1:=by
 unfold mj;split
 ·cases h:dU s r with
  | none=>simp
  | some t=>exact ajd s t r h
 ·simp
theorem ava s b:(rO s b).1.list.length<=s.list.length+1/\(rO s b).1.prom.length<=s.prom.length+1/\(rO s b).1.ab.length<=s.ab.length+1:=by
 grind [rO,au9]
theorem avb l:∀s,(gP s l).1.list.length<=s.list.length+l.length/\(gP s l).1.prom.length<=s.prom.length+l.length/\(gP s l).1.ab.length<=s.ab.length+l.length:=by
 induction l with
 | nil=>intro s;simp[gP]
 | cons c l j =>
  grind [ava,gP,eQ,rO]
theorem adh{l:List (List UInt8)}{j}(u:j<l.length)(t:(gP dw (l.take j)).2=0):gP dw (l.take (j+1))=rO (gP dw (l.take j)).1 l[j]:=by
 grind [gj,ata]
theorem avc{l j}(u:j<l.length)(t:(gP dw (l.take j)).2=0){c}(hb:(rO (gP dw (l.take j)).1 l[j]).2=c)(B:¬c=0):sK l=(dw,c):=by
 have y:=adh u t
 have A:gP dw l=gP dw (l.take (j+1)):=by
  grind [List.take_append_drop,au8]
 unfold sK
 grind
theorem atb{l}(h:(gP dw l).2=0):sK l=((gP dw l).1,0):=by
 grind [gP,dw,sK]
def lT(l:List aK):List Rec:=l.zipIdx.map λp=>⟨2,p.2,p.1,0,0,0⟩
def kM(l:List aK):List Rec:=l.map λx=>⟨3,0,x,0,0,0⟩
def oY(l:List aR):List Rec:=l.map λa=>⟨4,0,dz,a.1,a.2.1,a.2.2⟩
def vH(n:Nat):List Rec:=if n=0 then []else [⟨1,n,dz,0,0,0⟩]
def dF(s:dc):List Rec:=vH s.life++lT s.list++kM s.prom++oY s.ab
theorem atc(l:List aK) j(h:j<l.length):lT (l.take (j+1))=lT (l.take j)++[⟨2,j,l[j],0,0,0⟩]:=by unfold lT;rw[gj h,List.zipIdx_append,List.map_append];simp[nX,Nat.min_eq_left (Nat.le_of_lt h)]
theorem atd(l:List aK) j(h:j<l.length):kM (l.take (j+1))=kM (l.take j)++[⟨3,0,l[j],0,0,0⟩]:=by unfold kM;exact afU
theorem ate(l:List aR) j(h:j<l.length):oY (l.take (j+1))=oY (l.take j)++[⟨4,0,dz,l[j].1,l[j].2.1,l[j].2.2⟩]:=by unfold oY;exact afU
theorem ad7 n:(vH n).length<=1:=by unfold vH;split <;> simp
theorem Ky l:(lT l).length=l.length:=by simp[lT]
theorem Pc l:(kM l).length=l.length:=by simp[kM]
theorem UI l:(oY l).length=l.length:=by simp[oY]
theorem awu:(prog.info? 197).map (λi=>(i.zero,i.size,i.bytes))=some (some (.agg qT),13,136):=by kernel_rfl
theorem Q0:fK prog 333 197 (.agg qT) 13 136:=⟨underlying333,awu,rfl,ay⟩
theorem aje:(prog.info? 94).map (λi=>(i.zero,i.size,i.bytes))=some (some (.slice none 0 0),1,24):=by kernel_rfl
theorem RL:fK prog 119 94 (.slice none 0 0) 1 24:=⟨underlying119,aje,rfl,ay⟩
theorem ajf{k n x}{a:aR}{vf j W}(h:cV x (.agg (aD x vf j)) W):vC.rel ⟨k,n,x,a.1,a.2.1,a.2.2⟩ (eS ⟨k,n,x,a.1,a.2.1,a.2.2⟩ vf j).toList W:=by obtain⟨t,u,e,h1,h2⟩:=h;exact PL
theorem Fi{l a}:bT l a=true ↔ ∃x∈l,ar x=a:=by simp[bT]
theorem Kz{l a}:dG l a=true↔a∈l:=by simp[dG]
theorem OX{l a x}:x∈iM l a↔x∈l/\ar x≠a:=by simp[iM]
structure qX(s:dc):Prop where
 nl:(s.list.map ar).Nodup
 np:(s.prom.map ar).Nodup
 na:s.ab.Nodup
 lp:∀x∈s.list,∀y∈s.prom,ar x≠ar y
 la:∀x∈s.list,ar x∉s.ab
 pa:∀x∈s.prom,ar x∉s.ab
 yU:∀x∈s.list,bK x=true/\cD x
 yV:∀x∈s.prom,bK x=true/\cD x
 Gs:∀a∈s.ab,qJ a.1=true/\eu a
 life:s.life<18446744073709551616
theorem qX.zero:qX dw:=⟨xV,xV,xV,xV,xV,xV,xV,xV,xV,ay⟩
theorem qX.drop{s}(h:qX s) a:qX ⟨s.life,s.list,iM s.prom a,s.ab⟩:=by
 have hm:∀x∈iM s.prom a,x∈s.prom:=λx j=>(OX.1 j).1
 refine⟨h.nl,?_,h.na,λx j y t=>h.lp x j y (hm y t),h.la,λx j=>h.pa x (hm x j),h.yU,λx j=>h.yV x (hm x j),h.Gs,h.life⟩;exact (List.Sublist.map ar List.filter_sublist).nodup h.np
theorem OL{α:Type}[DecidableEq α]{l}{a:α}(h:l.Nodup)(u:a∉l):(l++[a]).Nodup:=by rw[List.nodup_append];refine⟨h,aj,λx t y j=>?_⟩;simp at j;subst j;rintro rfl;exact u t
theorem qX.on{s t r}(h:qX s)(L:eo r=true)(R:jT r)(e:dU s r=some t):qX t:=by
 have hk:=zn L;obtain⟨-,O,H,J,N,Q⟩:=R;unfold dU yQ xj xm xp yR at e;split at e
 ·split at e
  ·cases e
  ·injection e with e;subst e;exact⟨h.nl,h.np,h.na,h.lp,h.la,h.pa,h.yU,h.yV,h.Gs,O⟩
 ·rename_i V;split at e
  ·rename_i I;have G:bK r.e=true:=afV;split at e
   ·cases e
   ·split at e
    ·cases e
    ·rename_i C;split at e
     ·cases e
     ·rename_i E;injection e with e;subst e;have hm:∀x∈iM s.prom (ar r.e),x∈s.prom/\ar x≠ar r.e:=λx j=>OX.1 j
      have D:∀x∈s.list,ar x≠ar r.e:=λx j e=>C (Fi.2 ⟨x,j,e⟩)
      have F:ar r.e∉s.ab:=λj=>E (Kz.2 j)
      have A:=h.drop (ar r.e);refine⟨?_,A.np,h.na,?_,?_,A.pa,?_,A.yV,h.Gs,h.life⟩
      ·simp only[List.map_append,jU,List.map_nil];refine OL h.nl ?_;intro j;obtain⟨x,j,e⟩:=List.mem_map.1 j;exact D x j e
      ·intro x j y u;rcases List.mem_append.1 j with j|j
       ·exact h.lp x j y (hm y u).1
       ·simp at j;subst j;exact λe=>(hm y u).2 e.symm
      ·intro x j;rcases List.mem_append.1 j with j|j
       ·exact h.la x j
       ·simp at j;subst j;exact F
      ·intro x j;rcases List.mem_append.1 j with j|j
       ·exact h.yU x j
       ·simp at j;subst j;exact⟨G,H⟩
  ·rename_i I;split at e
   ·rename_i U;have G:bK r.e=true:=afV;split at e
    ·cases e
    ·rename_i C;split at e
     ·cases e
     ·rename_i M;split at e
      ·cases e
      ·rename_i E;injection e with e;subst e;have D:∀x∈s.list,ar x≠ar r.e:=λx j e=>C (Fi.2 ⟨x,j,e⟩)
       have S:∀x∈s.prom,ar x≠ar r.e:=λx j e=>M (Fi.2 ⟨x,j,e⟩)
       have F:ar r.e∉s.ab:=λj=>E (Kz.2 j)
       refine⟨h.nl,?_,h.na,?_,h.la,?_,h.yU,?_,h.Gs,h.life⟩
       ·simp only[List.map_append,jU,List.map_nil];refine OL h.np ?_;intro j;obtain⟨x,j,e⟩:=List.mem_map.1 j;exact S x j e
       ·intro x j y u;rcases List.mem_append.1 u with u|u
        ·exact h.lp x j y u
        ·simp at u;subst u;exact D x j
       ·intro x j;rcases List.mem_append.1 j with j|j
        ·exact h.pa x j
        ·simp at j;subst j;exact F
       ·intro x j;rcases List.mem_append.1 j with j|j
        ·exact h.yV x j
        ·simp at j;subst j;exact⟨G,H⟩
   ·split at e
    ·rename_i T;have hb:qJ r.br=true:=by
      rcases hk with ⟨g,_⟩|⟨g,_⟩|⟨_,g,_⟩
      ·omega
      ·omega
      ·simp[qJ,g.1,g.2]
     split at e
     ·cases e
     ·rename_i C;split at e
      ·cases e
      ·rename_i E;injection e with e;subst e;have D:∀x∈s.list,ar x≠iA r:=λx j e=>C (Fi.2 ⟨x,j,e⟩)
       have F:iA r∉s.ab:=λj=>E (Kz.2 j)
       have A:=h.drop (iA r);refine⟨h.nl,A.np,OL h.na F,A.lp,?_,?_,h.yU,A.yV,?_,h.life⟩
       ·intro x j hm;rcases List.mem_append.1 hm with hm|hm
        ·exact h.la x j hm
        ·simp at hm;exact D x j hm
       ·intro x j hm;rcases List.mem_append.1 hm with hm|hm
        ·exact A.pa x j hm
        ·simp at hm;exact (OX.1 j).2 hm
       ·intro a B;rcases List.mem_append.1 B with B|B
        ·exact h.Gs a B
        ·simp at B;subst B;exact⟨hb,J,N,Q⟩
    ·split at e
     ·injection e with e;subst e;exact h.drop _
     ·cases e
def i6:dc->List Rec->Option dc
 | s,[]=>some s
 | s,r :: l=>(dU s r).bind λt=>i6 t l
theorem Pd l m:∀s,i6 s (l++m)=(i6 s l).bind λt=>i6 t m:=by
 induction l with
 | nil=>intro s;rfl
 | cons r l j =>
  intro s
  simp only[aQ,i6]
  cases dU s r with
  | none=>rfl
  | some t=>exact j t
theorem ad8 l(h:∀r∈l,eo r=true/\jT r):∀s t,i6 s l=some t->gP s (l.map bM)=(t,0):=by
 induction l with
 | nil=>intro s t e;injection e with e;subst e;rfl
 | cons r l B =>
  intro s t e
  obtain⟨y,C⟩:=h r aj
  simp only[i6]at e
  cases ho:dU s r with
  | none=>rw[ho]at e;cases e
  | some u =>
   rw[ho]at e;have j:=arc r y C;have A:rO s (bM r)=(u,0):=by unfold rO;rw[(TR j).1,(TR j).2,if_pos rfl,ad5 y ho];rfl
   simp only[jU,gP,A,if_true];exact B (λx hx=>h x Dn) u t e
theorem ayM n:i6 dw (vH n)=some ⟨n,[],[],[]⟩:=by
 unfold vH;split
 ·rename_i h;subst h;rfl
 ·rename_i h;simp[i6,dU,yQ,dw,h]
theorem ayN n l:∀a:List aK,((a++l).map ar).Nodup->i6 ⟨n,a,[],[]⟩ ((l.zipIdx a.length).map λp=>⟨2,p.2,p.1,0,0,0⟩)=some ⟨n,a++l,[],[]⟩:=by
 induction l with
 | nil=>intro a _;simp[i6]
 | cons x l u =>
  intro a h;have t:bT a (ar x)=false:=afW;have j:dU ⟨n,a,[],[]⟩ ⟨2,a.length,x,0,0,0⟩=some ⟨n,a++[x],[],[]⟩:=by simp[dU,xj,t,dG,iM]
  simp only[List.zipIdx_cons,jU,i6,j,Option.bind_some];have:=u (a++[x]) zw;simpa using this
theorem ayO n L l:∀a:List aK,((a++l).map ar).Nodup->(∀x∈L,∀y∈l,ar x≠ar y)->i6 ⟨n,L,a,[]⟩ (kM l)=some ⟨n,L,a++l,[]⟩:=by
 induction l with
 | nil=>intro a _ _;simp[i6,kM]
 | cons x l A =>
  intro a h t;have j:bT a (ar x)=false:=afW;have hy:bT L (ar x)=false:=by rw[Bool.eq_false_iff];intro hh;obtain⟨y,hy,e⟩:=Fi.1 hh;exact t y hy x aj e
  have u:dU ⟨n,L,a,[]⟩ ⟨3,0,x,0,0,0⟩=some ⟨n,L,a++[x],[]⟩:=by simp[dU,xm,j,hy,dG]
  simp only[kM,jU,i6,u,Option.bind_some];have:=A (a++[x]) zw (λx j y hy=>t x j y Fw);simpa [kM]using this
theorem avd{l a}(h:∀x∈l,ar x≠a):iM l a=l:=by unfold iM;rw[List.filter_eq_self];intro x j;simpa using h x j
theorem ayP n L P l:∀a:List aR,(a++l).Nodup->(∀x∈L,ar x∉l)->(∀x∈P,ar x∉l)->i6 ⟨n,L,P,a⟩ (oY l)=some ⟨n,L,P,a++l⟩:=by
 induction l with
 | nil=>intro a _ _ _;simp[i6,oY]
 | cons x l D =>
  intro a h u hp;have C:dG a x=false:=by rw[Bool.eq_false_iff];intro t;exact (List.nodup_append.1 h).2.2 x (Kz.1 t) x aj rfl
  have j:bT L x=false:=by rw[Bool.eq_false_iff];intro t;obtain⟨y,j,e⟩:=Fi.1 t;exact u y j tB
  have B:iM P x=P:=avd λy j e=>hp y j tB
  have A:dU ⟨n,L,P,a⟩ ⟨4,0,dz,x.1,x.2.1,x.2.2⟩=some ⟨n,L,P,a++[x]⟩:=by simp[dU,xp,iA,C,j,B]
  simp only[oY,jU,i6,A,Option.bind_some];have:=D (a++[x]) zw (λy j hm=>u y j (by simp[hm])) (λy j hm=>hp y j (by simp[hm]));simpa [oY]using this
theorem ave{s}(h:qX s):i6 dw (dF s)=some s:=by unfold dF;rw[Pd,Pd,Pd,ayM];simp only[Option.bind_some];have j:=ayN s.life s.list [] (by simpa using h.nl);simp only[List.length_nil,aO]at j;unfold lT;rw[j];simp only[Option.bind_some];rw[ayO s.life s.list s.prom [] (by simpa using h.np) h.lp];simp only[Option.bind_some,aO];rw[ayP s.life s.list s.prom s.ab [] (by simpa using h.na) h.la h.pa];rfl
theorem Hz:cD dz:=by simp[cD,dz,cJ]
theorem VB{s}(h:qX s)(hz:s.list.length<=1000000):∀r∈dF s,eo r=true/\jT r:=by
 intro r j;have y:cJ 0:=pD;unfold dF at j;simp only[DK]at j;rcases j with ((j|j)|j)|j
 ·unfold vH at j;split at j
  ·cases j
  ·simp at j;subst j;exact⟨by simp[eo,wY],pD,h.life,Hz,y,aj,aj⟩
 ·unfold lT at j;obtain⟨⟨x,k⟩,A,rfl⟩:=List.mem_map.1 j;have hm:=List.mem_zipIdx A;obtain⟨t,u⟩:=h.yU x (by have:=hm.2.2;rw[this];exact bS _);exact⟨by simp[eo,t,wY],pD,by simp only;omega,u,y,aj,aj⟩
 ·unfold kM at j;obtain⟨x,A,rfl⟩:=List.mem_map.1 j;obtain⟨t,u⟩:=h.yV x A;exact⟨by simp[eo,t,wY],pD,aj,u,y,aj,aj⟩
 ·unfold oY at j;obtain⟨a,C,rfl⟩:=List.mem_map.1 j;obtain⟨t,u,D,B⟩:=h.Gs a C;exact⟨by simp[eo,t],pD,aj,Hz,u,D,B⟩
abbrev oJ(α:Type):=List UInt8->Bool->Bool->α×List UInt8×Bool×Bool
structure sL{α:Type}(enc:α->List UInt8)(ok:α->Prop)(rd:oJ α):Prop where
 fwd:∀x,ok x->∀rest,rd (enc x++rest) false false=(x,rest,false,false)
 back:∀l wr bd,(rd l wr bd).2.2.1=false->(rd l wr bd).2.2.2=false->l=enc (rd l wr bd).1++(rd l wr bd).2.1/\wr=false/\bd=false
 len:∀l wr bd,(rd l wr bd).2.1.length<=l.length
def BX:oJ Nat:=λl wr j=>((ax l wr).1,(ax l wr).2.1,(ax l wr).2.2,j)
def lu(j:Nat):oJ Nat:=λl wr t=>if (ax l wr).1<j then ((ax l wr).1,(ax l wr).2.1,(ax l wr).2.2,t)else (0,(ax l wr).2.1,(ax l wr).2.2,true)
theorem T4:sL az (λn=>n<18446744073709551616) BX where
 fwd:=by intro n h rest;simp only[BX,qG n h]
 back:=by intro l wr u j t;simp only[BX]at j t⊢;obtain⟨e,w⟩:=tk j;exact⟨e,w,t⟩
 len:=λl wr _=>nv l wr
theorem zo u(A:u<=18446744073709551616):sL az (λn=>n<u) (lu u) where
 fwd:=by intro n h rest;simp only[lu,qG n af];rw[if_pos h]
 back:=by
  intro l wr y t j;simp only[lu]at t j⊢;split at j
  ·rename_i h;rw[if_pos h]at t⊢;obtain⟨e,w⟩:=tk t;exact⟨e,w,j⟩
  ·cases j
 len:=by intro l wr y;have:=nv l wr;simp only[lu];split <;> exact this
theorem zy j(u:0<j) l wr t:(lu j l wr t).1<j:=by
 grind [lu]
def lN{α β:Type}(a:oJ α)(b:oJ β):oJ (α×β):=λl wr j =>
 (((a l wr j).1,(b (a l wr j).2.1 (a l wr j).2.2.1 (a l wr j).2.2.2).1),(b (a l wr j).2.1 (a l wr j).2.2.1 (a l wr j).2.2.2).2)
theorem Dh{α β C F u D G E}(A:sL C u G)(B:sL F D E) :
 sL (λx:α×β=>C x.1++F x.2) (λx=>u x.1/\D x.2) (lN G E) where
 fwd:=by rintro ⟨x,y⟩ ⟨j,t⟩ rest;simp only[lN,dY,A.fwd x j,B.fwd y t]
 back:=by intro l wr I j t;simp only[lN]at j t⊢;obtain⟨O,N,J⟩:=B.back _ _ _ j t;obtain⟨L,M,H⟩:=A.back _ _ _ N J;refine⟨?_,M,H⟩;rw[dY,<- O];exact L
 len:=λl wr I=>bn (B.len _ _ _) (A.len _ _ _)
def DR{α β:Type}(f:α->β)(a:oJ α):oJ β:=λl wr j=>(f (a l wr j).1,(a l wr j).2)
theorem adi{α β u C t}(A:sL u C t) f{B E}(g:β->α)(G:∀y,E y->C (g y)/\f (g y)=y/\B y=u (g y))(H:∀l wr j,B (f (t l wr j).1)=u (t l wr j).1):sL B E (DR f t) where
 fwd:=by intro y I rest;obtain⟨J,M,L⟩:=G y I;simp only[DR,L,A.fwd _ J,M]
 back:=by intro l wr j F D;simp only[DR]at F D⊢;rw[H];exact A.back _ _ _ F D
 len:=λl wr j=>A.len l wr j
def gu{α:Type}(rd:oJ α):Nat->oJ (List α)
 | 0=>λl wr j=>([],l,wr,j)
 | k+1=>λl wr j=>((gu rd k l wr j).1++[(rd (gu rd k l wr j).2.1 (gu rd k l wr j).2.2.1 (gu rd k l wr j).2.2.2).1],(rd (gu rd k l wr j).2.1 (gu rd k l wr j).2.2.1 (gu rd k l wr j).2.2.2).2)
section
variable {α:Type} {enc:α->List UInt8} {ok:α->Prop} {rd:oJ α}
theorem KB(C:sL enc ok rd) k l wr j:(gu rd k l wr j).2.1.length<=l.length/\(gu rd k l wr j).1.length=k:=by
 induction k with
 | zero=>exact⟨aC _,rfl⟩
 | succ k t=>exact⟨bn (C.len _ _ _) t.1,by grind [gu]⟩
theorem avf(p:α->Prop)(hp:∀l wr j,p (rd l wr j).1) k l wr j:∀x∈(gu rd k l wr j).1,p x:=by
 induction k with
 | zero=>simp[gu]
 | succ k t =>
  grind [gu]
theorem avg(C:sL enc ok rd)(l:List α)(h:∀x∈l,ok x) rest:∀k,k<=l.length->gu rd k (l.flatMap enc++rest) false false=(l.take k,(l.drop k).flatMap enc++rest,false,false):=by
 intro k
 induction k with
 | zero=>intro _;simp[gu]
 | succ k ih => intro hk;have hk':k<l.length:=af;have hd:l.drop k=l[k] :: l.drop (k+1):=aj;have hx:=h l[k] (bS hk');simp only[gu];exact aeS
theorem atf(C:sL enc ok rd){k l wr j}(h:(gu rd k l wr j).2.2.1=false)(t:(gu rd k l wr j).2.2.2=false):l=(gu rd k l wr j).1.flatMap enc++(gu rd k l wr j).2.1/\wr=false/\j=false:=by
 induction k with
 | zero=>exact⟨fk,h,t⟩
 | succ k y =>
  simp only[gu]at h t⊢
  obtain⟨A,B,u⟩:=C.back _ _ _ h t
  grind
def gH(enc:α->List UInt8)(l:List α):List UInt8:=az l.length++l.flatMap enc
def gI(rd:oJ α):oJ (List α):=λl wr j=>gu rd (lu 17 l wr j).1 (lu 17 l wr j).2.1 (lu 17 l wr j).2.2.1 (lu 17 l wr j).2.2.2
theorem wK(C:sL enc ok rd):sL (gH enc) (λl=>l.length<=16/\∀x∈l,ok x) (gI rd) where
 fwd:=by rintro l⟨t,j⟩ rest;simp only[gI,gH,dY,(zo 17 af).fwd l.length (by show l.length<17;omega)];rw[avg C l j rest l.length (aC _)];simp
 back:=by intro l wr y t j;simp only[gI]at t j⊢;obtain⟨B,D,u⟩:=atf C t j;obtain⟨F,E,A⟩:=(zo 17 af).back _ _ _ D u;refine⟨?_,E,A⟩;unfold gH;rw[(KB C _ _ _ _).2,dY,<- B];exact F
 len:=λl wr y=>bn (KB C _ _ _ _).1 ((zo 17 af).len _ _ _)
end
structure kV where
 id:aR
 yes:Bool
 deriving DecidableEq
structure fw where
 kind:Int
 got:Nat
 cK:List kV
 asks:List aK
 entries:List aK
 fc:List aK
 dN:List aR
 ends:List aR
 deriving DecidableEq
def yr:fw:=⟨0,0,[],[],[],[],[],[]⟩
def nE(a:aR):Bool:=qJ a.1
def rP(v:kV):Bool:=qJ v.id.1
def j0{α:Type}(p:α->Bool)(l:List α):Bool:=decide (l.length<=16)&&l.all p
def zS(m:fw):Bool:=if m.kind=1 then m.entries.isEmpty&&m.fc.isEmpty&&m.dN.isEmpty&&m.ends.isEmpty else if m.kind=2 then m.cK.isEmpty&&m.asks.isEmpty else false
def dZ(m:fw):Bool:=zS m&&j0 rP m.cK&&j0 bK m.asks&&j0 bK m.entries&&j0 bK m.fc&&j0 nE m.dN&&j0 nE m.ends
def iE(m:fw):Int:=if dZ m then 0 else 130
def pT(m:fw):Prop:=cJ m.kind/\m.got<18446744073709551616/\(∀v∈m.cK,eu v.id)/\(∀x∈m.asks,cD x)/\(∀x∈m.entries,cD x)/\(∀x∈m.fc,cD x)/\(∀a∈m.dN,eu a)/\∀a∈m.ends,eu a
def lO(v:kV):List UInt8:=fy v.id++az (if v.yes then 1 else 0)
def gY(x:aK):List UInt8:=im (pF x)
def ly(m:fw):List UInt8:=az (bf m.kind)++az m.got++(if m.kind=1 then gH lO m.cK++gH gY m.asks else gH gY m.entries++gH gY m.fc++gH fy m.dN++gH fy m.ends)
def Lx(m:fw):List UInt8:=if dZ m then ly m else []
def iD:oJ aR:=DR (λx=>((x.1:Int),x.2.1,x.2.2)) (lN (lu 16) (lN BX BX))
def mY:oJ kV:=DR (λx=>⟨x.1,decide (x.2=1)⟩) (lN iD (lu 2))
def iP(n:Int):oJ aK:=λl wr j=>(lJ (aL n l wr).1,(aL n l wr).2.1,(aL n l wr).2.2,j||(iC (aL n l wr).1).isNone)
theorem Hj:sL fy (λa=>qJ a.1=true/\eu a) iD:=by
 refine adi (Dh (zo 16 af) (Dh T4 T4)) _ (λa:aR=>(a.1.toNat,a.2.1,a.2.2)) ?_ ?_
 ·rintro ⟨b,l,s⟩ ⟨t,j⟩;simp only[qJ,dE,decide_eq_true_eq]at t;refine⟨⟨af,j.2.1,j.2.2⟩,?_,?_⟩
  ·grind
  ·grind [fy,tj]
 ·intro l wr u;have:=zy 16 af l wr u;simp only[lN,fy];rw[tj _ af af];simp
theorem T5:sL lO (λv=>qJ v.id.1=true/\eu v.id) mY:=by
 refine adi (Dh Hj (zo 2 af)) _ (λv:kV=>(v.id,if v.yes then 1 else 0)) ?_ ?_
 ·rintro ⟨a,y⟩ ⟨u,t⟩;refine⟨⟨⟨u,t⟩,aG⟩,aj,rfl⟩
 ·intro l wr j;simp only[lN,lO];have t:=zy 2 af (iD l wr j).2.1 (iD l wr j).2.2.1 (iD l wr j).2.2.2;grind
theorem E8 n:sL gY (λx=>bK x=true/\cD x/\((eN x).length:Int)<=n) (iP n) where
 fwd:=by
  rintro x⟨t,j,B⟩ rest;have E:=Ks t j;have hb:=Ff n (eN x) af B rest;have e:pF x=eN x:=by unfold pF;rw[t];rfl
  simp only[iP,gY,im,e];rw[hb];simp only[lJ,ac3 x t j];rfl
 back:=by
  intro l wr D t j
  simp only[iP,Bool.or_eq_false_iff]at t j⊢
  obtain⟨y,_,A⟩:=Dk t
  cases hd:iC (aL n l wr).1 with
  | none=>rw[hd]at j;cases j.2
  | some x =>
   obtain⟨C,u⟩:=T1 hd;refine⟨?_,A,j.1⟩;have e:pF x=eN x:=by unfold pF;rw[u];rfl
   simp only[lJ,hd,Option.getD_some,gY,im,e];rw[<- C];exact y
 len:=λl wr _=>Dl n l wr
def gy:oJ (Nat×Nat):=lN (lu 3) BX
def zT(n:Int):oJ (List kV×List aK):=lN (gI mY) (gI (iP n))
def oZ(n:Int):oJ (List aK×List aK×List aR×List aR):=lN (gI (iP n)) (lN (gI (iP n)) (lN (gI iD) (gI iD)))
def mF(n:Int):oJ fw:=λl wr j =>
 if (gy l wr j).1.1=1 then (⟨1,(gy l wr j).1.2,(zT n (gy l wr j).2.1 (gy l wr j).2.2.1 (gy l wr j).2.2.2).1.1,(zT n (gy l wr j).2.1 (gy l wr j).2.2.1 (gy l wr j).2.2.2).1.2,[],[],[],[]⟩,(zT n (gy l wr j).2.1 (gy l wr j).2.2.1 (gy l wr j).2.2.2).2)
 else if (gy l wr j).1.1=2 then (⟨2,(gy l wr j).1.2,[],[],(oZ n (gy l wr j).2.1 (gy l wr j).2.2.1 (gy l wr j).2.2.2).1.1,(oZ n (gy l wr j).2.1 (gy l wr j).2.2.1 (gy l wr j).2.2.2).1.2.1,(oZ n (gy l wr j).2.1 (gy l wr j).2.2.1 (gy l wr j).2.2.2).1.2.2.1,(oZ n (gy l wr j).2.1 (gy l wr j).2.2.1 (gy l wr j).2.2.2).1.2.2.2⟩,(oZ n (gy l wr j).2.1 (gy l wr j).2.2.1 (gy l wr j).2.2.2).2)
 else (⟨((gy l wr j).1.1:Int),(gy l wr j).1.2,[],[],[],[],[],[]⟩,(gy l wr j).2)
def sM(b:List UInt8):Option fw:=if !(mF b.length b false false).2.2.2&&(!(mF b.length b false false).2.2.1&&(mF b.length b false false).2.1.isEmpty)&&dZ (mF b.length b false false).1 then some (mF b.length b false false).1 else none
def oT(b:List UInt8):fw:=(sM b).getD yr
def uQ(b:List UInt8):Int:=if (sM b).isSome then 0 else 130
theorem VC{n l u wr y t j g}(h:gy l wr y=((1,g),u,t,j)):mF n l wr y=(⟨1,g,(zT n u t j).1.1,(zT n u t j).1.2,[],[],[],[]⟩,(zT n u t j).2):=by
 grind [mF]
theorem VD{n l u wr y t j g}(h:gy l wr y=((2,g),u,t,j)):mF n l wr y=(⟨2,g,[],[],(oZ n u t j).1.1,(oZ n u t j).1.2.1,(oZ n u t j).1.2.2.1,(oZ n u t j).1.2.2.2⟩,(oZ n u t j).2):=by
 grind [mF]
theorem ajg{n l t wr u y j k g}(h:gy l wr u=((k,g),t,y,j))(A:¬k=1)(B:¬k=2):mF n l wr u=(⟨(k:Int),g,[],[],[],[],[],[]⟩,t,y,j):=by
 grind [gy,mF]
theorem avh{α p}{l:List α}:j0 p l=true↔l.length<=16/\∀x∈l,p x=true:=by
 grind [j0]
theorem Un{m}(h:dZ m=true):((m.kind=1/\m.entries=[]/\m.fc=[]/\m.dN=[]/\m.ends=[])∨(m.kind=2/\m.cK=[]/\m.asks=[])) /\
 (m.cK.length<=16/\∀x∈m.cK,rP x=true)/\(m.asks.length<=16/\∀x∈m.asks,bK x=true)/\(m.entries.length<=16/\∀x∈m.entries,bK x=true)/\(m.fc.length<=16/\∀x∈m.fc,bK x=true) /\
 (m.dN.length<=16/\∀x∈m.dN,nE x=true)/\(m.ends.length<=16/\∀x∈m.ends,nE x=true):=by
 simp only[dZ,dE,avh]at h
 obtain⟨⟨⟨⟨⟨⟨y,j⟩,t⟩,B⟩,u⟩,A⟩,h6⟩:=h
 grind [dZ,rP,bK,nE,zS]
theorem avi n l wr j(A:(mF n l wr j).2.2.1=false)(B:(mF n l wr j).2.2.2=false)(C:dZ (mF n l wr j).1=true):l=ly (mF n l wr j).1++(mF n l wr j).2.1/\wr=false/\j=false:=by
 have M:=Dh (zo 3 af) T4;obtain⟨k,g,t,y,u,E⟩:∃k g t y u,gy l wr j=((k,g),t,y,u):=⟨_,_,_,_,_,rfl⟩;have D:=M.back l wr j;rw[show lN (lu 3) BX l wr j=((k,g),t,y,u)from E]at D;simp only at D;by_cases J:k=1
 ·subst J;rw[VC E]at A B C⊢;simp only at A B C⊢;have L:=Dh (wK T5) (wK (E8 n));obtain⟨F,c1,c2⟩:=L.back t y u A B;obtain⟨G,c3,c4⟩:=D c1 c2;refine⟨?_,c3,c4⟩;have e:∀v a,ly ⟨1,g,v,a,[],[],[],[]⟩=(az 1++az g)++(gH lO v++gH gY a):=by intro v a;simp[ly,show bf 1=1 from rfl]
  rw[e,dY (az 1++az g)];unfold zT;rw[<- F];exact G
 ·by_cases I:k=2
  ·subst I;rw[VD E]at A B C⊢;simp only at A B C⊢;have N:=Dh (wK (E8 n)) (Dh (wK (E8 n)) (Dh (wK Hj) (wK Hj)));have H:=N.back t y u;rw[show lN (gI (iP n)) (lN (gI (iP n)) (lN (gI iD) (gI iD))) t y u=oZ n t y u from rfl]at H;generalize oZ n t y u=r at *;obtain⟨⟨Q,S,rc,rd⟩,T,R,O⟩:=r;simp only at A B C H⊢;obtain⟨F,c1,c2⟩:=H A B;obtain⟨G,c3,c4⟩:=D c1 c2;refine⟨?_,c3,c4⟩;have e:∀a b c d,ly ⟨2,g,[],[],a,b,c,d⟩=(az 2++az g)++(gH gY a++(gH gY b++(gH fy c++gH fy d))):=by intro a b c d;simp[ly,show bf 2=2 from rfl]
   rw[e,dY (az 2++az g),<- F];exact G
  ·rw[ajg E J I]at C;have:=(Un C).1;simp only at this;omega
theorem OY{b m}(h:sM b=some m):b=ly m/\dZ m=true:=by
 unfold sM at h;split at h
 ·rename_i j;injection h with h;simp only[dE,Bool.not_eq_true',List.isEmpty_iff]at j;obtain⟨⟨t,u,A⟩,y⟩:=j;grind [avi]
 ·cases h
theorem art b:cD (lJ b):=by
 unfold lJ
 cases h:iC b with
 | none=>exact Pb
 | some x=>exact adg h
theorem Uo l wr j:eu (iD l wr j).1:=by have h:=zy 16 af l wr j;refine⟨?_,nz _ _,nz _ _⟩;simp only[iD,DR,lN,cJ];omega
theorem avj l wr j:eu (mY l wr j).1.id:=Uo l wr j
theorem UJ n l wr j:cD (iP n l wr j).1:=art _
theorem H5{α rd}(p:α->Prop)(hp:∀l wr j,p (rd l wr j).1) l wr j:∀x∈(gI rd l wr j).1,p x:=avf p hp _ _ _ _
theorem avk n l wr j:(∀v∈(zT n l wr j).1.1,eu v.id)/\∀x∈(zT n l wr j).1.2,cD x :=
 ⟨H5 (λv:kV=>eu v.id) avj l wr j,H5 cD (UJ n) _ _ _⟩
theorem avl n l wr u:(∀x∈(oZ n l wr u).1.1,cD x)/\(∀x∈(oZ n l wr u).1.2.1,cD x)/\(∀x∈(oZ n l wr u).1.2.2.1,eu x)/\∀x∈(oZ n l wr u).1.2.2.2,eu x:=by
 obtain⟨y,A⟩:∃r,gI (iP n) l wr u=r:=⟨_,rfl⟩;obtain⟨j,B⟩:∃r,gI (iP n) y.2.1 y.2.2.1 y.2.2.2=r:=⟨_,rfl⟩;obtain⟨t,G⟩:∃r,gI iD j.2.1 j.2.2.1 j.2.2.2=r:=⟨_,rfl⟩;obtain⟨I,C⟩:∃r,gI iD t.2.1 t.2.2.1 t.2.2.2=r:=⟨_,rfl⟩;have E:=H5 cD (UJ n) l wr u;have H:=H5 cD (UJ n) y.2.1 y.2.2.1 y.2.2.2;have F:=H5 eu Uo j.2.1 j.2.2.1 j.2.2.2;have D:=H5 eu Uo t.2.1 t.2.2.1 t.2.2.2;have e:(oZ n l wr u).1=(y.1,j.1,t.1,I.1):=by simp only[oZ,lN,A,B,G,C]
 rw[e];rw[A]at E;rw[B]at H;rw[G]at F;rw[C]at D;exact⟨E,H,F,D⟩
theorem awv n l wr j:pT (mF n l wr j).1:=by
 have hg:(gy l wr j).1.2<18446744073709551616:=nz _ _;have hk:(gy l wr j).1.1<3:=zy 3 af l wr j;obtain⟨k,g,u,y,t,A⟩:∃k g u y t,gy l wr j=((k,g),u,y,t):=⟨_,_,_,_,_,rfl⟩;rw[A]at hg hk;simp only at hg hk;by_cases C:k=1
 ·subst C;rw[VC A];have:=avk n u y t;exact⟨pD,hg,this.1,this.2,aj,aj,aj,aj⟩
 ·by_cases B:k=2
  ·subst B;rw[VD A];have:=avl n u y t;exact⟨pD,hg,aj,aj,this.1,this.2.1,this.2.2.1,this.2.2.2⟩
  ·grind [pT,mF,cJ]
theorem Pe{b m}(h:sM b=some m):pT m:=by
 grind [sM,awv]
abbrev df(a:aR):Array Value:=#[.int .i64 a.1,.int .u64 (a.2.1:Int),.int .u64 (a.2.2:Int)]
abbrev gJ(v:kV):Array Value:=#[.int .i64 v.id.1,.int .u64 (v.id.2.1:Int),.int .u64 (v.id.2.2:Int),.bool v.yes]
def nL:dW kV where
 size:=4
 rel v cs _:=cs=(gJ v).toList
 len:=by rintro _ _ _ rfl;rfl
 one:=by rintro x _ _ rfl u j;simp at j;rcases j with rfl|rfl|rfl|rfl <;> rfl
 st:=by rintro _ _ _ _ h _;exact h
abbrev km(m:fw)(v1 v2 v3 v4 v5 v6:Value):Array Value:=#[.int .i64 m.kind,.int .u64 (m.got:Int),v1,v2,v3,v4,v5,v6]
def lF(m:fw)(v:Value)(w:World):Prop:=∃j t B y u A,v=.agg (km m j t B y u A)/\aq nL m.cK j w/\aq aU m.asks t w/\aq aU m.entries B w/\aq aU m.fc y w/\aq b5 m.dN u w/\aq b5 m.ends A w
theorem XA{m v w w'}(h:lF m v w)(k:K w w'):lF m v w':=by obtain⟨t,A,G,D,B,E,e,j,u,F,y,C,h6⟩:=h;exact⟨t,A,G,D,B,E,e,bo j k,bo u k,bo F k,bo y k,bo C k,bo h6 k⟩
theorem abT a w :
 Calls prog 239 #[.agg (df a)] w λe w'=>e=.returned (.bool (nE a))/\K w w':=by
 obtain⟨j,t,u⟩:=a
 have k1:=K.new w (.cells (df (j,t,u)) 26)
 have HR:Hid (nE (j,t,u)=(decide (0<=j)&&decide (j<16))):=ae rfl
 generalize nE (j,t,u)=R at *
 by_cases h0:(0:Int)<=j
 ·by_cases h1:j<(16:Int)
  ·exact afX
  ·exact afX
 ·go_enter func239,ntmps239;go_wp2;go_ret;exact⟨by rw[HR.aa];simp;intro;omega,k1⟩
theorem ap4 x w :
 Calls prog 238 #[.agg (gJ x)] w λe w'=>e=.returned (.bool (rP x))/\K w w':=by
 have t:=K.new w (.cells (gJ x) 225)
 have HR:Hid (rP x=nE x.id):=ae rfl
 go_enter func238,ntmps238
 go_wp2_with fail
 generalize w.alloc _=u at *
 refine (abT x.id u).mono ?_
 rintro e y⟨rfl,j⟩
 go_wp2
 go_ret
 exact⟨fE,t.tr j⟩
theorem aru x v w(h:cV x v w) :
 Calls prog 240 #[v] w λe w'=>e=.returned (.bool (bK x))/\K w w':=by
 obtain⟨vf,G,rfl,t,u⟩:=h
 obtain⟨A,E,rfl⟩:=b6 t
 obtain⟨D,B,rfl⟩:=aw u
 have j:=K.new w (.cells (aD x (.slice A x.f.length E) (.slice D x.es.length B)) 126)
 have C:=ae (J7 x _ _ ⟨_,_,rfl,eH _ _ _ _ t j,bo u j⟩)
 clear t u
 go_enter func240,ntmps240
 go_wp2_with fail
 generalize w.alloc _=F at *
 refine C.aa.mono ?_
 rintro e H⟨rfl,y⟩
 cases hok:bK x
 ·rw[Fc hok];go_wp2;go_ret;exact⟨by simp[hok],j.tr y⟩
 ·rw[Kj hok];go_wp2;go_ret;exact⟨by simp[hok],j.tr y⟩
theorem aoO l v w(h:aq nL l v w) :
 Calls prog 242 #[v,.func (Fn.func 238) #[] #[]] w λe w'=>e=.returned (.bool (j0 rP l))/\K w w':=by
 obtain⟨A,c,rfl,J,M⟩:=h
 have HI:Hid (j0 rP l=(decide (l.length<=16)&&l.all rP)):=ae rfl
 generalize j0 rP l=R at *
 have kk:=K.rf w
 go_enter func242,ntmps242
 by_cases gU:l.length<=16
 rotate_left
 ·exact VE
 have ym:¬(16:Int)<(l.length:Int):=af
 go_wp2_with fail
 go_loopw [6,12] (fun _ i wr=>∃j:Nat,j<=l.length/\i=.int .i64 j/\Hid ((l.take j).all rP=true)/\K w wr) (fun _ i _=>l.length-(intOf i).toNat)
 case atStart=>exact⟨0,af,rfl,ae aj,kk⟩
 case round =>
  clear kk;obtain⟨j,Q,rfl,HT,kr⟩:=hrel;by_cases E:j<l.length
  ·have aP:(j:Int)<l.length:=af;obtain⟨y,D,cs,rfl,F,B,t,d⟩:=ed J j E ay;have HS:=ae (Hh rP l j E);generalize l[j]=x at *;obtain rfl:=B w (K.rf w);have t:∀W,K wr W->W.cell? ⟨y,D+j*4,none⟩=some (.int .i64 x.id.1):=λW kW=>t W (kr.tr kW)
   have d:∀W,K wr W->∀i,i<4->W.cell? ⟨y,D+j*4+i,none⟩=(gJ x)[i]?:=λW kW i I=>(d W (kr.tr kW) i I).trans Array.getElem?_toList
   have kk:=K.rf wr;have u:=ah.new wr 225 (gJ x);have G:=u.aS;clear F B;go_upto_region 6 with (fail);have L:=kr.tr G;generalize wr.alloc _=C at *;generalize wr.heap.size=O at *;have q:=u.cells;have kk:=K.rf C;clear t d u;go_wp2_with fail
   refine (ap4 x C).mono ?_;rintro e N⟨rfl,H⟩;have qi:=L.tr H;cases hq:rP x
   ·have HR:Hid (R=false):=ae (by
     have h1:(l.take (j+1)).all rP=false:=VF;rw[HI.aa,Ov rP l (j+1) h1];simp)
    exact VG
   ·have mE:Hid ((l.take (j+1)).all rP=true):=ae VH;exact VI
  ·exact VJ
theorem Tu l v w(h:aq aU l v w) :
 Calls prog 243 #[v,.func (Fn.func 240) #[] #[]] w λe w'=>e=.returned (.bool (j0 bK l))/\K w w':=by
 obtain⟨A,c,rfl,T,V⟩:=h
 have HI:Hid (j0 bK l=(decide (l.length<=16)&&l.all bK)):=ae rfl
 generalize j0 bK l=R at *
 have kk:=K.rf w
 go_enter func243,ntmps243
 by_cases gU:l.length<=16
 rotate_left
 ·exact VE
 have ym:¬(16:Int)<(l.length:Int):=af
 go_wp2_with fail
 go_loopw [6,12] (fun _ i wr=>∃j:Nat,j<=l.length/\i=.int .i64 j/\Hid ((l.take j).all bK=true)/\K w wr) (fun _ i _=>l.length-(intOf i).toNat)
 case atStart=>exact⟨0,af,rfl,ae aj,kk⟩
 case round =>
  clear kk;obtain⟨j,Y,rfl,HT,kr⟩:=hrel;by_cases M:j<l.length
  ·have aP:(j:Int)<l.length:=af;obtain⟨B,L,cs,rfl,O,F,y,d⟩:=ed T j M ay;have HS:=ae (Hh bK l j M);generalize l[j]=x at *;obtain⟨vf,Z,rfl,H,I⟩:=F w (K.rf w);obtain⟨E,G,rfl⟩:=b6 H;obtain⟨J,C,rfl⟩:=aw I;have y:∀W,K wr W->W.cell? ⟨B,L+j*8,none⟩=some (.int .i64 x.kind):=λW kW=>y W (kr.tr kW)
   have d:∀W,K wr W->∀i,i<8->W.cell? ⟨B,L+j*8+i,none⟩=(aD x (.slice E x.f.length G) (.slice J x.es.length C))[i]?:=λW kW i S=>(d W (kr.tr kW) i S).trans Array.getElem?_toList
   have kk:=K.rf wr;have t:=ah.new wr 126 (aD x (.slice E x.f.length G) (.slice J x.es.length C));have Q:=t.aS;clear O F;go_upto_region 6 with (fail);have u:=kr.tr Q;generalize wr.alloc _=D at *;generalize wr.heap.size=X at *;have q:=t.cells;have kk:=K.rf D;clear y d t;go_wp2_with fail
   refine (aru x _ D ⟨_,_,rfl,eH _ _ _ _ H u,bo I u⟩).mono ?_;rintro e U⟨rfl,N⟩;have qi:=u.tr N;cases hq:bK x
   ·have HR:Hid (R=false):=ae (by
     have h1:(l.take (j+1)).all bK=false:=VF;rw[HI.aa,Ov bK l (j+1) h1];simp)
    exact VG
   ·have mE:Hid ((l.take (j+1)).all bK=true):=ae VH;exact VI
  ·exact VJ
theorem abU l v w(h:aq b5 l v w) :
 Calls prog 244 #[v,.func (Fn.func 239) #[] #[]] w λe w'=>e=.returned (.bool (j0 nE l))/\K w w':=by
 obtain⟨A,c,rfl,J,M⟩:=h
 have HI:Hid (j0 nE l=(decide (l.length<=16)&&l.all nE)):=ae rfl
 generalize j0 nE l=R at *
 have kk:=K.rf w
 go_enter func244,ntmps244
 by_cases gU:l.length<=16
 rotate_left
 ·exact VE
 have ym:¬(16:Int)<(l.length:Int):=af
 go_wp2_with fail
 go_loopw [6,12] (fun _ i wr=>∃j:Nat,j<=l.length/\i=.int .i64 j/\Hid ((l.take j).all nE=true)/\K w wr) (fun _ i _=>l.length-(intOf i).toNat)
 case atStart=>exact⟨0,af,rfl,ae aj,kk⟩
 case round =>
  clear kk;obtain⟨j,Q,rfl,HT,kr⟩:=hrel;by_cases E:j<l.length
  ·have aP:(j:Int)<l.length:=af;obtain⟨y,D,cs,rfl,F,B,t,d⟩:=ed J j E ay;have HS:=ae (Hh nE l j E);generalize l[j]=x at *;obtain rfl:=B w (K.rf w);have t:∀W,K wr W->W.cell? ⟨y,D+j*3,none⟩=some (.int .i64 x.1):=λW kW=>t W (kr.tr kW)
   have d:∀W,K wr W->∀i,i<3->W.cell? ⟨y,D+j*3+i,none⟩=(df x)[i]?:=λW kW i I=>(d W (kr.tr kW) i I).trans Array.getElem?_toList
   have kk:=K.rf wr;have u:=ah.new wr 26 (df x);have G:=u.aS;clear F B;go_upto_region 6 with (fail);have L:=kr.tr G;generalize wr.alloc _=C at *;generalize wr.heap.size=O at *;have q:=u.cells;have kk:=K.rf C;clear t d u;go_wp2_with fail
   refine (abT x C).mono ?_;rintro e N⟨rfl,H⟩;have qi:=L.tr H;cases hq:nE x
   ·have HR:Hid (R=false):=ae (by
     have h1:(l.take (j+1)).all nE=false:=VF;rw[HI.aa,Ov nE l (j+1) h1];simp)
    exact VG
   ·have mE:Hid ((l.take (j+1)).all nE=true):=ae VH;exact VI
  ·exact VJ
theorem axZ{m}(h:m.kind=1):zS m=(m.entries.isEmpty&&m.fc.isEmpty&&m.dN.isEmpty&&m.ends.isEmpty):=by unfold zS;rw[if_pos h]
theorem ax0{m}(h:m.kind=2):zS m=(m.cK.isEmpty&&m.asks.isEmpty):=by unfold zS;rw[if_neg (by omega),if_pos h]
theorem ax1{m}(h:¬m.kind=1)(j:¬m.kind=2):zS m=false:=by unfold zS;rw[if_neg h,if_neg j]
theorem QE{α:Type}{l:List α}(h:l.isEmpty=false):((l.length:Int)==0)=false:=by rw[IH,h]
theorem Iz{α:Type}{l:List α}(h:l.isEmpty=true):((l.length:Int)==0)=true:=by rw[IH,h]
theorem abC m v w(h:lF m v w) :
 Calls prog 145 #[v] w λe w'=>e=.returned (.int .i64 (iE m))/\K w w':=by
 obtain⟨H,A,O,M,B,N,rfl,t,h2,h3,h4,h5,h6⟩:=h
 have CV:=ae λW (kW:K w W)=>aoO m.cK H W (bo t kW)
 have CA:=ae λW (kW:K w W)=>Tu m.asks A W (bo h2 kW)
 have CE:=ae λW (kW:K w W)=>Tu m.entries O W (bo h3 kW)
 have CP:=ae λW (kW:K w W)=>Tu m.fc M W (bo h4 kW)
 have CB:=ae λW (kW:K w W)=>abU m.dN B W (bo h5 kW)
 have CD:=ae λW (kW:K w W)=>abU m.ends N W (bo h6 kW)
 obtain⟨F,c1,rfl⟩:=aw t
 obtain⟨L,c2,rfl⟩:=aw h2
 obtain⟨D,c3,rfl⟩:=aw h3
 obtain⟨I,c4,rfl⟩:=aw h4
 obtain⟨Q,c5,rfl⟩:=aw h5
 obtain⟨E,C,rfl⟩:=aw h6
 clear t h2 h3 h4 h5 h6
 have j:=ah.new w 156 (km m (.slice F m.cK.length c1) (.slice L m.asks.length c2) (.slice D m.entries.length c3) (.slice I m.fc.length c4) (.slice Q m.dN.length c5) (.slice E m.ends.length C))
 have k1:=j.aS
 go_enter func145,ntmps145
 go_upto_region 2 with (fail)
 generalize w.alloc _=w1 at *
 have R:=j.cells
 have kk:=K.rf w1
 generalize w.heap.size=g at *
 clear j
 by_cases y:m.kind=1
 ·have p5:=axZ y;cases e3:m.entries.isEmpty
  ·exact afY
  have z3:=Iz e3;cases e4:m.fc.isEmpty
  ·exact afZ
  have z4:=Iz e4;cases e5:m.dN.isEmpty
  ·have G:=QE e5;have HQ:Hid (iE m=130):=ae (by unfold iE;rw[show dZ m=false from by simp[dZ,p5,e5]];rfl);exact PM
  have G:=Iz e5;cases e6:m.ends.isEmpty
  ·have J:=QE e6;have HQ:Hid (iE m=130):=ae (by unfold iE;rw[show dZ m=false from by simp[dZ,p5,e6]];rfl);exact PM
  have J:=Iz e6;have hK:zS m=true:=by rw[p5,e3,e4,e5,e6];rfl
  exact af0
 by_cases u:m.kind=2
 ·have p5:=ax0 u;cases e3:m.cK.isEmpty
  ·exact afY
  have z3:=Iz e3;cases e4:m.asks.isEmpty
  ·exact afZ
  have z4:=Iz e4;have hK:zS m=true:=by rw[p5,e3,e4];rfl
  exact af0
 have hK:=ax1 y u
 have HQ:Hid (iE m=130):=ae (by unfold iE;rw[show dZ m=false from by simp[dZ,hK]];rfl)
 go_wp2
 go_ret
 exact⟨ny,k1⟩
def gQ(p:List Int):Bool:=decide (1<=p.length)&&decide (p.length<=16)&&decide (p[0]?=some (-1))&&(List.range p.length).all λn=>n==0||match p[n]? with|some q=>decide (0<=q)&&decide (q<(n:Int))|none=>true
def fT(p:List Int)(n:Int):Bool:=decide (0<=n)&&decide (n<(p.length:Int))
def rL(p:List Int)(n:Int):List Int:=((List.range p.length).filter λk=>decide (p[k]?=some n)).map λ(k:Nat)=>(k:Int)
def FH(p:List Int)(n:Int):List Int:=if fT p n&&gQ p then rL p n else []
def Ck(p:List Int)(a:Int):Nat->Int->Bool
 | 0,_=>false
 | f+1,b=>if b<0 then false else if a=b then true else Ck p a f ((p[b.toNat]?).getD (-1))
def Cl(p:List Int)(a b:Int):Bool:=fT p a&&fT p b&&gQ p&&Ck p a (p.length+1) b
structure lA where
 cl:Int
 sub:Nat
 f:List dt
 deriving DecidableEq
def jf(s:lA)(x:aK):Int:=if ia s.cl x.cl != 0 then ia s.cl x.cl else ia s.sub x.sub
def tE(l:List lA)(x:aK):List lA :=
 if x.kind=2 then l.filter (λs=>decide (jf s x<0))++[⟨x.cl,x.sub,x.f⟩]++l.filter (λs=>decide (0<jf s x))
 else if x.kind=3 then l.filter (λs=>decide (jf s x<0))++l.filter (λs=>decide (0<jf s x))else l
def jW(l:List aK):List lA:=l.foldl (λo x=>if x.kind=1 then o else tE o x) []
def pU(l:List lA)(cs:List Int):List lA:=l.filter λs=>decide (s.cl∈cs)
def anyS(l:List lA)(e:List cT):Bool:=l.any λs=>mL s.f e
def jx(l:List lA)(cs:List Int)(x:aK):aK:=if x.kind=1 then { x with es:=x.es.filter (anyS (pU l cs)) }else x
def oP(l:List lA)(c:Int)(x:aK):List (List cT):=if x.kind=1 then x.es.filter (anyS (pU l [c]))else []
def qN(k:fw)(a:aR)(y:Bool):Bool:=k.cK.any λv=>decide (v=⟨a,y⟩)
def iZ(kids:List fw)(a:aR):Int:=if kids.any (λk=>qN k a false)then 2 else if kids.all (λk=>qN k a true)then 1 else 0
def qH(kids:List fw)(o:List kV)(x:aK):List kV:=if iZ kids (ar x)≠0/\o.length<16 then o++[⟨ar x,decide (iZ kids (ar x)=1)⟩]else o
def lK(o:List kV)(a:aR):List kV:=if 16<=o.length then o else if o.any (λv=>decide (v.id=a))then o else o++[⟨a,false⟩]
def Ln(prom:List aK)(refused:List aR)(kids:List fw):List kV:=refused.foldl lK (prom.foldl (qH kids) [])
def iN(s:dc)(p:List aK×List aR)(x:aK):List aK×List aR :=
 if bT s.list (ar x)||bT s.prom (ar x)||dG s.ab (ar x)||bT p.1 (ar x)||dG p.2 (ar x)then p
 else if s.prom.length+p.1.length<6 then (p.1++[x],p.2)else (p.1,p.2++[ar x])
def nU(s:dc)(l:List aK):List aK×List aR:=l.foldl (iN s) ([],[])
def kI(s:dc)(op:List aK)(o:List aR)(v:kV):List aR :=
 if 16<=o.length then o else if dG o v.id||bT s.list v.id||bT s.prom v.id||bT op v.id then o else o++[v.id]
def uT(s:dc)(op:List aK)(k:fw):List aR:=k.cK.foldl (kI s op) []
def mO(s:dc)(p:List aK×List aK)(x:aK):List aK×List aK :=
 if bT s.list (ar x)||dG s.ab (ar x)||bT p.1 (ar x)||bT p.2 (ar x)then p
 else if x.kind≠1 then (p.1,p.2++[x])else if p.1.length<4 then (p.1++[x],p.2)else p
def oQ(s:dc)(op asks:List aK):List aK×List aK:=asks.foldl (mO s) (op,[])
def D3(op:List aK)(kids:List fw):List aK:=op.filter λx=>decide (iZ kids (ar x)=1)
def Cm(op:List aK)(kids:List fw):List aR:=(op.filter λx=>decide (iZ kids (ar x)=2)).map ar
def pJ(ab:List aR)(o:List aR)(x:aK):List aR:=if o.length<16/\dG ab (ar x)=true/\dG o (ar x)=false then o++[ar x]else o
def uU(ab:List aR)(asks:List aK):List aR:=asks.foldl (pJ ab) []
def zJ(l:List aK)(n:Nat):List aK:=(l.drop n).take 4
structure oK where
 eT:List Rec
 room:Nat
def xu(b:List UInt8):Nat:=6+b.length
def iO(l:List Rec):Nat:=(l.map λr=>xu (bM r)).sum
def tG(d:oK)(r:Rec):Bool:=decide ((bM r).length<=4000)&&decide (iO d.eT+xu (bM r)<=d.room)
structure bj where
 me:Int
 par:List Int
 ai:List Int
 st:dc
 aB:List eF
 calls:Nat
 bQ:List (Int×fw)
 refused:List aR
 told:List aR
 waits:List aK
 dk:oK
def BH(B:bj)(c:Int):Bool:=decide (0<=c)&&decide (c<(B.ai.length:Int))&&decide (B.ai[c.toNat]?=some B.me)
def mQ(B:bj):Bool:=decide (B.me=0)
def i7(B:bj)(k:Int):fw:=((B.bQ.find? λp=>decide (p.1=k)).map (·.2)).getD yr
def nV(l:List (Int×fw))(k:Int)(m:fw):List (Int×fw):=if l.any (λp=>decide (p.1=k))then l.map λp=>if p.1=k then (k,m)else p else l++[(k,m)]
def oU(B:bj):List Int:=FH B.par B.me
def dy(B:bj):List fw:=(oU B).map (i7 B)
def tu(B:bj)(a:aR):Bool:=dG B.told a||dG B.st.ab a
def BI(B:bj):List aR:=B.st.ab++B.told
def jX(B:bj)(o:List aK)(x:aK):List aK:=if bT o (ar x)||bT B.st.list (ar x)||tu B (ar x)||decide (16<=o.length)then o else o++[x]
def mo(B:bj):List aK:=(dy B).foldl (λo k=>k.asks.foldl (jX B) o) ((je B.aB).foldl (jX B) [])
def cY(B:bj)(r:Rec):bj×Bool :=
 if eo r&&tG B.dk r then (match dU B.st r with
  | none=>(B,false)
  | some t=>({ B with st:=t,dk:=⟨B.dk.eT++[r],B.dk.room⟩,aB:=if r.kind=2 then fJ B.aB (ar r.e)else B.aB },true))
 else (B,false)
def mr(n:Nat)(x:aK):Rec:=⟨2,n,x,0,0,0⟩
def jj(k:Int)(a:aR):Rec:=⟨k,0,dz,a.1,a.2.1,a.2.2⟩
def tM(x:aK):Rec:=⟨3,0,x,0,0,0⟩
def mq(B:bj)(x:aK):bj×Bool:=cY B (mr B.st.list.length x)
def nA(B:bj)(a:aR):bj×Bool:=if (cY B (jj 4 a)).2 then ({ (cY B (jj 4 a)).1 with aB:=fJ (cY B (jj 4 a)).1.aB a },true)else (B,false)
def kJ(kids:List fw)(p:bj×List aK)(x:aK):bj×List aK :=
 if iZ kids (ar x)=1 then (if (mq p.1 x).2 then ((mq p.1 x).1,p.2)else (p.1,p.2++[x]))
 else if iZ kids (ar x)=2 then (if (nA p.1 (ar x)).2 then ((nA p.1 (ar x)).1,p.2)else (p.1,p.2++[x]))
 else (p.1,p.2++[x])
def zK(B:bj):bj:=(oQ B.st B.waits (mo B)).2.foldl (λb x=>(mq b x).1) B
def oV(B:bj):bj×List aK:=(oQ B.st B.waits (mo B)).1.foldl (kJ (dy B)) (zK B,[])
def gZ(B:bj):bj:=if mQ B then { (oV B).1 with waits:=(oV B).2 }else B
def lP(B:bj)(j:Nat):List aK->bj
 | []=>B
 | x :: r=>if j=B.st.list.length then (if (cY B (mr j x)).2 then lP (cY B (mr j x)).1 ((j+1)%18446744073709551616) r else B)
  else lP B ((j+1)%18446744073709551616) r
def jd(B:bj)(a:aR):bj:=if bT B.st.prom a then (cY B (jj 5 a)).1 else B
def mR(B:bj)(a:aR):bj:=if tu B a then B else jd { B with told:=B.told++[a],aB:=fJ B.aB a } a
def iL(p:bj×List aR)(x:aK):bj×List aR:=if (cY p.1 (tM x)).2 then ((cY p.1 (tM x)).1,p.2)else (p.1,p.2++[ar x])
def mw(B:bj)(l:List aK):List aK:=l.filter λx=>!dG B.told (ar x)
def tN(B:bj)(l:List aK):List aR:=(l.filter λx=>dG B.told (ar x)).map ar
def sH(B:bj)(l:List aK):bj×List aR:=(nU B.st (mw B l)).1.foldl iL (B,tN B l++(nU B.st (mw B l)).2)
def uV(B:bj)(l:List aK):bj:={ (sH B l).1 with refused:=(sH B l).2 }
def qO(B:bj)(m:fw):bj:=uV (m.ends.foldl jd (m.dN.foldl mR (lP B m.got m.entries))) m.fc
def xb(B:bj):Int:=(B.par[B.me.toNat]?).getD (-1)
def il(B:bj)(j:Int)(b:List UInt8):bj×Int :=
 if decide (j∈oU B)||(!mQ B&&decide (j=xb B))then
  (match sM b with
   | none=>(B,130)
   | some m=>if decide (j∈oU B)&&decide (m.kind=1)then (gZ { B with bQ:=nV B.bQ j m },0)
    else if (!mQ B&&decide (j=xb B))&&decide (m.kind=2)then (qO B m,0)else (B,201))
 else (B,201)
def uC(B:bj)(k:Int):List Int:=((List.range B.ai.length).filter λc=>match B.ai[c]? with|some h=>Cl B.par k h|none=>false).map λ(c:Nat)=>(c:Int)
def BN(B:bj)(cs:List Int)(n:Nat)(l:List aK):List aK:=l.zipIdx.map λp=>jx (jW (B.st.list.take (n+p.2))) cs p.1
def pK(B:bj)(k:Int):Nat:=min (i7 B k).got B.st.list.length
def wL(B:bj)(k:Int):fw :=
 ⟨2,pK B k,[],[],BN B (uC B k) (pK B k) (zJ B.st.list (pK B k)),((if mQ B then B.waits else B.st.prom).take 16).map (jx (jW B.st.list) (uC B k)),uU (BI B) (i7 B k).asks,uT B.st B.waits (i7 B k)⟩
def Dq(B:bj):fw:=⟨1,B.st.list.length,Ln B.st.prom B.refused (dy B),mo B,[],[],[],[]⟩
def pV(B:bj):aR:=(B.me,B.st.life,B.calls+1)
def jg(B:bj)(c:Int)(j:List eF×Int):bj×aR×Int :=
 if BH B c then (if j.2=0 then ({ B with aB:=j.1,calls:=B.calls+1 },pV B,0)else (B,(0,0,0),j.2))else (B,(0,0,0),200)
def wT(B:bj)(c:Int):bj×aR×Int:=jg B c (xZ B.aB (pV B) c)
def qY(B:bj)(k c:Int)(n:Nat)(f:List dt):aK:=⟨k,B.me,B.st.life,B.calls+1,c,n,f,[]⟩
def yw(B:bj)(c:Int)(n:Nat)(f:List dt):bj×aR×Int:=jg B c (wZ B.aB (qY B 2 c n f))
def fo(B:bj)(r:List eF×Int):bj×Int:=if r.2=0 then ({ B with aB:=r.1 },0)else (B,r.2)
def Fy(B:bj)(a:aR):Int :=
 if bT B.st.list a then 3 else if tu B a then 4 else if (sG B.aB a).2 then (if (sG B.aB a).1.asked then 2 else 1)else 0
def mS(c:Int):List aK->List lA->Nat->List (List cT)×Nat
 | [],_,n=>([],n)
 | x :: r,s,n=>if oP s c x=[]then mS c r (if x.kind=1 then s else tE s x) (n+1)else (oP s c x,n+1)
def oW(B:bj)(c j:Int):List (List cT)×Int×Int :=
 if BH B c then (if 0<=j/\j<=(B.st.list.length:Int)then ((mS c (B.st.list.drop j.toNat) (jW (B.st.list.take j.toNat)) j.toNat).1,((mS c (B.st.list.drop j.toNat) (jW (B.st.list.take j.toNat)) j.toNat).2:Int),0)else ([],0,1))else ([],0,200)
def cZ(s:dc):dc:=⟨(s.life+1)%18446744073709551616,s.list,s.prom,s.ab⟩
def pW(p ai:List Int):Bool:=decide (1<=ai.length)&&decide (ai.length<=32)&&ai.all (fT p)
