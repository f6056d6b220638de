/-
  Laws on states that records make (layer 16): once, grows, back. Conditions: none.
-/
import Derived.Test.YtfndfpdhlbmboaaGreatMq03
import Derived.RangeFuncKeeps
import Derived.RangeFuncLeaves
import Derived.RangeFuncFrom
import Derived.RangeFuncBox
import Derived.Shelf.Abstract
import Derived.OwnWalkIn
import Derived.TacticsInMore
import Derived.LoopNIn
import Derived.LoopIn
import Derived.RangeFuncNested
import Derived.Laws.BitsAllLaws
import Derived.Test.YtfndfpdhlbmboaaGreatMqz
set_option maxRecDepth 100000
set_option maxHeartbeats 16000000
set_option linter.all false
namespace Go.Proofs.YtfndfpdhlbmboaaGreat
open Go Go.RowKit _root_.Go.Proofs.Tryz
theorem FD{l a}:bU l a=true ↔ ∃x∈l,au x=a:=by simp[bU]
theorem K3{l a}:dG l a=true↔a∈l:=by simp[dG]
theorem Pp{l a x}:x∈iY l a↔x∈l/\au x≠a:=by simp[iY]
structure rD(s:dy):Prop where
 nl:(s.list.map au).Nodup
 np:(s.prom.map au).Nodup
 na:s.ab.Nodup
 lp:∀x∈s.list,∀y∈s.prom,au x≠au y
 la:∀x∈s.list,au x∉s.ab
 pa:∀x∈s.prom,au x∉s.ab
 zA:∀x∈s.list,bH x=true/\cE x
 zB:∀x∈s.prom,bH x=true/\cE x
 GR:∀a∈s.ab,qX a.1=true/\dJ a
 life:s.life<18446744073709551616
theorem rD.zero:rD cV:=⟨yA,yA,yA,yA,yA,yA,yA,yA,yA,ax⟩
theorem rD.drop{s}(h:rD s) a:rD ⟨s.life,s.list,iY s.prom a,s.ab⟩:=by
 have hm:∀x∈iY s.prom a,x∈s.prom:=λx j=>(Pp.1 j).1
 refine⟨h.nl,?_,h.na,λx j y t=>h.lp x j y (hm y t),h.la,λx j=>h.pa x (hm x j),h.zA,λx j=>h.zB x (hm x j),h.GR,h.life⟩;exact (List.Sublist.map au List.filter_sublist).nodup h.np
theorem O7{α:Type}[DecidableEq α]{l}{a:α}(h:l.Nodup)(u:a∉l):(l++[a]).Nodup:=by rw[List.nodup_append];refine⟨h,aj,λx t y j=>?_⟩;simp at j;subst j;rintro rfl;exact u t
theorem rD.on{s t r}(h:rD s)(O:dL r=true)(S:jA r)(e:dW s r=some t):rD t:=by
 have hk:=BW O;obtain⟨-,Q,H,J,R,I⟩:=S;unfold dW zu xJ xK xL zw at e;split at e
 ·split at e
  ·cases e
  ·injection e with e;subst e;exact⟨h.nl,h.np,h.na,h.lp,h.la,h.pa,h.zA,h.zB,h.GR,Q⟩
 ·rename_i V;split at e
  ·rename_i L;have G:bH r.e=true:=agf;split at e
   ·cases e
   ·split at e
    ·cases e
    ·rename_i C;split at e
     ·cases e
     ·rename_i E;injection e with e;subst e;have hm:∀x∈iY s.prom (au r.e),x∈s.prom/\au x≠au r.e:=λx j=>Pp.1 j
      have F:∀x∈s.list,au x≠au r.e:=λx j e=>C (FD.2 ⟨x,j,e⟩)
      have D:au r.e∉s.ab:=λj=>E (K3.2 j)
      have A:=h.drop (au r.e);refine⟨?_,A.np,h.na,?_,?_,A.pa,?_,A.zB,h.GR,h.life⟩
      ·simp only[List.map_append,jU,List.map_nil];refine O7 h.nl ?_;intro j;obtain⟨x,j,e⟩:=List.mem_map.1 j;exact F x j e
      ·intro x j y u;rcases List.mem_append.1 j with j|j
       ·exact h.lp x j y (hm y u).1
       ·simp at j;subst j;exact λe=>(hm y u).2 e.symm
      ·intro x j;rcases List.mem_append.1 j with j|j
       ·exact h.la x j
       ·simp at j;subst j;exact D
      ·intro x j;rcases List.mem_append.1 j with j|j
       ·exact h.zA x j
       ·simp at j;subst j;exact⟨G,H⟩
  ·rename_i L;split at e
   ·rename_i U;have G:bH r.e=true:=agf;split at e
    ·cases e
    ·rename_i C;split at e
     ·cases e
     ·rename_i N;split at e
      ·cases e
      ·rename_i E;injection e with e;subst e;have F:∀x∈s.list,au x≠au r.e:=λx j e=>C (FD.2 ⟨x,j,e⟩)
       have M:∀x∈s.prom,au x≠au r.e:=λx j e=>N (FD.2 ⟨x,j,e⟩)
       have D:au r.e∉s.ab:=λj=>E (K3.2 j)
       refine⟨h.nl,?_,h.na,?_,h.la,?_,h.zA,?_,h.GR,h.life⟩
       ·simp only[List.map_append,jU,List.map_nil];refine O7 h.np ?_;intro j;obtain⟨x,j,e⟩:=List.mem_map.1 j;exact M x j e
       ·intro x j y u;rcases List.mem_append.1 u with u|u
        ·exact h.lp x j y u
        ·simp at u;subst u;exact F x j
       ·intro x j;rcases List.mem_append.1 j with j|j
        ·exact h.pa x j
        ·simp at j;subst j;exact D
       ·intro x j;rcases List.mem_append.1 j with j|j
        ·exact h.zB x j
        ·simp at j;subst j;exact⟨G,H⟩
   ·split at e
    ·rename_i T;have hb:qX r.br=true:=by
      rcases hk with ⟨g,_⟩|⟨g,_⟩|⟨_,g,_⟩
      ·omega
      ·omega
      ·simp[qX,g.1,g.2]
     split at e
     ·cases e
     ·rename_i C;split at e
      ·cases e
      ·rename_i E;injection e with e;subst e;have F:∀x∈s.list,au x≠iG r:=λx j e=>C (FD.2 ⟨x,j,e⟩)
       have D:iG r∉s.ab:=λj=>E (K3.2 j)
       have A:=h.drop (iG r);refine⟨h.nl,A.np,O7 h.na D,A.lp,?_,?_,h.zA,A.zB,?_,h.life⟩
       ·intro x j hm;rcases List.mem_append.1 hm with hm|hm
        ·exact h.la x j hm
        ·simp at hm;exact F x j hm
       ·intro x j hm;rcases List.mem_append.1 hm with hm|hm
        ·exact A.pa x j hm
        ·simp at hm;exact (Pp.1 j).2 hm
       ·intro a B;rcases List.mem_append.1 B with B|B
        ·exact h.GR a B
        ·simp at B;subst B;exact⟨hb,J,R,I⟩
    ·split at e
     ·injection e with e;subst e;exact h.drop _
     ·cases e
def jl:dy->List Rec->Option dy
 | s,[]=>some s
 | s,r :: l=>(dW s r).bind λt=>jl t l
theorem PC l m:∀s,jl s (l++m)=(jl s l).bind λt=>jl t m:=by
 induction l with
 | nil=>intro s;rfl
 | cons r l j =>
  intro s
  simp only[aQ,jl]
  cases dW s r with
  | none=>rfl
  | some t=>exact j t
theorem aes l(h:∀r∈l,dL r=true/\jA r):∀s t,jl s l=some t->iu s (l.map bJ)=(t,0):=by
 induction l with
 | nil=>intro s t e;injection e with e;subst e;rfl
 | cons r l B =>
  intro s t e
  obtain⟨j,C⟩:=h r aj
  simp only[jl]at e
  cases ho:dW s r with
  | none=>rw[ho]at e;cases e
  | some u =>
   rw[ho]at e;have y:=arc r j C;have A:sc s (bJ r)=(u,0):=by unfold sc;rw[(Us y).1,(Us y).2,if_pos rfl,aep j ho];rfl
   simp only[jU,iu,A,if_true];exact B (λx hx=>h x Iz) u t e
theorem ay6 n:jl cV (vO n)=some ⟨n,[],[],[]⟩:=by
 unfold vO;split
 ·rename_i h;subst h;rfl
 ·rename_i h;simp[jl,dW,zu,cV,h]
theorem ay7 n l:∀a:List aL,((a++l).map au).Nodup->jl ⟨n,a,[],[]⟩ ((l.zipIdx a.length).map λp=>⟨2,p.2,p.1,0,0,0⟩)=some ⟨n,a++l,[],[]⟩:=by
 induction l with
 | nil=>intro a _;simp[jl]
 | cons x l u =>
  intro a h;have t:bU a (au x)=false:=agh;have j:dW ⟨n,a,[],[]⟩ ⟨2,a.length,x,0,0,0⟩=some ⟨n,a++[x],[],[]⟩:=by simp[dW,xJ,t,dG,iY]
  simp only[List.zipIdx_cons,jU,jl,j,Option.bind_some];have:=u (a++[x]) B7;simpa using this
theorem ay8 n L l:∀a:List aL,((a++l).map au).Nodup->(∀x∈L,∀y∈l,au x≠au y)->jl ⟨n,L,a,[]⟩ (kM l)=some ⟨n,L,a++l,[]⟩:=by
 induction l with
 | nil=>intro a _ _;simp[jl,kM]
 | cons x l A =>
  intro a h t;have j:bU a (au x)=false:=agh;have hy:bU L (au x)=false:=by rw[Bool.eq_false_iff];intro hh;obtain⟨y,hy,e⟩:=FD.1 hh;exact t y hy x aj e
  have u:dW ⟨n,L,a,[]⟩ ⟨3,0,x,0,0,0⟩=some ⟨n,L,a++[x],[]⟩:=by simp[dW,xK,j,hy,dG]
  simp only[kM,jU,jl,u,Option.bind_some];have:=A (a++[x]) B7 (λx j y hy=>t x j y IE);simpa [kM]using this
theorem avo{l a}(h:∀x∈l,au x≠a):iY l a=l:=by unfold iY;rw[List.filter_eq_self];intro x j;simpa using h x j
theorem ay9 n L P l:∀a:List aT,(a++l).Nodup->(∀x∈L,au x∉l)->(∀x∈P,au x∉l)->jl ⟨n,L,P,a⟩ (pH l)=some ⟨n,L,P,a++l⟩:=by
 induction l with
 | nil=>intro a _ _ _;simp[jl,pH]
 | cons x l B =>
  intro a h u hp;have C:dG a x=false:=by rw[Bool.eq_false_iff];intro t;exact (List.nodup_append.1 h).2.2 x (K3.1 t) x aj rfl
  have j:bU L x=false:=by rw[Bool.eq_false_iff];intro t;obtain⟨y,j,e⟩:=FD.1 t;exact u y j DW
  have D:iY P x=P:=avo λy j e=>hp y j DW
  have A:dW ⟨n,L,P,a⟩ ⟨4,0,dC,x.1,x.2.1,x.2.2⟩=some ⟨n,L,P,a++[x]⟩:=by simp[dW,xL,iG,C,j,D]
  simp only[pH,jU,jl,A,Option.bind_some];have:=B (a++[x]) B7 (λy j hm=>u y j (by simp[hm])) (λy j hm=>hp y j (by simp[hm]));simpa [pH]using this
theorem avp{s}(h:rD s):jl cV (dc s)=some s:=by unfold dc;rw[PC,PC,PC,ay6];simp only[Option.bind_some];have j:=ay7 s.life s.list [] (by simpa using h.nl);simp only[List.length_nil,aN]at j;unfold lX;rw[j];simp only[Option.bind_some];rw[ay8 s.life s.list s.prom [] (by simpa using h.np) h.lp];simp only[Option.bind_some,aN];rw[ay9 s.life s.list s.prom s.ab [] (by simpa using h.na) h.la h.pa];rfl
theorem FF:cE dC:=by simp[cE,dC,bR]
theorem V3{s}(h:rD s)(hz:s.list.length<=1000000):∀r∈dc s,dL r=true/\jA r:=by
 intro r j;have A:bR 0:=po;unfold dc at j;simp only[Co]at j;rcases j with ((j|j)|j)|j
 ·unfold vO at j;split at j
  ·cases j
  ·simp at j;subst j;exact⟨by simp[dL,xq],po,h.life,FF,A,aj,aj⟩
 ·unfold lX at j;obtain⟨⟨x,k⟩,y,rfl⟩:=List.mem_map.1 j;have hm:=List.mem_zipIdx y;obtain⟨t,u⟩:=h.zA x (by have:=hm.2.2;rw[this];exact bT _);exact⟨by simp[dL,t,xq],po,by simp only;omega,u,A,aj,aj⟩
 ·unfold kM at j;obtain⟨x,y,rfl⟩:=List.mem_map.1 j;obtain⟨t,u⟩:=h.zB x y;exact⟨by simp[dL,t,xq],po,aj,u,A,aj,aj⟩
 ·unfold pH at j;obtain⟨a,B,rfl⟩:=List.mem_map.1 j;obtain⟨t,u,C,D⟩:=h.GR a B;exact⟨by simp[dL,t],po,aj,FF,u,C,D⟩
abbrev o8(α:Type):=List UInt8->Bool->Bool->α×List UInt8×Bool×Bool
structure sX{α:Type}(enc:α->List UInt8)(ok:α->Prop)(rd:o8 α):Prop where
 fwd:∀x,ok x->∀rest,rd (enc x++rest) false false=(x,rest,false,false)
 back:∀l wr bd,(rd l wr bd).2.2.1=false->(rd l wr bd).2.2.2=false->l=enc (rd l wr bd).1++(rd l wr bd).2.1/\wr=false/\bd=false
 len:∀l wr bd,(rd l wr bd).2.1.length<=l.length
def Cw:o8 Nat:=λl wr j=>((aw l wr).1,(aw l wr).2.1,(aw l wr).2.2,j)
def lA(t:Nat):o8 Nat:=λl wr j=>if (aw l wr).1<t then ((aw l wr).1,(aw l wr).2.1,(aw l wr).2.2,j)else (0,(aw l wr).2.1,(aw l wr).2.2,true)
theorem O8:sX az (λn=>n<18446744073709551616) Cw where
 fwd:=by intro n h rest;simp only[Cw,qR n h]
 back:=by intro l wr u j t;simp only[Cw]at j t⊢;obtain⟨e,w⟩:=tI j;exact⟨e,w,t⟩
 len:=λl wr _=>nK l wr
theorem yr u(A:u<=18446744073709551616):sX az (λn=>n<u) (lA u) where
 fwd:=by intro n h rest;simp only[lA,qR n af];rw[if_pos h]
 back:=by
  intro l wr y t j;simp only[lA]at t j⊢;split at j
  ·rename_i h;rw[if_pos h]at t⊢;obtain⟨e,w⟩:=tI t;exact⟨e,w,j⟩
  ·cases j
 len:=by intro l wr y;have:=nK l wr;simp only[lA];split <;> exact this
theorem zZ j(u:0<j) l wr t:(lA j l wr t).1<j:=by
 grind [lA]
def lR{α β:Type}(a:o8 α)(b:o8 β):o8 (α×β):=λl wr j =>
 (((a l wr j).1,(b (a l wr j).2.1 (a l wr j).2.2.1 (a l wr j).2.2.2).1),(b (a l wr j).2.1 (a l wr j).2.2.1 (a l wr j).2.2.2).2)
theorem uQ{α β C G F E u D}(A:sX C F u)(B:sX G E D) :
 sX (λx:α×β=>C x.1++G x.2) (λx=>F x.1/\E x.2) (lR u D) where
 fwd:=by rintro ⟨x,y⟩ ⟨j,t⟩ rest;simp only[lR,dQ,A.fwd x j,B.fwd y t]
 back:=by intro l wr M j t;simp only[lR]at j t⊢;obtain⟨H,I,O⟩:=B.back _ _ _ j t;obtain⟨L,N,J⟩:=A.back _ _ _ I O;refine⟨?_,N,J⟩;rw[dQ,<- H];exact L
 len:=λl wr M=>bo (B.len _ _ _) (A.len _ _ _)
def Em{α β:Type}(f:α->β)(a:o8 α):o8 β:=λl wr j=>(f (a l wr j).1,(a l wr j).2)
theorem adB{α β u D t}(A:sX u D t) f{B C}(g:β->α)(H:∀y,C y->D (g y)/\f (g y)=y/\B y=u (g y))(J:∀l wr j,B (f (t l wr j).1)=u (t l wr j).1):sX B C (Em f t) where
 fwd:=by intro y L rest;obtain⟨M,G,I⟩:=H y L;simp only[Em,I,A.fwd _ M,G]
 back:=by intro l wr j E F;simp only[Em]at E F⊢;rw[J];exact A.back _ _ _ E F
 len:=λl wr j=>A.len l wr j
def gB{α:Type}(rd:o8 α):Nat->o8 (List α)
 | 0=>λl wr j=>([],l,wr,j)
 | k+1=>λl wr j=>((gB rd k l wr j).1++[(rd (gB rd k l wr j).2.1 (gB rd k l wr j).2.2.1 (gB rd k l wr j).2.2.2).1],(rd (gB rd k l wr j).2.1 (gB rd k l wr j).2.2.1 (gB rd k l wr j).2.2.2).2)
section
variable {α:Type} {enc:α->List UInt8} {ok:α->Prop} {rd:o8 α}
theorem K4(C:sX enc ok rd) k l wr j:(gB rd k l wr j).2.1.length<=l.length/\(gB rd k l wr j).1.length=k:=by
 induction k with
 | zero=>exact⟨aD _,rfl⟩
 | succ k t=>exact⟨bo (C.len _ _ _) t.1,by grind [gB]⟩
theorem avq(p:α->Prop)(hp:∀l wr j,p (rd l wr j).1) k l wr j:∀x∈(gB rd k l wr j).1,p x:=by
 induction k with
 | zero=>simp[gB]
 | succ k t =>
  grind [gB]
theorem avr(C:sX enc ok rd)(l:List α)(h:∀x∈l,ok x) rest:∀k,k<=l.length->gB rd k (l.flatMap enc++rest) false false=(l.take k,(l.drop k).flatMap enc++rest,false,false):=by
 intro k
 induction k with
 | zero=>intro _;simp[gB]
 | succ k ih => intro hk;have hk':k<l.length:=af;have hd:l.drop k=l[k] :: l.drop (k+1):=aj;have hx:=h l[k] (bT hk');simp only[gB];exact afh
theorem ati(C:sX enc ok rd){k l wr j}(h:(gB rd k l wr j).2.2.1=false)(t:(gB rd k l wr j).2.2.2=false):l=(gB rd k l wr j).1.flatMap enc++(gB rd k l wr j).2.1/\wr=false/\j=false:=by
 induction k with
 | zero=>exact⟨cC,h,t⟩
 | succ k u =>
  simp only[gB]at h t⊢
  obtain⟨A,B,y⟩:=C.back _ _ _ h t
  grind
def fu(enc:α->List UInt8)(l:List α):List UInt8:=az l.length++l.flatMap enc
def gT(rd:o8 α):o8 (List α):=λl wr j=>gB rd (lA 17 l wr j).1 (lA 17 l wr j).2.1 (lA 17 l wr j).2.2.1 (lA 17 l wr j).2.2.2
theorem pY(C:sX enc ok rd):sX (fu enc) (λl=>l.length<=16/\∀x∈l,ok x) (gT rd) where
 fwd:=by rintro l⟨t,j⟩ rest;simp only[gT,fu,dQ,(yr 17 af).fwd l.length (by show l.length<17;omega)];rw[avr C l j rest l.length (aD _)];simp
 back:=by intro l wr D t j;simp only[gT]at t j⊢;obtain⟨B,E,A⟩:=ati C t j;obtain⟨u,y,F⟩:=(yr 17 af).back _ _ _ E A;refine⟨?_,y,F⟩;unfold fu;rw[(K4 C _ _ _ _).2,dQ,<- B];exact u
 len:=λl wr D=>bo (K4 C _ _ _ _).1 ((yr 17 af).len _ _ _)
end
structure kY where
 id:aT
 yes:Bool
 deriving DecidableEq
structure eW where
 kind:Int
 got:Nat
 cG:List kY
 asks:List aL
 entries:List aL
 eD:List aL
 dF:List aT
 ends:List aT
 deriving DecidableEq
def vP:eW:=⟨0,0,[],[],[],[],[],[]⟩
def nW(a:aT):Bool:=qX a.1
def sf(v:kY):Bool:=qX v.id.1
def jZ{α:Type}(p:α->Bool)(l:List α):Bool:=decide (l.length<=16)&&l.all p
def AY(m:eW):Bool:=if m.kind=1 then m.entries.isEmpty&&m.eD.isEmpty&&m.dF.isEmpty&&m.ends.isEmpty else if m.kind=2 then m.cG.isEmpty&&m.asks.isEmpty else false
def dI(m:eW):Bool:=AY m&&jZ sf m.cG&&jZ bH m.asks&&jZ bH m.entries&&jZ bH m.eD&&jZ nW m.dF&&jZ nW m.ends
def iJ(m:eW):Int:=if dI m then 0 else 130
def nX(m:eW):Prop:=bR m.kind/\m.got<18446744073709551616/\(∀v∈m.cG,dJ v.id)/\(∀x∈m.asks,cE x)/\(∀x∈m.entries,cE x)/\(∀x∈m.eD,cE x)/\(∀a∈m.dF,dJ a)/\∀a∈m.ends,dJ a
def lq(v:kY):List UInt8:=fA v.id++az (if v.yes then 1 else 0)
def gh(x:aL):List UInt8:=ij (pq x)
def gD(m:eW):List UInt8:=az (aZ m.kind)++az m.got++(if m.kind=1 then fu lq m.cG++fu gh m.asks else fu gh m.entries++fu gh m.eD++fu fA m.dF++fu fA m.ends)
def Me(m:eW):List UInt8:=if dI m then gD m else []
def iI:o8 aT:=Em (λx=>((x.1:Int),x.2.1,x.2.2)) (lR (lA 16) (lR Cw Cw))
def nu:o8 kY:=Em (λx=>⟨x.1,decide (x.2=1)⟩) (lR iI (lA 2))
def ja(n:Int):o8 aL:=λl wr j=>(lP (aM n l wr).1,(aM n l wr).2.1,(aM n l wr).2.2,j||(iA (aM n l wr).1).isNone)
theorem DH:sX fA (λa=>qX a.1=true/\dJ a) iI:=by
 refine adB (uQ (yr 16 af) (uQ O8 O8)) _ (λa:aT=>(a.1.toNat,a.2.1,a.2.2)) ?_ ?_
 ·rintro ⟨b,l,s⟩ ⟨t,j⟩;simp only[qX,dz,decide_eq_true_eq]at t;refine⟨⟨af,j.2.1,j.2.2⟩,?_,?_⟩
  ·grind
  ·grind [fA,tG]
 ·intro l wr u;have:=zZ 16 af l wr u;simp only[lR,fA];rw[tG _ af af];simp
theorem Pa:sX lq (λv=>qX v.id.1=true/\dJ v.id) nu:=by
 refine adB (uQ DH (yr 2 af)) _ (λv:kY=>(v.id,if v.yes then 1 else 0)) ?_ ?_
 ·rintro ⟨a,y⟩ ⟨u,t⟩;refine⟨⟨⟨u,t⟩,aB⟩,aj,rfl⟩
 ·intro l wr j;simp only[lR,lq];have t:=zZ 2 af (iI l wr j).2.1 (iI l wr j).2.2.1 (iI l wr j).2.2.2;grind
theorem zW n:sX gh (λx=>bH x=true/\cE x/\((ei x).length:Int)<=n) (ja n) where
 fwd:=by
  rintro x⟨t,j,B⟩ rest;have:=KW t j;have hb:=FA n (ei x) af B rest;have e:pq x=ei x:=by unfold pq;rw[t];rfl
  simp only[ja,gh,ij,e];rw[hb];simp only[lP,adq x t j];rfl
 back:=by
  intro l wr E t j
  simp only[ja,Bool.or_eq_false_iff]at t j⊢
  obtain⟨y,_,C⟩:=DR t
  cases hd:iA (aM n l wr).1 with
  | none=>rw[hd]at j;cases j.2
  | some x =>
   obtain⟨u,A⟩:=UC hd;refine⟨?_,C,j.1⟩;have e:pq x=ei x:=by unfold pq;rw[A];rfl
   simp only[lP,hd,Option.getD_some,gh,ij,e];rw[<- u];exact y
 len:=λl wr _=>DU n l wr
def gE:o8 (Nat×Nat):=lR (lA 3) Cw
def yU(n:Int):o8 (List kY×List aL):=lR (gT nu) (gT (ja n))
def oL(n:Int):o8 (List aL×List aL×List aT×List aT):=lR (gT (ja n)) (lR (gT (ja n)) (lR (gT iI) (gT iI)))
def mi(n:Int):o8 eW:=λl wr j =>
 if (gE l wr j).1.1=1 then (⟨1,(gE l wr j).1.2,(yU n (gE l wr j).2.1 (gE l wr j).2.2.1 (gE l wr j).2.2.2).1.1,(yU n (gE l wr j).2.1 (gE l wr j).2.2.1 (gE l wr j).2.2.2).1.2,[],[],[],[]⟩,(yU n (gE l wr j).2.1 (gE l wr j).2.2.1 (gE l wr j).2.2.2).2)
 else if (gE l wr j).1.1=2 then (⟨2,(gE l wr j).1.2,[],[],(oL n (gE l wr j).2.1 (gE l wr j).2.2.1 (gE l wr j).2.2.2).1.1,(oL n (gE l wr j).2.1 (gE l wr j).2.2.1 (gE l wr j).2.2.2).1.2.1,(oL n (gE l wr j).2.1 (gE l wr j).2.2.1 (gE l wr j).2.2.2).1.2.2.1,(oL n (gE l wr j).2.1 (gE l wr j).2.2.1 (gE l wr j).2.2.2).1.2.2.2⟩,(oL n (gE l wr j).2.1 (gE l wr j).2.2.1 (gE l wr j).2.2.2).2)
 else (⟨((gE l wr j).1.1:Int),(gE l wr j).1.2,[],[],[],[],[],[]⟩,(gE l wr j).2)
def pI(b:List UInt8):Option eW:=if !(mi b.length b false false).2.2.2&&(!(mi b.length b false false).2.2.1&&(mi b.length b false false).2.1.isEmpty)&&dI (mi b.length b false false).1 then some (mi b.length b false false).1 else none
def pC(b:List UInt8):eW:=(pI b).getD vP
def xh(b:List UInt8):Int:=if (pI b).isSome then 0 else 130
theorem Qf{n l t wr y j u g}(h:gE l wr y=((1,g),t,j,u)):mi n l wr y=(⟨1,g,(yU n t j u).1.1,(yU n t j u).1.2,[],[],[],[]⟩,(yU n t j u).2):=by
 grind [mi]
theorem Qg{n l t wr y j u g}(h:gE l wr y=((2,g),t,j,u)):mi n l wr y=(⟨2,g,[],[],(oL n t j u).1.1,(oL n t j u).1.2.1,(oL n t j u).1.2.2.1,(oL n t j u).1.2.2.2⟩,(oL n t j u).2):=by
 grind [mi]
theorem ajH{n l j wr u y t k g}(h:gE l wr u=((k,g),j,y,t))(A:¬k=1)(B:¬k=2):mi n l wr u=(⟨(k:Int),g,[],[],[],[],[],[]⟩,j,y,t):=by
 grind [gE,mi]
theorem avs{α p}{l:List α}:jZ p l=true↔l.length<=16/\∀x∈l,p x=true:=by
 grind [jZ]
theorem KZ{m}(h:dI m=true):((m.kind=1/\m.entries=[]/\m.eD=[]/\m.dF=[]/\m.ends=[])∨(m.kind=2/\m.cG=[]/\m.asks=[])) /\
 (m.cG.length<=16/\∀x∈m.cG,sf x=true)/\(m.asks.length<=16/\∀x∈m.asks,bH x=true)/\(m.entries.length<=16/\∀x∈m.entries,bH x=true)/\(m.eD.length<=16/\∀x∈m.eD,bH x=true) /\
 (m.dF.length<=16/\∀x∈m.dF,nW x=true)/\(m.ends.length<=16/\∀x∈m.ends,nW x=true):=by
 simp only[dI,dz,avs]at h
 obtain⟨⟨⟨⟨⟨⟨y,j⟩,u⟩,A⟩,B⟩,t⟩,h6⟩:=h
 grind [dI,sf,bH,nW,AY]
def Rp(n:Int)(m:eW):Prop:=(∀x∈m.asks,((ei x).length:Int)<=n)/\(∀x∈m.entries,((ei x).length:Int)<=n)/\∀x∈m.eD,((ei x).length:Int)<=n
theorem awP n m(h:dI m=true)(T:nX m)(hn:Rp n m) rest:mi n (gD m++rest) false false=(m,rest,false,false):=by
 obtain⟨hk,E,u,D,B,y,C⟩:=KZ h;obtain⟨kind,got,cG,asks,entries,eD,dF,ends⟩:=m;obtain⟨-,A,M,Q,J,I,F,R⟩:=T;obtain⟨G,L,N⟩:=hn;simp only at hk E u D B y C A M Q J I F R G L N;have O:=uQ (yr 3 af) O8;rcases hk with ⟨rfl,rfl,rfl,rfl,rfl⟩|⟨rfl,rfl,rfl⟩
 ·have e:gD ⟨1,got,cG,asks,[],[],[],[]⟩++rest=(az 1++az got)++((fu lq cG++fu gh asks)++rest):=by
   grind [gD,dQ,aZ]
  rw[e,Qf (O.fwd (1,got) ⟨af,A⟩ _)];have S:=uQ (pY Pa) (pY (zW n));have:=S.fwd (cG,asks) ⟨⟨E.1,λv H=>⟨E.2 v H,M v H⟩⟩,u.1,λx j=>⟨u.2 x j,Q x j,G x j⟩⟩ rest;simp only at this;unfold yU;rw[this]
 ·have e:gD ⟨2,got,[],[],entries,eD,dF,ends⟩++rest=(az 2++az got)++((fu gh entries++(fu gh eD++(fu fA dF++fu fA ends)))++rest):=by
   grind [gD,dQ,aZ]
  rw[e,Qg (O.fwd (2,got) ⟨af,A⟩ _)];have U:=uQ (pY (zW n)) (uQ (pY (zW n)) (uQ (pY DH) (pY DH)));have:=U.fwd (entries,eD,dF,ends) ⟨⟨D.1,λx j=>⟨D.2 x j,J x j,L x j⟩⟩,⟨B.1,λx j=>⟨B.2 x j,I x j,N x j⟩⟩,⟨y.1,λa t=>⟨y.2 a t,F a t⟩⟩,C.1,λa t=>⟨C.2 a t,R a t⟩⟩ rest;simp only at this;unfold oL;rw[this]
theorem avt n l wr j(A:(mi n l wr j).2.2.1=false)(B:(mi n l wr j).2.2.2=false)(ok:dI (mi n l wr j).1=true):l=gD (mi n l wr j).1++(mi n l wr j).2.1/\wr=false/\j=false:=by
 have J:=uQ (yr 3 af) O8;obtain⟨k,g,u,t,y,C⟩:∃k g u t y,gE l wr j=((k,g),u,t,y):=⟨_,_,_,_,_,rfl⟩;have D:=J.back l wr j;rw[show lR (lA 3) Cw l wr j=((k,g),u,t,y)from C]at D;simp only at D;by_cases I:k=1
 ·subst I;rw[Qf C]at A B ok⊢;simp only at A B ok⊢;have L:=uQ (pY Pa) (pY (zW n));obtain⟨F,c1,c2⟩:=L.back u t y A B;obtain⟨E,c3,c4⟩:=D c1 c2;refine⟨?_,c3,c4⟩;have e:∀v a,gD ⟨1,g,v,a,[],[],[],[]⟩=(az 1++az g)++(fu lq v++fu gh a):=by intro v a;simp[gD,show aZ 1=1 from rfl]
  rw[e,dQ (az 1++az g)];unfold yU;rw[<- F];exact E
 ·by_cases H:k=2
  ·subst H;rw[Qg C]at A B ok⊢;simp only at A B ok⊢;have M:=uQ (pY (zW n)) (uQ (pY (zW n)) (uQ (pY DH) (pY DH)));have G:=M.back u t y;rw[show lR (gT (ja n)) (lR (gT (ja n)) (lR (gT iI) (gT iI))) u t y=oL n u t y from rfl]at G;generalize oL n u t y=r at *;obtain⟨⟨S,O,rc,rd⟩,Q,N,R⟩:=r;simp only at A B ok G⊢;obtain⟨F,c1,c2⟩:=G A B;obtain⟨E,c3,c4⟩:=D c1 c2;refine⟨?_,c3,c4⟩;have e:∀a b c d,gD ⟨2,g,[],[],a,b,c,d⟩=(az 2++az g)++(fu gh a++(fu gh b++(fu fA c++fu fA d))):=by intro a b c d;simp[gD,show aZ 2=2 from rfl]
   rw[e,dQ (az 2++az g),<- F];exact E
  ·rw[ajH C I H]at ok;have:=(KZ ok).1;simp only at this;omega
theorem avu{α} enc l(x:α)(j:x∈l):(enc x).length<=(fu enc l).length:=by
 obtain⟨s,t,rfl⟩:=List.append_of_mem j
 grind [fu]
theorem avv m(h:dI m=true):Rp ((gD m).length:Int) m:=by
 obtain⟨hk,E,u,D,B,y,F⟩:=KZ h;have key:∀(l:List aL),(∀x∈l,bH x=true)->(fu gh l).length<=(gD m).length->∀x∈l,((ei x).length:Int)<=((gD m).length:Int):=by
  grind [avu,gh,pq,ei,ij,dq]
 rcases hk with ⟨k,t,j,A,C⟩|⟨k,t,j⟩
 ·grind [dI,Rp,gD]
 ·grind [dI,Rp,gD]
theorem Pq{b m}(h:pI b=some m):b=gD m/\dI m=true:=by
 unfold pI at h;split at h
 ·rename_i j;injection h with h;simp only[dz,Bool.not_eq_true',List.isEmpty_iff]at j;obtain⟨⟨t,u,A⟩,y⟩:=j;grind [avt]
 ·cases h
theorem aet m(h:dI m=true)(j:nX m):pI (gD m)=some m:=by
 have t:=awP ((gD m).length:Int) m h j (avv m h) []
 rw[List.append_nil]at t
 unfold pI
 grind
theorem ars b:cE (lP b):=by
 unfold lP
 cases h:iA b with
 | none=>exact PA
 | some x=>exact adz h
theorem UY l wr j:dJ (iI l wr j).1:=by have h:=zZ 16 af l wr j;refine⟨?_,nM _ _,nM _ _⟩;simp only[iI,Em,lR,bR];omega
theorem avw l wr j:dJ (nu l wr j).1.id:=UY l wr j
theorem Vk n l wr j:cE (ja n l wr j).1:=ars _
theorem Iq{α rd}(p:α->Prop)(hp:∀l wr j,p (rd l wr j).1) l wr j:∀x∈(gT rd l wr j).1,p x:=avq p hp _ _ _ _
theorem avx n l wr j:(∀v∈(yU n l wr j).1.1,dJ v.id)/\∀x∈(yU n l wr j).1.2,cE x :=
 ⟨Iq (λv:kY=>dJ v.id) avw l wr j,Iq cE (Vk n) _ _ _⟩
theorem avy n l wr t:(∀x∈(oL n l wr t).1.1,cE x)/\(∀x∈(oL n l wr t).1.2.1,cE x)/\(∀x∈(oL n l wr t).1.2.2.1,dJ x)/\∀x∈(oL n l wr t).1.2.2.2,dJ x:=by
 obtain⟨j,B⟩:∃r,gT (ja n) l wr t=r:=⟨_,rfl⟩;obtain⟨y,C⟩:∃r,gT (ja n) j.2.1 j.2.2.1 j.2.2.2=r:=⟨_,rfl⟩;obtain⟨u,E⟩:∃r,gT iI y.2.1 y.2.2.1 y.2.2.2=r:=⟨_,rfl⟩;obtain⟨I,H⟩:∃r,gT iI u.2.1 u.2.2.1 u.2.2.2=r:=⟨_,rfl⟩;have G:=Iq cE (Vk n) l wr t;have A:=Iq cE (Vk n) j.2.1 j.2.2.1 j.2.2.2;have F:=Iq dJ UY y.2.1 y.2.2.1 y.2.2.2;have D:=Iq dJ UY u.2.1 u.2.2.1 u.2.2.2;have e:(oL n l wr t).1=(j.1,y.1,u.1,I.1):=by simp only[oL,lR,B,C,E,H]
 rw[e];rw[B]at G;rw[C]at A;rw[E]at F;rw[H]at D;exact⟨G,A,F,D⟩
theorem awQ n l wr j:nX (mi n l wr j).1:=by
 have hg:(gE l wr j).1.2<18446744073709551616:=nM _ _;have hk:(gE l wr j).1.1<3:=zZ 3 af l wr j;obtain⟨k,g,t,y,u,A⟩:∃k g t y u,gE l wr j=((k,g),t,y,u):=⟨_,_,_,_,_,rfl⟩;rw[A]at hg hk;simp only at hg hk;by_cases C:k=1
 ·subst C;rw[Qf A];have:=avx n t y u;exact⟨po,hg,this.1,this.2,aj,aj,aj,aj⟩
 ·by_cases B:k=2
  ·subst B;rw[Qg A];have:=avy n t y u;exact⟨po,hg,aj,aj,this.1,this.2.1,this.2.2.1,this.2.2.2⟩
  ·grind [nX,mi,bR]
theorem PD{b m}(h:pI b=some m):nX m:=by
 grind [pI,awQ]
abbrev dh(a:aT):Array Value:=#[.int .i64 a.1,.int .u64 (a.2.1:Int),.int .u64 (a.2.2:Int)]
abbrev gV(v:kY):Array Value:=#[.int .i64 v.id.1,.int .u64 (v.id.2.1:Int),.int .u64 (v.id.2.2:Int),.bool v.yes]
def ou:dV kY where
 size:=4
 rel v cs _:=cs=(gV v).toList
 len:=by rintro _ _ _ rfl;rfl
 one:=by rintro x _ _ rfl u j;simp at j;rcases j with rfl|rfl|rfl|rfl <;> rfl
 st:=by rintro _ _ _ _ h _;exact h
abbrev kj(m:eW)(v1 v2 v3 v4 v5 v6:Value):Array Value:=#[.int .i64 m.kind,.int .u64 (m.got:Int),v1,v2,v3,v4,v5,v6]
def lI(m:eW)(v:Value)(w:World):Prop:=∃t A j u B y,v=.agg (kj m t A j u B y)/\aq ou m.cG t w/\aq aW m.asks A w/\aq aW m.entries j w/\aq aW m.eD u w/\aq bZ m.dF B w/\aq bZ m.ends y w
theorem XQ{m v w w'}(h:lI m v w)(k:K w w'):lI m v w':=by obtain⟨u,D,j,y,F,A,e,t,C,E,G,B,h6⟩:=h;exact⟨u,D,j,y,F,A,e,bj t k,bj C k,bj E k,bj G k,bj B k,bj h6 k⟩
theorem acf a w :
 Calls prog 239 #[.agg (dh a)] w λe w'=>e=.returned (.bool (nW a))/\K w w':=by
 obtain⟨j,u,t⟩:=a
 have k1:=K.new w (.cells (dh (j,u,t)) 26)
 have HR:Hid (nW (j,u,t)=(decide (0<=j)&&decide (j<16))):=ae rfl
 generalize nW (j,u,t)=R at *
 by_cases h0:(0:Int)<=j
 ·by_cases h1:j<(16:Int)
  ·exact agi
  ·exact agi
 ·go_in;go_wp2;go_ret;exact⟨by rw[HR.aa];simp;intro;omega,k1⟩
theorem ap0 x w :
 Calls prog 238 #[.agg (gV x)] w λe w'=>e=.returned (.bool (sf x))/\K w w':=by
 have t:=K.new w (.cells (gV x) 225)
 have:Hid (sf x=nW x.id):=ae rfl
 go_in
 go_wp2_with fail
 generalize w.alloc _=u at *
 apply aI (acf x.id u)
 intro A j
 go_wp2
 go_ret
 exact⟨cC,t.tr j⟩
theorem art x v w(h:dx x v w) :
 Calls prog 240 #[v] w λe w'=>e=.returned (.bool (bH x))/\K w w':=by
 obtain⟨vf,G,rfl,u,y⟩:=h
 obtain⟨E,A,rfl⟩:=b5 u
 obtain⟨C,B,rfl⟩:=av y
 have j:=K.new w (.cells (aE x (.slice E x.f.length A) (.slice C x.es.length B)) 126)
 have D:=ae (Kx x _ _ ⟨_,_,rfl,eu _ _ _ _ u j,bj y j⟩)
 go_in
 go_wp2_with fail
 generalize w.alloc _=H at *
 apply aI D.aa
 intro F t
 cases hok:bH x
 ·rw[Fy hok];go_wp2;go_ret;exact⟨by simp[hok],j.tr t⟩
 ·rw[KO hok];go_wp2;go_ret;exact⟨by simp[hok],j.tr t⟩
theorem aoz l v w(h:aq ou l v w) :
 Calls prog 242 #[v,.func (Fn.func 238) #[] #[]] w λe w'=>e=.returned (.bool (jZ sf l))/\K w w':=by
 obtain⟨A,c,rfl,I,O⟩:=h
 have HI:Hid (jZ sf l=(decide (l.length<=16)&&l.all sf)):=ae rfl
 generalize jZ sf l=R at *
 have kk:=K.rf w
 go_in
 by_cases jn:l.length<=16
 rotate_left
 ·exact V4
 have yP:¬(16:Int)<(l.length:Int):=af
 go_wp2_with fail
 go_loopw [6,12] (fun _ i wr=>∃j:Nat,j<=l.length/\i=.int .i64 j/\Hid ((l.take j).all sf=true)/\K w wr) (fun _ i _=>l.length-(intOf i).toNat)
 case atStart=>exact⟨0,af,rfl,ae aj,kk⟩
 case round =>
  obtain⟨j,N,rfl,HT,kr⟩:=hrel;by_cases C:j<l.length
  ·have aO:(j:Int)<l.length:=af;obtain⟨D,u,cs,rfl,Q,E,y,d⟩:=ed I j C ax;have HS:=ae (H8 sf l j C);generalize l[j]=x at *;obtain rfl:=E w (K.rf w);have y:∀W,K wr W->W.cell? ⟨D,u+j*4,none⟩=some (.int .i64 x.id.1):=λW kW=>y W (kr.tr kW)
   have d:∀W,K wr W->∀i,i<4->W.cell? ⟨D,u+j*4+i,none⟩=(gV x)[i]?:=λW kW i H=>(d W (kr.tr kW) i H).trans Array.getElem?_toList
   have kk:=K.rf wr;have B:=ah.new wr 225 (gV x);have G:=B.aS;go_upto_region 6 with fail;have F:=kr.tr G;generalize wr.alloc _=t at *;generalize wr.heap.size=J at *;have q:=B.cells;have kk:=K.rf t;go_wp2_with fail
   apply cF (ap0 x t) F;intro L M rK;cases hq:sf x
   ·have HR:Hid (R=false):=ae (by
     have h1:(l.take (j+1)).all sf=false:=V5;rw[HI.aa,OO sf l (j+1) h1];simp)
    exact V6
   ·have nC:Hid ((l.take (j+1)).all sf=true):=ae V7;exact V8
  ·exact V9
theorem T4 l v w(h:aq aW l v w) :
 Calls prog 243 #[v,.func (Fn.func 240) #[] #[]] w λe w'=>e=.returned (.bool (jZ bH l))/\K w w':=by
 obtain⟨A,c,rfl,Q,Z⟩:=h
 have HI:Hid (jZ bH l=(decide (l.length<=16)&&l.all bH)):=ae rfl
 generalize jZ bH l=R at *
 have kk:=K.rf w
 go_in
 by_cases jn:l.length<=16
 rotate_left
 ·exact V4
 have yP:¬(16:Int)<(l.length:Int):=af
 go_wp2_with fail
 go_loopw [6,12] (fun _ i wr=>∃j:Nat,j<=l.length/\i=.int .i64 j/\Hid ((l.take j).all bH=true)/\K w wr) (fun _ i _=>l.length-(intOf i).toNat)
 case atStart=>exact⟨0,af,rfl,ae aj,kk⟩
 case round =>
  obtain⟨j,X,rfl,HT,kr⟩:=hrel;by_cases B:j<l.length
  ·have aO:(j:Int)<l.length:=af;obtain⟨F,G,cs,rfl,Y,O,H,d⟩:=ed Q j B ax;have HS:=ae (H8 bH l j B);generalize l[j]=x at *;obtain⟨vf,V,rfl,J,L⟩:=O w (K.rf w);obtain⟨I,E,rfl⟩:=b5 J;obtain⟨D,u,rfl⟩:=av L;have H:∀W,K wr W->W.cell? ⟨F,G+j*8,none⟩=some (.int .i64 x.kind):=λW kW=>H W (kr.tr kW)
   have d:∀W,K wr W->∀i,i<8->W.cell? ⟨F,G+j*8+i,none⟩=(aE x (.slice I x.f.length E) (.slice D x.es.length u))[i]?:=λW kW i N=>(d W (kr.tr kW) i N).trans Array.getElem?_toList
   have kk:=K.rf wr;have y:=ah.new wr 126 (aE x (.slice I x.f.length E) (.slice D x.es.length u));have M:=y.aS;go_upto_region 6 with fail;have t:=kr.tr M;generalize wr.alloc _=C at *;generalize wr.heap.size=S at *;have q:=y.cells;have kk:=K.rf C;go_wp2_with fail
   apply cF (art x _ C ⟨_,_,rfl,eu _ _ _ _ J t,bj L t⟩) t;intro T U rK;cases hq:bH x
   ·have HR:Hid (R=false):=ae (by
     have h1:(l.take (j+1)).all bH=false:=V5;rw[HI.aa,OO bH l (j+1) h1];simp)
    exact V6
   ·have nC:Hid ((l.take (j+1)).all bH=true):=ae V7;exact V8
  ·exact V9
theorem acg l v w(h:aq bZ l v w) :
 Calls prog 244 #[v,.func (Fn.func 239) #[] #[]] w λe w'=>e=.returned (.bool (jZ nW l))/\K w w':=by
 obtain⟨A,c,rfl,I,O⟩:=h
 have HI:Hid (jZ nW l=(decide (l.length<=16)&&l.all nW)):=ae rfl
 generalize jZ nW l=R at *
 have kk:=K.rf w
 go_in
 by_cases jn:l.length<=16
 rotate_left
 ·exact V4
 have yP:¬(16:Int)<(l.length:Int):=af
 go_wp2_with fail
 go_loopw [6,12] (fun _ i wr=>∃j:Nat,j<=l.length/\i=.int .i64 j/\Hid ((l.take j).all nW=true)/\K w wr) (fun _ i _=>l.length-(intOf i).toNat)
 case atStart=>exact⟨0,af,rfl,ae aj,kk⟩
 case round =>
  obtain⟨j,N,rfl,HT,kr⟩:=hrel;by_cases C:j<l.length
  ·have aO:(j:Int)<l.length:=af;obtain⟨D,u,cs,rfl,Q,E,y,d⟩:=ed I j C ax;have HS:=ae (H8 nW l j C);generalize l[j]=x at *;obtain rfl:=E w (K.rf w);have y:∀W,K wr W->W.cell? ⟨D,u+j*3,none⟩=some (.int .i64 x.1):=λW kW=>y W (kr.tr kW)
   have d:∀W,K wr W->∀i,i<3->W.cell? ⟨D,u+j*3+i,none⟩=(dh x)[i]?:=λW kW i H=>(d W (kr.tr kW) i H).trans Array.getElem?_toList
   have kk:=K.rf wr;have B:=ah.new wr 26 (dh x);have G:=B.aS;go_upto_region 6 with fail;have F:=kr.tr G;generalize wr.alloc _=t at *;generalize wr.heap.size=J at *;have q:=B.cells;have kk:=K.rf t;go_wp2_with fail
   apply cF (acf x t) F;intro L M rK;cases hq:nW x
   ·have HR:Hid (R=false):=ae (by
     have h1:(l.take (j+1)).all nW=false:=V5;rw[HI.aa,OO nW l (j+1) h1];simp)
    exact V6
   ·have nC:Hid ((l.take (j+1)).all nW=true):=ae V7;exact V8
  ·exact V9
theorem ayl{m}(h:m.kind=1):AY m=(m.entries.isEmpty&&m.eD.isEmpty&&m.dF.isEmpty&&m.ends.isEmpty):=by grind [AY]
theorem aym{m}(h:m.kind=2):AY m=(m.cG.isEmpty&&m.asks.isEmpty):=by grind [AY]
theorem ayn{m}(h:¬m.kind=1)(j:¬m.kind=2):AY m=false:=by grind [AY]
theorem Q0{α:Type}{l:List α}(h:l.isEmpty=false):((l.length:Int)==0)=false:=by simp_all
theorem IW{α:Type}{l:List α}(h:l.isEmpty=true):((l.length:Int)==0)=true:=by grind
theorem abV m v w(h:lI m v w) :
 Calls prog 145 #[v] w λe w'=>e=.returned (.int .i64 (iJ m))/\K w w':=by
 obtain⟨A,I,G,B,F,J,rfl,j,h2,h3,h4,h5,h6⟩:=h
 have CV:=ae λW (kW:K w W)=>aoz m.cG A W (bj j kW)
 have CA:=ae λW (kW:K w W)=>T4 m.asks I W (bj h2 kW)
 have CE:=ae λW (kW:K w W)=>T4 m.entries G W (bj h3 kW)
 have CP:=ae λW (kW:K w W)=>T4 m.eD B W (bj h4 kW)
 have CB:=ae λW (kW:K w W)=>acg m.dF F W (bj h5 kW)
 have CD:=ae λW (kW:K w W)=>acg m.ends J W (bj h6 kW)
 obtain⟨C,c1,rfl⟩:=av j
 obtain⟨O,c2,rfl⟩:=av h2
 obtain⟨M,c3,rfl⟩:=av h3
 obtain⟨N,c4,rfl⟩:=av h4
 obtain⟨Q,c5,rfl⟩:=av h5
 obtain⟨E,L,rfl⟩:=av h6
 have t:=ah.new w 156 (kj m (.slice C m.cG.length c1) (.slice O m.asks.length c2) (.slice M m.entries.length c3) (.slice N m.eD.length c4) (.slice Q m.dF.length c5) (.slice E m.ends.length L))
 have k1:=t.aS
 go_in
 go_upto_region 2 with fail
 generalize w.alloc _=w1 at *
 have:=t.cells
 have kk:=K.rf w1
 generalize w.heap.size=g at *
 by_cases y:m.kind=1
 ·have sk:=ayl y;cases e3:m.entries.isEmpty
  ·exact agj
  have z3:=IW e3;cases e4:m.eD.isEmpty
  ·exact agk
  have z4:=IW e4;cases e5:m.dF.isEmpty
  ·have H:=Q0 e5;have HQ:Hid (iJ m=130):=ae (by unfold iJ;rw[show dI m=false from by simp[dI,sk,e5]];rfl);exact Qh
  have H:=IW e5;cases e6:m.ends.isEmpty
  ·have D:=Q0 e6;have HQ:Hid (iJ m=130):=ae (by unfold iJ;rw[show dI m=false from by simp[dI,sk,e6]];rfl);exact Qh
  have D:=IW e6;have hK:AY m=true:=aB;exact agl
 by_cases u:m.kind=2
 ·have sk:=aym u;cases e3:m.cG.isEmpty
  ·exact agj
  have z3:=IW e3;cases e4:m.asks.isEmpty
  ·exact agk
  have z4:=IW e4;have hK:AY m=true:=by rw[sk,e3,e4];rfl
  exact agl
 have hK:=ayn y u
 have HQ:Hid (iJ m=130):=ae (by unfold iJ;rw[show dI m=false from by simp[dI,hK]];rfl)
 go_wp2
 go_ret
 exact⟨nL,k1⟩
def fK(p:List Int):Bool:=decide (1<=p.length)&&decide (p.length<=16)&&decide (p[0]?=some (-1))&&(List.range p.length).all λn=>n==0||match p[n]? with|some q=>decide (0<=q)&&decide (q<(n:Int))|none=>true
def fY(p:List Int)(n:Int):Bool:=decide (0<=n)&&decide (n<(p.length:Int))
def rY(p:List Int)(n:Int):List Int:=((List.range p.length).filter λk=>decide (p[k]?=some n)).map λ(k:Nat)=>(k:Int)
def Gb(p:List Int)(n:Int):List Int:=if fY p n&&fK p then rY p n else []
def De(p:List Int)(a:Int):Nat->Int->Bool
 | 0,_=>false
 | f+1,b=>if b<0 then false else if a=b then true else De p a f ((p[b.toNat]?).getD (-1))
def Df(p:List Int)(a b:Int):Bool:=fY p a&&fY p b&&fK p&&De p a (p.length+1) b
structure lB where
 cl:Int
 sub:Nat
 f:List cX
 deriving DecidableEq
def jr(s:lB)(x:aL):Int:=if i7 s.cl x.cl != 0 then i7 s.cl x.cl else i7 s.sub x.sub
def tS(l:List lB)(x:aL):List lB :=
 if x.kind=2 then l.filter (λs=>decide (jr s x<0))++[⟨x.cl,x.sub,x.f⟩]++l.filter (λs=>decide (0<jr s x))
 else if x.kind=3 then l.filter (λs=>decide (jr s x<0))++l.filter (λs=>decide (0<jr s x))else l
def jW(l:List aL):List lB:=l.foldl (λo x=>if x.kind=1 then o else tS o x) []
def qC(l:List lB)(cs:List Int):List lB:=l.filter λs=>decide (s.cl∈cs)
def anyS(l:List lB)(e:List cM):Bool:=l.any λs=>mq s.f e
def jD(l:List lB)(cs:List Int)(x:aL):aL:=if x.kind=1 then { x with es:=x.es.filter (anyS (qC l cs)) }else x
def pr(l:List lB)(c:Int)(x:aL):List (List cM):=if x.kind=1 then x.es.filter (anyS (qC l [c]))else []
def rm(k:eW)(a:aT)(y:Bool):Bool:=k.cG.any λv=>decide (v=⟨a,y⟩)
def jk(kids:List eW)(a:aT):Int:=if kids.any (λk=>rm k a false)then 2 else if kids.all (λk=>rm k a true)then 1 else 0
def qU(kids:List eW)(o:List kY)(x:aL):List kY:=if jk kids (au x)≠0/\o.length<16 then o++[⟨au x,decide (jk kids (au x)=1)⟩]else o
def mr(o:List kY)(a:aT):List kY:=if 16<=o.length then o else if o.any (λv=>decide (v.id=a))then o else o++[⟨a,false⟩]
def IX(prom:List aL)(refused:List aT)(kids:List eW):List kY:=refused.foldl mr (prom.foldl (qU kids) [])
def jB(s:dy)(p:List aL×List aT)(x:aL):List aL×List aT :=
 if bU s.list (au x)||bU s.prom (au x)||dG s.ab (au x)||bU p.1 (au x)||dG p.2 (au x)then p
 else if s.prom.length+p.1.length<6 then (p.1++[x],p.2)else (p.1,p.2++[au x])
def nJ(s:dy)(l:List aL):List aL×List aT:=l.foldl (jB s) ([],[])
def lr(s:dy)(op:List aL)(o:List aT)(v:kY):List aT :=
 if 16<=o.length then o else if dG o v.id||bU s.list v.id||bU s.prom v.id||bU op v.id then o else o++[v.id]
def tV(s:dy)(op:List aL)(k:eW):List aT:=k.cG.foldl (lr s op) []
def pw(s:dy)(p:List aL×List aL)(x:aL):List aL×List aL :=
 if bU s.list (au x)||dG s.ab (au x)||bU p.1 (au x)||bU p.2 (au x)then p
 else if x.kind≠1 then (p.1,p.2++[x])else if p.1.length<4 then (p.1++[x],p.2)else p
def oH(s:dy)(op asks:List aL):List aL×List aL:=asks.foldl (pw s) (op,[])
def Eu(op:List aL)(kids:List eW):List aL:=op.filter λx=>decide (jk kids (au x)=1)
def Dg(op:List aL)(kids:List eW):List aT:=(op.filter λx=>decide (jk kids (au x)=2)).map au
def p9(ab:List aT)(o:List aT)(x:aL):List aT:=if o.length<16/\dG ab (au x)=true/\dG o (au x)=false then o++[au x]else o
def tW(ab:List aT)(asks:List aL):List aT:=asks.foldl (p9 ab) []
def yJ(l:List aL)(n:Nat):List aL:=(l.drop n).take 4
structure pc where
 eZ:List Rec
 room:Nat
def xP(b:List UInt8):Nat:=6+b.length
def ir(l:List Rec):Nat:=(l.map λr=>xP (bJ r)).sum
def tX(d:pc)(r:Rec):Bool:=decide ((bJ r).length<=4000)&&decide (ir d.eZ+xP (bJ r)<=d.room)
structure bf where
 me:Int
 par:List Int
 ai:List Int
 st:dy
 aA:List eo
 calls:Nat
 bI:List (Int×eW)
 refused:List aT
 told:List aT
 waits:List aL
 dk:pc
def Ch(B:bf)(c:Int):Bool:=decide (0<=c)&&decide (c<(B.ai.length:Int))&&decide (B.ai[c.toNat]?=some B.me)
def nh(B:bf):Bool:=decide (B.me=0)
def iK(B:bf)(k:Int):eW:=((B.bI.find? λp=>decide (p.1=k)).map (·.2)).getD vP
def mw(l:List (Int×eW))(k:Int)(m:eW):List (Int×eW):=if l.any (λp=>decide (p.1=k))then l.map λp=>if p.1=k then (k,m)else p else l++[(k,m)]
def pD(B:bf):List Int:=Gb B.par B.me
def dA(B:bf):List eW:=(pD B).map (iK B)
def tJ(B:bf)(a:aT):Bool:=dG B.told a||dG B.st.ab a
def Ci(B:bf):List aT:=B.st.ab++B.told
def jJ(B:bf)(o:List aL)(x:aL):List aL:=if bU o (au x)||bU B.st.list (au x)||tJ B (au x)||decide (16<=o.length)then o else o++[x]
def lu(B:bf):List aL:=(dA B).foldl (λo k=>k.asks.foldl (jJ B) o) ((jj B.aA).foldl (jJ B) [])
def dB(B:bf)(r:Rec):bf×Bool :=
 if dL r&&tX B.dk r then (match dW B.st r with
  | none=>(B,false)
  | some t=>({ B with st:=t,dk:=⟨B.dk.eZ++[r],B.dk.room⟩,aA:=if r.kind=2 then fE B.aA (au r.e)else B.aA },true))
 else (B,false)
def mF(n:Nat)(x:aL):Rec:=⟨2,n,x,0,0,0⟩
def ju(k:Int)(a:aT):Rec:=⟨k,0,dC,a.1,a.2.1,a.2.2⟩
def ui(x:aL):Rec:=⟨3,0,x,0,0,0⟩
def mD(B:bf)(x:aL):bf×Bool:=dB B (mF B.st.list.length x)
def nN(B:bf)(a:aT):bf×Bool:=if (dB B (ju 4 a)).2 then ({ (dB B (ju 4 a)).1 with aA:=fE (dB B (ju 4 a)).1.aA a },true)else (B,false)
def kH(kids:List eW)(p:bf×List aL)(x:aL):bf×List aL :=
 if jk kids (au x)=1 then (if (mD p.1 x).2 then ((mD p.1 x).1,p.2)else (p.1,p.2++[x]))
 else if jk kids (au x)=2 then (if (nN p.1 (au x)).2 then ((nN p.1 (au x)).1,p.2)else (p.1,p.2++[x]))
 else (p.1,p.2++[x])
def yK(B:bf):bf:=(oH B.st B.waits (lu B)).2.foldl (λb x=>(mD b x).1) B
def nR(B:bf):bf×List aL:=(oH B.st B.waits (lu B)).1.foldl (kH (dA B)) (yK B,[])
def gA(B:bf):bf:=if nh B then { (nR B).1 with waits:=(nR B).2 }else B
def lS(B:bf)(j:Nat):List aL->bf
 | []=>B
 | x :: r=>if j=B.st.list.length then (if (dB B (mF j x)).2 then lS (dB B (mF j x)).1 ((j+1)%18446744073709551616) r else B)
  else lS B ((j+1)%18446744073709551616) r
def jq(B:bf)(a:aT):bf:=if bU B.st.prom a then (dB B (ju 5 a)).1 else B
def ni(B:bf)(a:aT):bf:=if tJ B a then B else jq { B with told:=B.told++[a],aA:=fE B.aA a } a
def iX(p:bf×List aT)(x:aL):bf×List aT:=if (dB p.1 (ui x)).2 then ((dB p.1 (ui x)).1,p.2)else (p.1,p.2++[au x])
def lY(B:bf)(l:List aL):List aL:=l.filter λx=>!dG B.told (au x)
def sY(B:bf)(l:List aL):List aT:=(l.filter λx=>dG B.told (au x)).map au
def rq(B:bf)(l:List aL):bf×List aT:=(nJ B.st (lY B l)).1.foldl iX (B,sY B l++(nJ B.st (lY B l)).2)
def sR(B:bf)(l:List aL):bf:={ (rq B l).1 with refused:=(rq B l).2 }
def qh(B:bf)(m:eW):bf:=sR (m.ends.foldl jq (m.dF.foldl ni (lS B m.got m.entries))) m.eD
def vQ(B:bf):Int:=(B.par[B.me.toNat]?).getD (-1)
def gX(B:bf)(j:Int)(b:List UInt8):bf×Int :=
 if decide (j∈pD B)||(!nh B&&decide (j=vQ B))then
  (match pI b with
   | none=>(B,130)
   | some m=>if decide (j∈pD B)&&decide (m.kind=1)then (gA { B with bI:=mw B.bI j m },0)
    else if (!nh B&&decide (j=vQ B))&&decide (m.kind=2)then (qh B m,0)else (B,201))
 else (B,201)
def uT(B:bf)(k:Int):List Int:=((List.range B.ai.length).filter λc=>match B.ai[c]? with|some h=>Df B.par k h|none=>false).map λ(c:Nat)=>(c:Int)
def AO(B:bf)(cs:List Int)(n:Nat)(l:List aL):List aL:=l.zipIdx.map λp=>jD (jW (B.st.list.take (n+p.2))) cs p.1
def pE(B:bf)(k:Int):Nat:=min (iK B k).got B.st.list.length
def tK(B:bf)(k:Int):eW :=
 ⟨2,pE B k,[],[],AO B (uT B k) (pE B k) (yJ B.st.list (pE B k)),((if nh B then B.waits else B.st.prom).take 16).map (jD (jW B.st.list) (uT B k)),tW (Ci B) (iK B k).asks,tV B.st B.waits (iK B k)⟩
def Ad(B:bf):eW:=⟨1,B.st.list.length,IX B.st.prom B.refused (dA B),lu B,[],[],[],[]⟩
def qD(B:bf):aT:=(B.me,B.st.life,B.calls+1)
def js(B:bf)(c:Int)(j:List eo×Int):bf×aT×Int :=
 if Ch B c then (if j.2=0 then ({ B with aA:=j.1,calls:=B.calls+1 },qD B,0)else (B,(0,0,0),j.2))else (B,(0,0,0),200)
def xg(B:bf)(c:Int):bf×aT×Int:=js B c (yG B.aA (qD B) c)
def rE(B:bf)(k c:Int)(n:Nat)(f:List cX):aL:=⟨k,B.me,B.st.life,B.calls+1,c,n,f,[]⟩
def yV(B:bf)(c:Int)(n:Nat)(f:List cX):bf×aT×Int:=js B c (xv B.aA (rE B 2 c n f))
def dR(B:bf)(r:List eo×Int):bf×Int:=if r.2=0 then ({ B with aA:=r.1 },0)else (B,r.2)
def FU(B:bf)(a:aT):Int :=
 if bU B.st.list a then 3 else if tJ B a then 4 else if (sQ B.aA a).2 then (if (sQ B.aA a).1.asked then 2 else 1)else 0
def nj(c:Int):List aL->List lB->Nat->List (List cM)×Nat
 | [],_,n=>([],n)
 | x :: r,s,n=>if pr s c x=[]then nj c r (if x.kind=1 then s else tS s x) (n+1)else (pr s c x,n+1)
def mE(B:bf)(c j:Int):List (List cM)×Int×Int :=
 if Ch B c then (if 0<=j/\j<=(B.st.list.length:Int)then ((nj c (B.st.list.drop j.toNat) (jW (B.st.list.take j.toNat)) j.toNat).1,((nj c (B.st.list.drop j.toNat) (jW (B.st.list.take j.toNat)) j.toNat).2:Int),0)else ([],0,1))else ([],0,200)
def cR(s:dy):dy:=⟨(s.life+1)%18446744073709551616,s.list,s.prom,s.ab⟩
def kN(p ai:List Int):Bool:=decide (1<=ai.length)&&decide (ai.length<=32)&&ai.all (fY p)
theorem ints_at{p A w}(u:zm cL p A w)(C:0<p.length) :
 ∃b j,A=some ⟨b,j,none⟩/\∀W,K w W->∀i (t:i<p.length),W.cell? ⟨b,j+i,none⟩=some (.int .i64 p[i]):=by
 obtain⟨b,j,cs,rfl,-,-,-,-⟩:=ed u 0 C ax
 refine⟨b,j,rfl,λW k i t=>?_⟩
 obtain⟨E,F,B,e,-,D,y,-⟩:=ed u i t ax
 injection e with e
 injection e with e1 e2
 subst e1 e2
 have h:=y W k
 rw[show B=AX p[i]from D W k]at h
 simpa [cL]using h
def xi(p:List Int):Int:=if fK p then 0 else 120
theorem FG{p}:fK p=true↔1<=p.length/\p.length<=16/\p[0]?=some (-1)/\∀n (h:n<p.length),1<=n->0<=p[n]/\p[n]<(n:Int):=by
 simp only[fK,dz,decide_eq_true_eq,vD,List.mem_range,Bool.or_eq_true,beq_iff_eq,and_assoc]
 grind
theorem rU{p}(h:fK p=true):1<=p.length/\p.length<=16:=⟨(FG.1 h).1,(FG.1 h).2.1⟩
theorem Kz p v w(h:aq cL p v w)(hn:p.length<=1000000) :
 Calls prog 40 #[v] w λe w'=>e=.returned (.int .i64 (xi p))/\K w w':=by
 obtain⟨A,c,rfl,I,-⟩:=h
 have y:Hid (xi p=if fK p then 0 else 120):=ae rfl
 generalize xi p=R at *
 have no:Hid (∀_:¬fK p=true,R=120):=ae λh=>by rw[y.aa,if_neg h]
 have yes:Hid (∀_:fK p=true,R=0):=ae λh=>by rw[y.aa,if_pos h]
 have kk:=K.rf w
 clear y
 go_in
 by_cases V:p.length<1
 ·have N:(p.length:Int)<1:=af;exact agm
 have N:¬(p.length:Int)<1:=af
 by_cases t:16<p.length
 ·have O:16<(p.length:Int):=af;exact agm
 have O:¬16<(p.length:Int):=af
 obtain⟨b,S,rfl,u⟩:=ints_at I af
 have H:0<p.length:=af
 have W:w.cell? ⟨b,S,none⟩=some (.int .i64 p[0]):=u w kk 0 H
 have G:=ae (List.getElem?_eq_getElem H)
 have J:=ae (u w kk)
 clear u I
 generalize p[0]=E at *
 by_cases h2:E=-1
 rotate_left
 ·have GC:(E != -1)=true:=yy;have HR:=ae (no.aa λh=>by have:=(FG.1 h).2.2.1;rw[G.aa]at this;injection this with this;exact h2 this);clear h2;exact Ah
 subst h2
 go_wp2_with fail
 go_loop [3] (fun i=>∃j:Nat,1<=j/\j<=p.length/\i=.int .i64 j/\Hid (∀n (h:n<p.length),1<=n->n<j->0<=p[n]/\p[n]<(n:Int))) (fun i=>p.length-(intOf i).toNat)
 case atStart=>exact⟨1,af,af,rfl,ae λn _ t h2=>af⟩
 case round =>
  obtain⟨j,T,X,rfl,D⟩:=hrel;by_cases B:j<p.length
  ·have Q:(j:Int)<p.length:=af;have Z:=J.aa j B;have U:Hid (0<=p[j]/\p[j]<(j:Int)->∀n (h:n<p.length),1<=n->n<j+1->0<=p[n]/\p[n]<(n:Int)):=ae λh n hn t h2=>by
    by_cases e:n=j
    ·subst e;exact h
    ·exact D.aa n hn t af
   have C:Hid (¬(0<=p[j]/\p[j]<(j:Int))->R=120):=ae λh=>no.aa λL=>h ((FG.1 L).2.2.2 j B T)
   generalize p[j]=F at *;by_cases Y:F<0
   ·have HR:=ae (C.aa af);exact Ah
   by_cases h4:(j:Int)<=F
   ·have HR:=ae (C.aa af);exact Ah
   have M:=ae (U.aa af);go_wp2;go_round
   case rel=>exact⟨j+1,af,af,bD,M⟩
   case measure=>simp[intOf];omega
  ·have Q:¬(j:Int)<p.length:=af;have HR:=ae (yes.aa (FG.2 ⟨af,af,G.aa,λn hn t=>D.aa n hn t af⟩));exact Ah
def sA(p:List Int)(n:Int):Bool:=fY p n&&fK p
theorem Uf p n v w(h:aq cL p v w)(hn:p.length<=1000000) :
 Calls prog 252 #[v,.int .i64 n] w λe w'=>e=.returned (.bool (sA p n))/\K w w':=by
 have t:=ae λW (k:K w W)=>Kz p v W (bj h k) hn
 obtain⟨A,c,rfl,u,-⟩:=h
 have HC:Hid (sA p n=((decide (0<=n)&&decide (n<(p.length:Int)))&&fK p)):=ae rfl
 have j:Hid (xi p=if fK p then 0 else 120):=ae rfl
 generalize sA p n=R at *
 generalize xi p=T at *
 have kk:=K.rf w
 go_in
 by_cases h0:0<=n
 rotate_left
 ·exact agn
 by_cases h1:n<(p.length:Int)
 rotate_left
 ·have HR:Hid (R=false):=ae (by rw[HC.aa];simp[h1]);exact Ah
 have HR:Hid (R=fK p):=ae Wb
 go_wp2_with fail
 apply aI (t.aa w kk)
 intro y k1
 cases ho:fK p
 ·obtain rfl:T=120:=by rw[j.aa,ho];rfl
  have iT:Hid (R=false):=ae (by rw[HR.aa,ho]);go_wp2;exact Qi
 ·obtain rfl:T=0:=by rw[j.aa,ho];rfl
  have iT:Hid (R=true):=ae (by rw[HR.aa,ho]);go_wp2;exact Qi
theorem atj p a b v w(h:aq cL p v w)(hn:p.length<=1000000) :
 Calls prog 254 #[v,.int .i64 a,.int .i64 b] w λe w'=>e=.returned (.bool (Df p a b))/\K w w':=by
 have D:=ae λW (k:K w W)=>Uf p a v W (bj h k) hn
 have F:=ae λW (k:K w W)=>Uf p b v W (bj h k) hn
 obtain⟨A,c,rfl,E,-⟩:=h
 have HC:Hid (Df p a b=(sA p a&&sA p b&&De p a (p.length+1) b)):=ae (by unfold Df sA;cases fY p a <;> cases fY p b <;> cases fK p <;> rfl)
 generalize Df p a b=R at *
 have C:Hid (sA p b=true->fK p=true/\0<=b/\b<(p.length:Int)):=ae awR
 have u:Hid (sA p a=true->fK p=true):=ae (by unfold sA;simp)
 have H:=K.rf w
 go_in
 go_wp2
 go_step3
 go_wp2_with fail
 apply aI (D.aa w H)
 intro J k1
 cases JE:sA p a
 ·have HR:Hid (R=false):=ae (by rw[HC.aa,JE];rfl);clear JE;exact ago
 have N:=ae (u.aa JE)
 go_wp2_with fail
 apply aI (F.aa J k1)
 intro L B
 replace k1:=k1.tr B
 cases oT:sA p b
 ·have HR:Hid (R=false):=ae agp;clear JE oT;exact ago
 have HR:Hid (R=De p a (p.length+1) b):=ae agp
 obtain⟨-,V,T⟩:=C.aa oT
 obtain⟨X,off,rfl,y⟩:=ints_at E af
 have G:=ae y
 clear JE oT HC C u D F y E B
 go_wp2_with fail
 go_step3
 go_wp2_with fail
 go_loop [2,7] (fun t Q=>∃(f:Nat) (n:Int),t=.int .i64 n/\Q=.bool false/\-1<=n/\n<(p.length:Int)/\n+1<(f:Int)/\Hid (R=De p a f n)) (fun t _=>(intOf t+1).toNat)
 case atStart=>exact⟨p.length+1,b,rfl,rfl,af,af,af,HR⟩
 case round =>
  clear HR;obtain⟨f,n,rfl,rfl,dX,U,hf,HR⟩:=hrel;obtain⟨f,rfl⟩:∃M,f=M+1:=⟨f-1,af⟩;by_cases I:0<=n
  ·by_cases j:a=n
   ·subst j;have iT:Hid (R=true):=ae (by rw[HR.aa,De,if_neg (by omega),if_pos rfl]);go_wp2;try rw[ig]
    exact Qi
   ·have:(a==n)=false:=by simpa using j
    obtain⟨m,rfl⟩:=Int.eq_ofNat_of_zero_le I;have hm:m<p.length:=af;have:=G.aa L k1 m hm;have iT:Hid (R=De p a f p[m]):=ae (by rw[HR.aa,De,if_neg (by omega),if_neg j];simp[hm]);have O:-1<=p[m]/\p[m]<(m:Int):=by
     have:=FG.1 N.aa
     by_cases h1:m=0
     ·grind
     grind
    clear j HR;generalize p[m]=q at *;obtain⟨mI,Y⟩:=O;go_wp2;go_round
    case rel=>exact⟨f,q,rfl,rfl,af,af,af,iT⟩
    case measure=>simp[intOf];omega
  ·have:n<0:=af;have iT:Hid (R=false):=ae (by rw[HR.aa,De,if_pos (by omega)]);go_wp2;try rw[ig]
   exact Qi
section
open Go Go.RowKit Go.Shelf
attribute [local go_sem] Oper.semAt_some
def yH(p:List Int)(n:Int)(j:Nat):List Int:=((List.range j).filter λk=>decide (p[k]?=some n)).map λ(k:Nat)=>(k:Int)
theorem ap1(p:List Int)(n:Int)(j:Nat)(h:j<p.length):yH p n (j+1)=yH p n j++(if p[j]=n then [(j:Int)]else []):=by
 unfold yH;rw[List.range_succ,List.filter_append,List.map_append];congr 1;by_cases e:p[j]=n
 ·rw[if_pos e,List.filter_cons_of_pos (by simpa [h]using e)];rfl
 ·rw[if_neg e,List.filter_cons_of_neg (by simpa [h]using e)];rfl
theorem aru p n j(h:j<=p.length):yH p n j <+: rY p n:=by
 unfold yH rY
 have:List.range p.length=List.range j++(List.range (p.length-j)).map (j+·):=by rw[show p.length=j+(p.length-j) by omega,List.range_add];simp
 grind
theorem atk p n:(rY p n).length<=p.length:=by
 grind [rY]
def EU(B b:Nat)(W W':World):Prop:=W'.heap[B]?=W.heap[B]?/\W'.heap[b]?=W.heap[b]?
theorem EU.tr{B b W W' j}(h:EU B b W W')(k:EU B b W' j):EU B b W j:=⟨k.1.trans h.1,k.2.trans h.2⟩
theorem atl l C y b O c p n(J L:List Int->World->Prop)
 (S:∀pre x W,J pre W->pre.length<(rY p n).length->YieldAt Fence.wide 4 prog l #[.int .i64 x] W λe W' =>
  (e=.returned (.bool true)/\J (pre++[x]) W'/\EU y b W W')∨(e=.returned (.bool false)/\L (pre++[x]) W'))
 W (Q:W.cell? ⟨C,0,none⟩=some (.slice (some ⟨b,O,none⟩) p.length c)) (M:W.cell? ⟨y,0,none⟩=some (.int .i64 n))
 (G:∀i (hi:i<p.length),W.cell? ⟨b,O+i,none⟩=some (.int .i64 p[i])) (Z:p.length<=1000000) (F:J [] W) :
 CallsIn Fence.wide 5 prog 292 #[.func (.yield l) #[] #[],.pointer (some ⟨C,0,none⟩),.pointer (some ⟨y,0,none⟩)] W λe W'=>(∃v,e=.returned v) /\
  ((∃D,D=rY p n/\J D W')∨(∃pre,pre <+: rY p n/\L pre W')):=by
 refine callsIn_of_wp func292 rfl trivial ?_ rfl
 simp only[ntmps292,List.size_toArray,eQ,List.length_nil,Nat.reduceAdd,Nat.reduceSub,Array.replicate_succ,Array.replicate_zero,List.push_toArray,List.append_toArray,aN,aQ]
 gi_wp2
 gi_loopw [4,5,8] (λ_ _ i wr=>∃j:Nat,i=.int .i64 j/\j<=p.length/\J (yH p n j) wr/\EU y b W wr) (λ_ _ i _=>p.length-(intOf i).toNat)
 case atStart=>exact⟨0,rfl,af,F,rfl,rfl⟩
 case round =>
  obtain⟨j,rfl,hj,t,hk⟩:=hrel;by_cases E:j<p.length
  ·have U:(j:Int)<p.length:=af;have cj:=(World.cell?_of_block hk.2).trans (G j E);have c2:=(World.cell?_of_block hk.1).trans M;have N:=ap1 p n j E;have hp:=aru p n (j+1) af;have u:=ae N;have A:=ae hp;clear N hp Q M G F;generalize p[j]=q at *;by_cases e:q=n
   ·subst e;have B:Hid (yH p q (j+1)=yH p q j++[(j:Int)]):=ae (by rw[u.aa,if_pos rfl]);obtain⟨Y,tmps,assign,body,hy,R⟩:=S (yH p q j) j wr t (by have:=A.aa.length_le;rw[B.aa]at this;simp at this;omega);clear u;gi_wp2;refine R.mono ?_;rintro e X (⟨rfl,I,T⟩|⟨rfl,H⟩)
    ·rw[<- B.aa]at I;gi_wp2;go_roundw
     case rel=>exact⟨j+1,bD,af,I,hk.tr T⟩
     case measure=>simp[intOf];omega
    ·rw[<- B.aa]at H;gi_wp2;refine bodyPost_ret (results_none rfl _ _ _) rfl ?_;exact⟨⟨_,rfl⟩,.inr ⟨_,A.aa,H⟩⟩
   ·have e':(q==n)=false:=Lp;rw[show yH p n j=yH p n (j+1) by rw[u.aa,if_neg e];simp]at t;clear u A e;gi_wp2;refine⟨(λf V=>by cases V),?_⟩;gi_wp2;go_roundw
    case rel=>exact⟨j+1,bD,af,t,hk⟩
    case measure=>simp[intOf];omega
  ·have U:¬(j:Int)<p.length:=af;obtain rfl:j=p.length:=af;gi_wp2;go_end0;first|exact⟨⟨_,rfl⟩,.inl ⟨_,rfl,t⟩⟩|exact⟨⟨_,rfl⟩,.inl t⟩|exact t|exact .inl t
end
section
open Go Go.RowKit Go.Shelf
attribute [local go_sem] Oper.semAt_some
abbrev Mp(l:List Int):List Value:=l.map λn=>Value.int .i64 n
theorem ayo:(prog.info? 3).map (λi=>(i.zero,i.size,i.bytes))=some (some (.int .i64 0),1,8):=by rfl
theorem Dh:fS prog 23 3 (.int .i64 0) 1 8:=⟨underlying23,ayo,rfl,ax⟩
theorem avz{base v l W}(h:W.ownsRow base 3 1 v l.length (Mp l)):aC (λk=>k<base) base 3 cL l v W :=
 ⟨l.map AX,by rw[UW];exact h,aj,λw' _=>Fw l w'⟩
theorem ap2(p:List Int) n A c w :
 Calls prog 253 #[.slice A p.length c,.int .i64 n] w λe w'=>e=.returned (.func (.func 292) #[] #[.pointer (some ⟨w.heap.size,0,none⟩),.pointer (some ⟨w.heap.size+1,0,none⟩)])/\w'=(w.alloc (.cells #[.slice A p.length c] 23)).alloc (.cells #[.int .i64 n] 3):=by
 go_in
 go_wp2
 go_ret
 exact⟨aj,rfl⟩
theorem ap3 p n v w(h:aq cL p v w)(hn:p.length<=1000000) :
 Calls prog 159 #[v,.int .i64 n] w λe w'=>∃v',e=.returned v'/\aC (λk=>k<w.heap.size) w.heap.size 3 cL (Gb p n) v' w'/\K w w':=by
 have C1:=ae λW (k:K w W)=>Uf p n v W (bj h k) hn
 obtain⟨A,c,rfl,hl,-⟩:=h
 have V:Hid (Gb p n=if sA p n then rY p n else []):=ae rfl
 have HB:Hid (sA p n=true->0<p.length):=ae awS
 generalize Gb p n=R at *
 have kk:=K.rf w
 refine (callsIn_wide (n:=6)).1 ?_
 refine callsIn_of_wp_marks func159 rfl trivial ?_ rfl
 simp only[ntmps159,List.size_toArray,eQ,List.length_nil,Nat.reduceAdd,Nat.reduceSub,Array.replicate_succ,Array.replicate_zero,List.push_toArray,List.append_toArray,aN,aQ]
 gi_wp2_with fail
 refine⟨trivial,(callsIn_wide.2 (C1.aa w kk)).mono ?_⟩
 rintro e E⟨rfl,Z⟩
 cases hb:sA p n
 ·have HR:Hid (R=[]):=ae (by rw[V.aa,hb];rfl);clear hb;gi_wp2;exact⟨_,results_tmp rfl _ _ _,_,rfl,by rw[HR.aa];exact aC.nil _ _ _ _ _,Z⟩
 have HR:Hid (R=rY p n):=ae (by rw[V.aa,hb];rfl)
 obtain⟨b,y,rfl,M⟩:=ints_at hl (HB.aa hb)
 have dP:b<w.heap.size:=K0 (M w kk 0 (HB.aa hb))
 have wy:=ae M
 clear hb V HB C1 hl M
 gi_wp2_with fail
 refine⟨trivial,(callsIn_wide.2 (ap2 p n _ c _)).mono ?_⟩
 rintro e C⟨rfl,rfl⟩
 have O:=((Boxed.new E 23 (.slice none 0 0)).alloc (.cells #[.slice (some ⟨b,y,none⟩) p.length c] 23)).alloc (.cells #[.int .i64 n] 3)
 have Q:=(Boxed.new (E.alloc (.cells #[.slice none 0 0] 23)) 23 (.slice (some ⟨b,y,none⟩) p.length c)).alloc (.cells #[.int .i64 n] 3)
 have G:=Boxed.new ((E.alloc (.cells #[.slice none 0 0] 23)).alloc (.cells #[.slice (some ⟨b,y,none⟩) p.length c] 23)) 3 (.int .i64 n)
 have k2:K w (((E.alloc (.cells #[.slice none 0 0] 23)).alloc (.cells #[.slice (some ⟨b,y,none⟩) p.length c] 23)).alloc (.cells #[.int .i64 n] 3)):=((Z.al _).al _).al _
 have hz2:(((E.alloc (.cells #[.slice none 0 0] 23)).alloc (.cells #[.slice (some ⟨b,y,none⟩) p.length c] 23)).alloc (.cells #[.int .i64 n] 3)).heap.size=E.heap.size+1+1+1:=aj
 simp only[World.size_alloc]at Q G⊢
 have hz1:=Z.size
 have azO:=ae (wy.aa _ k2)
 generalize ((E.alloc (.cells #[.slice none 0 0] 23)).alloc (.cells #[.slice (some ⟨b,y,none⟩) p.length c] 23)).alloc (.cells #[.int .i64 n] 3)=C at *
 generalize hg:E.heap.size=B0 at *
 have HG:=ae hg
 have HZ:=ae hz2
 clear hg hz2 wy
 gi_wp2_with fail
 refine wpIn_rangeFunc_ownF rfl af (gf:=292) (lb:=#[.pointer (some ⟨B0+1,0,none⟩),.pointer (some ⟨B0+1+1,0,none⟩)]) rfl trivial (enters_of func292 fo rfl)
  (encs:=λx:Int=>#[.int .i64 x]) (Kp:=EU (B0+1+1) b) (S:=λys=>ys=rY p n) (Sp:=λpre=>pre <+: rY p n) (N:=(rY p n).length) (w0:=C)
  (λl J Jx W L _ _ hY h0=>atl l (B0+1) (B0+1+1) b y c p n J Jx hY W ((World.cell?_of_block (L.block _ Q.lt)).trans Q.cell) ((World.cell?_of_block (L.block _ G.lt)).trans G.cell)
   (λi Y=>(World.cell?_of_block (L.block _ (show b<_ by have:=k2.size;omega))).trans (azO.aa i Y)) hn h0)
  (λh k=>h.tr k) (λW l o o' h1 _ _ _=>⟨World.putObj_heap_other (by have:=G.lt;omega),World.putObj_heap_other (by have:=k2.size;omega)⟩) (cP _ _) (λ_=>rfl)
  (λpre W=>∃v,Boxed W B0 23 v/\W.ownsRow C.heap.size 3 1 v pre.length (Mp pre)/\Below w.heap.size w W/\C.heap.size<=W.heap.size)
  (λ_ _ _=>False) ?own (λ_ _ _ _ _ hs _ _=>hs) ⟨_,O,jV _ _ _ _,k2,aD _⟩
  (λx=>{ tmps:=#[.slice (some ⟨b,y,none⟩) p.length c,.int .i64 n,undef,undef,.slice none 0 0,.pointer (some ⟨B0,0,none⟩),.int .i64 x,.slice (some ⟨b,y,none⟩) p.length c,.int .i64 n,.bool true,.bool false,.slice (some ⟨b,y,none⟩) p.length c,.int .i64 n,.func (.func 292) #[] #[.pointer (some ⟨B0+1,0,none⟩),.pointer (some ⟨B0+1+1,0,none⟩)],.int .i64 x,undef,undef,undef,undef,undef],defers:=[] }) ?assign ?body ?done ?stop
 case own => exact agq
 case assign => intro l x W K hK;gi_wp2;exact hK
 case body =>
  rintro l pre x W⟨v,hv,hrow,hB,Nc⟩ hpl;have q:=hv.cell;have hul:=atk p n;have I1:=p7 hrow (.cells #[.int .i64 x] 3);have aR:=ah.new W 3 #[.int .i64 x];obtain⟨i,Y,hz0,iQ,il⟩:=Dh.fit;gi_wp2_with (gi_at_builtin;refine wpListIn_append_own _ rfl _ _ 23 rfl C.heap.size 3 i (.int .i64 0) 1 8 underlying23 Y hz0 iQ il rfl ax v pre.length (Mp pre) rfl I1 ⟨W.heap.size,0,none⟩ 1 1 [.int .i64 x] rfl rfl ?c1 ?c2 ?c3 ?c4 ?c5 ?_)
  case c1 =>
   intro j u F;have:j=0:=by
    grind
   subst this;have h:=aR.cell 0;simp at F⊢;rw[<- F];simp[Addr.add]
  case c2=>intro u F;simp at F;subst F;rfl
  case c3=>unfold maxLen;omega
  case c4=>omega
  case c5=>simp;omega
  intro v' w' hown' U _;obtain⟨g',cap',H⟩:∃g cap,v'=.slice (some ⟨g,0,none⟩) (pre.length+1) cap:=agr;rw[H]at hown'⊢;clear H;obtain⟨v',H⟩:∃v',v'=Value.slice (some ⟨g',0,none⟩) (pre.length+1) cap':=⟨_,rfl⟩;rw[<- H]at hown';have hne:some B0≠v.ownBlock:=λe=>by have:=(hrow.lt B0 e.symm).1;have:=O.lt;omega
  have T:=(hv.alloc _).kept U hne;have q1:=T.cell;have z1:=T.frozen;have Mq:v'.ownBlock≠some B0:=λe=>by have:=(hown'.lt B0 e).1;have:=O.lt;omega
  have u :=
   ((ag.aU ((K.rf W).al (.cells #[.int .i64 x] 3)) _).tr (ag.eP U λg hg=>.inr (I1.lt g hg).1)).tr (ag.bK (X:=λk=>k=B0∨C.heap.size<=k) (.inl rfl) 0 v')
  have Sg:KeepsOthers W (w'.setCell ⟨B0,0,none⟩ v'):=by refine ((KeepsOthers.alloc W (.cells #[.int .i64 x] 3)).trans (KeepsOthers.of_grownBy U λj o ej hj=>?_)).trans (KeepsOthers.setCell _ _ _);exact ags
  have I:Boxed (w'.setCell ⟨B0,0,none⟩ v') B0 23 v'/\(w'.setCell ⟨B0,0,none⟩ v').ownsRow C.heap.size 3 1 v' (pre++[x]).length (Mp (pre++[x]))/\Below w.heap.size w (w'.setCell ⟨B0,0,none⟩ v')/\C.heap.size<=(w'.setCell ⟨B0,0,none⟩ v').heap.size:=by
   refine⟨T.set v',?_,⟨u.os.trans hB.os,u.tape.trans hB.tape,u.output.trans hB.output,bo hB.size u.size,λk hk=>(u.block k (bw hk hB.size) λh=>?_).trans (hB.block k hk)⟩,bo Nc u.size⟩
   ·exact agt
   ·have:=k2.size;omega
  have MS:EU (B0+1+1) b W (w'.setCell ⟨B0,0,none⟩ v'):=by have h2:=G.lt;have h3:=k2.size;exact⟨u.block _ af af,u.block _ af af⟩
  subst H;gi_wp2;exact⟨Sg,MS,_,I.1,I.2.1,I.2.2.1,I.2.2.2⟩
 case done =>
  rintro D ys W hD rfl⟨v,hv,hrow,hB,Nc⟩ hK;have q:=hv.cell;have hr:(W.putObj D (.deferred none)).ownsRow w.heap.size 3 1 v (rY p n).length (Mp (rY p n)):=FB (mo k2.size hrow) λg _ _ h2=>World.putObj_heap_other λe=>by exact agu
  have HV:=ae (avz hr);have HI:=ae (belowK_b (n₀:=w.heap.size) (w:=C) k2.size W D _ (.deferred none) hD hK rfl rfl);gi_wp2;refine⟨aj,.inl ⟨_,_,rfl,run_takeDeferred hK,?_⟩⟩;exact⟨_,results_tmp rfl _ _ _,_,rfl,by rw[HR.aa];exact HV.aa,hB.trans HI.aa⟩
 case stop => simp
end
section
open Go Go.RowKit Go.Shelf
attribute [local go_sem] Oper.semAt_some
theorem ap4 b w :
 Calls prog 260 #[.map (some b)] w λe w'=>e=.returned (.func (.func 299) #[] #[.pointer (some ⟨w.heap.size,0,none⟩)])/\w'=w.alloc (.cells #[.map (some b)] 160):=by
 go_in
 go_wp2
 go_ret
 exact⟨aj,rfl⟩
theorem aeu{α:Type}:∀(L:List α) (i:Nat) (h:i<L.length),(L[i] :: L.eraseIdx i).Perm L
 | [],i,h=>xb
 | x :: l,0,_=>aj
 | x :: l,i+1,h=>by have j:i<l.length:=B7;simp only[List.getElem_cons_succ,List.eraseIdx_cons_succ];exact (List.Perm.swap _ _ _).trans ((aeu l i j).cons x)
theorem arv{α:Type}{pre L M:List α}(h:(pre++L).Perm M) i(j:i<L.length):(pre++[L[i]]++L.eraseIdx i).Perm M:=by refine List.Perm.trans ?_ h;rw[dQ];exact List.Perm.append_left pre (aeu L i j)
theorem atm l D b ak(J G:List aT->World->Prop)
 (R:∀pre x W,J pre W->pre.length<ak.length->YieldAt Fence.wide 4 prog l #[lW x] W λe W' =>
  (e=.returned (.bool true)/\J (pre++[x]) W'/\KeepsWalks W W')∨(e=.returned (.bool false)/\G (pre++[x]) W'))
 W (A:AbidesFrom W.heap.size J) (h1:W.cell? ⟨D,0,none⟩=some (.map (some b))) (hm:dM lW W b ak) (O:J [] W) :
 CallsIn Fence.wide 5 prog 299 #[.func (.yield l) #[] #[],.pointer (some ⟨D,0,none⟩)] W λe W'=>(∃v,e=.returned v) /\
  ((∃j:List aT,j.Perm (ak.map (·.1))/\J j W')∨(∃pre:List aT,True/\G pre W')):=by
 refine callsIn_of_wp func299 rfl trivial ?_ rfl
 simp only[ntmps299,List.size_toArray,eQ,List.length_nil,Nat.reduceAdd,Nat.reduceSub,Array.replicate_succ,Array.replicate_zero,List.push_toArray,List.append_toArray,aN,aQ]
 gi_wp2_with (first|(gi_at_range;refine an2 _ rfl _ 160 rfl _ _ underlying160 b ak rfl hm ?_;intro w0 dH hg0 hs0)|gi_in)
 go_frame
 generalize Y:W.heap.size=B at *
 clear Y
 gi_loopw [3,6,7,8,9,10,11,12,13] (λ_ _ _ _ _ _ _ _ _ wr=>∃(j L:List aT),r8 lW wr b B ak L/\(j++L).Perm (ak.map (·.1))/\J j wr) (λ_ _ _ _ _ _ _ _ _ wr=>wr.rangeLeft b B)
 case atStart=>exact⟨[],_,dH,aj,A [] W w0 none O hg0 (λr e=>Ai)⟩
 case round =>
  obtain⟨j,L,y,hp,X⟩:=hrel;gi_wp2_with (first|(gi_at_next;refine aoc _ rfl _ rfl b B ak L rfl y ?_ ?_)|gi_in)
  ·intro T;subst T;gi_wp2;go_end0;grind
  ·intro i hi v t I H N M;have C:=A j wr t (some B) X H (λr e=>by cases e;exact⟨aD _,y.walk⟩);have hp2:=arv hp i hi;have U:j.length<ak.length:=by have:=hp.length_eq;simp at this;omega
   generalize RP:L.eraseIdx i=u at *;have fg:u.length<L.length:=aB;generalize L[i]=x at *;have S:J j (t.alloc (.cells (dh x) 26)):=A j t _ none C (World.grownBy_alloc _ _ _) (λr e=>Ai);have dU:r8 lW (t.alloc (.cells (dh x) 26)) b B ak u:=I.walks (KeepsWalks.of_grownBy (World.grownBy_alloc _ _ none) (λ_ _ e=>Ai));obtain⟨fn,tmps,assign,body,V,F⟩:=R j x _ S U;obtain⟨x0,x1,x2⟩:=x;simp only[lW]at M V F⊢;clear N H C I RP;gi_wp2;refine F.mono ?_;rintro e W3 (⟨rfl,Q,Z⟩|⟨rfl,Yn⟩)
   ·gi_wp2;have E:=dU.walks Z;go_roundw
    case rel=>exact⟨_,u,E,hp2,Q⟩
    case measure=>rw[E.left,y.left];exact fg
   ·gi_wp2;refine bodyPost_ret (results_none rfl _ _ _) rfl ?_;grind
end
section
open Go Go.RowKit Go.Shelf
attribute [local go_sem] Oper.semAt_some
theorem awT{W W' g t cs}(h:ah W g t cs){row}(hg:W.grownBy W' row)(y:∀r,row=some r->∃o:Obj,W.heap[r]?=some o/\o.isCells=false):ah W' g t cs :=
 (hg.block g h.lt λe=>by
  obtain⟨o,j,u⟩:=y g e.symm;unfold ah at h;rw[h]at j;cases j;cases u).trans h
theorem aod b F ak w(h1:w.cell? ⟨F,0,none⟩=some (.map (some b)))(hm:dM lW w b ak)(hlen:ak.length<=1000000) :
 Calls prog 317 #[.slice none 0 0,.func (.func 299) #[] #[.pointer (some ⟨F,0,none⟩)]] w λe w'=>∃(v':Value) (H:List aT),e=.returned v'/\H.Perm (ak.map (·.1))/\w'.ownsRow w.heap.size 26 3 v' H.length (H.flatMap fG)/\K w w':=by
 have O:=Boxed.new w 44 (.slice none 0 0)
 have k2:=K.new w (.cells #[.slice none 0 0] 44)
 have hz2:(w.alloc (.cells #[.slice none 0 0] 44)).heap.size=w.heap.size+1:=aj
 have hm2:=hm.st k2
 have JF:F<w.heap.size:=K0 h1
 have h12:=(k2.cell (p:=⟨F,0,none⟩) JF).trans h1
 refine (callsIn_wide (n:=6)).1 ?_
 refine callsIn_of_wp_marks func317 rfl trivial ?_ rfl
 simp only[ntmps317,List.size_toArray,eQ,List.length_nil,Nat.reduceAdd,Nat.reduceSub,Array.replicate_succ,Array.replicate_zero,List.push_toArray,List.append_toArray,aN,aQ]
 gi_wp2_with fail
 generalize w.alloc _=G at *
 generalize hg:w.heap.size=B0 at O⊢
 have HG:=ae hg
 have HZ:=ae hz2
 clear hg hz2 hm h1
 have hb2:=hm2.lt
 have EF:F<G.heap.size:=K0 h12
 refine wpIn_rangeFunc_ownH rfl af (gf:=299) (lb:=#[.pointer (some ⟨F,0,none⟩)]) rfl trivial (enters_of func299 fo rfl)
  (encs:=λx:aT=>#[lW x]) (Kp:=KeepsWalks) (S:=λH:List aT=>H.Perm (ak.map λp:aT×Value=>p.1)) (Sp:=λ_=>True) (N:=ak.length) (w0:=G)
  (λl J Jx W hW hJ _ hY h0=>atm l F b ak J Jx hY W hJ ((hW.cell (p:=⟨F,0,none⟩) EF).trans h12) (hm2.st hW) h0)
  walksK_t walksK_b (cP _ _) (λ_=>rfl)
  (λpre W=>∃v,Boxed W B0 44 v/\W.ownsRow G.heap.size 26 3 v pre.length (pre.flatMap fG)/\Below w.heap.size w W/\G.heap.size<=W.heap.size)
  (λ_ _ _=>False) ?own (λ_ _ _ _ _ hs _ _=>hs) ⟨_,O,jV _ _ _ _,k2,aD _⟩
  (λx a' W=>∃I,G.heap.size<=I/\ah W I 26 (dh x)/\a'={ tmps:=#[.slice none 0 0,.func (.func 299) #[] #[.pointer (some ⟨F,0,none⟩)],.pointer (some ⟨B0,0,none⟩),undef,.slice none 0 0,.pointer (some ⟨I,0,none⟩),.func (.func 299) #[] #[.pointer (some ⟨F,0,none⟩)],.agg (dh x),undef,undef,undef,undef,undef],defers:=[] })
  (λx a' _ X Y row hs hg hr=>by obtain⟨I,R,T,U⟩:=hs;exact⟨I,R,awT T hg λr e=>(hr r e).2,U⟩) ?assign ?body ?done ?stop
 case own => exact agq
 case assign => rintro l pre⟨C,E,y⟩ W K ⟨v,hv,hrow,hB,hz⟩ hK;have R:KeepsOthers W (W.alloc (.cells (dh (C,E,y)) 26)):=KeepsOthers.alloc _ _;have T:=p7 hrow (.cells (dh (C,E,y)) 26);have U:=hB.alloc hB.size (.cells (dh (C,E,y)) 26);have g4:=hv.alloc (.cells (dh (C,E,y)) 26);have g5:=ah.new W 26 (dh (C,E,y));simp only[lW];gi_wp2;exact hK _ _ (R.from _) R.walks ⟨v,g4,T,U,aY⟩ ⟨W.heap.size,hz,g5,rfl⟩
 case body =>
  rintro l pre⟨C,E,y⟩ a' W hl ⟨r,hr⟩ ⟨v,hv,hrow,hB,Nc⟩ ⟨I,hBx,bX,rfl⟩ hpl;have q:=hv.cell;have q2:=bX.cells;have q3:=q2 W (K.rf W);have I1:=p7 hrow (.cells (dh (C,E,y)) 26);have aR:=ah.new W 26 (dh (C,E,y));obtain⟨i,hi,hz0,iQ,il⟩:=wu.fit;have kk:=K.rf W;gi_wp2_with (gi_at_builtin;refine wpListIn_append_own _ rfl _ _ 44 rfl G.heap.size 26 i _ 3 24 underlying44 hi hz0 iQ il rfl ax v pre.length (pre.flatMap fG) rfl I1 ⟨W.heap.size,0,none⟩ 1 1 (fG (C,E,y)) rfl rfl ?c1 ?c2 ?c3 ?c4 ?c5 ?_)
  case c1 => intro j u M;have h:=aR.cell j;rw[show (dh (C,E,y))[j]?=(fG (C,E,y))[j]? by simp,M]at h;rw[show (⟨W.heap.size,0,none⟩:Addr).add j=⟨W.heap.size,j,none⟩ by cases j <;> simp[Addr.add]];exact h
  case c2=>intro u M;simp at M;rcases M with rfl|rfl|rfl <;> rfl
  case c3=>unfold maxLen;omega
  case c4=>omega
  case c5=>simp;omega
  intro v' w' hown' Z _;obtain⟨g',cap',L⟩:∃g cap,v'=.slice (some ⟨g,0,none⟩) (pre.length+1) cap:=agr;rw[L]at hown'⊢;clear L;obtain⟨v',L⟩:∃v',v'=Value.slice (some ⟨g',0,none⟩) (pre.length+1) cap':=⟨_,rfl⟩;rw[<- L]at hown';have hne:some B0≠v.ownBlock:=λe=>by have:=(hrow.lt B0 e.symm).1;have:=O.lt;omega
  have V:=(hv.alloc _).kept Z hne;have q1:=V.cell;have z1:=V.frozen;have Mq:v'.ownBlock≠some B0:=λe=>by have:=(hown'.lt B0 e).1;have:=O.lt;omega
  have u :=
   ((ag.aU ((K.rf W).al (.cells (dh (C,E,y)) 26)) _).tr (ag.eP Z λg hg=>.inr (I1.lt g hg).1)).tr (ag.bK (X:=λk=>k=B0∨G.heap.size<=k) (.inl rfl) 0 v')
  have Sg:KeepsOthers W (w'.setCell ⟨B0,0,none⟩ v'):=by refine ((KeepsOthers.alloc W (.cells (dh (C,E,y)) 26)).trans (KeepsOthers.of_grownBy Z λj o ej hj=>?_)).trans (KeepsOthers.setCell _ _ _);exact ags
  have Q:Boxed (w'.setCell ⟨B0,0,none⟩ v') B0 44 v'/\(w'.setCell ⟨B0,0,none⟩ v').ownsRow G.heap.size 26 3 v' (pre++[(C,E,y)]).length ((pre++[(C,E,y)]).flatMap fG)/\Below w.heap.size w (w'.setCell ⟨B0,0,none⟩ v')/\G.heap.size<=(w'.setCell ⟨B0,0,none⟩ v').heap.size:=by
   refine⟨V.set v',?_,⟨u.os.trans hB.os,u.tape.trans hB.tape,u.output.trans hB.output,bo hB.size u.size,λk hk=>(u.block k (bw hk hB.size) λh=>?_).trans (hB.block k hk)⟩,bo Nc u.size⟩
   ·exact agt
   ·have:=k2.size;have:=HG.aa;omega
  subst L;gi_wp2;exact⟨Sg.from _,Sg.walks,_,Q.1,Q.2.1,Q.2.2.1,Q.2.2.2⟩
 case done =>
  rintro D H W hD hp⟨v,hv,hrow,hB,Nc⟩ hK;have q:=hv.cell;have hr:(W.putObj D (.deferred none)).ownsRow w.heap.size 26 3 v H.length (H.flatMap fG):=FB (mo k2.size hrow) λg _ _ h2=>World.putObj_heap_other λe=>by exact agu
  have HV:=ae hr;have HI:=ae (belowK_b (n₀:=w.heap.size) (w:=G) k2.size W D _ (.deferred none) hD hK rfl rfl);have HP:=ae hp;clear hp hr;gi_wp2;refine⟨aj,.inl ⟨_,_,rfl,run_takeDeferred hK,?_⟩⟩;exact⟨_,results_tmp rfl _ _ _,_,H,rfl,HP.aa,fk,hB.trans HI.aa⟩
 case stop => simp
end
def yX(s:Nat):Nat:=if s &&& 1=1 then (s/2) ^^^ 3945912366 else s/2
def Ev:Nat->Nat->Nat
 | 0,s=>s
 | k+1,s=>yX (Ev k s)
def Cx(l:List UInt8):Nat:=l.foldl (λs b=>Ev 8 (s ^^^ b.toNat)) 4294967295
def AZ(l:List UInt8):Nat:=4294967295 ^^^ Cx l
theorem PE{a b}(j:a<4294967296)(hb:b<4294967296):a ^^^ b<4294967296:=Nat.xor_lt_two_pow (n:=32) j hb
theorem agv{s}(h:s<4294967296):yX s<4294967296:=by
 grind [yX,PE]
theorem awU k{s}(h:s<4294967296):Ev k s<4294967296:=by
 induction k with
 | zero=>exact h
 | succ k j=>exact agv j
theorem adC l b:Cx (l++[b])=Ev 8 (Cx l ^^^ b.toNat):=by simp[Cx]
theorem agw l:Cx l<4294967296:=by
 rcases List.eq_nil_or_concat l with rfl|⟨l',b,rfl⟩
 ·decide
 ·rw[List.concat_eq_append,adC];have j:=agw l';exact awU 8 (PE j (by have:=b.toNat_lt;omega))
termination_by l.length
decreasing_by all_goals (subst_vars;simp)
theorem Wc l:AZ l<4294967296:=PE ax (agw l)
theorem acR l v w(h:sl l v w)(hn:l.length<=1000000000) :
 Calls prog 206 #[v] w λe w'=>e=.returned (.int .u32 (AZ l:Int))/\K w w':=by
 obtain⟨A,c,rfl,J⟩:=h
 have C:=K.rf w
 have F:Hid (AZ l=4294967295 ^^^ Cx l):=ae rfl
 generalize AZ l=R at *
 go_in
 go_wp2_with fail
 go_loop [3,5,6,9] (fun s _ _ i=>∃j:Nat,j<=l.length/\i=.int .i64 j/\∃n:Nat,s=.int .u32 n/\n<4294967296/\Hid (n=Cx (l.take j))) (fun _ _ _ i=>l.length-(intOf i).toNat)
 case atStart=>exact⟨0,af,rfl,4294967295,rfl,af,ae cC⟩
 case round =>
  obtain⟨j,O,rfl,n,rfl,hn,u⟩:=hrel;by_cases t:j<l.length
  ·have B:(j:Int)<l.length:=af;obtain⟨b,L,rfl,-,y⟩:=J.at_ af;have:=y j t;have:l[j].toNat<256:=l[j].toNat_lt;have E:Hid (Cx (l.take (j+1))=Ev 8 (n ^^^ l[j].toNat)):=ae (by rw[gg t,adC,u.aa]);generalize l[j]=x at *;have HX:=ae (u32_xor_nat n x.toNat hn af);have H:=PE hn (show x.toNat<4294967296 by omega);clear y;go_wp2_with fail
   rw[HX.aa];generalize n ^^^ x.toNat=s0 at *;go_loop [3,6,17] (fun s _ k=>∃k':Nat,k'<=8/\k=.int .i64 k'/\∃m:Nat,s=.int .u32 m/\m<4294967296/\Hid (m=Ev k' s0)) (fun _ _ k=>8-(intOf k).toNat)
   case atStart=>exact⟨0,af,rfl,s0,rfl,H,ae rfl⟩
   case round =>
    obtain⟨k',hk,rfl,m,rfl,hm,HM⟩:=hrel;by_cases M:k'<8
    ·have G:(k':Int)<8:=af;have hl:=agv hm;have ha:=u32_and_nat m 1 hm ax;by_cases h1:m &&& 1=1
     ·have hb:(bits BinOp.and IntKind.u32 (m:Int) 1==1)=true:=aB;have hB:yX m=(m/2) ^^^ 3945912366:=by rw[yX,if_pos h1]
      have HX:=ae (show bits BinOp.xor IntKind.u32 ((m:Int)/2) 3945912366=((yX m:Nat):Int) by rw[hB];exact u32_xor_nat (m/2) 3945912366 af ax);exact agx
     ·have hb:(bits BinOp.and IntKind.u32 (m:Int) 1==1)=false:=by
       grind
      have hB:yX m=m/2:=by rw[yX,if_neg h1]
      have HX:=ae (show (m:Int)/2=((yX m:Nat):Int) by omega);exact agx
    ·have G:¬(k':Int)<8:=af;obtain rfl:k'=8:=af;have I:Hid (m=Cx (l.take (j+1))):=ae (by rw[E.aa,HM.aa]);go_wp2;go_round
     case rel=>exact⟨j+1,af,bD,m,rfl,hm,I⟩
     case measure=>simp[intOf];omega
  ·have B:¬(j:Int)<l.length:=af;obtain rfl:j=l.length:=af;have D:Hid (R=4294967295 ^^^ n):=ae (by rw[F.aa,u.aa,nc]);have HX:=ae (u32_xor_nat 4294967295 n ax hn);go_wp2;go_ret;refine⟨?_,C⟩;rw[D.aa];exact congrArg (λz=>Ending.returned (Value.int IntKind.u32 z)) HX.aa
theorem abW(g lo base k n:Nat) v l w(hb:ah w g 94 #[v])(u:Own w base 5 v l)(D:lo<=g/\lo<=base/\lo<=w.heap.size)(hbase:base<=w.heap.size)(hk:k<=4)(hn:n<4294967296)(hl:l.length<=1000000000) :
 Calls prog 335 #[.int .u32 n,.int .i64 k,.pointer (some ⟨g,0,none⟩)] w λe w'=>∃v',e=.returned (.tuple #[])/\ah w' g 94 #[v']/\Own w' base 5 v' (l++be k n)/\Below lo w w':=by
 have F:=cP lo w
 go_in
 go_wp2_with fail
 go_loopw [5] (fun i W=>∃(j:Nat) (v':Value) (pre:List UInt8),j<=k/\(∃z:Int,i=.int .i64 z/\z+1=(j:Int))/\ah W g 94 #[v']/\Own W base 5 v' (l++pre)/\Hid (pre++be j n=be k n)/\Below lo w W) (fun i _=>(intOf i+1).toNat)
 case atStart=>exact⟨k,v,[],af,⟨_,rfl,af⟩,hb,by simpa using u,ae aj,F⟩
 case round =>
  obtain⟨j,v',pre,hj,⟨z,rfl,hz⟩,hb,u,B,kr⟩:=hrel;by_cases h0:0<j
  ·obtain⟨j,rfl⟩:∃O,j=O+1:=⟨j-1,af⟩;obtain rfl:z=(j:Int):=af;have aO:(0:Int)<=(j:Int):=af;have hj8:(8:Int)*(j:Int)<=24:=af;have M:IntKind.i64.wrap (8*(j:Int))=8*(j:Int):=IntWalk.i64_in _ af;have U:¬(8*(j:Int)<0):=af;have q:=hb.cells;have z:=hb.frozen;go_upto_region 3 with fail;have qs:=And.intro q (And.intro M U);refine OP 7 [([],[]),([],[]),([],[]),([2],[(14,2)]),([1,3],[(13,1),(15,3)]),([4],[(16,4)]),([5],[(17,5)]),([0,6],[(12,0),(18,6)]),([0,1,2,3,4,5,6,7],[(19,7)])] 20 ?_;iterate 6 refine ar.i ?_
   refine ar.row (N:=λ_=>True) (S:=MP) 94 _ 1 1 TB rfl ax (.tmp 17) (UInt8.ofNat (n/256^j)) rfl rfl (λV W kW hp=>?_) ?_
   ·simp only[cz,aN,aQ,bV,bW,aJ]at hp;simp only[aF,List.lookup,beq_self_eq_true,hp];refine⟨rfl,λW' _=>?_⟩;show [Value.int .u8 _]=_;rw[show (8*(j:Int)).toNat=8*j by omega,show IntKind.u8.wrap ((n:Int)/2^(8*j))=(n:Int)/2^(8*j)%256 from by rw[IntKind.wrap_u8],adk]
   intro V W kW hA;simp only[aN,aQ,b6,aJ,Nat.reduceAdd]at hA;obtain⟨Z,-,-,-,-,-,e6,-⟩:=hA;have E:=UN (aD _) u kW;have C:=hb.ay kW;have G:v'.ownBlock≠some g:=λe=>by obtain⟨cur,h1⟩:=lO E e;exact absurd (h1.gY C) ax
   have hpl:pre.length<=4:=by have:=congrArg List.length B.aa;simp[uO]at this;omega
   have L:base<=W.heap.size:=by have:=kW.size;have:=kr.size;omega
   refine aH.push (.tmp 12) (.tmp 18) 94 _ 1 1 TB rfl rfl rfl v' (l++pre) (UInt8.ofNat (n/256^j)) ?_ (Own.sw (Y:=λ_=>True) E) ?_ ?_ L ?_
   ·simp[aF,List.lookup,Z]
   ·simp only[aF,List.lookup,beq_self_eq_true];exact e6.less λ_ _=>trivial
   ·simp;omega
   intro v2 y I T _ hb2;have hx2:=C.grown T (λe=>G e.symm);have A:=I.bytes;have Ew:v2.ownBlock≠some g:=λe=>by obtain⟨cur,h1⟩:=lO A e;exact Qj
   obtain⟨t,c2,rfl,-⟩:=A.slice;refine aH.skip (y.setCell ⟨g,0,none⟩ (.slice t (l++pre++[UInt8.ofNat (n/256^j)]).length c2)) rfl ?_ ?_
   ·have R:=hx2.cell;have z2:=hx2.frozen;simp[aF,List.lookup,ba,execOp,aG,R,z2,go_sem]
   refine aH.nil ?_;simp only[fT,Act.put,rW,rh,qZ,ba,Nat.reduceAdd,Nat.reduceEqDiff,if_false,if_true];have H:=hx2.aP 0 (.slice t (l++pre++[UInt8.ofNat (n/256^j)]).length c2);have J:Own (y.setCell ⟨g,0,none⟩ (.slice t (l++pre++[UInt8.ofNat (n/256^j)]).length c2)) base 5 (.slice t (l++pre++[UInt8.ofNat (n/256^j)]).length c2) (l++(pre++[UInt8.ofNat (n/256^j)])):=by rw[<- dQ];exact iN A (ag.bK (X:=λk=>k=g) rfl 0 _) λb hb e=>Ew (by rw[hb,e])
   have k9:Below lo w (y.setCell ⟨g,0,none⟩ (.slice t (l++pre++[UInt8.ofNat (n/256^j)]).length c2)) :=
    ((kr.trans (kW.mono (by have:=kr.size;omega))).trans (hb2.mono D.2.1)).setCell (p:=⟨g,0,none⟩) D.1 _
   have Q:Hid (pre++[UInt8.ofNat (n/256^j)]++be j n=be k n):=ae (by have:=B.aa;rw[be]at this;simpa using this);generalize y.setCell _ _=w9 at *;go_wp2;go_roundw
   case rel=>exact⟨j,_,_,af,⟨_,rfl,af⟩,H,J,Q,k9⟩
   case measure=>simp[intOf]
  ·obtain rfl:j=0:=af;have HE:=ae (by have:=B.aa;simpa [be]using this);go_wp2;go_end0;exact⟨_,rfl,hb,by rw[<- HE.aa];exact u,kr⟩
def ib(b:List UInt8):Bool:=decide (1<=b.length)&&decide (b.length<=4000)
def frame(b:List UInt8):List UInt8:=be 2 b.length++be 4 (AZ b)++b
def AG(b:List UInt8):List UInt8:=if ib b then frame b else []
def Gc(b:List UInt8):Int:=if ib b then 0 else 30
theorem BZ b:(frame b).length=xP b:=by grind [frame,uO,xP]
theorem ap5 b v w(h:sl b v w)(hn:b.length<=1000000000) :
 Calls prog 312 #[v] w λe w'=>∃v',e=.returned (.tuple #[v',.int .i64 (Gc b)])/\Own w' w.heap.size 5 v' (AG b)/\K w w':=by
 have CS:=ae λW (k:K w W)=>acR b v W (nP _ _ _ _ h k) hn
 have hcs:=Wc b
 obtain⟨A,c,rfl,O⟩:=h
 have kk:=K.rf w
 have HF:Hid (AG b=if ib b then be 2 b.length++be 4 (AZ b)++b else []):=ae rfl
 have HC:Hid (Gc b=if ib b then 0 else 30):=ae rfl
 have u:Hid (ib b=(decide (1<=b.length)&&decide (b.length<=4000))):=ae rfl
 generalize Gc b=R at *
 generalize AG b=F at *
 generalize ib b=ok at *
 generalize AZ b=s at *
 go_in
 by_cases h0:0<b.length
 rotate_left
 ·have Y:((b.length:Int)==0)=true:=by rw[beq_iff_eq];omega
  obtain rfl:ok=false:=by rw[u.aa,decide_eq_false (show ¬1<=b.length by omega)];rfl
  exact agy
 have Y:((b.length:Int)==0)=false:=aB
 by_cases h1:4000<b.length
 ·have h1':4000<(b.length:Int):=af;obtain rfl:ok=false:=by rw[u.aa,decide_eq_false (show ¬b.length<=4000 by omega),Bool.and_false]
  exact agy
 have h1':(b.length:Int)<=4000:=af
 obtain rfl:ok=true:=by rw[u.aa,decide_eq_true (show 1<=b.length by omega),decide_eq_true (show b.length<=4000 by omega)];rfl
 have HR:Hid (R=0/\F=be 2 b.length++be 4 s++b):=ae ⟨HC.aa,HF.aa⟩
 obtain⟨i,hi,C,J,hz2⟩:=info_parts XM
 have:∀W:World,(Instr.makeSlice 94 (.int .i64 0) (.int .i64 (6+(b.length:Int)))).run prog W=.ok (.slice (some ⟨W.heap.size,0,none⟩) 0 (6+b.length)) (W.alloc (.cells (madeCells #[.int .u8 0] (6+b.length)) 5)):=by intro W;have h:=run_make (P:=prog) W 94 5 i (.int .u8 0) underlying94 hi C .i64 .i64 0 (6+(b.length:Int)) af af Vv af;rw[J]at h;simpa [Value.cells,show ((6:Int)+(b.length:Int)).toNat=6+b.length from by omega]using h
 have hB:=ah.new w 5 (madeCells #[.int .u8 0] (6+b.length))
 have t:=ah.new (w.alloc (.cells (madeCells #[.int .u8 0] (6+b.length)) 5)) 94 #[.slice (some ⟨w.heap.size,0,none⟩) 0 (6+b.length)]
 have S:=hB.alloc (.cells #[.slice (some ⟨w.heap.size,0,none⟩) 0 (6+b.length)] 94)
 have j:=K.kK w (.cells (madeCells #[.int .u8 0] (6+b.length)) 5) (.cells #[.slice (some ⟨w.heap.size,0,none⟩) 0 (6+b.length)] 94)
 simp only[World.size_alloc]at t
 go_wp2_with fail
 generalize (w.alloc (.cells (madeCells #[.int .u8 0] (6+b.length)) 5)).alloc (.cells #[.slice (some ⟨w.heap.size,0,none⟩) 0 (6+b.length)] 94)=w0 at *
 have rL:Own w0 w.heap.size 5 (.slice (some ⟨w.heap.size,0,none⟩) 0 (6+b.length)) [] :=
  OJ (xs:=[]) (rest:=List.replicate (6+b.length) (.int .u8 0)) (aD _) (by rw[aN,<- toList_madeCells_one];exact S) rfl aj B6
 have C:=t.lt
 refine (abW (w.heap.size+1) w.heap.size w.heap.size 2 b.length _ [] w0 t rL ⟨af,af,af⟩ af af af aj).mono ?_
 rintro e Q⟨G,rfl,hx1,E,k1⟩
 replace j:=j.trans k1
 rw[aN]at E
 have fg:=uO 2 b.length
 generalize be 2 b.length=B at *
 go_wp2_with fail
 refine (CS.aa Q j).mono ?_
 rintro e V⟨rfl,y⟩
 have D:=hx1.ay y
 have M:=UN (aD _) E y
 replace j:=j.tr y
 have hz2:=D.lt
 go_wp2_with fail
 refine (abW (w.heap.size+1) w.heap.size w.heap.size 4 s G B V D M ⟨af,af,af⟩ af af hcs af).mono ?_
 rintro e w3⟨v3,rfl,L,T,k3⟩
 replace j:=j.trans k3
 have xD:=(O.below j (aD _)).more j.size
 have:=L.cell
 have Z:(B++be 4 s).length=6:=by simp[uO,fg]
 have N:=j.size
 generalize B++be 4 s=hd at *
 go_wp2_with (at_builtin;refine iM rfl _ _ 94 rfl w.heap.size 5 _ 1 1 TB _ _ _ rfl T _ A b.length c (dN b) rfl xD (uU b) ?p1 N ?_)
 case p1=>omega
 intro H I X _ _ hb4
 have HO:Hid (Own I w.heap.size 5 H (hd++b)):=ae (by unfold Own;rw[KH,dq,Z];exact X)
 have U:=j.trans hb4
 go_wp2
 go_ret2
 exact⟨_,by rw[HR.aa.1];rfl,by rw[HR.aa.2];exact HO.aa,U⟩
theorem atn{P} w d t e a l c(h:P.underlying t=some (.slice e)):(Op.equalIn (d+1) t (.slice a l c) (.slice none 0 0)).run P w=.ok a.isNone w:=by cases a <;> simp[Op.equalIn,run_underlying h]
theorem ato{P} w t e a l c(h:P.underlying t=some (.slice e)):(Op.equal t (.slice a l c) (.slice none 0 0)).run P w=.ok a.isNone w:=atn w 9999 t e a l c h
theorem Qk{P} w t e a l c(h:P.underlying t=some (.slice e)):(binOp .eql t (.slice a l c) (.slice none 0 0)).run P w=.ok (.bool a.isNone) w:=by simp[binOp,ato w t e a l c h]
theorem KB A n c xs w(hR:Reads w w.heap.size 1 A n xs)(h1:∀u∈xs,u.oneCell'=true)(hn:n<=1000000000) :
 Calls prog 98 #[.slice A n c] w λe w'=>∃v',e=.returned v'/\w'.ownsRow w.heap.size 5 1 v' n xs/\K w w':=by
 have kk:=K.rf w
 have:=λ(W:World) (a:Option Addr) (l c:Nat)=>Qk (P:=prog) W 94 5 a l c underlying94
 go_in
 cases A with
 | none => exact Ql
 | some ad => exact agz
theorem aoA A n c xs w(hR:Reads w w.heap.size 1 A n xs)(h1:∀u∈xs,u.oneCell'=true)(hn:n<=1000000000) :
 Calls prog 207 #[.slice A n c] w λe w'=>∃v',e=.returned v'/\w'.ownsRow w.heap.size 5 1 v' n xs/\K w w':=by
 have kk:=K.rf w
 have:=λ(W:World) (a:Option Addr) (l c:Nat)=>Qk (P:=prog) W 94 5 a l c underlying94
 go_in
 cases A with
 | none => exact Ql
 | some ad => exact agz
theorem abX A n c xs w(hR:Reads w w.heap.size 3 A n xs)(j:∀u∈xs,u.oneCell'=true)(hn:n<=1000000000) :
 Calls prog 116 #[.slice A n c] w λe w'=>∃v',e=.returned v'/\w'.ownsRow w.heap.size 26 3 v' n xs/\K w w':=by
 have kk:=K.rf w
 have:=λ(W:World) (a:Option Addr) (l c:Nat)=>Qk (P:=prog) W 44 26 a l c underlying44
 go_in
 cases A with
 | none => exact Ql
 | some t =>
  have hb:=ah.new w 26 #[];have k1:=hb.aS;have ho:(w.alloc (.cells #[] 26)).ownsRow w.heap.size 26 3 (.slice (some ⟨w.heap.size,0,none⟩) 0 0) 0 [] :=
   ⟨rfl,.inr ⟨w.heap.size,0,_,rfl,aD _,hb,aD _,B6,aj,aj⟩⟩
  have y:=(hR.below k1 (aD _)).more k1.size;go_wp2_with (at_builtin;refine iM rfl _ _ 44 rfl w.heap.size 26 _ 3 24 wu _ 0 [] rfl ho _ (some t) n c xs rfl y j ?p1 k1.size ?_)
  case p1=>omega
  exact Wd
theorem abY A n c xs w(hR:Reads w w.heap.size 5 A n xs)(j:∀u∈xs,u.oneCell'=true)(hn:n<=1000000000) :
 Calls prog 316 #[.slice A n c] w λe w'=>∃v',e=.returned v'/\w'.ownsRow w.heap.size 73 5 v' n xs/\K w w':=by
 have kk:=K.rf w
 have:=λ(W:World) (a:Option Addr) (l c:Nat)=>Qk (P:=prog) W 53 73 a l c underlying53
 go_in
 cases A with
 | none => exact Ql
 | some t =>
  have hb:=ah.new w 73 #[];have k1:=hb.aS;have ho:(w.alloc (.cells #[] 73)).ownsRow w.heap.size 73 5 (.slice (some ⟨w.heap.size,0,none⟩) 0 0) 0 [] :=
   ⟨rfl,.inr ⟨w.heap.size,0,_,rfl,aD _,hb,aD _,B6,aj,aj⟩⟩
  have y:=(hR.below k1 (aD _)).more k1.size;go_wp2_with (at_builtin;refine iM rfl _ _ 53 rfl w.heap.size 73 _ 5 56 TF _ 0 [] rfl ho _ (some t) n c xs rfl y j ?p1 k1.size ?_)
  case p1=>omega
  exact Wd
theorem arw(a b:Nat)(t:a<4294967296)(hb:b<4294967296):bits .or .i64 (a:Int) (b:Int)=((a ||| b:Nat):Int):=by
 have:a ||| b<2^32:=Nat.or_lt_two_pow af af
 show IntKind.i64.wrap ((BitVec.ofInt 64 (a:Int) ||| BitVec.ofInt 64 (b:Int)).toNat:Int)=_;rw[BitVec.toNat_or,ofInt_u64 a af,ofInt_u64 b af,IntKind.wrap_i64];omega
theorem abZ g A u c t k(l:List UInt8) w(hb:ah w g 94 #[.slice (some ⟨A,u,none⟩) l.length c])(B:∀j (F:j<l.length),w.cell? ⟨A,u+j,none⟩=some (.int .u8 (l[j].toNat:Int)))
 (J:t+k<=l.length) (U:l.length<=c) (T:0<k) (hk:k<=4) (V:l.length<=1000000000) :
 Calls prog 205 #[.int .i64 t,.int .i64 k,.pointer (some ⟨g,0,none⟩)] w λe w'=>e=.returned (.int .i64 (i6 ((l.drop t).take k):Int))/\K w w':=by
 have D:=K.rf w
 have q:=hb.cell
 have C:=ae B
 have S:(t:Int)+k<=(l.length:Int):=af
 have O:(l.length:Int)<=c:=af
 have L:¬c=t:=af
 clear B hb
 go_in
 go_wp2_with fail
 go_loop [6,8,16] (fun n _ i=>∃j:Nat,j<=k/\i=.int .i64 j/\∃m:Nat,n=.int .i64 m/\Hid (m=i6 ((l.drop t).take j))) (fun _ _ i=>k-(intOf i).toNat)
 case atStart=>exact⟨0,af,rfl,0,rfl,ae cC⟩
 case round =>
  obtain⟨j,F,rfl,m,rfl,y⟩:=hrel;by_cases N:j<k
  ·have I:(j:Int)<k:=af;have R:w.cell? ⟨A,u+t+j,none⟩=some (.int .u8 ((l[t+j]'af).toNat:Int)):=by have:=C.aa (t+j) af;rwa [Nat.add_assoc]
   have M:=(l[t+j]'af).toNat_lt;have G:Hid (i6 ((l.drop t).take (j+1))=m*256+(l[t+j]'af).toNat):=ae (by rw[gg (by simp;omega),UQ,y.aa];simp);have hm:m<16777216:=by have:=Lf ((l.drop t).take j);rw[<- y.aa]at this;have E:((l.drop t).take j).length<=3:=aY;have Q:256^((l.drop t).take j).length<=256^3:=Nat.pow_le_pow_right ax E;omega
   generalize (l[t+j]'af).toNat=x at *;have H:=ae (show bits BinOp.or IntKind.i64 ((m:Int)*256) (x:Int)=((m*256+x:Nat):Int) by
    rw[show (m:Int)*256=((m*256:Nat):Int) by simp,arw _ _ af af,nat_join 8 _ _ af af])
   go_wp2;go_round
   case rel=>exact⟨j+1,af,bD,m*256+x,by rw[H.aa],ae G.aa.symm⟩
   case measure=>simp[intOf];omega
  ·have I:¬(j:Int)<k:=af;obtain rfl:j=k:=af;go_wp2;go_ret;exact⟨by rw[<- y.aa];rfl,D⟩
def frames(j:List (List UInt8)):List UInt8:=j.flatMap frame
theorem atp(t:List (List UInt8))(j:Nat)(h:j<t.length)(u:ib t[j]=true) :
 ∃rest,frames t=frames (t.take j)++(frame t[j]++rest)/\i6 (((frames t).drop (frames (t.take j)).length).take 2)=t[j].length/\i6 (((frames t).drop ((frames (t.take j)).length+2)).take 4)=AZ t[j] /\
  ((frames t).take ((frames (t.take j)).length+6+t[j].length)).drop ((frames (t.take j)).length+6)=t[j]/\(frames t).length=(frames (t.take j)).length+6+t[j].length+rest.length/\(frames (t.take (j+1))).length=(frames (t.take j)).length+6+t[j].length:=by
 have e:frames t=frames (t.take j)++(frame t[j]++frames (t.drop (j+1))):=by unfold frames;conv=>lhs;rw[<- List.take_append_drop j t,List.flatMap_append,<- List.getElem_cons_drop h,vC]
 have:t[j].length<=4000:=by simp only[ib,dz,decide_eq_true_eq]at u;exact u.2
 have:=Wc t[j]
 refine⟨_,e,?_,?_,?_,?_,?_⟩
 ·rw[e,List.drop_left,frame,dQ,dQ,List.take_left' (uO 2 _),Vy];exact Nat.mod_eq_of_lt af
 ·rw[e,List.drop_append,List.drop_of_length_le af,aN,Nat.add_sub_cancel_left,frame,dQ,dQ,List.drop_left' (uO 2 _),List.take_left' (uO 4 _),Vy];exact Nat.mod_eq_of_lt af
 ·rw[e,Nat.add_assoc,List.take_append,gI (show (frames (t.take j)).length<=_ by omega),Nat.add_sub_cancel_left,List.drop_append,List.drop_of_length_le af,aN,Nat.add_sub_cancel_left,
   List.take_left' (by rw[BZ];rfl),frame,List.drop_left' (by simp[uO])]
 ·rw[e];simp only[dq,BZ,xP];omega
 ·rw[gg h];simp only[frames,List.flatMap_append,vC,List.flatMap_nil,List.append_nil,dq,BZ,xP];omega
theorem ap6 t v w A c(hv:v=.slice A (frames t).length c)(O:Reads w w.heap.size 1 A (frames t).length (dN (frames t)))(D:(frames t).length<=c)(hn:(frames t).length<=1000000000)(I:∀b∈t,ib b=true) :
 Calls prog 117 #[v] w λe w'=>∃v',e=.returned (.tuple #[v',.int .i64 ((frames t).length:Int)])/\aC (λk=>k<w.heap.size) w.heap.size 94 ki t v' w'/\K w w':=by
 subst hv
 have kX:=ae I
 have R:=ae λj h=>atp t j h (I _ (bT h))
 have hrl:t.length<=(frames t).length:=by
  clear O D hn kX R
  induction t with
  | nil=>simp
  | cons b t ih => have:=ih (λb hb=>I b (by simp[hb]));simp only[frames,vC,dq,eQ,BZ,xP]at this⊢;omega
 have HE:Hid ((frames (t.take t.length)).length=(frames t).length):=ae (by rw[nc])
 obtain⟨L,hL⟩:∃L,L=frames t:=⟨_,rfl⟩
 rw[<- hL]at O D hn hrl HE R⊢
 clear hL I
 have hb0:=ah.new w 94 #[.slice A L.length c]
 have N:=hb0.aS
 go_in
 go_wp2
 go_step3
 go_wp2_with fail
 generalize w.alloc _=w0 at *
 have Br:=(O.below N (aD _)).more N.size
 have lJ:=aC.nil (λk=>k<w.heap.size) w0.heap.size 94 ki w0
 clear O
 go_step3
 go_wp2_with fail
 go_loopw [4,5,7,8,9] (fun o at_ _ _ _ W=>∃j:Nat,j<=t.length/\at_=.int .i64 ((frames (t.take j)).length:Int)/\aC (fun k=>k<w.heap.size) w0.heap.size 94 ki (t.take j) o W/\K w0 W) (fun _ at_ _ _ _ _=>L.length+1-(intOf at_).toNat)
 case atStart=>exact⟨0,af,rfl,by simpa using lJ,K.rf w0⟩
 case round =>
  clear lJ;obtain⟨j,hj,rfl,C,kr⟩:=hrel;have E:=hb0.ay kr;have q:=E.cell;have hgr:=E.lt;have krw:=N.tr kr;by_cases U:j<t.length
  ·obtain⟨rest,h1,h2,h3,h4,h5,h6⟩:=R.aa j U;have hx:=kX.aa _ (bT U);have HT:=ae (gg U);simp only[ib,dz,decide_eq_true_eq]at hx;obtain⟨hx1,hx2⟩:=hx;have H6:=ae h6;generalize (frames (t.take j)).length=y at *;generalize t[j]=x at *;have Q:(L.length:Int)=y+6+(x.length:Int)+rest.length:=af;have JG:6<(L.length:Int)-(y:Int):=af;have aR:((x.length:Int)==0)=false:=We;have hb2:¬4000<(x.length:Int):=af;have bP:¬((L.length:Int)-((y:Int)+6)<(x.length:Int)):=af;have hb4:(y:Int)+6+(x.length:Int)<=c:=af;clear Q;have h0L:0<L.length:=af;have Y:=(Br.below kr (aD _)).more kr.size;obtain⟨G,F,rfl,hbk,V⟩:=Y.at_ h0L;have C1:=ae (abZ w.heap.size G F c y 2 L wr E V af D af af hn);rw[h2]at C1;have C2:Hid (∀W,K wr W->Calls prog 205 #[.int .i64 ((y:Int)+2),.int .i64 4,.pointer (some ⟨w.heap.size,0,none⟩)] W λe w'=>e=.returned (.int .i64 (AZ x:Int))/\K W w'):=ae λW k=>by have h:=abZ w.heap.size G F c (y+2) 4 L W (E.below k hgr) (λi hi=>(k.cell (p:=⟨G,F+i,none⟩) hbk).trans (V i hi)) af D af af hn;rw[h3]at h;exact h
   have hcut:=Y.cut (y+6) (y+6+x.length) c af af D;rw[show ((dN L).take (y+6+x.length)).drop (y+6)=dN x from by unfold dN;rw[<- List.map_take,<- List.map_drop,h4],show y+6+x.length-(y+6)=x.length by omega,if_neg (show ¬c=y+6 by omega)]at hcut;have CS:=ae λW (k:K wr W)=>acR x (.slice (some ⟨G,F+(y+6),none⟩) x.length (c-(y+6))) W ⟨_,_,rfl,(hcut.below k (aD _)).more k.size⟩ af
   have CB:=ae λW (k:K wr W)=>aoA (some ⟨G,F+(y+6),none⟩) x.length (c-(y+6)) (dN x) W ((hcut.below k (aD _)).more k.size) (uU x) af
   have hcs:=Wc x;clear h1 h2 h3 h4 h5 h6 hcut V Y;go_wp2_with fail
   apply aI C1.aa;intro w1 J;have q1:=(E.below J hgr).cell;clear q;go_wp2_with fail
   rw[show y+6+x.length-(y+6)=x.length from by omega];apply cF (C2.aa w1 J) J;intro w2 k2 T;go_wp2_with fail
   apply cF (CS.aa w2 T) T;intro Z k3 X;clear q1 J k2 T k3;generalize AZ x=sx at *;go_wp2_with fail
   apply bN (CB.aa Z X);rintro M H⟨B,k4⟩;replace B:Own H Z.heap.size 5 M x:=by unfold Own;exact B
   have rK:=X.tr k4;have bS:=C.blk;have cY:=(C.st rK).st ((K.rf H).al (.cells #[M] 94));have hz:=X.size;have hF:Fx (λk=>k<Z.heap.size) (λW=>ki.rel x [M] W) H:=λW u=>⟨M,rfl,eK (iN B u λb hb h=>by have:=(B.lt b hb).1;omega)⟩
   obtain⟨A4,c4,rfl,-⟩:=B.slice;have hr:=ez.new (S:=ki) (e:=94) (v:=.slice A4 x.length c4) hF 0 (eE _);have Nf:=(kr.tr rK).tr ((K.rf H).al (.cells #[.slice A4 x.length c4] 94));clear C hF B C1 C2 CS CB;go_wp2_with (at_builtin;refine jz rfl _ _ 119 rfl _ 1 24 Sd rfl rfl cY _ rfl x ?p1 ?p2 ?p3 ?_)
   case p1=>exact hr.less λk hk=>agA
   case p2=>simp;omega
   case p3=>exact Nf.size
   intro v9 w9 bE cd _ bq;rw[<- HT.aa]at bE;have k9:K w0 w9:=by exact Nf.trans bq
   clear hr cY;go_wp2;go_roundw
   case rel=>exact⟨j+1,af,by rw[H6.aa];go_num,bE,k9⟩
   case measure=>simp[intOf];omega
  ·obtain rfl:j=t.length:=af;rw[nc]at C;have Q:((frames (t.take t.length)).length:Int)=(L.length:Int):=Lm;rw[Q];have JG:¬6<(L.length:Int)-(L.length:Int):=af;clear Q;go_wp2;try rw[ig]
   go_ret2;exact⟨_,rfl,C.low N.size,krw⟩
structure gU(d:pc)(s:dy):Prop where
 eZ:∀r∈d.eZ,dL r=true/\jA r/\(bJ r).length<=4000
 run:jl cV d.eZ=some s
 fit:ir d.eZ<=d.room
 room:d.room<=1048576
theorem atq n:1<=(az n).length:=by grind [az]
theorem acS r:1<=(bJ r).length:=by
 grind [atq,aZ,bJ,dq]
theorem Vm{r}(h:(bJ r).length<=4000):ib (bJ r)=true:=by
 grind [acS,ib]
theorem OZ l:(frames (l.map bJ)).length=ir l:=by
 induction l with
 | nil=>rfl
 | cons r l j =>
  grind [frames,dq,BZ,ir]
theorem atr l:7*l.length<=ir l:=by
 induction l with
 | nil=>simp[ir]
 | cons r l j =>
  grind [acS,ir,eQ,xP]
theorem awV l(h:∀r∈l,dL r=true/\jA r):∀s t,rD s->jl s l=some t->rD t:=by
 induction l with
 | nil=>intro s t i e;injection e with e;exact e▸i
 | cons r l j =>
  intro s t i e
  simp only[jl]at e
  cases h1:dW s r with
  | none=>rw[h1]at e;cases e
  | some u => rw[h1]at e;obtain⟨a,b⟩:=h r aj;exact j (λq y=>h q aB) u t (i.on a b h1) e
theorem awW l:∀s t,jl s l=some t->t.list.length<=s.list.length+l.length/\t.prom.length<=s.prom.length+l.length/\t.ab.length<=s.ab.length+l.length:=by
 induction l with
 | nil=>intro s t e;injection e with e;subst e;simp
 | cons r l j =>
  intro s t e
  simp only[jl]at e
  cases h1:dW s r with
  | none=>rw[h1]at e;cases e
  | some u =>
   rw[h1]at e
   have a:=ajE s u r h1
   grind
theorem avA l a:(iY l a).length<=l.length:=lQ _ _
theorem ayp{s t r}(e:dW s r=some t):t.list.length+t.prom.length+t.ab.length<=s.list.length+s.prom.length+s.ab.length+1:=by
 unfold dW zu xJ xK xL zw at e
 grind [dq,eQ,List.length_nil,avA,au,iG]
theorem awX l:∀s t,jl s l=some t->t.list.length+t.prom.length+t.ab.length<=s.list.length+s.prom.length+s.ab.length+l.length:=by
 induction l with
 | nil=>intro s t e;injection e with e;subst e;simp
 | cons r l j =>
  intro s t e
  simp only[jl]at e
  cases h1:dW s r with
  | none=>rw[h1]at e;cases e
  | some u =>
   rw[h1]at e
   have a:=ayp h1
   grind
theorem avB{s t r}(u:dL r=true)(e:dW s r=some t):∀q∈dc t,q∈dc s∨q=r∨q.kind=1:=by
 have A:∀(p:List aL) a q,q∈kM (iY p a)->q∈kM p:=λp a q j=>by
  grind [kM,List.mem_map_of_mem,Pp]
 have y:∀n,∀q∈vO n,q.kind=1:=λn q j=>by
  grind [dL,dW,dc,vO]
 intro q j
 obtain⟨k,n,x,b,l,c⟩:=r
 have hk:=BW u
 simp only at hk
 unfold dc at j⊢
 simp only[Co]at j⊢
 unfold dW zu xJ xK xL zw at e
 simp only at e
 repeat' split at e
 all_goals first|(cases e;done)|(injection e with e;subst e)
 all_goals try simp only at j⊢
 all_goals rcases j with ((j|j)|j)|j
 all_goals first
  | exact .inr (.inr (y _ _ j))
  | exact .inl (.inl (.inl (.inr j)))
  | exact .inl (.inl (.inr j))
  | exact .inl (.inl (.inr (A _ _ _ j)))
  | exact .inl (.inr j)
  | skip
 ·grind [dL,dW,dc,lX]
 ·grind [dL,dW,dc,kM]
 ·unfold pH at j;rename_i D E B C h6;rw[List.map_append,Co]at j;rcases j with j|j
  ·exact .inl (.inr j)
  ·simp at j;rcases hk with ⟨g,_⟩|⟨g,_⟩|⟨_,_,rfl,rfl⟩
   ·omega
   ·omega
   ·subst B;exact .inr (.inl j)
theorem att l(h:∀r∈l,dL r=true):∀s t,jl s l=some t->∀q∈dc t,q∈dc s∨q∈l∨q.kind=1:=by
 induction l with
 | nil=>intro s t e q j;injection e with e;subst e;exact .inl j
 | cons r l y =>
  intro s t e q j
  simp only[jl]at e
  cases h1:dW s r with
  | none=>rw[h1]at e;cases e
  | some u =>
   rw[h1]at e;rcases y (λq j=>h q aB) u t e q j with a|a|a
   ·rcases avB (h r aj) h1 q a with b|b|b;all_goals grind
   all_goals grind
section
variable {d:pc} {s t:dy} {r:Rec}
theorem gU.inv(h:gU d s):rD s:=awV _ (λr j=>⟨(h.eZ r j).1,(h.eZ r j).2.1⟩) _ _ rD.zero h.run
theorem gU.cnt(h:gU d s):d.eZ.length<=150000:=by have:=atr d.eZ;have:=h.fit;have:=h.room;omega
theorem gU.len(h:gU d s):s.list.length<=150000/\s.prom.length<=150000/\s.ab.length<=150000:=by have a:=awW _ _ _ h.run;have b:=h.cnt;simp only[cV,List.length_nil]at a;omega
theorem gU.tot(h:gU d s):s.list.length+s.prom.length+s.ab.length<=150000:=by have a:=awX _ _ _ h.run;have b:=h.cnt;simp only[cV,List.length_nil]at a;omega
theorem gU.next(h:gU d s)(y:dL r=true)(A:jA r)(u:tX d r=true)(e:dW s r=some t):gU ⟨d.eZ++[r],d.room⟩ t:=by
 simp only[tX,dz,decide_eq_true_eq]at u;refine⟨λq j=>?_,?_,?_,h.room⟩
 ·simp only[Co,List.mem_singleton]at j;rcases j with j|rfl
  ·exact h.eZ q j
  ·grind
 ·show jl cV (d.eZ++[r])=_;rw[PC,h.run];simp[jl,e]
 ·grind [dL,jA,tX,dW,ir,xP,bJ]
theorem rD.cR(h:rD s):rD (cR s):=⟨h.nl,h.np,h.na,h.lp,h.la,h.pa,h.zA,h.zB,h.GR,Nat.mod_lt _ ax⟩
theorem gU.small(h:gU d s):∀q∈dc (cR s),(bJ q).length<=4000:=by
 intro q y;have t:=V3 h.inv.cR agB q y;have hk:q∈dc s∨q.kind=1:=by
  grind [dc,cR,bJ,vO]
 have j:q∈d.eZ∨q.kind=1:=by
  rcases hk with a|a
  ·rcases att _ (λr u=>(h.eZ r u).1) _ _ h.run q a with b|b|b
   ·grind [dc,cV,vO,lX,kM,pH]
   ·grind
   ·omega
  ·omega
 rcases j with a|a
 ·exact (h.eZ q a).2.2
 ·have e:bJ q=az (aZ q.kind)++az q.n:=by grind [bJ]
  have:=cS (aZ q.kind) (gH q.kind);have:=cS q.n t.2.2.1;rw[e,dq];omega
theorem gU.life(h:gU d s)(u:ir (dc (cR s))<=d.room):gU ⟨dc (cR s),d.room⟩ (cR s):=by have t:=V3 h.inv.cR agB;exact⟨λq j=>⟨(t q j).1,(t q j).2,h.small q j⟩,avp h.inv.cR,u,h.room⟩
theorem gU.new{room}(h:room<=1048576):gU ⟨[],room⟩ cV:=⟨aj,rfl,by simp[ir],h⟩
end
