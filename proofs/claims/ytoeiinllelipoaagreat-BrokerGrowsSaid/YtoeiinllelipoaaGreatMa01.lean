/-
  The walks of the reader's methods Bytes and Value: what each returns, how the reader stands behind it, and that nothing else that was there is changed.
-/
import Derived.Test.YtoeiinllelipoaaGreatMa00
import Derived.ProofKit
import Derived.OpenShut
import Derived.ShutString
import Derived.ChangeOld
import Derived.Below
import Derived.Lib.SmallJoins
import Derived.Deep.Slices
import Derived.Deep.Fields
import Derived.Deep.CutRange
import Derived.Deep.LoopGhost
import Derived.Test.YtoeiinllelipoaaGreatMz
set_option maxRecDepth 100000
set_option maxHeartbeats 16000000
set_option linter.unusedVariables false
set_option linter.unusedSimpArgs false
namespace Go.Proofs.YtoeiinllelipoaaGreat
open Go Go.RowKit Tryz
def aP(h:Int)(l:List UInt8)(wr:Bool):List UInt8×List UInt8×Bool :=
 if (aC l wr).2.2||decide (h<0)||decide (h.toNat<(aC l wr).1)||decide ((aC l wr).2.1.length<(aC l wr).1)then ([],(aC l wr).2.1,true)
 else ((aC l wr).2.1.take (aC l wr).1,(aC l wr).2.1.drop (aC l wr).1,false)
theorem nW(l:List UInt8)(wr:Bool):(aC l wr).2.1.length<=l.length:=by
 unfold aC;split
 ·simp
 ·split
  ·simp
  ·simp;omega
theorem qO(l:List UInt8)(wr:Bool):(aC l wr).1<18446744073709551616:=by
 unfold aC;split
 ·simp
 ·rename_i b r;split
  ·simp
  ·rename_i i;simp at i;have s:=Kn (r.take b.toNat);have j:(r.take b.toNat).length<=8:=aU;have t:256^(r.take b.toNat).length<=256^8:=Nat.pow_le_pow_right au j;show iG (r.take b.toNat)<_;omega
theorem Rd.UL{w:World}{g:Nat}{l:List UInt8}{wr:Bool}(h:Rd w g l wr):nD g l true w (w.setCell ⟨g,1,none⟩ (.bool true)):=by obtain⟨A,c,hb,hr,h1,h2⟩:=h;exact adY
theorem NU(g:Nat)(l:List UInt8)(wr:Bool)(j:Int)(w:World)(h:Rd w g l wr)(X:l.length<=1000000000)(hm0:-9223372036854775808<=j)(U:j<=9223372036854775807) :
 Calls prog 177 #[.pointer (some ⟨g,0,none⟩),.int .i64 j] w λe w' =>
  ∃v,e=.returned v/\Own w' w.heap.size 5 v (aP j l wr).1/\nD g (aP j l wr).2.1 (aP j l wr).2.2 w w':=by
 have D:=sQ g l wr w h
 have O:=nW l wr
 have M:=qO l wr
 unfold aP
 generalize aC l wr=R at *
 obtain⟨n,i,B⟩:=R
 simp only at D O M⊢
 have HN:=ae D
 clear D h
 by_cases t:(B||decide (j<0)||decide (j.toNat<n)||decide (i.length<n))=true
 ·rw[t];have hfin:∀W,Rd W g i B->w.grownBy W (some g)->Own (W.setCell ⟨g,1,none⟩ (.bool true)) w.heap.size 5 (.slice none 0 0) []/\nD g i true w (W.setCell ⟨g,1,none⟩ (.bool true)):=by intro W ng hgr;obtain⟨y,u⟩:=ng.UL;exact⟨iF _ _ _ _,y,nU hgr u⟩
  cases B
  ·by_cases y:j<0
   ·exact OK
   ·by_cases u:j.toNat<n
    ·obtain⟨m,rfl⟩:=Int.eq_ofNat_of_zero_le (show 0<=j by omega);have H:(m:Int)<(n:Int):=af;exact OK
    ·have G:i.length<n:=by simpa [y,u]using t
     obtain⟨m,rfl⟩:=Int.eq_ofNat_of_zero_le (show 0<=j by omega);have H:¬(m:Int)<(n:Int):=af;have N:(i.length:Int)<(n:Int):=af;exact OK
  ·exact OK
 ·have t:(B||decide (j<0)||decide (j.toNat<n)||decide (i.length<n))=false:=by simpa using t
  rw[t];simp at t;obtain⟨⟨⟨rfl,y⟩,u⟩,G⟩:=t;obtain⟨m,rfl⟩:=Int.eq_ofNat_of_zero_le y;simp at u;have H:(n:Int)<=(m:Int):=af;have N:(n:Int)<=(i.length:Int):=af;go_enter func177,ntmps177;go_wp2;go_step3;go_wp2_with fail
  refine HN.aa.mono ?_;rintro e w2⟨rfl,⟨A,c,hb,hr,hc1,gq⟩,hgr⟩;have dC:=hb.cell 0;have hx1:=hb.cell 1;simp at dC hx1;go_wp2_with fail
  refine (Ol A n c (i.take n) 0 w2 g (hr.pre n G) (Nat.le_of_lt hb.lt) af af af).mono ?_;rintro e E⟨I,J,rfl,Q,C,_,_⟩;have F:=hb.below C hb.lt;have S:=hr.below C (Nat.le_of_lt hb.lt);have T:=F.cell 0;have Y:=F.frozen 0;simp at T;have hfin:∀(A':Option Addr) (s:Nat),(n<i.length->A'=A.map (·.add n))->i.length-n<=s->s<=c ->
   Own (E.setCell ⟨g,0,none⟩ (.slice A' (i.length-n) s)) w.heap.size 5 (.slice (some ⟨I,0,none⟩) n J) (i.take n)/\nD g (i.drop n) false w (E.setCell ⟨g,0,none⟩ (.slice A' (i.length-n) s)):=by
   intro A' s L h4 V
   refine⟨?_,⟨A',s,?_,?_,E5,af⟩,E3 (nU hgr (Ht C _)) rfl _⟩
   ·have h6:=ownsRow_setCell_below (a:=⟨g,0,none⟩) Q hb.lt (.slice A' (i.length-n) s);refine rS hgr.size ?_ rfl;unfold Own;rw[show (i.take n).length=n by simp;omega];exact h6
   ·have h7:=F.aR 0 (.slice A' (i.length-n) s);simpa using h7
   ·have h8:=S.post (A':=A') n L;rw[List.length_drop];exact h8.keep λk hk=>Below.heap_setCell E _ _ k aU
  go_wp2;all_goals
   go_ret
   refine⟨_,rfl,hfin _ _ (λZ=>?_) af af⟩
   first|rfl|omega
def DI(n:Nat):Int:=((n:Int)+9223372036854775808)%18446744073709551616-9223372036854775808
def s5(k n:Nat):Int:=if k=1 then tP n else DI n
def eQ(l:List UInt8)(wr:Bool):(Int×Int×List UInt8)×List UInt8×Bool :=
 let a:=aC l wr
 let b:=aC a.2.1 a.2.2
 let s:=aP 40 b.2.1 b.2.2
 if decide (3<a.1)||s.2.2||!(iU a.1 (s5 a.1 b.1) ⟨s.1.toArray⟩)then ((0,0,[]),s.2.1,true)
 else ((a.1,s5 a.1 b.1,s.1),s.2.1,false)
theorem Dq(h:Int)(l:List UInt8)(wr:Bool):(aP h l wr).2.1.length<=l.length:=by
 have:=nW l wr;unfold aP;split
 ·exact this
 ·simp;omega
abbrev vd(d:Int×Int×List UInt8):Value:=vv d.1 d.2.1 ⟨d.2.2.toArray⟩
theorem Rd.below{w w':World}{g B:Nat}{l:List UInt8}{wr:Bool}(h:Rd w g l wr)(hb:Below B w w')(hg:g<B):Rd w' g l wr:=by obtain⟨A,c,hk,i,j,s⟩:=h;exact⟨A,c,hk.below hb hg,i.below hb af,j,s⟩
theorem Rd.lt{w:World}{g:Nat}{l:List UInt8}{wr:Bool}(h:Rd w g l wr):g<w.heap.size:=by obtain⟨_,_,hb,_⟩:=h;exact hb.lt
theorem aa5(g:Nat)(l:List UInt8)(wr:Bool)(w:World)(h:Rd w g l wr)(hl:l.length<=1000000000) :
 Calls prog 251 #[.pointer (some ⟨g,0,none⟩)] w λe w' =>
  e=.returned (vd (eQ l wr).1)/\nD g (eQ l wr).2.1 (eQ l wr).2.2 w w':=by
 have hg:=h.lt
 have c1:=λW (t:Rd W g l wr)=>sQ g l wr W t
 have c2:=λW (t:Rd W g (aC l wr).2.1 (aC l wr).2.2)=>sQ g _ _ W t
 have c3:=λW (t:Rd W g (aC (aC l wr).2.1 (aC l wr).2.2).2.1 (aC (aC l wr).2.1 (aC l wr).2.2).2.2)=>NU g _ _ 40 W t (by have:=nW l wr;have:=nW (aC l wr).2.1 (aC l wr).2.2;omega) af af
 have b1:=qO l wr
 have M:=qO (aC l wr).2.1 (aC l wr).2.2
 simp only[eQ]
 generalize aC l wr=a at *
 obtain⟨k,U,X⟩:=a
 simp only at *
 generalize aC U X=a at *
 obtain⟨n,l2,w2⟩:=a
 simp only at *
 generalize aP 40 l2 w2=a at *
 obtain⟨s,l3,F⟩:=a
 simp only at *
 have C1:=ae c1
 have Y:=ae c2
 have V:=ae c3
 clear c1 c2 c3
 have S:Below w.heap.size w (w.alloc (.cells #[.int .i64 0,.int .i64 0,.string { data:=#[] }] 79)):=(aN _ _).alloc (aG _) _
 have I:=ai.new w 79 #[.int .i64 0,.int .i64 0,.string { data:=#[] }]
 have L:=h.below S hg
 clear h
 go_enter func251,ntmps251
 go_wp2
 refine JT 0 rfl ?_
 go_wp2_with fail
 refine (C1.aa _ L).mono ?_
 rintro e W1⟨rfl,O,A⟩
 have J:=I.grown A aU
 clear I L
 go_wp2_with fail
 refine (Y.aa _ O).mono ?_
 rintro e W2⟨rfl,H,u⟩
 have Q:=J.grown u aU
 clear J O
 go_wp2_with fail
 refine (V.aa _ H).mono ?_
 rintro e W3⟨v3,rfl,R,dz,y⟩
 have E:=Q.grown y aU
 clear Q H
 obtain⟨A3,Z,rfl,T⟩:=R.slice
 have hst:=adR (P:=prog) W3 42 9 5 underlying42 underlying5 underlying9 _ A3 _ Z s T
 clear R
 by_cases h3:3<k
 ·have h3':(3:Int)<(k:Int):=af;have dD:=dz.below (Below.alloc (aN _ W3) (aG _) (.cells #[.int .i64 0,.int .i64 (wrap64 (n:Int)),.string { data:=s.toArray }] 79)) dz.lt;have bQ:=E.alloc (.cells #[.int .i64 0,.int .i64 (wrap64 (n:Int)),.string { data:=s.toArray }] 79);have hgr:w.grownBy (W3.alloc (.cells #[.int .i64 0,.int .i64 (wrap64 (n:Int)),.string { data:=s.toArray }] 79)) (some g):=Dh (nU (nU (nU (Dh (Dl _ _) _) A) u) y) _;go_wp2;generalize W3.alloc _=W4 at *;have I8:(if (decide (3<k)||F||!(iU (k:Int) (s5 k n) ⟨s.toArray⟩))=true then (((0,0,[]),l3,true):(Int×Int×List UInt8)×List UInt8×Bool)else (((k:Int),s5 k n,s),l3,false))=((0,0,[]),l3,true):=by simp[h3]
  go_step3;refine⟨rfl,?_⟩;have hy0:=bQ.cell 0;have zA:=bQ.cell 1;have hy2:=bQ.cell 2;have hz0:=bQ.frozen 0;have hz1:=bQ.frozen 1;have hz2:=bQ.frozen 2;simp at hy0 zA hy2;obtain⟨A4,c4,hb4,_⟩:=id dD;have ot:=hb4.cell 1;have jV:=hb4.frozen 1;simp at ot;go_wp2;have di:=(((bQ.far (p:=⟨g,1,none⟩) aU (.bool true)).aR 0 (.int .i64 0)).aR 1 (.int .i64 0)).aR 2 (.string { data:=#[] });have e0:=di.cell 0;have e1:=di.cell 1;have e2:=di.cell 2;simp at e0 e1 e2;have hw:=dD.UL;rw[gS];refine bodyPost_ret (v:=vd (0,0,[])) UM rfl ?_;rw[I8];exact ad0
 ·have h3':¬(3:Int)<(k:Int):=af;generalize G:s5 k n=N at *;have HN:=ae G;clear G;by_cases C:k=1
  ·have h1':((k:Int)==1)=true:=aU;have j:Hid (tP n=N):=by rw[<- HN.aa];exact ae (by simp[s5,C])
   clear C;have dD:=dz.below (Below.alloc (aN _ W3) (aG _) (.cells #[.int .i64 (k:Int),.int .i64 N,.string { data:=s.toArray }] 79)) dz.lt;have bQ:=E.alloc (.cells #[.int .i64 (k:Int),.int .i64 N,.string { data:=s.toArray }] 79);have hgr:w.grownBy (W3.alloc (.cells #[.int .i64 (k:Int),.int .i64 N,.string { data:=s.toArray }] 79)) (some g):=Dh (nU (nU (nU (Dh (Dl _ _) _) A) u) y) _;cases hw3:F
   ·subst hw3;obtain⟨D,c5,i,_⟩:=id dz;have ot:=λo=>(i.alloc o).cell 1
    simp at ot;go_wp2_with fail
    refine (aa4 n _ M).mono ?_;rintro e w'⟨rfl,rfl⟩;rw[j.aa];go_wp2_with fail
    exact ad1
   ·subst hw3;obtain⟨D,c5,i,_⟩:=id dz;have ot:=λo=>(i.alloc o).cell 1
    simp at ot;go_wp2_with fail
    refine (aa4 n _ M).mono ?_;rintro e w'⟨rfl,rfl⟩;rw[j.aa];go_wp2_with fail
    exact ad2
  ·have h1':((k:Int)==1)=false:=aU;have j:Hid (wrap64 (n:Int)=N):=by rw[<- HN.aa];exact ae (by simp[s5,C,DI,wrap64])
   clear C;have dD:=dz.below (Below.alloc (aN _ W3) (aG _) (.cells #[.int .i64 (k:Int),.int .i64 N,.string { data:=s.toArray }] 79)) dz.lt;have bQ:=E.alloc (.cells #[.int .i64 (k:Int),.int .i64 N,.string { data:=s.toArray }] 79);have hgr:w.grownBy (W3.alloc (.cells #[.int .i64 (k:Int),.int .i64 N,.string { data:=s.toArray }] 79)) (some g):=Dh (nU (nU (nU (Dh (Dl _ _) _) A) u) y) _;cases hw3:F
   ·subst hw3;obtain⟨D,c5,i,_⟩:=id dz;have ot:=λo=>(i.alloc o).cell 1
    simp at ot;go_wp2_with fail
    simp only[j.aa];exact ad1
   ·subst hw3;obtain⟨D,c5,i,_⟩:=id dz;have ot:=λo=>(i.alloc o).cell 1
    simp at ot;go_wp2_with fail
    simp only[j.aa];exact ad2
section
open Go Go.RowKit Go.ChangeShapes Go.WideShapes Go.ChangeAt
open Go.ChangeMaps (open_string shut_string)
set_option linter.unusedVariables false
def Xv(_:World)(v:Value):Prop:=∃n:Int,v=.int .i64 n/\-9223372036854775808<=n/\n<=9223372036854775807
def atS(w:World)(v:Value):Prop:=∃(A:Option Addr) (c:Nat) (l:List UInt8),v=.slice A l.length c/\Reads w w.heap.size 1 A l.length (dy l)/\l.length<=c/\c<=maxLen
abbrev ayr(x:Int×Int×ByteArray):List Value:=[.int .i64 x.1,.int .i64 x.2.1,.string x.2.2]
def bU(n:Int):Prop:=-9223372036854775808<=n/\n<=9223372036854775807
theorem AQ{α:Type}(C:Nat):∀(css:List (List α)),(∀cs∈css,cs.length=C)->css.flatten.length=css.length*C
 | [],_=>aj
 | c :: css,h=>by simp only[List.flatten_cons,cT,iE];rw[h c aj,AQ C css λcs i=>h cs (by simp[i]),Nat.succ_mul];omega
theorem vK{α:Type}(C:Nat):∀(css:List (List α)),(∀cs∈css,cs.length=C)->∀i j,i<css.length->j<C->css.flatten[i*C+j]?=(css[i]?.getD [])[j]?
 | [],_,i,j,hi,_=>by simp at hi
 | c :: css,h,i,j,hi,hj=>by
  have hc:=h c aj
  cases i with
  | zero=>simp;rw[List.getElem?_append_left af]
  | succ i => rw[List.flatten_cons,List.getElem?_append_right OL];simp only[List.getElem?_cons_succ];rw[<- vK C css (λcs s=>h cs (by simp[s])) i j Bc hj];congr 1;rw[hc,Nat.succ_mul];omega
section
variable {H:Type} {enc:TypeId×Value->H} {w:World} {base:Nat} {r:Reach} {b0:Nat} {spare:Nat->Bool} {held:Bool} {v:Value} {d:DataW H} {p:List MemPlace}
theorem acn(i:Value.okWide prog w r b0 3 v)(h:DataW.Trod enc prog w base spare held 3 v d p):Xv w v:=by obtain⟨a,rfl,rfl,rfl,j⟩:=open_int underlying3 i h;have hb:=bounds_i64 j;exact⟨a,rfl,af,af⟩
theorem aoz{w:World}{B:Nat}{a:Addr}{len:Nat}{s:List Int}(O:w.heap.size<=B)(N:len<=s.length)(C:∀i,i<s.length->w.cell? (a.add i)=some (.int .u8 (s.getD i 0)))(J:∀n∈s,(Lit.int .u8 n).wf=true) :
 ∃l:List UInt8,l.length=len/\Reads w B 1 (some a) len (dy l):=by
 refine⟨(s.take len).map λn=>UInt8.ofNat n.toNat,aU,aU,λD=>?_⟩
 simp at D
 have F:0<s.length:=af
 have y:=C 0 F
 obtain⟨b,G,H⟩:=a
 have L:H=none:=by simpa [Addr.add]using World.cell?_spot y
 subst L
 refine⟨b,G,rfl,?_,λj u hu=>?_⟩
 ·have:=World.block_lt_of_cell? w _ y;simp[Addr.add]at this;omega
 ·have M:j<len:=by exact UG
  have A:=C j af;rw[Addr.add_lit]at A;rw[A,<- hu];have t:j<s.length:=af;have hm:=bounds_u8 (J s[j] (bW t));have I:(s.take len)[j]?=some s[j]:=by rw[List.getElem?_take_of_lt M,List.getElem?_eq_getElem t]
  have E:(UInt8.ofNat s[j].toNat).toNat=s[j].toNat:=aU;simp only[dy,List.getElem?_map,I,Option.map_some,E,List.getD_eq_getElem?_getD,List.getElem?_eq_getElem t,Option.getD_some];congr 2;omega
theorem aoh{T E:TypeId}(G:prog.underlying T=some (.slice E))(C:Nat)(hC:prog.cellsOf E=C)(s:List Value->Prop)
 (hE:∀(B:Nat) (cs:List Value) (x:DataW H×List MemPlace),cs.length=C->DataW.trod enc prog w base spare held B E cs=some x->s cs)
 (N:Value.okWide prog w r b0 T v) (h:DataW.Trod enc prog w base spare held T v d p) :
 ∃(A:Option Addr) (n c:Nat) (css:List (List Value)),v=.slice A n c/\css.length=n/\n<=c/\c<=maxLen/\(∀cs∈css,cs.length=C/\s cs)/\(0<C->Reads w w.heap.size C A n css.flatten):=by
 obtain⟨W,vY,L,rfl⟩:=okWide_slice G N
 obtain⟨B,V⟩:=h
 rcases Go.Deep.open_slice G V with ⟨hcs,_⟩|⟨a,len,cap,m,n,D,Z,hcs,hb,Q,hm,J,hx,hi⟩
 ·simp[Value.cells]at hcs;obtain⟨rfl,rfl,rfl⟩:=hcs;exact⟨none,0,0,[],rfl,rfl,aj,aj,aj,λ_=>Reads.nil _ _ _ _⟩
 ·simp[Value.cells]at hcs;obtain⟨rfl,rfl,rfl⟩:=hcs;have Y:vY<=m:=by rw[J];split <;> omega
  have hex:∀i,i<vY->∃cs,cs.length=C/\s cs/\∀j,j<C->w.cell? (a.add (i*C+j))=cs[j]?:=by exact ad3
  have key:∀k,k<=vY->∃css:List (List Value),css.length=k/\(∀cs∈css,cs.length=C/\s cs)/\∀i j,i<k->j<C->w.cell? (a.add (i*C+j))=(css[i]?.getD [])[j]?:=by exact ad4
  obtain⟨css,h1,h2,h3⟩:=key vY (aG _);refine⟨some a,vY,L,css,rfl,h1,Q,hm,h2,λhC0=>?_⟩;have I:css.flatten.length=vY*C:=ad5;have hfg:∀i j,i<vY->j<C->css.flatten[i*C+j]?=(css[i]?.getD [])[j]?:=λi j X hj=>vK C css (λcs hcs=>(h2 cs hcs).1) i j af hj
  refine⟨I,λy=>?_⟩;rw[I]at y;have F:∀q,q<vY*C->w.cell? (a.add q)=css.flatten[q]?:=by intro q hq;have e:q=q/C*C+q%C:=ad6;have ot:q/C<vY:=Nat.div_lt_of_lt_mul ad7;exact ad8
  have xY:=F 0 y;have S:∃u,css.flatten[0]?=some u:=⟨css.flatten[0]'af,List.getElem?_eq_getElem af⟩;obtain⟨u,R⟩:=S;rw[R]at xY;obtain⟨b,M,O⟩:=a;have U:O=none:=by simpa [Addr.add]using World.cell?_spot xY
  subst U;refine⟨b,M,rfl,?_,λj u t=>?_⟩
  ·exact ad9
  ·have hj:j<vY*C:=by have:=(List.getElem?_eq_some_iff.1 t).1;omega
   have:=F j hj;rw[Addr.add_lit]at this;rw[this,t]
theorem apH{cs:List Value}{A:Nat}{x:DataW H×List MemPlace}(h:DataW.trod enc prog w base spare held A 42 cs=some x):∃v,cs=[v]/\atS w v:=by
 rcases open_ints underlying42 underlying5 ak h with ⟨i,_⟩|⟨x,l,c,C,i,_,E,hm,hz,_,D,y⟩
 ·exact⟨_,i,none,0,[],rfl,Reads.nil _ _ _ _,aj,aj⟩
 ·have s:l<=C.length:=by rw[hz];split <;> omega
  obtain⟨u,j,t⟩:=aoz (B:=w.heap.size) (aG _) s D y;exact⟨_,i,_,_,u,by rw[j],by rw[j];exact t,af,hm⟩
theorem acp{cs:List Value}{G:Nat}{x:DataW H×List MemPlace}(h:DataW.trod enc prog w base spare held G 79 cs=some x):∃y,cs=ayr y/\bU y.1/\bU y.2.1:=by
 obtain⟨xs,n,_,_,C,E,u⟩:=DataW.trod_struct underlying79 h
 have F:prog.cellsOf 79=3:=ak
 rw[F]at C
 match cs,C with
 | [c0,c1,c2],_ => have i:=u 0 _ rfl;have j:=u 1 _ rfl;have t:=u 2 _ rfl;have I:prog.cellsOf 3=1:=ak;have L:prog.cellsOf 2=1:=ak;have D:prog.cellsOf 9=1:=ak;simp[I,L,D]at i j t;have O:xs.length=3:=E;rw[List.getElem?_eq_getElem af]at i j t;obtain⟨a,B,_,J⟩:=DataW.trod_int underlying3 i;obtain⟨b,A,_,wb⟩:=DataW.trod_int underlying2 j;obtain⟨s,es,_,_⟩:=DataW.trod_string underlying9 t;simp at B A es;subst B A es;have N:=bounds_i64 J;have M:=bounds_i64 wb;exact⟨(a,b,s),rfl,UN,(by show bU b;unfold bU;omega)⟩
theorem NQ{α:Type}(f:α->List Value)(i:α->Prop):∀css:List (List Value),(∀cs∈css,∃y,cs=f y/\i y)->∃l:List α,l.length=css.length/\css=l.map f/\∀y∈l,i y
 | [],_=>⟨[],rfl,rfl,aj⟩
 | c :: css,h=>by
  obtain⟨y,rfl,s⟩:=h c aj;obtain⟨l,j,h2,t⟩:=NQ f i css λcs u=>h cs (by simp[u])
  refine⟨y :: l,by simp[j],Ko,?_⟩;intro z hz;rcases List.mem_cons.1 hz with rfl|hz
  ·exact s
  ·exact t z hz
end
end
section
open Go Go.RowKit Go.ChangeShapes Go.WideShapes Go.ChangeAt
open Go.ChangeMaps (open_string shut_string)
abbrev bh:=ByteArray×Int×Int×ByteArray
abbrev jQ(x:bh):List Value:=[.string x.1,.int .i64 x.2.1,.int .i64 x.2.2.1,.string x.2.2.2]
section
variable {H:Type} {enc:TypeId×Value->H} {w:World} {base:Nat} {r:Reach} {b0:Nat} {spare:Nat->Bool} {held:Bool} {v:Value} {d:DataW H} {p:List MemPlace}
theorem asd{cs:List Value}{E:Nat}{x:DataW H×List MemPlace}(h:DataW.trod enc prog w base spare held E 84 cs=some x):∃y:bh,cs=jQ y/\bU y.2.1/\bU y.2.2.1:=by
 obtain⟨xs,n,_,_,A,B,t⟩:=DataW.trod_struct underlying84 h
 have D:prog.cellsOf 84=4:=ak
 rw[D]at A
 match cs,A with
 | [c0,c1,c2,c3],_ => have i:=t 0 _ rfl;have j:=t 1 _ rfl;have F:prog.cellsOf 9=1:=ak;have I:prog.cellsOf 79=3:=ak;simp[F,I]at i j;have J:xs.length=2:=B;rw[List.getElem?_eq_getElem af]at i j;obtain⟨s,es,_,_⟩:=DataW.trod_string underlying9 i;obtain⟨y,u,C,G⟩:=acp j;simp at es u;obtain⟨rfl,rfl,rfl⟩:=u;subst es;exact⟨(s,y),rfl,C,G⟩
end
end
def vZ(b:UInt8):Bool:=(decide (97<=b.toNat)&&decide (b.toNat<=122))||(decide (48<=b.toNat)&&decide (b.toNat<=57))
def rU(s:ByteArray):Bool:=decide (1<=s.size)&&decide (s.size<=16)&&(dh s).all vZ
theorem atT(l:List UInt8)(k:Nat)(h:k<l.length):(l.take (k+1)).all vZ=((l.take k).all vZ&&vZ l[k]):=by exact aea
theorem avs(l:List UInt8)(k:Nat)(h:k<l.length)(hb:vZ l[k]=false):l.all vZ=false:=by exact aeb
theorem TC(s:ByteArray)(w:World) :
 Calls prog 206 #[.string s] w λe w'=>e=.returned (.bool (rU s))/\w=w':=by
 by_cases J:s.size<1
 ·have G:(s.size:Int)<1:=af;exact aec
 have G:¬(s.size:Int)<1:=af
 by_cases I:16<s.size
 ·have D:(16:Int)<(s.size:Int):=af;exact aec
 have D:¬(16:Int)<(s.size:Int):=af
 have A:(dh s).length=s.size:=by show s.data.toList.length=s.data.size;simp
 go_enter func206,ntmps206
 go_wp2_with fail
 go_loopw [15] (fun i wr=>∃k:Nat,k<=s.size/\i=.int .i64 (k:Int)/\Hid (((dh s).take k).all vZ=true)/\wr=w) (fun i _=>s.size-(intOf i).toNat)
 case atStart=>exact⟨0,af,rfl,ae aj,rfl⟩
 case round =>
  obtain⟨k,hk,rfl,y,rfl⟩:=hrel;by_cases H:k<s.size
  ·have F:(k:Int)<(s.size:Int):=af;have u:k<(dh s).length:=af;have B:=ae (atT (dh s) k u);have E:=ae (avs (dh s) k u);have L:s[k]=(dh s)[k]:=by simp[dh];rfl
   generalize (dh s)[k]=x at *;have M:x.toNat<256:=x.toNat_lt;go_upto_if 34 with (fail);all_goals
    go_wp2
    all_goals first
     | (go_ret
        have j:vZ x=false:=by simp[vZ];omega
        exact⟨by rw[show rU s=false by simp[rU,E.aa j]];rfl,rfl⟩)
     | (have j:vZ x=true:=by simp[vZ];omega
        have C:Hid (((dh s).take (k+1)).all vZ=true):=ae (by rw[B.aa,y.aa,j];rfl)
        go_roundw
        case rel=>exact⟨k+1,af,bO,C,Kq⟩
        case measure=>simp[intOf];omega)
  ·have F:¬(k:Int)<(s.size:Int):=af;have t:k=s.size:=af;have hn:Hid (rU s=true):=by have:=y.aa;rw[t,<- A,mC]at this;exact ae (by simp only[rU,this];simp;omega)
   clear t;go_wp2;go_ret;exact⟨by rw[hn.aa];rfl,rfl⟩
theorem TS(n:Nat):n<256^fJ n:=by
 induction n using Nat.strongRecOn with
 | _ n i =>
  rcases Nat.eq_zero_or_pos n with h|h
  ·subst h;simp[ES]
  ·rw[J4 n h,Nat.pow_succ];have:=i (n/256) af;omega
theorem atU(n:Nat)(h:0<n):256^(fJ n-1)<=n:=by
 induction n using Nat.strongRecOn with
 | _ n s =>
  rw[J4 n h];simp only[Nat.add_sub_cancel];rcases Nat.eq_zero_or_pos (n/256)with i|i
  ·rw[i,ES];simp;omega
  ·have t:=s (n/256) af i;have j:fJ (n/256)=(fJ (n/256)-1)+1:=by have:=J4 (n/256) i;omega
   rw[j,Nat.pow_succ];omega
theorem atV(n k:Nat)(i:n<256^(k+1))(t:256^k<=n):fJ n=k+1:=by
 have u:=Kb (k+1) n i;rcases Nat.lt_or_ge (fJ n) (k+1)with h|h
 ·exfalso;have j:=TS n;have s:256^fJ n<=256^k:=Nat.pow_le_pow_right au af;omega
 ·omega
theorem TU(b:UInt8)(l:List UInt8):iG (b :: l)=b.toNat*256^l.length+iG l:=by
 have key:∀(l:List UInt8) (a:Nat),l.foldl (λn (b:UInt8)=>n*256+b.toNat) a=a*256^l.length+iG l:=by
  intro l
  induction l with
  | nil=>intro a;simp[iG]
  | cons x l h =>
   intro a;simp only[List.foldl_cons,iE,iG];rw[h,h (0*256+x.toNat),Nat.pow_succ];have:(a*256+x.toNat)*256^l.length=a*(256^l.length*256)+x.toNat*256^l.length:=by rw[Nat.add_mul,Nat.mul_assoc,Nat.mul_comm 256]
   rw[Nat.zero_mul,fP,this];omega
 have:=key l b.toNat;simpa [iG]using this
theorem UO(k:Nat):∀n,iG (be k n)=n%256^k:=by
 induction k with
 | zero=>intro n;simp[be,iG,Nat.mod_one]
 | succ k h => intro n;rw[be,TU,h,tL,Nat.pow_succ,Nat.mod_mul];simp;rw[Nat.mul_comm,Nat.add_comm]
theorem awW(k:Nat):∀n m,n%256^k=m%256^k->be k n=be k m:=by
 induction k with
 | zero=>intro n m _;rfl
 | succ k y =>
  intro n m h;have i:0<256^k:=Nat.pow_pos au;have e:∀x:Nat,x%256^(k+1)=256^k*(x/256^k%256)+x%256^k:=by intro x;rw[Nat.pow_succ,Nat.mod_mul,Nat.add_comm]
  rw[e n,e m]at h;have B:=Nat.mod_lt n i;have t:=Nat.mod_lt m i;have j:n/256^k%256=m/256^k%256:=by
   have s:(256^k*(n/256^k%256)+n%256^k)/256^k=n/256^k%256:=by rw[Nat.mul_add_div i,Nat.div_eq_of_lt B,Nat.add_zero]
   have A:(256^k*(m/256^k%256)+m%256^k)/256^k=m/256^k%256:=by rw[Nat.mul_add_div i,Nat.div_eq_of_lt t,Nat.add_zero]
   rw[<- s,<- A,h]
  have u:n%256^k=m%256^k:=by rw[j]at h;omega
  rw[be,be,y n m u];congr 1;apply UInt8.toNat_inj.1;simpa using j
theorem aed:∀l:List UInt8,be l.length (iG l)=l
 | []=>rfl
 | b :: l=>by
  have s:=Kn l;have t:0<256^l.length:=Nat.pow_pos au;rw[iE,be,TU];have j:(b.toNat*256^l.length+iG l)/256^l.length=b.toNat:=by rw[Nat.mul_comm,Nat.mul_add_div t,Nat.div_eq_of_lt s,Nat.add_zero]
  rw[j];have i:be l.length (b.toNat*256^l.length+iG l)=be l.length (iG l):=awW _ _ _ aj;rw[i,aed l];simp
theorem pN(n:Nat)(h:n<18446744073709551616)(rest:List UInt8):aC (aD n++rest) false=(n,rest,false):=by
 have h8:=Kb 8 n af;have hb:(UInt8.ofNat (fJ n)).toNat=fJ n:=aU;have i:=tL (fJ n) n;have C:(be (fJ n) n++rest).take (fJ n)=be (fJ n) n:=by rw[<- i];simp[i]
 have D:(be (fJ n) n++rest).drop (fJ n)=rest:=by rw[<- i];simp[i]
 have y:0<fJ n->¬(be (fJ n) n++rest).head?=some 0:=by
  intro j u;have B:0<n:=by
   rcases Nat.eq_zero_or_pos n with s|s
   ·subst s;rw[ES]at j;omega
   ·exact s
  have hg:=atU n B;have t:=TS n;obtain⟨k,hk⟩:∃k,fJ n=k+1:=⟨fJ n-1,af⟩;rw[hk]at u hg t;simp only[be,aM,List.head?_cons,Option.some.injEq,Nat.add_sub_cancel]at u hg;have hz:n/256^k%256=0:=by have:=congrArg UInt8.toNat u;simpa using this
  have E:0<256^k:=Nat.pow_pos au;have G:n/256^k<256:=by rw[Nat.pow_succ]at t;exact Nat.div_lt_of_lt_mul t
  have F:0<n/256^k:=Nat.div_pos hg E;omega
 have A:(false||decide (8<(UInt8.ofNat (fJ n)).toNat)||decide ((be (fJ n) n++rest).length<(UInt8.ofNat (fJ n)).toNat)||(decide (0<(UInt8.ofNat (fJ n)).toNat)&&(be (fJ n) n++rest).head?==some 0))=false:=by
  rw[hb];simp only[Bool.false_or,Bool.or_eq_false_iff,decide_eq_false_iff_not,Bool.and_eq_false_iff];refine⟨⟨af,by simp[i]⟩,?_⟩;by_cases j:0<fJ n
  ·right;exact beq_eq_false_iff_ne.2 (y j)
  ·left;exact j
 unfold aD;simp only[aM,aC];rw[A,hb,C,D,UO,Nat.mod_eq_of_lt (TS n)];rfl
theorem qM{l:List UInt8}{wr:Bool}(h:(aC l wr).2.2=false):l=aD (aC l wr).1++(aC l wr).2.1/\wr=false:=by
 match l with
 | []=>simp[aC]at h
 | b :: r =>
  simp only[aC]at h⊢;split at h
  ·simp at h
  ·rename_i s;rw[if_neg s];simp only[Bool.or_eq_true,not_or,Bool.not_eq_true,Bool.and_eq_false_iff,decide_eq_false_iff_not]at s;obtain⟨⟨⟨y,h8⟩,C⟩,j⟩:=s;refine⟨?_,y⟩;have i:(r.take b.toNat).length=b.toNat:=aU;have hk:fJ (iG (r.take b.toNat))=b.toNat:=by
    rcases Nat.eq_zero_or_pos b.toNat with hb|hb
    ·rw[hb];simp[iG,ES]
    ·obtain⟨k,hk⟩:∃k,b.toNat=k+1:=⟨b.toNat-1,af⟩;rw[hk]at i j⊢;match r,i,j with
     | [],i,_=>simp at i
     | x :: r',i,j =>
      have A:x≠0:=by rintro rfl;simp at j
      have B:0<x.toNat:=by
       rcases Nat.eq_zero_or_pos x.toNat with h|h
       ·exact absurd (UInt8.toNat_inj.1 (show x.toNat=(0:UInt8).toNat from h)) A
       ·exact h
      simp only[dR,iE,Nat.add_right_cancel_iff]at i⊢;have t:=Kn (x :: r'.take k);simp only[iE,i]at t;refine atV _ k t ?_;rw[TU,i];have:1*256^k<=x.toNat*256^k:=Nat.mul_le_mul_right _ B;omega
   have u:=aed (r.take b.toNat);rw[i]at u;unfold aD;rw[hk,u,aM,List.take_append_drop];simp
theorem EZ(h:Int)(b:List UInt8)(hb:b.length<18446744073709551616)(hm:(b.length:Int)<=h)(rest:List UInt8):aP h (aD b.length++b++rest) false=(b,rest,false):=by
 rw[dG];unfold aP;rw[pN b.length hb];have i:(false||decide (h<0)||decide (h.toNat<b.length)||decide ((b++rest).length<b.length))=false:=by simp;omega
 simp only;rw[i];simp
theorem E0{i:Int}{l:List UInt8}{wr:Bool}(h:(aP i l wr).2.2=false) :
 l=aD (aP i l wr).1.length++(aP i l wr).1++(aP i l wr).2.1/\((aP i l wr).1.length:Int)<=i/\wr=false:=by
 unfold aP at h⊢
 split at h
 ·simp at h
 ·rename_i j;rw[if_neg j];simp at j;obtain⟨⟨⟨t,A⟩,B⟩,C⟩:=j;obtain⟨u,y⟩:=qM t;have s:((aC l wr).2.1.take (aC l wr).1).length=(aC l wr).1:=aU;refine⟨?_,?_,y⟩
  ·simp only;rw[s,dG,List.take_append_drop];exact u
  ·simp only;rw[s];omega
theorem apI(n:Int)(h:-9223372036854775808<=n)(i:n<=9223372036854775807):tP (foldI n)=n:=by unfold foldI tP;split <;> split <;> omega
theorem apJ(n:Nat)(h:n<18446744073709551616):foldI (tP n)=n/\-9223372036854775808<=tP n/\tP n<=9223372036854775807:=by unfold foldI tP;split <;> split <;> omega
theorem acq(n:Int)(h:-9223372036854775808<=n)(i:n<=9223372036854775807):DI (n%18446744073709551616).toNat=n:=by unfold DI;omega
theorem ase(n:Nat)(h:n<18446744073709551616):(DI n%18446744073709551616).toNat=n/\-9223372036854775808<=DI n/\DI n<=9223372036854775807:=by unfold DI;omega
theorem Ii{k n:Int}{s:ByteArray}(h:iU k n s=true):(k=1∨k=2∨k=3)/\s.size<=40:=by
 unfold iU at h;split at h
 ·rename_i hk;rw[ByteArray.toList_eq]at h;simp at hk h;refine⟨.inl hk,?_⟩;show s.data.size<=40;simp[h]
 ·split at h
  ·rename_i hk;simp at hk h;exact⟨.inr (.inl hk),af⟩
  ·split at h
   ·rename_i hk;rw[ByteArray.toList_eq]at h;simp at hk h;refine⟨.inr (.inr hk),?_⟩;show s.data.size<=40;simp[h.2]
   ·simp at h
theorem atW(k n:Int)(hk:k=1∨k=2∨k=3)(h:-9223372036854775808<=n)(i:n<=9223372036854775807):s5 (bf k) (ue k n)=n:=by
 unfold s5 ue bf;rcases hk with rfl|rfl|rfl
 ·simp;exact apI n h i
 ·simp;exact acq n h i
 ·simp;exact acq n h i
theorem ade(k n:Int)(s:ByteArray)(t:iU k n s=true)(i:-9223372036854775808<=n)(j:n<=9223372036854775807)(rest:List UInt8) :
 eQ (nC k n s++rest) false=((k,n,dh s),rest,false):=by
 obtain⟨hk,E⟩:=Ii t
 have u:=fI k
 have B:=Kl k n i j
 have D:(dh s).length=s.size:=aj
 unfold eQ nC
 rw[dG,dG,pN _ u]
 simp only
 rw[pN _ B]
 simp only
 rw[<- D,EZ 40 (dh s) af af]
 simp only
 rw[atW k n hk i j]
 have C:(bf k:Int)=k:=UQ
 have y:¬3<bf k:=af
 rw[C]
 have A:(⟨(dh s).toArray⟩:ByteArray)=s:=by cases s;simp
 rw[A,t]
 simp[y]
theorem Uh{l:List UInt8}{wr:Bool}(h:(eQ l wr).2.2=false) :
 l = nC (eQ l wr).1.1 (eQ l wr).1.2.1 ⟨(eQ l wr).1.2.2.toArray⟩++(eQ l wr).2.1/\iU (eQ l wr).1.1 (eQ l wr).1.2.1 ⟨(eQ l wr).1.2.2.toArray⟩=true/\wr=false /\
  -9223372036854775808<=(eQ l wr).1.2.1/\(eQ l wr).1.2.1<=9223372036854775807:=by
 simp only[eQ]at h⊢
 split at h
 ·simp at h
 ·rename_i i;rw[if_neg i];simp only[Bool.or_eq_true,not_or,decide_eq_true_eq,Bool.not_eq_true,Bool.not_eq_eq_eq_not]at i;obtain⟨⟨hk,B⟩,H⟩:=i;have M:=qO l wr;have y:=qO (aC l wr).2.1 (aC l wr).2.2;obtain⟨C,J,G⟩:=E0 B;obtain⟨E,D⟩:=qM G;obtain⟨A,w0⟩:=qM D;have t:iU ((aC l wr).1:Int) (s5 (aC l wr).1 (aC (aC l wr).2.1 (aC l wr).2.2).1) ⟨(aP 40 (aC (aC l wr).2.1 (aC l wr).2.2).2.1 (aC (aC l wr).2.1 (aC l wr).2.2).2.2).1.toArray⟩=true:=by simpa using H
  have S:=(Ii t).1;simp only;generalize (aP 40 (aC (aC l wr).2.1 (aC l wr).2.2).2.1 (aC (aC l wr).2.1 (aC l wr).2.2).2.2)=c at *;generalize aC (aC l wr).2.1 (aC l wr).2.2=b at *;generalize aC l wr=a at *;obtain⟨k,O,Q⟩:=a;obtain⟨n,I,R⟩:=b;obtain⟨s,L,N⟩:=c;simp only at *;have F:bf (k:Int)=k:=UQ;have j:ue (k:Int) (s5 k n)=n/\-9223372036854775808<=s5 k n/\s5 k n<=9223372036854775807:=by
   unfold ue s5;by_cases u:k=1
   ·subst u;simp;exact apJ n y
   ·rw[if_neg af,if_neg u];exact ase n y
  refine⟨?_,t,w0,j.2⟩;unfold nC;rw[F,j.1,A,E,C];simp[ByteArray.size,dh]
