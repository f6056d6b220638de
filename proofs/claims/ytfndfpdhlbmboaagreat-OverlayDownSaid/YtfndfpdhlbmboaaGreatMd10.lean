/-
  Messages in memory, and the walk of wire.Check (layer 13). Conditions: none.
-/
import Derived.Test.YtfndfpdhlbmboaaGreatMd09
import Derived.RangeFuncKeeps
import Derived.RangeFuncLeaves
import Derived.RangeFuncFrom
import Derived.RangeFuncBox
import Derived.Shelf.Abstract
import Derived.OwnWalkIn
import Derived.TacticsInMore
import Derived.LoopNIn
import Derived.LoopIn
import Derived.RangeFuncNested
import Derived.Test.YtfndfpdhlbmboaaGreatMdz
set_option maxRecDepth 100000
set_option linter.constructorNameAsVariable false
set_option maxHeartbeats 16000000
set_option linter.unusedVariables false
set_option linter.unusedSimpArgs false
namespace Go.Proofs.YtfndfpdhlbmboaaGreat
open Go Go.RowKit _root_.Go.Proofs.Tryz
abbrev dt(a:aS):Array Value:=#[.int .i64 a.1,.int .u64 (a.2.1:Int),.int .u64 (a.2.2:Int)]
abbrev ib(v:lN):Array Value:=#[.int .i64 v.id.1,.int .u64 (v.id.2.1:Int),.int .u64 (v.id.2.2:Int),.bool v.yes]
def oG:ei lN where
 size:=4
 rel v cs _:=cs=(ib v).toList
 len:=by rintro _ _ _ rfl;rfl
 one:=by rintro x _ _ rfl u j;simp at j;rcases j with rfl|rfl|rfl|rfl <;> rfl
 st:=by rintro _ _ _ _ h _;exact h
abbrev lA(m:fH)(v1 v2 v3 v4 v5 v6:Value):Array Value:=#[.int .i64 m.kind,.int .u64 (m.got:Int),v1,v2,v3,v4,v5,v6]
def mj(m:fH)(v:Value)(w:World):Prop:=∃y j B u t A,v=.agg (lA m y j B u t A)/\aq oG m.cU y w/\aq aV m.asks j w/\aq aV m.entries B w/\aq aV m.fe u w/\aq cd m.dQ t w/\aq cd m.ends A w
theorem X7{m v w w'}(h:mj m v w)(k:K w w'):mj m v w':=by obtain⟨B,t,u,A,y,G,e,F,D,j,E,C,h6⟩:=h;exact⟨B,t,u,A,y,G,e,bo F k,bo D k,bo j k,bo E k,bo C k,bo h6 k⟩
theorem acn a w :
 Calls prog 239 #[.agg (dt a)] w λe w'=>e=.returned (.bool (oy a))/\K w w':=by
 obtain⟨j,t,u⟩:=a
 have k1:=K.new w (.cells (dt (j,t,u)) 26)
 have HR:Hid (oy (j,t,u)=(decide (0<=j)&&decide (j<16))):=ae rfl
 generalize oy (j,t,u)=R at *
 by_cases h0:(0:Int)<=j
 ·by_cases h1:j<(16:Int)
  ·exact agk
  ·exact agk
 ·go_enter func239,ntmps239;go_wp2;go_ret;exact⟨by rw[HR.aa];simp;intro;omega,k1⟩
theorem aqv x w :
 Calls prog 238 #[.agg (ib x)] w λe w'=>e=.returned (.bool (sJ x))/\K w w':=by
 have u:=K.new w (.cells (ib x) 225)
 have A:Hid (sJ x=oy x.id):=ae rfl
 go_enter func238,ntmps238
 go_wp2_with fail
 generalize w.alloc _=t at *
 apply aM (acn x.id t)
 intro y j
 go_wp2
 go_ret
 exact⟨cV,u.tr j⟩
theorem arW x v w(h:dm x v w) :
 Calls prog 240 #[v] w λe w'=>e=.returned (.bool (bJ x))/\K w w':=by
 obtain⟨vf,H,rfl,u,t⟩:=h
 obtain⟨B,C,rfl⟩:=cA u
 obtain⟨A,E,rfl⟩:=av t
 have j:=K.new w (.cells (aE x (.slice B x.f.length C) (.slice A x.es.length E)) 126)
 have D:=ae (KB x _ _ ⟨_,_,rfl,eO _ _ _ _ u j,bo t j⟩)
 clear u t
 go_enter func240,ntmps240
 go_wp2_with fail
 generalize w.alloc _=G at *
 apply aM D.aa
 intro F y
 cases hok:bJ x
 ·rw[DH hok];go_wp2;go_ret;exact⟨by simp[hok],j.tr y⟩
 ·rw[KQ hok];go_wp2;go_ret;exact⟨by simp[hok],j.tr y⟩
theorem apc l v w(h:aq oG l v w) :
 Calls prog 242 #[v,.func (Fn.func 238) #[] #[]] w λe w'=>e=.returned (.bool (kY sJ l))/\K w w':=by
 obtain⟨A,c,rfl,J,M⟩:=h
 have HI:Hid (kY sJ l=(decide (l.length<=16)&&l.all sJ)):=ae rfl
 generalize kY sJ l=R at *
 have kk:=K.rf w
 go_enter func242,ntmps242
 by_cases im:l.length<=16
 rotate_left
 ·exact Wb
 have yS:¬(16:Int)<(l.length:Int):=af
 go_wp2_with fail
 go_loopw [6,12] (fun _ i wr=>∃j:Nat,j<=l.length/\i=.int .i64 j/\Hid ((l.take j).all sJ=true)/\K w wr) (fun _ i _=>l.length-(intOf i).toNat)
 case atStart=>exact⟨0,af,rfl,ae aj,kk⟩
 case round =>
  clear kk;obtain⟨j,N,rfl,HT,kr⟩:=hrel;by_cases y:j<l.length
  ·have aP:(j:Int)<l.length:=af;obtain⟨E,D,cs,rfl,F,C,u,d⟩:=eB J j y ax;have HS:=ae (Im sJ l j y);generalize l[j]=x at *;obtain rfl:=C w (K.rf w);have u:∀W,K wr W->W.cell? ⟨E,D+j*4,none⟩=some (.int .i64 x.id.1):=λW kW=>u W (kr.tr kW)
   have d:∀W,K wr W->∀i,i<4->W.cell? ⟨E,D+j*4+i,none⟩=(ib x)[i]?:=λW kW i I=>(d W (kr.tr kW) i I).trans Array.getElem?_toList
   have kk:=K.rf wr;have t:=ai.new wr 225 (ib x);have H:=t.aU;clear F C;go_upto_region 6 with (fail);have G:=kr.tr H;generalize wr.alloc _=B at *;generalize wr.heap.size=L at *;have q:=t.cells;have kk:=K.rf B;clear u d t;go_wp2_with fail
   apply cG (aqv x B) G;intro Q O rm;cases hq:sJ x
   ·have HR:Hid (R=false):=ae (by
     have h1:(l.take (j+1)).all sJ=false:=Wc;rw[HI.aa,OT sJ l (j+1) h1];simp)
    exact Wd
   ·have nh:Hid ((l.take (j+1)).all sJ=true):=ae We;exact Wf
  ·exact Wg
theorem T7 l v w(h:aq aV l v w) :
 Calls prog 243 #[v,.func (Fn.func 240) #[] #[]] w λe w'=>e=.returned (.bool (kY bJ l))/\K w w':=by
 obtain⟨A,c,rfl,O,V⟩:=h
 have HI:Hid (kY bJ l=(decide (l.length<=16)&&l.all bJ)):=ae rfl
 generalize kY bJ l=R at *
 have kk:=K.rf w
 go_enter func243,ntmps243
 by_cases im:l.length<=16
 rotate_left
 ·exact Wb
 have yS:¬(16:Int)<(l.length:Int):=af
 go_wp2_with fail
 go_loopw [6,12] (fun _ i wr=>∃j:Nat,j<=l.length/\i=.int .i64 j/\Hid ((l.take j).all bJ=true)/\K w wr) (fun _ i _=>l.length-(intOf i).toNat)
 case atStart=>exact⟨0,af,rfl,ae aj,kk⟩
 case round =>
  clear kk;obtain⟨j,Y,rfl,HT,kr⟩:=hrel;by_cases B:j<l.length
  ·have aP:(j:Int)<l.length:=af;obtain⟨M,G,cs,rfl,S,E,u,d⟩:=eB O j B ax;have HS:=ae (Im bJ l j B);generalize l[j]=x at *;obtain⟨vf,Z,rfl,L,I⟩:=E w (K.rf w);obtain⟨H,F,rfl⟩:=cA L;obtain⟨C,J,rfl⟩:=av I;have u:∀W,K wr W->W.cell? ⟨M,G+j*8,none⟩=some (.int .i64 x.kind):=λW kW=>u W (kr.tr kW)
   have d:∀W,K wr W->∀i,i<8->W.cell? ⟨M,G+j*8+i,none⟩=(aE x (.slice H x.f.length F) (.slice C x.es.length J))[i]?:=λW kW i Q=>(d W (kr.tr kW) i Q).trans Array.getElem?_toList
   have kk:=K.rf wr;have t:=ai.new wr 126 (aE x (.slice H x.f.length F) (.slice C x.es.length J));have N:=t.aU;clear S E;go_upto_region 6 with (fail);have y:=kr.tr N;generalize wr.alloc _=D at *;generalize wr.heap.size=X at *;have q:=t.cells;have kk:=K.rf D;clear u d t;go_wp2_with fail
   apply cG (arW x _ D ⟨_,_,rfl,eO _ _ _ _ L y,bo I y⟩) y;intro U T rm;cases hq:bJ x
   ·have HR:Hid (R=false):=ae (by
     have h1:(l.take (j+1)).all bJ=false:=Wc;rw[HI.aa,OT bJ l (j+1) h1];simp)
    exact Wd
   ·have nh:Hid ((l.take (j+1)).all bJ=true):=ae We;exact Wf
  ·exact Wg
theorem aco l v w(h:aq cd l v w) :
 Calls prog 244 #[v,.func (Fn.func 239) #[] #[]] w λe w'=>e=.returned (.bool (kY oy l))/\K w w':=by
 obtain⟨A,c,rfl,J,M⟩:=h
 have HI:Hid (kY oy l=(decide (l.length<=16)&&l.all oy)):=ae rfl
 generalize kY oy l=R at *
 have kk:=K.rf w
 go_enter func244,ntmps244
 by_cases im:l.length<=16
 rotate_left
 ·exact Wb
 have yS:¬(16:Int)<(l.length:Int):=af
 go_wp2_with fail
 go_loopw [6,12] (fun _ i wr=>∃j:Nat,j<=l.length/\i=.int .i64 j/\Hid ((l.take j).all oy=true)/\K w wr) (fun _ i _=>l.length-(intOf i).toNat)
 case atStart=>exact⟨0,af,rfl,ae aj,kk⟩
 case round =>
  clear kk;obtain⟨j,N,rfl,HT,kr⟩:=hrel;by_cases y:j<l.length
  ·have aP:(j:Int)<l.length:=af;obtain⟨E,D,cs,rfl,F,C,u,d⟩:=eB J j y ax;have HS:=ae (Im oy l j y);generalize l[j]=x at *;obtain rfl:=C w (K.rf w);have u:∀W,K wr W->W.cell? ⟨E,D+j*3,none⟩=some (.int .i64 x.1):=λW kW=>u W (kr.tr kW)
   have d:∀W,K wr W->∀i,i<3->W.cell? ⟨E,D+j*3+i,none⟩=(dt x)[i]?:=λW kW i I=>(d W (kr.tr kW) i I).trans Array.getElem?_toList
   have kk:=K.rf wr;have t:=ai.new wr 26 (dt x);have H:=t.aU;clear F C;go_upto_region 6 with (fail);have G:=kr.tr H;generalize wr.alloc _=B at *;generalize wr.heap.size=L at *;have q:=t.cells;have kk:=K.rf B;clear u d t;go_wp2_with fail
   apply cG (acn x B) G;intro Q O rm;cases hq:oy x
   ·have HR:Hid (R=false):=ae (by
     have h1:(l.take (j+1)).all oy=false:=Wc;rw[HI.aa,OT oy l (j+1) h1];simp)
    exact Wd
   ·have nh:Hid ((l.take (j+1)).all oy=true):=ae We;exact Wf
  ·exact Wg
theorem ayt{m}(h:m.kind=1):AQ m=(m.entries.isEmpty&&m.fe.isEmpty&&m.dQ.isEmpty&&m.ends.isEmpty):=by grind [AQ]
theorem ayu{m}(h:m.kind=2):AQ m=(m.cU.isEmpty&&m.asks.isEmpty):=by grind [AQ]
theorem ayv{m}(h:¬m.kind=1)(j:¬m.kind=2):AQ m=false:=by grind [AQ]
theorem Q3{α:Type}{l:List α}(h:l.isEmpty=false):((l.length:Int)==0)=false:=by simp_all
theorem I9{α:Type}{l:List α}(h:l.isEmpty=true):((l.length:Int)==0)=true:=by grind
theorem ab2 m v w(h:mj m v w) :
 Calls prog 145 #[v] w λe w'=>e=.returned (.int .i64 (iU m))/\K w w':=by
 obtain⟨H,M,Q,G,C,E,rfl,j,h2,h3,h4,h5,h6⟩:=h
 have CV:=ae λW (kW:K w W)=>apc m.cU H W (bo j kW)
 have CA:=ae λW (kW:K w W)=>T7 m.asks M W (bo h2 kW)
 have CE:=ae λW (kW:K w W)=>T7 m.entries Q W (bo h3 kW)
 have CP:=ae λW (kW:K w W)=>T7 m.fe G W (bo h4 kW)
 have CB:=ae λW (kW:K w W)=>aco m.dQ C W (bo h5 kW)
 have CD:=ae λW (kW:K w W)=>aco m.ends E W (bo h6 kW)
 obtain⟨B,c1,rfl⟩:=av j
 obtain⟨N,c2,rfl⟩:=av h2
 obtain⟨O,c3,rfl⟩:=av h3
 obtain⟨I,c4,rfl⟩:=av h4
 obtain⟨D,c5,rfl⟩:=av h5
 obtain⟨J,A,rfl⟩:=av h6
 clear j h2 h3 h4 h5 h6
 have t:=ai.new w 156 (lA m (.slice B m.cU.length c1) (.slice N m.asks.length c2) (.slice O m.entries.length c3) (.slice I m.fe.length c4) (.slice D m.dQ.length c5) (.slice J m.ends.length A))
 have k1:=t.aU
 go_enter func145,ntmps145
 go_upto_region 2 with (fail)
 generalize w.alloc _=w1 at *
 have R:=t.cells
 have kk:=K.rf w1
 generalize w.heap.size=g at *
 clear t
 by_cases y:m.kind=1
 ·have rW:=ayt y;cases e3:m.entries.isEmpty
  ·exact agl
  have z3:=I9 e3;cases e4:m.fe.isEmpty
  ·exact agm
  have z4:=I9 e4;cases e5:m.dQ.isEmpty
  ·have F:=Q3 e5;have HQ:Hid (iU m=130):=ae (by unfold iU;rw[show ed m=false from by simp[ed,rW,e5]];rfl);exact Qg
  have F:=I9 e5;cases e6:m.ends.isEmpty
  ·have L:=Q3 e6;have HQ:Hid (iU m=130):=ae (by unfold iU;rw[show ed m=false from by simp[ed,rW,e6]];rfl);exact Qg
  have L:=I9 e6;have hK:AQ m=true:=aA;exact agn
 by_cases u:m.kind=2
 ·have rW:=ayu u;cases e3:m.cU.isEmpty
  ·exact agl
  have z3:=I9 e3;cases e4:m.asks.isEmpty
  ·exact agm
  have z4:=I9 e4;have hK:AQ m=true:=by rw[rW,e3,e4];rfl
  exact agn
 have hK:=ayv y u
 have HQ:Hid (iU m=130):=ae (by unfold iU;rw[show ed m=false from by simp[ed,hK]];rfl)
 go_wp2
 go_ret
 exact⟨nW,k1⟩
def fk(p:List Int):Bool:=decide (1<=p.length)&&decide (p.length<=16)&&decide (p[0]?=some (-1))&&(List.range p.length).all λn=>n==0||match p[n]? with|some q=>decide (0<=q)&&decide (q<(n:Int))|none=>true
def fA(p:List Int)(n:Int):Bool:=decide (0<=n)&&decide (n<(p.length:Int))
def nE(p:List Int)(n:Int):List Int:=((List.range p.length).filter λk=>decide (p[k]?=some n)).map λ(k:Nat)=>(k:Int)
def En(p:List Int)(n:Int):List Int:=if fA p n&&fk p then nE p n else []
def Da(p:List Int)(a:Int):Nat->Int->Bool
 | 0,_=>false
 | f+1,b=>if b<0 then false else if a=b then true else Da p a f ((p[b.toNat]?).getD (-1))
def Db(p:List Int)(a b:Int):Bool:=fA p a&&fA p b&&fk p&&Da p a (p.length+1) b
structure mc where
 cl:Int
 sub:Nat
 f:List dH
 deriving DecidableEq
def jA(s:mc)(x:aK):Int:=if iu s.cl x.cl != 0 then iu s.cl x.cl else iu s.sub x.sub
def uv(l:List mc)(x:aK):List mc :=
 if x.kind=2 then l.filter (λs=>decide (jA s x<0))++[⟨x.cl,x.sub,x.f⟩]++l.filter (λs=>decide (0<jA s x))
 else if x.kind=3 then l.filter (λs=>decide (jA s x<0))++l.filter (λs=>decide (0<jA s x))else l
def kV(l:List aK):List mc:=l.foldl (λo x=>if x.kind=1 then o else uv o x) []
def qR(l:List mc)(cs:List Int):List mc:=l.filter λs=>decide (s.cl∈cs)
def anyS(l:List mc)(e:List cZ):Bool:=l.any λs=>mO s.f e
def jE(l:List mc)(cs:List Int)(x:aK):aK:=if x.kind=1 then { x with es:=x.es.filter (anyS (qR l cs)) }else x
def oQ(l:List mc)(c:Int)(x:aK):List (List cZ):=if x.kind=1 then x.es.filter (anyS (qR l [c]))else []
def rJ(k:fH)(a:aS)(y:Bool):Bool:=k.cU.any λv=>decide (v=⟨a,y⟩)
def jo(kids:List fH)(a:aS):Int:=if kids.any (λk=>rJ k a false)then 2 else if kids.all (λk=>rJ k a true)then 1 else 0
def rF(kids:List fH)(o:List lN)(x:aK):List lN:=if jo kids (ar x)≠0/\o.length<16 then o++[⟨ar x,decide (jo kids (ar x)=1)⟩]else o
def mP(o:List lN)(a:aS):List lN:=if 16<=o.length then o else if o.any (λv=>decide (v.id=a))then o else o++[⟨a,false⟩]
def Ja(prom:List aK)(refused:List aS)(kids:List fH):List lN:=refused.foldl mP (prom.foldl (rF kids) [])
def jS(s:dA)(p:List aK×List aS)(x:aK):List aK×List aS :=
 if bV s.list (ar x)||bV s.prom (ar x)||dJ s.ab (ar x)||bV p.1 (ar x)||dJ p.2 (ar x)then p
 else if s.prom.length+p.1.length<6 then (p.1++[x],p.2)else (p.1,p.2++[ar x])
def oP(s:dA)(l:List aK):List aK×List aS:=l.foldl (jS s) ([],[])
def lT(s:dA)(op:List aK)(o:List aS)(v:lN):List aS :=
 if 16<=o.length then o else if dJ o v.id||bV s.list v.id||bV s.prom v.id||bV op v.id then o else o++[v.id]
def uA(s:dA)(op:List aK)(k:fH):List aS:=k.cU.foldl (lT s op) []
def pJ(s:dA)(p:List aK×List aK)(x:aK):List aK×List aK :=
 if bV s.list (ar x)||dJ s.ab (ar x)||bV p.1 (ar x)||bV p.2 (ar x)then p
 else if x.kind≠1 then (p.1,p.2++[x])else if p.1.length<4 then (p.1++[x],p.2)else p
def oR(s:dA)(op asks:List aK):List aK×List aK:=asks.foldl (pJ s) (op,[])
def Ev(op:List aK)(kids:List fH):List aK:=op.filter λx=>decide (jo kids (ar x)=1)
def Dc(op:List aK)(kids:List fH):List aS:=(op.filter λx=>decide (jo kids (ar x)=2)).map ar
def qJ(ab:List aS)(o:List aS)(x:aK):List aS:=if o.length<16/\dJ ab (ar x)=true/\dJ o (ar x)=false then o++[ar x]else o
def uB(ab:List aS)(asks:List aK):List aS:=asks.foldl (qJ ab) []
def yL(l:List aK)(n:Nat):List aK:=(l.drop n).take 4
structure pC where
 eZ:List Rec
 room:Nat
def xV(b:List UInt8):Nat:=6+b.length
def ir(l:List Rec):Nat:=(l.map λr=>xV (bL r)).sum
def uC(d:pC)(r:Rec):Bool:=decide ((bL r).length<=4000)&&decide (ir d.eZ+xV (bL r)<=d.room)
structure aZ where
 me:Int
 par:List Int
 ah:List Int
 st:dA
 aC:List eI
 calls:Nat
 bO:List (Int×fH)
 refused:List aS
 told:List aS
 waits:List aK
 dk:pC
def vX(B:aZ)(c:Int):Bool:=decide (0<=c)&&decide (c<(B.ah.length:Int))&&decide (B.ah[c.toNat]?=some B.me)
def mT(B:aZ):Bool:=decide (B.me=0)
def iX(B:aZ)(k:Int):fH:=((B.bO.find? λp=>decide (p.1=k)).map (·.2)).getD uH
def oT(l:List (Int×fH))(k:Int)(m:fH):List (Int×fH):=if l.any (λp=>decide (p.1=k))then l.map λp=>if p.1=k then (k,m)else p else l++[(k,m)]
def oo(B:aZ):List Int:=En B.par B.me
def dy(B:aZ):List fH:=(oo B).map (iX B)
def ue(B:aZ)(a:aS):Bool:=dJ B.told a||dJ B.st.ab a
def Cf(B:aZ):List aS:=B.st.ab++B.told
def km(B:aZ)(o:List aK)(x:aK):List aK:=if bV o (ar x)||bV B.st.list (ar x)||ue B (ar x)||decide (16<=o.length)then o else o++[x]
def lU(B:aZ):List aK:=(dy B).foldl (λo k=>k.asks.foldl (km B) o) ((jb B.aC).foldl (km B) [])
def dz(B:aZ)(r:Rec):aZ×Bool :=
 if dR r&&uC B.dk r then (match dZ B.st r with
  | none=>(B,false)
  | some t=>({ B with st:=t,dk:=⟨B.dk.eZ++[r],B.dk.room⟩,aC:=if r.kind=2 then fX B.aC (ar r.e)else B.aC },true))
 else (B,false)
def mX(n:Nat)(x:aK):Rec:=⟨2,n,x,0,0,0⟩
def jF(k:Int)(a:aS):Rec:=⟨k,0,dD,a.1,a.2.1,a.2.2⟩
def uI(x:aK):Rec:=⟨3,0,x,0,0,0⟩
def mU(B:aZ)(x:aK):aZ×Bool:=dz B (mX B.st.list.length x)
def nY(B:aZ)(a:aS):aZ×Bool:=if (dz B (jF 4 a)).2 then ({ (dz B (jF 4 a)).1 with aC:=fX (dz B (jF 4 a)).1.aC a },true)else (B,false)
def lE(kids:List fH)(p:aZ×List aK)(x:aK):aZ×List aK :=
 if jo kids (ar x)=1 then (if (mU p.1 x).2 then ((mU p.1 x).1,p.2)else (p.1,p.2++[x]))
 else if jo kids (ar x)=2 then (if (nY p.1 (ar x)).2 then ((nY p.1 (ar x)).1,p.2)else (p.1,p.2++[x]))
 else (p.1,p.2++[x])
def yM(B:aZ):aZ:=(oR B.st B.waits (lU B)).2.foldl (λb x=>(mU b x).1) B
def oq(B:aZ):aZ×List aK:=(oR B.st B.waits (lU B)).1.foldl (lE (dy B)) (yM B,[])
def gB(B:aZ):aZ:=if mT B then { (oq B).1 with waits:=(oq B).2 }else B
def mA(B:aZ)(j:Nat):List aK->aZ
 | []=>B
 | x :: r=>if j=B.st.list.length then (if (dz B (mX j x)).2 then mA (dz B (mX j x)).1 ((j+1)%18446744073709551616) r else B)
  else mA B ((j+1)%18446744073709551616) r
def jy(B:aZ)(a:aS):aZ:=if bV B.st.prom a then (dz B (jF 5 a)).1 else B
def nF(B:aZ)(a:aS):aZ:=if ue B a then B else jy { B with told:=B.told++[a],aC:=fX B.aC a } a
def i7(p:aZ×List aS)(x:aK):aZ×List aS:=if (dz p.1 (uI x)).2 then ((dz p.1 (uI x)).1,p.2)else (p.1,p.2++[ar x])
def mY(B:aZ)(l:List aK):List aK:=l.filter λx=>!dJ B.told (ar x)
def uJ(B:aZ)(l:List aK):List aS:=(l.filter λx=>dJ B.told (ar x)).map ar
def tC(B:aZ)(l:List aK):aZ×List aS:=(oP B.st (mY B l)).1.foldl i7 (B,uJ B l++(oP B.st (mY B l)).2)
def wh(B:aZ)(l:List aK):aZ:={ (tC B l).1 with refused:=(tC B l).2 }
def rK(B:aZ)(m:fH):aZ:=wh (m.ends.foldl jy (m.dQ.foldl nF (mA B m.got m.entries))) m.fe
def tJ(B:aZ):Int:=(B.par[B.me.toNat]?).getD (-1)
def iC(B:aZ)(j:Int)(b:List UInt8):aZ×Int :=
 if decide (j∈oo B)||(!mT B&&decide (j=tJ B))then
  (match tI b with
   | none=>(B,130)
   | some m=>if decide (j∈oo B)&&decide (m.kind=1)then (gB { B with bO:=oT B.bO j m },0)
    else if (!mT B&&decide (j=tJ B))&&decide (m.kind=2)then (rK B m,0)else (B,201))
 else (B,201)
def vT(B:aZ)(k:Int):List Int:=((List.range B.ah.length).filter λc=>match B.ah[c]? with|some h=>Db B.par k h|none=>false).map λ(c:Nat)=>(c:Int)
def AG(B:aZ)(cs:List Int)(n:Nat)(l:List aK):List aK:=l.zipIdx.map λp=>jE (kV (B.st.list.take (n+p.2))) cs p.1
def pN(B:aZ)(k:Int):Nat:=min (iX B k).got B.st.list.length
def uh(B:aZ)(k:Int):fH :=
 ⟨2,pN B k,[],[],AG B (vT B k) (pN B k) (yL B.st.list (pN B k)),((if mT B then B.waits else B.st.prom).take 16).map (jE (kV B.st.list) (vT B k)),uB (Cf B) (iX B k).asks,uA B.st B.waits (iX B k)⟩
def Ad(B:aZ):fH:=⟨1,B.st.list.length,Ja B.st.prom B.refused (dy B),lU B,[],[],[],[]⟩
def jG(B:aZ):aS:=(B.me,B.st.life,B.calls+1)
def jq(B:aZ)(c:Int)(j:List eI×Int):aZ×aS×Int :=
 if vX B c then (if j.2=0 then ({ B with aC:=j.1,calls:=B.calls+1 },jG B,0)else (B,(0,0,0),j.2))else (B,(0,0,0),200)
def tz(B:aZ)(c:Int):aZ×aS×Int:=jq B c (vW B.aC (jG B) c)
def rT(B:aZ)(k c:Int)(n:Nat)(f:List dH):aK:=⟨k,B.me,B.st.life,B.calls+1,c,n,f,[]⟩
def yX(B:aZ)(c:Int)(n:Nat)(f:List dH):aZ×aS×Int:=jq B c (xJ B.aC (rT B 2 c n f))
def fK(B:aZ)(r:List eI×Int):aZ×Int:=if r.2=0 then ({ B with aC:=r.1 },0)else (B,r.2)
def FZ(B:aZ)(a:aS):Int :=
 if bV B.st.list a then 3 else if ue B a then 4 else if (tB B.aC a).2 then (if (tB B.aC a).1.asked then 2 else 1)else 0
def nG(c:Int):List aK->List mc->Nat->List (List cZ)×Nat
 | [],_,n=>([],n)
 | x :: r,s,n=>if oQ s c x=[]then nG c r (if x.kind=1 then s else uv s x) (n+1)else (oQ s c x,n+1)
def ot(B:aZ)(c j:Int):List (List cZ)×Int×Int :=
 if vX B c then (if 0<=j/\j<=(B.st.list.length:Int)then ((nG c (B.st.list.drop j.toNat) (kV (B.st.list.take j.toNat)) j.toNat).1,((nG c (B.st.list.drop j.toNat) (kV (B.st.list.take j.toNat)) j.toNat).2:Int),0)else ([],0,1))else ([],0,200)
def bP(s:dA):dA:=⟨(s.life+1)%18446744073709551616,s.list,s.prom,s.ab⟩
def jt(p ah:List Int):Bool:=decide (1<=ah.length)&&decide (ah.length<=32)&&ah.all (fA p)
theorem ints_at{p A w}(u:zf cQ p A w)(y:0<p.length) :
 ∃b j,A=some ⟨b,j,none⟩/\∀W,K w W->∀i (t:i<p.length),W.cell? ⟨b,j+i,none⟩=some (.int .i64 p[i]):=by
 obtain⟨b,j,cs,rfl,-,-,-,-⟩:=eB u 0 y ax
 refine⟨b,j,rfl,λW k i t=>?_⟩
 obtain⟨F,E,B,e,-,D,C,-⟩:=eB u i t ax
 injection e with e
 injection e with e1 e2
 subst e1 e2
 have h:=C W k
 rw[show B=AO p[i]from D W k]at h
 simpa [cQ]using h
def xE(p:List Int):Int:=if fk p then 0 else 120
theorem zX{p}:fk p=true↔1<=p.length/\p.length<=16/\p[0]?=some (-1)/\∀n (h:n<p.length),1<=n->0<=p[n]/\p[n]<(n:Int):=by
 simp only[fk,dC,decide_eq_true_eq,xC,List.mem_range,Bool.or_eq_true,beq_iff_eq,and_assoc]
 grind
theorem sA{p}(h:fk p=true):1<=p.length/\p.length<=16:=⟨(zX.1 h).1,(zX.1 h).2.1⟩
theorem KD p v w(h:aq cQ p v w)(hn:p.length<=1000000) :
 Calls prog 40 #[v] w λe w'=>e=.returned (.int .i64 (xE p))/\K w w':=by
 obtain⟨A,c,rfl,E,-⟩:=h
 have u:Hid (xE p=if fk p then 0 else 120):=ae rfl
 generalize xE p=R at *
 have no:Hid (∀_:¬fk p=true,R=120):=ae λh=>by rw[u.aa,if_neg h]
 have yes:Hid (∀_:fk p=true,R=0):=ae λh=>by rw[u.aa,if_pos h]
 have kk:=K.rf w
 clear u
 go_enter func40,ntmps40
 by_cases h0:p.length<1
 ·have S:(p.length:Int)<1:=af;exact ago
 have S:¬(p.length:Int)<1:=af
 by_cases t:16<p.length
 ·have M:16<(p.length:Int):=af;exact ago
 have M:¬16<(p.length:Int):=af
 obtain⟨b,N,rfl,y⟩:=ints_at E af
 have G:0<p.length:=af
 have aEP:0<(p.length:Int):=af
 have X:w.cell? ⟨b,N,none⟩=some (.int .i64 p[0]):=y w kk 0 G
 have C:=ae (List.getElem?_eq_getElem G)
 have L:=ae (y w kk)
 clear y E
 generalize p[0]=H at *
 by_cases h2:H=-1
 rotate_left
 ·have EI:(H != -1)=true:=yB;have HR:=ae (no.aa λh=>by have:=(zX.1 h).2.2.1;rw[C.aa]at this;injection this with this;exact h2 this);clear h2;exact yE
 subst h2
 go_wp2_with fail
 go_loop [3] (fun i=>∃j:Nat,1<=j/\j<=p.length/\i=.int .i64 j/\Hid (∀n (h:n<p.length),1<=n->n<j->0<=p[n]/\p[n]<(n:Int))) (fun i=>p.length-(intOf i).toNat)
 case atStart=>exact⟨1,af,af,rfl,ae λn _ t h2=>af⟩
 case round =>
  obtain⟨j,J,Z,rfl,F⟩:=hrel;by_cases B:j<p.length
  ·have U:(j:Int)<p.length:=af;have Y:=L.aa j B;have T:Hid (0<=p[j]/\p[j]<(j:Int)->∀n (h:n<p.length),1<=n->n<j+1->0<=p[n]/\p[n]<(n:Int)):=ae λh n hn t h2=>by
    by_cases e:n=j
    ·subst e;exact h
    ·exact F.aa n hn t af
   have I:Hid (¬(0<=p[j]/\p[j]<(j:Int))->R=120):=ae λh=>no.aa λQ=>h ((zX.1 Q).2.2.2 j B J)
   generalize p[j]=D at *;by_cases V:D<0
   ·have HR:=ae (I.aa af);exact yE
   by_cases W:(j:Int)<=D
   ·have HR:=ae (I.aa af);exact yE
   have O:=ae (T.aa af);go_wp2;go_round
   case rel=>exact⟨j+1,af,af,bI,O⟩
   case measure=>simp[intOf];omega
  ·have U:¬(j:Int)<p.length:=af;have HR:=ae (yes.aa (zX.2 ⟨af,af,C.aa,λn hn t=>F.aa n hn t af⟩));exact yE
def sS(p:List Int)(n:Int):Bool:=fA p n&&fk p
theorem Uh p n v w(h:aq cQ p v w)(hn:p.length<=1000000) :
 Calls prog 252 #[v,.int .i64 n] w λe w'=>e=.returned (.bool (sS p n))/\K w w':=by
 have j:=ae λW (k:K w W)=>KD p v W (bo h k) hn
 obtain⟨A,c,rfl,B,-⟩:=h
 have HC:Hid (sS p n=((decide (0<=n)&&decide (n<(p.length:Int)))&&fk p)):=ae rfl
 have t:Hid (xE p=if fk p then 0 else 120):=ae rfl
 generalize sS p n=R at *
 generalize xE p=T at *
 have kk:=K.rf w
 go_enter func252,ntmps252
 by_cases h0:0<=n
 rotate_left
 ·have HR:Hid (R=false):=ae agp;have y:n<0:=af;clear j;exact yE
 by_cases h1:n<(p.length:Int)
 rotate_left
 ·have HR:Hid (R=false):=ae (by rw[HC.aa];simp[h1]);clear j;exact yE
 have HR:Hid (R=fk p):=ae Wh
 clear HC
 go_wp2_with fail
 apply aM (j.aa w kk)
 intro u k1
 cases ho:fk p
 ·obtain rfl:T=120:=by rw[t.aa,ho];rfl
  have iQ:Hid (R=false):=ae (by rw[HR.aa,ho]);clear ho HR t j;go_wp2;exact Qh
 ·obtain rfl:T=0:=by rw[t.aa,ho];rfl
  have iQ:Hid (R=true):=ae (by rw[HR.aa,ho]);clear ho HR t j;go_wp2;exact Qh
theorem atJ p a b v w(h:aq cQ p v w)(hn:p.length<=1000000) :
 Calls prog 254 #[v,.int .i64 a,.int .i64 b] w λe w'=>e=.returned (.bool (Db p a b))/\K w w':=by
 have F:=ae λW (k:K w W)=>Uh p a v W (bo h k) hn
 have y:=ae λW (k:K w W)=>Uh p b v W (bo h k) hn
 obtain⟨A,c,rfl,B,-⟩:=h
 have HC:Hid (Db p a b=(sS p a&&sS p b&&Da p a (p.length+1) b)):=ae (by unfold Db sS;cases fA p a <;> cases fA p b <;> cases fk p <;> rfl)
 generalize Db p a b=R at *
 have D:Hid (sS p b=true->fk p=true/\0<=b/\b<(p.length:Int)):=ae axf
 have u:Hid (sS p a=true->fk p=true):=ae (by unfold sS;simp)
 have H:=K.rf w
 go_enter func254,ntmps254
 go_wp2
 go_step3
 go_wp2_with fail
 apply aM (F.aa w H)
 intro M k1
 cases JL:sS p a
 ·have HR:Hid (R=false):=ae (by rw[HC.aa,JL];rfl);clear JL;exact agq
 have N:=ae (u.aa JL)
 go_wp2_with fail
 apply aM (y.aa M k1)
 intro G C
 replace k1:=k1.tr C
 cases pg:sS p b
 ·have HR:Hid (R=false):=ae agr;clear JL pg;exact agq
 have HR:Hid (R=Da p a (p.length+1) b):=ae agr
 obtain⟨-,Y,S⟩:=D.aa pg
 obtain⟨V,U,rfl,E⟩:=ints_at B af
 have I:=ae E
 clear JL pg HC D u F y E B C
 go_wp2_with fail
 go_step3
 go_wp2_with fail
 go_loop [2,7] (fun t L=>∃(f:Nat) (n:Int),t=.int .i64 n/\L=.bool false/\-1<=n/\n<(p.length:Int)/\n+1<(f:Int)/\Hid (R=Da p a f n)) (fun t _=>(intOf t+1).toNat)
 case atStart=>exact⟨p.length+1,b,rfl,rfl,af,af,af,HR⟩
 case round =>
  clear HR;obtain⟨f,n,rfl,rfl,dq,kJ,hf,HR⟩:=hrel;obtain⟨f,rfl⟩:∃O,f=O+1:=⟨f-1,af⟩;by_cases Q:0<=n
  ·by_cases j:a=n
   ·subst j;have iQ:Hid (R=true):=ae (by rw[HR.aa,Da,if_neg (by omega),if_pos rfl]);go_wp2;try rw[iq]
    exact Qh
   ·have Z:(a==n)=false:=by simpa using j
    obtain⟨m,rfl⟩:=Int.eq_ofNat_of_zero_le Q;have hm:m<p.length:=af;have cm:=I.aa G k1 m hm;have iQ:Hid (R=Da p a f p[m]):=ae (by rw[HR.aa,Da,if_neg (by omega),if_neg j];simp[hm]);have J:-1<=p[m]/\p[m]<(m:Int):=by
     have ho:=zX.1 N.aa
     by_cases h1:m=0
     ·grind
     grind
    clear j HR;generalize p[m]=q at *;obtain⟨T,X⟩:=J;go_wp2;go_round
    case rel=>exact⟨f,q,rfl,rfl,af,af,af,iQ⟩
    case measure=>simp[intOf];omega
  ·have h0':n<0:=af;have iQ:Hid (R=false):=ae (by rw[HR.aa,Da,if_pos (by omega)]);go_wp2;try rw[iq]
   exact Qh
section
open Go Go.RowKit Go.Shelf
attribute [local go_sem] Oper.semAt_some
def yJ(p:List Int)(n:Int)(j:Nat):List Int:=((List.range j).filter λk=>decide (p[k]?=some n)).map λ(k:Nat)=>(k:Int)
theorem aqw(p:List Int)(n:Int)(j:Nat)(h:j<p.length):yJ p n (j+1)=yJ p n j++(if p[j]=n then [(j:Int)]else []):=by
 unfold yJ;rw[List.range_succ,List.filter_append,List.map_append];congr 1;by_cases e:p[j]=n
 ·rw[if_pos e,List.filter_cons_of_pos (by simpa [h]using e)];rfl
 ·rw[if_neg e,List.filter_cons_of_neg (by simpa [h]using e)];rfl
theorem arX p n j(h:j<=p.length):yJ p n j <+: nE p n:=by
 unfold yJ nE
 have:List.range p.length=List.range j++(List.range (p.length-j)).map (j+·):=by rw[show p.length=j+(p.length-j) by omega,List.range_add];simp
 grind
theorem atK p n:(nE p n).length<=p.length:=by
 grind [nE]
def EV(B b:Nat)(W W':World):Prop:=W'.heap[B]?=W.heap[B]?/\W'.heap[b]?=W.heap[b]?
theorem EV.tr{B b W W' j}(h:EV B b W W')(k:EV B b W' j):EV B b W j:=⟨k.1.trans h.1,k.2.trans h.2⟩
theorem atL l D u b F c p n(J H:List Int->World->Prop)
 (T:∀pre x W,J pre W->pre.length<(nE p n).length->YieldAt Fence.wide 4 prog l #[.int .i64 x] W λe W' =>
  (e=.returned (.bool true)/\J (pre++[x]) W'/\EV u b W W')∨(e=.returned (.bool false)/\H (pre++[x]) W'))
 W (R:W.cell? ⟨D,0,none⟩=some (.slice (some ⟨b,F,none⟩) p.length c)) (L:W.cell? ⟨u,0,none⟩=some (.int .i64 n))
 (M:∀i (hi:i<p.length),W.cell? ⟨b,F+i,none⟩=some (.int .i64 p[i])) (hlen:p.length<=1000000) (N:J [] W) :
 CallsIn Fence.wide 5 prog 292 #[.func (.yield l) #[] #[],.pointer (some ⟨D,0,none⟩),.pointer (some ⟨u,0,none⟩)] W λe W'=>(∃v,e=.returned v) /\
  ((∃O,O=nE p n/\J O W')∨(∃pre,pre <+: nE p n/\H pre W')):=by
 refine callsIn_of_wp func292 rfl trivial ?_ rfl
 simp only[ntmps292,List.size_toArray,fg,List.length_nil,Nat.reduceAdd,Nat.reduceSub,Array.replicate_succ,Array.replicate_zero,List.push_toArray,List.append_toArray,aO,aR]
 gi_wp2
 gi_loopw [4,5,8] (λ_ _ i wr=>∃j:Nat,i=.int .i64 j/\j<=p.length/\J (yJ p n j) wr/\EV u b W wr) (λ_ _ i _=>p.length-(intOf i).toNat)
 case atStart=>exact⟨0,rfl,af,N,rfl,rfl⟩
 case round =>
  obtain⟨j,rfl,hj,t,hk⟩:=hrel;by_cases C:j<p.length
  ·have U:(j:Int)<p.length:=af;have Y:=(World.cell?_of_block hk.2).trans (M j C);have c2:=(World.cell?_of_block hk.1).trans L;have G:=aqw p n j C;have hp:=arX p n (j+1) af;have y:=ae G;have B:=ae hp;clear G hp R L M N;generalize p[j]=q at *;by_cases e:q=n
   ·subst e;have A:Hid (yJ p q (j+1)=yJ p q j++[(j:Int)]):=ae (by rw[y.aa,if_pos rfl]);obtain⟨fn,tmps,assign,body,hy,S⟩:=T (yJ p q j) j wr t (by have:=B.aa.length_le;rw[A.aa]at this;simp at this;omega);clear y;gi_wp2;refine S.mono ?_;rintro e Z (⟨rfl,E,Q⟩|⟨rfl,I⟩)
    ·rw[<- A.aa]at E;gi_wp2;go_roundw
     case rel=>exact⟨j+1,bI,af,E,hk.tr Q⟩
     case measure=>simp[intOf];omega
    ·rw[<- A.aa]at I;gi_wp2;refine bodyPost_ret (results_none rfl _ _ _) rfl ?_;exact⟨⟨_,rfl⟩,.inr ⟨_,B.aa,I⟩⟩
   ·have X:(q==n)=false:=B4;rw[show yJ p n j=yJ p n (j+1) by rw[y.aa,if_neg e];simp]at t;clear y B e;gi_wp2;refine⟨(λf V=>by cases V),?_⟩;gi_wp2;go_roundw
    case rel=>exact⟨j+1,bI,af,t,hk⟩
    case measure=>simp[intOf];omega
  ·have U:¬(j:Int)<p.length:=af;obtain rfl:j=p.length:=af;gi_wp2;go_end0;first|exact⟨⟨_,rfl⟩,.inl ⟨_,rfl,t⟩⟩|exact⟨⟨_,rfl⟩,.inl t⟩|exact t|exact .inl t
end
section
open Go Go.RowKit Go.Shelf
attribute [local go_sem] Oper.semAt_some
abbrev Mj(l:List Int):List Value:=l.map λn=>Value.int .i64 n
theorem ayw:(prog.info? 3).map (λi=>(i.zero,i.size,i.bytes))=some (some (.int .i64 0),1,8):=by rfl
theorem De:fY prog 23 3 (.int .i64 0) 1 8:=⟨underlying23,ayw,rfl,ax⟩
theorem avU{base v l W}(h:W.ownsRow base 3 1 v l.length (Mj l)):aB (λk=>k<base) base 3 cQ l v W :=
 ⟨l.map AO,by rw[UY];exact h,aj,λw' _=>FG l w'⟩
theorem aqx(p:List Int) n A c w :
 Calls prog 253 #[.slice A p.length c,.int .i64 n] w λe w'=>e=.returned (.func (.func 292) #[] #[.pointer (some ⟨w.heap.size,0,none⟩),.pointer (some ⟨w.heap.size+1,0,none⟩)])/\w'=(w.alloc (.cells #[.slice A p.length c] 23)).alloc (.cells #[.int .i64 n] 3):=by
 go_enter func253,ntmps253
 go_wp2
 go_ret
 exact⟨aj,rfl⟩
theorem aqy p n v w(h:aq cQ p v w)(hn:p.length<=1000000) :
 Calls prog 159 #[v,.int .i64 n] w λe w'=>∃v',e=.returned v'/\aB (λk=>k<w.heap.size) w.heap.size 3 cQ (En p n) v' w'/\K w w':=by
 have C1:=ae λW (k:K w W)=>Uh p n v W (bo h k) hn
 obtain⟨A,c,rfl,hl,-⟩:=h
 have T:Hid (En p n=if sS p n then nE p n else []):=ae rfl
 have Y:Hid (sS p n=true->0<p.length):=ae axg
 generalize En p n=R at *
 have kk:=K.rf w
 refine (callsIn_wide (n:=6)).1 ?_
 refine callsIn_of_wp_marks func159 rfl trivial ?_ rfl
 simp only[ntmps159,List.size_toArray,fg,List.length_nil,Nat.reduceAdd,Nat.reduceSub,Array.replicate_succ,Array.replicate_zero,List.push_toArray,List.append_toArray,aO,aR]
 gi_wp2_with fail
 refine⟨trivial,(callsIn_wide.2 (C1.aa w kk)).mono ?_⟩
 rintro e E⟨rfl,U⟩
 cases hb:sS p n
 ·have HR:Hid (R=[]):=ae (by rw[T.aa,hb];rfl);clear hb;gi_wp2;exact⟨_,results_tmp rfl _ _ _,_,rfl,by rw[HR.aa];exact aB.nil _ _ _ _ _,U⟩
 have HR:Hid (R=nE p n):=ae (by rw[T.aa,hb];rfl)
 obtain⟨b,y,rfl,hcell⟩:=ints_at hl (Y.aa hb)
 have dP:b<w.heap.size:=K0 (hcell w kk 0 (Y.aa hb))
 have wW:=ae hcell
 clear hb T Y C1 hl hcell
 gi_wp2_with fail
 refine⟨trivial,(callsIn_wide.2 (aqx p n _ c _)).mono ?_⟩
 rintro e C⟨rfl,rfl⟩
 have O:=((Boxed.new E 23 (.slice none 0 0)).alloc (.cells #[.slice (some ⟨b,y,none⟩) p.length c] 23)).alloc (.cells #[.int .i64 n] 3)
 have Z:=(Boxed.new (E.alloc (.cells #[.slice none 0 0] 23)) 23 (.slice (some ⟨b,y,none⟩) p.length c)).alloc (.cells #[.int .i64 n] 3)
 have F:=Boxed.new ((E.alloc (.cells #[.slice none 0 0] 23)).alloc (.cells #[.slice (some ⟨b,y,none⟩) p.length c] 23)) 3 (.int .i64 n)
 have k2:K w (((E.alloc (.cells #[.slice none 0 0] 23)).alloc (.cells #[.slice (some ⟨b,y,none⟩) p.length c] 23)).alloc (.cells #[.int .i64 n] 3)):=((U.al _).al _).al _
 have hz2:(((E.alloc (.cells #[.slice none 0 0] 23)).alloc (.cells #[.slice (some ⟨b,y,none⟩) p.length c] 23)).alloc (.cells #[.int .i64 n] 3)).heap.size=E.heap.size+1+1+1:=aj
 simp only[World.size_alloc]at Z F⊢
 have hz1:=U.size
 have azW:=ae (wW.aa _ k2)
 generalize ((E.alloc (.cells #[.slice none 0 0] 23)).alloc (.cells #[.slice (some ⟨b,y,none⟩) p.length c] 23)).alloc (.cells #[.int .i64 n] 3)=C at *
 generalize hg:E.heap.size=B0 at *
 have HG:=ae hg
 have HZ:=ae hz2
 clear hg hz2 wW
 gi_wp2_with fail
 refine wpIn_rangeFunc_ownF rfl af (gf:=292) (lb:=#[.pointer (some ⟨B0+1,0,none⟩),.pointer (some ⟨B0+1+1,0,none⟩)]) rfl trivial (enters_of func292 fB rfl)
  (encs:=λx:Int=>#[.int .i64 x]) (Kp:=EV (B0+1+1) b) (S:=λys=>ys=nE p n) (Sp:=λpre=>pre <+: nE p n) (N:=(nE p n).length) (w0:=C)
  (λl J Jx W L _ _ hY h0=>atL l (B0+1) (B0+1+1) b y c p n J Jx hY W ((World.cell?_of_block (L.block _ Z.lt)).trans Z.cell) ((World.cell?_of_block (L.block _ F.lt)).trans F.cell)
   (λi V=>(World.cell?_of_block (L.block _ (show b<_ by have:=k2.size;omega))).trans (azW.aa i V)) hn h0)
  (λh k=>h.tr k) (λW l o o' h1 _ _ _=>⟨World.putObj_heap_other (by have:=F.lt;omega),World.putObj_heap_other (by have:=k2.size;omega)⟩) (cT _ _) (λ_=>rfl)
  (λpre W=>∃v,Boxed W B0 23 v/\W.ownsRow C.heap.size 3 1 v pre.length (Mj pre)/\Below w.heap.size w W/\C.heap.size<=W.heap.size)
  (λ_ _ _=>False) ?own (λ_ _ _ _ _ hs _ _=>hs) ⟨_,O,kU _ _ _ _,k2,aD _⟩
  (λx=>{ tmps:=#[.slice (some ⟨b,y,none⟩) p.length c,.int .i64 n,undef,undef,.slice none 0 0,.pointer (some ⟨B0,0,none⟩),.int .i64 x,.slice (some ⟨b,y,none⟩) p.length c,.int .i64 n,.bool true,.bool false,.slice (some ⟨b,y,none⟩) p.length c,.int .i64 n,.func (.func 292) #[] #[.pointer (some ⟨B0+1,0,none⟩),.pointer (some ⟨B0+1+1,0,none⟩)],.int .i64 x,undef,undef,undef,undef,undef],defers:=[] }) ?assign ?body ?done ?stop
 case own => exact ags
 case assign => intro l x W K hK;gi_wp2;exact hK
 case body =>
  rintro l pre x W⟨v,hv,hrow,hB,M6⟩ hpl;have q:=hv.cell;have hul:=atK p n;have Je:=qG hrow (.cells #[.int .i64 x] 3);have aN:=ai.new W 3 #[.int .i64 x];obtain⟨i,V,hz0,ix,gM⟩:=De.fit;gi_wp2_with (gi_at_builtin;refine wpListIn_append_own _ rfl _ _ 23 rfl C.heap.size 3 i (.int .i64 0) 1 8 underlying23 V hz0 ix gM rfl ax v pre.length (Mj pre) rfl Je ⟨W.heap.size,0,none⟩ 1 1 [.int .i64 x] rfl rfl ?c1 ?c2 ?c3 ?c4 ?c5 ?_)
  case c1 =>
   intro j u G;have:j=0:=by
    grind
   subst this;have h:=aN.cell 0;simp at G⊢;rw[<- G];simp[Addr.add]
  case c2=>intro u G;simp at G;subst G;rfl
  case c3=>unfold maxLen;omega
  case c4=>omega
  case c5=>simp;omega
  intro v' w' hown' M _;obtain⟨g',cap',H⟩:∃g cap,v'=.slice (some ⟨g,0,none⟩) (pre.length+1) cap:=agt;rw[H]at hown'⊢;clear H;obtain⟨v',H⟩:∃v',v'=Value.slice (some ⟨g',0,none⟩) (pre.length+1) cap':=⟨_,rfl⟩;rw[<- H]at hown';have hne:some B0≠v.ownBlock:=λe=>by have:=(hrow.lt B0 e.symm).1;have:=O.lt;omega
  have Q:=(hv.alloc _).kept M hne;have q1:=Q.cell;have z1:=Q.frozen;have Mk:v'.ownBlock≠some B0:=λe=>by have:=(hown'.lt B0 e).1;have:=O.lt;omega
  have u :=
   ((ag.aT ((K.rf W).al (.cells #[.int .i64 x] 3)) _).tr (ag.eU M λg hg=>.inr (Je.lt g hg).1)).tr (ag.bM (X:=λk=>k=B0∨C.heap.size<=k) (.inl rfl) 0 v')
  have Sl:KeepsOthers W (w'.setCell ⟨B0,0,none⟩ v'):=by refine ((KeepsOthers.alloc W (.cells #[.int .i64 x] 3)).trans (KeepsOthers.of_grownBy M λj o ej hj=>?_)).trans (KeepsOthers.setCell _ _ _);exact agu
  have I:Boxed (w'.setCell ⟨B0,0,none⟩ v') B0 23 v'/\(w'.setCell ⟨B0,0,none⟩ v').ownsRow C.heap.size 3 1 v' (pre++[x]).length (Mj (pre++[x]))/\Below w.heap.size w (w'.setCell ⟨B0,0,none⟩ v')/\C.heap.size<=(w'.setCell ⟨B0,0,none⟩ v').heap.size:=by
   refine⟨Q.set v',?_,⟨u.os.trans hB.os,u.tape.trans hB.tape,u.output.trans hB.output,bn hB.size u.size,λk hk=>(u.block k (bz hk hB.size) λh=>?_).trans (hB.block k hk)⟩,bn M6 u.size⟩
   ·exact agv
   ·have:=k2.size;omega
  have GJ:EV (B0+1+1) b W (w'.setCell ⟨B0,0,none⟩ v'):=by have h2:=F.lt;have h3:=k2.size;exact⟨u.block _ af af,u.block _ af af⟩
  subst H;gi_wp2;exact⟨Sl,GJ,_,I.1,I.2.1,I.2.2.1,I.2.2.2⟩
 case done =>
  rintro D ys W hD rfl⟨v,hv,hrow,hB,M6⟩ hK;have q:=hv.cell;have hr:(W.putObj D (.deferred none)).ownsRow w.heap.size 3 1 v (nE p n).length (Mj (nE p n)):=FJ (mN k2.size hrow) λg _ _ h2=>World.putObj_heap_other λe=>by exact agw
  have HV:=ae (avU hr);have HI:=ae (belowK_b (n₀:=w.heap.size) (w:=C) k2.size W D _ (.deferred none) hD hK rfl rfl);gi_wp2;refine⟨aj,.inl ⟨_,_,rfl,run_takeDeferred hK,?_⟩⟩;exact⟨_,results_tmp rfl _ _ _,_,rfl,by rw[HR.aa];exact HV.aa,hB.trans HI.aa⟩
 case stop => simp
end
section
open Go Go.RowKit Go.Shelf
attribute [local go_sem] Oper.semAt_some
theorem aqz b w :
 Calls prog 260 #[.map (some b)] w λe w'=>e=.returned (.func (.func 299) #[] #[.pointer (some ⟨w.heap.size,0,none⟩)])/\w'=w.alloc (.cells #[.map (some b)] 160):=by
 go_enter func260,ntmps260
 go_wp2
 go_ret
 exact⟨aj,rfl⟩
theorem aez{α:Type}:∀(L:List α) (i:Nat) (h:i<L.length),(L[i] :: L.eraseIdx i).Perm L
 | [],i,h=>xy
 | x :: l,0,_=>aj
 | x :: l,i+1,h=>by have j:i<l.length:=BX;simp only[List.getElem_cons_succ,List.eraseIdx_cons_succ];exact (List.Perm.swap _ _ _).trans ((aez l i j).cons x)
theorem arY{α:Type}{pre L M:List α}(h:(pre++L).Perm M) i(j:i<L.length):(pre++[L[i]]++L.eraseIdx i).Perm M:=by refine List.Perm.trans ?_ h;rw[eu];exact List.Perm.append_left pre (aez L i j)
theorem atM l E b ak(J I:List aS->World->Prop)
 (hY:∀pre x W,J pre W->pre.length<ak.length->YieldAt Fence.wide 4 prog l #[mD x] W λe W' =>
  (e=.returned (.bool true)/\J (pre++[x]) W'/\KeepsWalks W W')∨(e=.returned (.bool false)/\I (pre++[x]) W'))
 W (u:AbidesFrom W.heap.size J) (h1:W.cell? ⟨E,0,none⟩=some (.map (some b))) (hm:eC mD W b ak) (h0:J [] W) :
 CallsIn Fence.wide 5 prog 299 #[.func (.yield l) #[] #[],.pointer (some ⟨E,0,none⟩)] W λe W'=>(∃v,e=.returned v) /\
  ((∃j:List aS,j.Perm (ak.map (·.1))/\J j W')∨(∃pre:List aS,True/\I pre W')):=by
 refine callsIn_of_wp func299 rfl trivial ?_ rfl
 simp only[ntmps299,List.size_toArray,fg,List.length_nil,Nat.reduceAdd,Nat.reduceSub,Array.replicate_succ,Array.replicate_zero,List.push_toArray,List.append_toArray,aO,aR]
 gi_wp2_with (first|(gi_at_range;refine aoG _ rfl _ 160 rfl _ _ underlying160 b ak rfl hm ?_;intro w0 dc T hs0)|gi_in)
 go_frame
 generalize hB:W.heap.size=B at *
 clear hB
 gi_loopw [3,6,7,8,9,10,11,12,13] (λ_ _ _ _ _ _ _ _ _ wr=>∃(j L:List aS),sH mD wr b B ak L/\(j++L).Perm (ak.map (·.1))/\J j wr) (λ_ _ _ _ _ _ _ _ _ wr=>wr.rangeLeft b B)
 case atStart=>exact⟨[],_,dc,aj,u [] W w0 none h0 T (λr e=>DV)⟩
 case round =>
  obtain⟨j,L,A,hp,R⟩:=hrel;gi_wp2_with (first|(gi_at_next;refine aoQ _ rfl _ rfl b B ak L rfl A ?_ ?_)|gi_in)
  ·intro Y;subst Y;gi_wp2;go_end0;grind
  ·intro i hi v t C G Q U;have F:=u j wr t (some B) R G (λr e=>by cases e;exact⟨aD _,A.walk⟩);have V:=arY hp i hi;have Z:j.length<ak.length:=by have:=hp.length_eq;simp at this;omega
   generalize S:L.eraseIdx i=y at *;have ew:y.length<L.length:=aA;generalize L[i]=x at *;have N:J j (t.alloc (.cells (dt x) 26)):=u j t _ none F (World.grownBy_alloc _ _ _) (λr e=>DV);have X:sH mD (t.alloc (.cells (dt x) 26)) b B ak y:=C.walks (KeepsWalks.of_grownBy (World.grownBy_alloc _ _ none) (λ_ _ e=>DV));obtain⟨fn,tmps,assign,body,hy,H⟩:=hY j x _ N Z;obtain⟨x0,x1,x2⟩:=x;simp only[mD]at U hy H⊢;clear Q G F C S;gi_wp2;refine H.mono ?_;rintro e W3 (⟨rfl,M,O⟩|⟨rfl,YC⟩)
   ·gi_wp2;have D:=X.walks O;go_roundw
    case rel=>exact⟨_,y,D,V,M⟩
    case measure=>rw[D.left,A.left];exact ew
   ·gi_wp2;refine bodyPost_ret (results_none rfl _ _ _) rfl ?_;grind
end
section
open Go Go.RowKit Go.Shelf
attribute [local go_sem] Oper.semAt_some
theorem axh{W W' g t cs}(h:ai W g t cs){row}(hg:W.grownBy W' row)(u:∀r,row=some r->∃o:Obj,W.heap[r]?=some o/\o.isCells=false):ai W' g t cs :=
 (hg.block g h.lt λe=>by
  obtain⟨o,j,y⟩:=u g e.symm;unfold ai at h;rw[h]at j;cases j;cases y).trans h
theorem aoR b G ak w(h1:w.cell? ⟨G,0,none⟩=some (.map (some b)))(hm:eC mD w b ak)(hlen:ak.length<=1000000) :
 Calls prog 317 #[.slice none 0 0,.func (.func 299) #[] #[.pointer (some ⟨G,0,none⟩)]] w λe w'=>∃(v':Value) (H:List aS),e=.returned v'/\H.Perm (ak.map (·.1))/\w'.ownsRow w.heap.size 26 3 v' H.length (H.flatMap fw)/\K w w':=by
 have M:=Boxed.new w 44 (.slice none 0 0)
 have k2:=K.new w (.cells #[.slice none 0 0] 44)
 have hz2:(w.alloc (.cells #[.slice none 0 0] 44)).heap.size=w.heap.size+1:=aj
 have hm2:=hm.st k2
 have GZ:G<w.heap.size:=K0 h1
 have h12:=(k2.cell (p:=⟨G,0,none⟩) GZ).trans h1
 refine (callsIn_wide (n:=6)).1 ?_
 refine callsIn_of_wp_marks func317 rfl trivial ?_ rfl
 simp only[ntmps317,List.size_toArray,fg,List.length_nil,Nat.reduceAdd,Nat.reduceSub,Array.replicate_succ,Array.replicate_zero,List.push_toArray,List.append_toArray,aO,aR]
 gi_wp2_with fail
 generalize w.alloc _=F at *
 generalize hg:w.heap.size=B0 at M⊢
 have HG:=ae hg
 have HZ:=ae hz2
 clear hg hz2 hm h1
 have hb2:=hm2.lt
 have EH:G<F.heap.size:=K0 h12
 refine wpIn_rangeFunc_ownH rfl af (gf:=299) (lb:=#[.pointer (some ⟨G,0,none⟩)]) rfl trivial (enters_of func299 fB rfl)
  (encs:=λx:aS=>#[mD x]) (Kp:=KeepsWalks) (S:=λH:List aS=>H.Perm (ak.map λp:aS×Value=>p.1)) (Sp:=λ_=>True) (N:=ak.length) (w0:=F)
  (λl J Jx W hW hJ _ hY h0=>atM l G b ak J Jx hY W hJ ((hW.cell (p:=⟨G,0,none⟩) EH).trans h12) (hm2.st hW) h0)
  walksK_t walksK_b (cT _ _) (λ_=>rfl)
  (λpre W=>∃v,Boxed W B0 44 v/\W.ownsRow F.heap.size 26 3 v pre.length (pre.flatMap fw)/\Below w.heap.size w W/\F.heap.size<=W.heap.size)
  (λ_ _ _=>False) ?own (λ_ _ _ _ _ Z _ _=>Z) ⟨_,M,kU _ _ _ _,k2,aD _⟩
  (λx U W=>∃I,F.heap.size<=I/\ai W I 26 (dt x)/\U={ tmps:=#[.slice none 0 0,.func (.func 299) #[] #[.pointer (some ⟨G,0,none⟩)],.pointer (some ⟨B0,0,none⟩),undef,.slice none 0 0,.pointer (some ⟨I,0,none⟩),.func (.func 299) #[] #[.pointer (some ⟨G,0,none⟩)],.agg (dt x),undef,undef,undef,undef,undef],defers:=[] })
  (λx U _ X Y row Z hg hr=>by obtain⟨I,Q,T,g3⟩:=Z;exact⟨I,Q,axh T hg λr e=>(hr r e).2,g3⟩) ?assign ?body ?done ?stop
 case own => exact ags
 case assign => rintro l pre⟨E,C,y⟩ W K ⟨v,hv,hrow,hB,hz⟩ hK;have Q:KeepsOthers W (W.alloc (.cells (dt (E,C,y)) 26)):=KeepsOthers.alloc _ _;have T:=qG hrow (.cells (dt (E,C,y)) 26);have g3:=hB.alloc hB.size (.cells (dt (E,C,y)) 26);have g4:=hv.alloc (.cells (dt (E,C,y)) 26);have g5:=ai.new W 26 (dt (E,C,y));simp only[mD];gi_wp2;exact hK _ _ (Q.from _) Q.walks ⟨v,g4,T,g3,ba⟩ ⟨W.heap.size,hz,g5,rfl⟩
 case body =>
  rintro l pre⟨E,C,y⟩ U W hl ⟨r,hr⟩ ⟨v,hv,hrow,hB,M6⟩ ⟨I,hBx,bX,rfl⟩ hpl;have q:=hv.cell;have q2:=bX.cells;have q3:=q2 W (K.rf W);have Je:=qG hrow (.cells (dt (E,C,y)) 26);have aN:=ai.new W 26 (dt (E,C,y));obtain⟨i,hi,hz0,ix,gM⟩:=wU.fit;have kk:=K.rf W;gi_wp2_with (gi_at_builtin;refine wpListIn_append_own _ rfl _ _ 44 rfl F.heap.size 26 i _ 3 24 underlying44 hi hz0 ix gM rfl ax v pre.length (pre.flatMap fw) rfl Je ⟨W.heap.size,0,none⟩ 1 1 (fw (E,C,y)) rfl rfl ?c1 ?c2 ?c3 ?c4 ?c5 ?_)
  case c1 => intro j u R;have h:=aN.cell j;rw[show (dt (E,C,y))[j]?=(fw (E,C,y))[j]? by simp,R]at h;rw[show (⟨W.heap.size,0,none⟩:Addr).add j=⟨W.heap.size,j,none⟩ by cases j <;> simp[Addr.add]];exact h
  case c2=>intro u R;simp at R;rcases R with rfl|rfl|rfl <;> rfl
  case c3=>unfold maxLen;omega
  case c4=>omega
  case c5=>simp;omega
  intro v' w' hown' V _;obtain⟨g',cap',L⟩:∃g cap,v'=.slice (some ⟨g,0,none⟩) (pre.length+1) cap:=agt;rw[L]at hown'⊢;clear L;obtain⟨v',L⟩:∃v',v'=Value.slice (some ⟨g',0,none⟩) (pre.length+1) cap':=⟨_,rfl⟩;rw[<- L]at hown';have hne:some B0≠v.ownBlock:=λe=>by have:=(hrow.lt B0 e.symm).1;have:=M.lt;omega
  have wV:=(hv.alloc _).kept V hne;have q1:=wV.cell;have z1:=wV.frozen;have Mk:v'.ownBlock≠some B0:=λe=>by have:=(hown'.lt B0 e).1;have:=M.lt;omega
  have u :=
   ((ag.aT ((K.rf W).al (.cells (dt (E,C,y)) 26)) _).tr (ag.eU V λg hg=>.inr (Je.lt g hg).1)).tr (ag.bM (X:=λk=>k=B0∨F.heap.size<=k) (.inl rfl) 0 v')
  have Sl:KeepsOthers W (w'.setCell ⟨B0,0,none⟩ v'):=by refine ((KeepsOthers.alloc W (.cells (dt (E,C,y)) 26)).trans (KeepsOthers.of_grownBy V λj o ej hj=>?_)).trans (KeepsOthers.setCell _ _ _);exact agu
  have O:Boxed (w'.setCell ⟨B0,0,none⟩ v') B0 44 v'/\(w'.setCell ⟨B0,0,none⟩ v').ownsRow F.heap.size 26 3 v' (pre++[(E,C,y)]).length ((pre++[(E,C,y)]).flatMap fw)/\Below w.heap.size w (w'.setCell ⟨B0,0,none⟩ v')/\F.heap.size<=(w'.setCell ⟨B0,0,none⟩ v').heap.size:=by
   refine⟨wV.set v',?_,⟨u.os.trans hB.os,u.tape.trans hB.tape,u.output.trans hB.output,bn hB.size u.size,λk hk=>(u.block k (bz hk hB.size) λh=>?_).trans (hB.block k hk)⟩,bn M6 u.size⟩
   ·exact agv
   ·have:=k2.size;have:=HG.aa;omega
  subst L;gi_wp2;exact⟨Sl.from _,Sl.walks,_,O.1,O.2.1,O.2.2.1,O.2.2.2⟩
 case done =>
  rintro D H W hD hp⟨v,hv,hrow,hB,M6⟩ hK;have q:=hv.cell;have hr:(W.putObj D (.deferred none)).ownsRow w.heap.size 26 3 v H.length (H.flatMap fw):=FJ (mN k2.size hrow) λg _ _ h2=>World.putObj_heap_other λe=>by exact agw
  have HV:=ae hr;have HI:=ae (belowK_b (n₀:=w.heap.size) (w:=F) k2.size W D _ (.deferred none) hD hK rfl rfl);have HP:=ae hp;clear hp hr;gi_wp2;refine⟨aj,.inl ⟨_,_,rfl,run_takeDeferred hK,?_⟩⟩;exact⟨_,results_tmp rfl _ _ _,_,H,rfl,HP.aa,fP,hB.trans HI.aa⟩
 case stop => simp
end
