/-
  Transactions in plain Lean (layer 17): what each call makes of them, and what stays as it was. Conditions: none.
-/
import Derived.Test.YtfndfpdhlbmboaaGreatMq02
import Derived.Test.YtfndfpdhlbmboaaGreatMqz
set_option maxRecDepth 100000
set_option maxHeartbeats 16000000
set_option linter.all false
namespace Go.Proofs.YtfndfpdhlbmboaaGreat
open Go Go.RowKit _root_.Go.Proofs.Tryz
structure eo where
 e:aL
 asked:Bool
 deriving DecidableEq
def kL(x:aL):aT:=(x.br,x.life,x.bY)
def ajW(x:aL):List UInt8:=if bH x then ei x else []
def r9(x:aL):Bool:=decide (3000<(ajW x).length)
def nV(a:aT)(t:eo):Bool:=decide (kL t.e=a)
def iZ(l:List eo)(a:aT):Option Nat:=l.findIdx? (nV a)
def rX(l:List eo)(a:aT):Int:=match iZ l a with|some k=>(k:Int)|none=>-1
def pA(l:List eo)(a:aT):Option Nat:=match iZ l a with|some k=>if (l[k]?.map eo.asked)=some true then none else some k|none=>none
def AK(l:List eo)(a:aT):Int:=match pA l a with|some k=>(k:Int)|none=>-1
def vK(l:List eo)(t:eo):List eo×Int :=
 if (iZ l (kL t.e)).isSome then (l,170)else if bH t.e=false then (l,110)else if 8<=l.length then (l,171)else if r9 t.e then (l,172)else (l++[t],0)
def vL(a:aT)(c:Int):aL:=⟨1,a.1,a.2.1,a.2.2,c,0,[],[]⟩
def yG(l:List eo)(a:aT)(c:Int):List eo×Int:=vK l ⟨vL a c,false⟩
def mC(x:aL)(e:List cM):aL:={ x with es:=x.es++[e] }
def ie(l:List eo)(a:aT)(e:List cM):List eo×Int :=
 match pA l a with
 | none=>(l,170)
 | some k=>match l[k]? with
  | none=>(l,170)
  | some t=>if fN e=false then (l,40)else if 8<=t.e.es.length then (l,171)else if r9 (mC t.e e)then (l,172)else (l.set k ⟨mC t.e e,t.asked⟩,0)
def iH(l:List eo)(a:aT):List eo×Int :=
 match pA l a with
 | none=>(l,170)
 | some k=>match l[k]? with
  | none=>(l,170)
  | some t=>(l.set k ⟨t.e,true⟩,0)
def fE(l:List eo)(a:aT):List eo:=match iZ l a with|none=>l|some k=>l.eraseIdx k
def iW(l:List eo)(a:aT):List eo×Int:=if (pA l a).isSome then (fE l a,0)else (l,170)
def xv(l:List eo)(x:aL):List eo×Int:=vK l ⟨x,true⟩
def jj(l:List eo):List aL:=((l.filter eo.asked).map eo.e).take 4
def vM:eo:=⟨dC,false⟩
def sQ(l:List eo)(a:aT):eo×Bool:=match l.find? (nV a)with|some t=>(t,true)|none=>(vM,false)
structure ayY where
 kind:Int
 id:aT
 cl:Int
 e:List cM
 x:aL
def ajX(l:List eo)(c:ayY):List eo×Int :=
 if c.kind=1 then yG l c.id c.cl else if c.kind=2 then ie l c.id c.e else if c.kind=3 then iH l c.id else if c.kind=4 then iW l c.id
 else if c.kind=5 then xv l c.x else if c.kind=6 then (fE l c.id,0)else (l,0)
structure jx(l:List eo):Prop where
 len:l.length<=8
 each:∀t∈l,bH t.e=true/\cE t.e/\r9 t.e=false
 GK:∀(i j:Nat) (s t:eo),l[i]?=some s->l[j]?=some t->kL s.e=kL t.e->i=j
theorem KP{l a k}(h:iZ l a=some k):∃t,l[k]?=some t/\kL t.e=a/\∀j,j<k->∀s,l[j]?=some s->kL s.e≠a:=by
 grind [iZ,List.findIdx?_eq_some_iff_getElem,List.getElem?_eq_getElem,nV]
theorem acP{l a}(h:iZ l a=none):∀t∈l,kL t.e≠a:=by
 grind [iZ,kL,nV]
theorem aFb{l a}(B:jx l){k:Nat}{t}(hk:l[k]?=some t)(y:kL t.e=a):sQ l a=(t,true):=by
 unfold sQ
 cases hf:l.find? (nV a)with
 | none =>
  grind [kL,sQ,nV]
 | some s =>
  have u:kL s.e=a:=by grind [nV]
  obtain⟨j,A⟩:=List.mem_iff_getElem?.1 (List.mem_of_find?_eq_some hf)
  have:=B.GK j k s t A hk (u.trans y.symm)
  grind
theorem arn{l a}(h:∀t∈l,kL t.e≠a):sQ l a=(vM,false):=by
 grind [kL,sQ,vM,nV]
theorem O6{l a k}(h:pA l a=some k):∃t,l[k]?=some t/\kL t.e=a/\t.asked=false/\iZ l a=some k:=by
 grind [pA,KP]
theorem jx.nil:jx []:=⟨aj,aj,aj⟩
theorem jx.set{l}(B:jx l){k t u}(hk:l[k]?=some t)(I:kL u.e=kL t.e)(C:bH u.e=true/\cE u.e/\r9 u.e=false):jx (l.set k u):=by
 have:=(List.getElem?_eq_some_iff.1 hk).1;refine⟨by simpa using B.len,λs y=>?_,λi j s r y E L=>?_⟩
 ·rcases List.mem_or_eq_of_mem_set y with y|rfl
  ·exact B.each s y
  ·exact C
 ·have key:∀(i:Nat) (s:eo),(l.set k u)[i]?=some s->∃A,l[i]?=some A/\kL A.e=kL s.e:=by
   grind
  obtain⟨A,D,J⟩:=key i s y;obtain⟨F,G,M⟩:=key j r E;exact B.GK i j A F D G aB
theorem jx.snoc{l}(y:jx l){t}(h8:l.length<8)(hn:∀s∈l,kL s.e≠kL t.e)(G:bH t.e=true/\cE t.e/\r9 t.e=false):jx (l++[t]):=by
 refine⟨aB,λs u=>?_,λi j s r u B D=>?_⟩
 ·rcases List.mem_append.1 u with u|u
  ·exact y.each s u
  ·grind
 ·have key:∀(i:Nat) (s:eo),(l++[t])[i]?=some s->(i<l.length/\l[i]?=some s)∨(i=l.length/\s=t):=by
   grind
  rcases key i s u with ⟨E,A⟩|⟨rfl,rfl⟩
  ·rcases key j r B with ⟨F,C⟩|⟨rfl,rfl⟩
   ·exact y.GK i j s r A C D
   grind
  grind
theorem jx.erase{l}(u:jx l) k:jx (l.eraseIdx k):=by
 refine⟨bo (List.length_eraseIdx_le l k) u.len,λs t=>u.each s (List.mem_of_mem_eraseIdx t),λi j s r t y A=>?_⟩;rw[List.getElem?_eraseIdx]at t y;split at t <;> split at y
 ·exact u.GK i j s r t y A
 ·have:=u.GK i (j+1) s r t y A;omega
 ·have:=u.GK (i+1) j s r t y A;omega
 ·have:=u.GK (i+1) (j+1) s r t y A;omega
theorem P8{l}(j:jx l) t(u:cE t.e):jx (vK l t).1:=by
 unfold vK;split
 ·exact j
 ·rename_i A;split
  ·exact j
  ·rename_i y;split
   ·exact j
   ·split
    ·exact j
    ·rename_i h8 hb;have hn:iZ l (kL t.e)=none:=FJ;exact j.snoc af (acP hn) ⟨aB,u,aB⟩
theorem as3{x e}(h:bH x=true)(hk:x.kind=1)(h8:x.es.length<8)(j:fN e=true):bH (mC x e)=true:=by
 grind [bH,fN,mC]
theorem Vh{l}(hl:jx l) c(hi:bR c.id.1/\c.id.2.1<18446744073709551616/\c.id.2.2<18446744073709551616)(hc:bR c.cl)(R:∀a∈c.e,lU a)(y:cE c.x)
 (M:∀t∈l,t.asked=false->t.e.kind=1):jx (ajX l c).1:=by
 unfold ajX
 split
 ·exact P8 hl _ awI
 ·split
  ·unfold ie;split
   ·exact hl
   ·rename_i k hk;obtain⟨t,j,F,u,_⟩:=O6 hk;rw[j];simp only;split
    ·exact hl
    ·rename_i Q;split
     ·exact hl
     ·rename_i h8;split
      ·exact hl
      ·rename_i hb;obtain⟨H,C,O⟩:=hl.each t (List.mem_of_getElem? j);refine hl.set j rfl ⟨as3 H (M t (List.mem_of_getElem? j) u) af aB,?_,aB⟩;obtain⟨G,J,E,D,A,L,I,N⟩:=C;refine⟨G,J,E,D,A,L,I,?_⟩;intro e B;rcases List.mem_append.1 B with h|h;all_goals grind
  ·split
   ·unfold iH;split
    ·exact hl
    ·rename_i k hk;obtain⟨t,j,F,u,_⟩:=O6 hk;rw[j];exact hl.set j rfl (hl.each t (List.mem_of_getElem? j))
   ·split
    ·unfold iW;exact af1
    ·split
     ·exact P8 hl _ y
     ·exact af1
section
open Go Go.RowKit Go.ChangeShapes Go.WideShapes Go.ChangeAt
abbrev gP(t:eo)(vf ve:Value):Array Value:=#[.int .i64 t.e.kind,.int .i64 t.e.br,.int .u64 (t.e.life:Int),.int .u64 (t.e.bY:Int),.int .i64 t.e.cl,.int .u64 (t.e.sub:Int),vf,ve,.bool t.asked]
def cW:dV eo where
 size:=9
 rel t cs w:=∃vf j,cs=(gP t vf j).toList/\eI t.e.f vf w/\aq cI t.e.es j w
 len:=by rintro _ _ _⟨vf,j,rfl,_⟩;rfl
 one:=by rintro x _ _⟨vf,j,rfl,⟨A,c,rfl,_⟩,⟨D,d,rfl,_⟩⟩ u y;simp at y;rcases y with rfl|rfl|rfl|rfl|rfl|rfl|rfl|rfl|rfl <;> rfl
 st:=by rintro _ _ _ _⟨vf,j,rfl,B,C⟩ k;exact⟨vf,j,rfl,eu _ _ _ _ B k,bj C k⟩
def M6(t:eo)(v:Value)(w:World):Prop:=∃vf j,v=.agg (gP t vf j)/\eI t.e.f vf w/\aq cI t.e.es j w
end
def vN(B:Nat)(x:aL)(v:Value)(w:World):Prop:=∃vf j,v=.agg (aE x vf j)/\fQ w B vf x.f/\aV B B 51 cI x.es j w
theorem awJ{B x v w}(h:vN B x v w):∀w',aK B none w w'->vN B x v w':=by obtain⟨vf,t,e,j,y⟩:=h;exact λw' u=>⟨vf,t,e,j.up u,y.up (aD _) u⟩
theorem au7{B x v w}(h:vN B x v w):dx x v w:=by obtain⟨vf,t,e,j,u⟩:=h;exact⟨vf,t,e,xc j,u.aq⟩
theorem Ky x v w(h:dx x v w)(X:ew x) :
 Calls prog 184 #[v] w λe w'=>∃v',e=.returned v'/\vN w.heap.size x v' w'/\K w w':=by
 have V:=ae func184
 have R:=ae ntmps184
 have zR:=ae results184
 obtain⟨vf,ve,rfl,Y,he⟩:=h
 obtain⟨A,c,F,H⟩:=Y
 obtain rfl:=F
 obtain⟨D,d,F,he,T⟩:=he
 obtain rfl:=F
 obtain⟨S,N,I⟩:=X
 obtain⟨k,b,l,s,cl,u,f,es⟩:=x
 simp only at H he T S N I⊢
 have B:=(ah.new w 126 (aE ⟨k,b,l,s,cl,u,f,es⟩ (.slice A f.length c) (.slice D es.length d))).alloc (.cells eM 126)
 have C:=ah.new (w.alloc (.cells (aE ⟨k,b,l,s,cl,u,f,es⟩ (.slice A f.length c) (.slice D es.length d)) 126)) 126 eM
 have G:=K.kK w (.cells (aE ⟨k,b,l,s,cl,u,f,es⟩ (.slice A f.length c) (.slice D es.length d)) 126) (.cells eM 126)
 have hz:(w.alloc (.cells (aE ⟨k,b,l,s,cl,u,f,es⟩ (.slice A f.length c) (.slice D es.length d)) 126)).heap.size=w.heap.size+1:=aj
 rw[hz]at C
 have GM:=ae I
 go_enter V.aa,R.aa
 go_upto_region 1 with fail
 generalize World.alloc (World.alloc w _) _=w1 at *
 have O:=(H.below G (aD _)).more G.size
 have hr1:=C.lt
 have q:=B.cell
 have z:=B.frozen
 go_wp2_with (at_builtin;refine iM rfl _ _ 53 rfl w1.heap.size 73 _ 5 56 TF _ 0 [] rfl (jV _ _ _ _) _ A f.length c (f.flatMap fq) rfl O (Ij f) ?p1 (aD _) ?_)
 case p1=>omega
 intro L t J _ _ aR
 have E:=B.ay aR
 have Q:=C.ay aR
 have U:=G.tr aR
 obtain⟨A1,c1,rfl,-⟩:=(show fQ t w1.heap.size L f from J).slice
 have q:=E.cell
 have z:=E.frozen
 have Z:=aR.size
 go_upto_region 3 with fail
 have fM:ah (t.setCell ⟨w.heap.size,6,none⟩ (.slice A1 f.length c1)) w.heap.size 126 #[.int .i64 k,.int .i64 b,.int .u64 l,.int .u64 s,.int .i64 cl,.int .u64 u,.slice A1 f.length c1,.slice D es.length d]:=E.aP 6 (.slice A1 f.length c1)
 have dU:=Q.far (p:=⟨w.heap.size,6,none⟩) aj (.slice A1 f.length c1)
 have k3:K w (t.setCell ⟨w.heap.size,6,none⟩ (.slice A1 f.length c1)):=K.set U (aD _) 6 _
 have fL:fQ (t.setCell ⟨w.heap.size,6,none⟩ (.slice A1 f.length c1)) w1.heap.size (.slice A1 f.length c1) f:=fQ.up J (aK.set af 6 _)
 have sq:w.heap.size+1<(t.setCell ⟨w.heap.size,6,none⟩ (.slice A1 f.length c1)).heap.size:=Lr
 generalize t.setCell _ _=w3 at *
 have M:=K.rf w3
 have q:=fM.cell
 go_wp2_with fail
 go_loopw [3,5,13] (fun o _ i W=>∃j:Nat,j<=es.length/\i=.int .i64 j/\aV w3.heap.size w3.heap.size 51 cI (es.take j) o W/\K w3 W) (fun _ _ i _=>es.length-(intOf i).toNat)
 case atStart=>exact⟨0,af,rfl,FR,M⟩
 case round => exact Ls
theorem OY x v w(h:dx x v w)(X:ew x) :
 Calls prog 216 #[v] w λe w'=>∃v',e=.returned v'/\vN w.heap.size x v' w'/\K w w':=by
 have V:=ae func216
 have R:=ae ntmps216
 have zR:=ae results216
 obtain⟨vf,ve,rfl,Y,he⟩:=h
 obtain⟨A,c,F,H⟩:=Y
 obtain rfl:=F
 obtain⟨D,d,F,he,T⟩:=he
 obtain rfl:=F
 obtain⟨S,N,I⟩:=X
 obtain⟨k,b,l,s,cl,u,f,es⟩:=x
 simp only at H he T S N I⊢
 have B:=(ah.new w 126 (aE ⟨k,b,l,s,cl,u,f,es⟩ (.slice A f.length c) (.slice D es.length d))).alloc (.cells eM 126)
 have C:=ah.new (w.alloc (.cells (aE ⟨k,b,l,s,cl,u,f,es⟩ (.slice A f.length c) (.slice D es.length d)) 126)) 126 eM
 have G:=K.kK w (.cells (aE ⟨k,b,l,s,cl,u,f,es⟩ (.slice A f.length c) (.slice D es.length d)) 126) (.cells eM 126)
 have hz:(w.alloc (.cells (aE ⟨k,b,l,s,cl,u,f,es⟩ (.slice A f.length c) (.slice D es.length d)) 126)).heap.size=w.heap.size+1:=aj
 rw[hz]at C
 have GM:=ae I
 go_enter V.aa,R.aa
 go_upto_region 1 with fail
 generalize World.alloc (World.alloc w _) _=w1 at *
 have O:=(H.below G (aD _)).more G.size
 have hr1:=C.lt
 have q:=B.cell
 have z:=B.frozen
 go_wp2_with (at_builtin;refine iM rfl _ _ 53 rfl w1.heap.size 73 _ 5 56 TF _ 0 [] rfl (jV _ _ _ _) _ A f.length c (f.flatMap fq) rfl O (Ij f) ?p1 (aD _) ?_)
 case p1=>omega
 intro L t J _ _ aR
 have E:=B.ay aR
 have Q:=C.ay aR
 have U:=G.tr aR
 obtain⟨A1,c1,rfl,-⟩:=(show fQ t w1.heap.size L f from J).slice
 have q:=E.cell
 have z:=E.frozen
 have Z:=aR.size
 go_upto_region 3 with fail
 have fM:ah (t.setCell ⟨w.heap.size,6,none⟩ (.slice A1 f.length c1)) w.heap.size 126 #[.int .i64 k,.int .i64 b,.int .u64 l,.int .u64 s,.int .i64 cl,.int .u64 u,.slice A1 f.length c1,.slice D es.length d]:=E.aP 6 (.slice A1 f.length c1)
 have dU:=Q.far (p:=⟨w.heap.size,6,none⟩) aj (.slice A1 f.length c1)
 have k3:K w (t.setCell ⟨w.heap.size,6,none⟩ (.slice A1 f.length c1)):=K.set U (aD _) 6 _
 have fL:fQ (t.setCell ⟨w.heap.size,6,none⟩ (.slice A1 f.length c1)) w1.heap.size (.slice A1 f.length c1) f:=fQ.up J (aK.set af 6 _)
 have sq:w.heap.size+1<(t.setCell ⟨w.heap.size,6,none⟩ (.slice A1 f.length c1)).heap.size:=Lr
 generalize t.setCell _ _=w3 at *
 have M:=K.rf w3
 have q:=fM.cell
 go_wp2_with fail
 go_loopw [3,5,13] (fun o _ i W=>∃j:Nat,j<=es.length/\i=.int .i64 j/\aV w3.heap.size w3.heap.size 51 cI (es.take j) o W/\K w3 W) (fun _ _ i _=>es.length-(intOf i).toNat)
 case atStart=>exact⟨0,af,rfl,FR,M⟩
 case round => exact Ls
section
variable {α β:Type} {S:dV α} {S2:dV β} {Y Y' X:Nat->Prop} {base lo:Nat} {e e2:TypeId} {l:List α} {l2:List β} {v v2:Value} {w w':World}
theorem aC.to(h:aC Y base e S l v w)(u:ag X w w')(A:∀k,X k->Y k)(hn:∀k,v.ownBlock=some k->¬X k)(t:∀k,k<w.heap.size->Y' k->Y k∨v.ownBlock=some k):aC Y' base e S l v w':=by obtain⟨css,y,C,F⟩:=h;exact⟨css,iN y u λb G B=>hn b G B,C,λD E=>F D ((u.more λk hk=>.inl (A k hk)).gq E λk hk j=>j.elim (λj=>t k hk j) .inr)⟩
structure ly(lo base:Nat)(e:TypeId)(S:dV α)(l:List α)(v:Value)(e2:TypeId)(S2:dV β)(l2:List β)(v2:Value)(w:World):Prop where
 a:aC (λk=>k<lo∨v2.ownBlock=some k) base e S l v w
 b:aC (λk=>k<lo∨v.ownBlock=some k) base e2 S2 l2 v2 w
 ne:∀k,v.ownBlock=some k->v2.ownBlock=some k->False
 lo:lo<=base
theorem ly.st(h:ly lo base e S l v e2 S2 l2 v2 w)(k:K w w'):ly lo base e S l v e2 S2 l2 v2 w':=⟨h.a.st k,h.b.st k,h.ne,h.lo⟩
theorem ly.low{base'}(h:ly lo base e S l v e2 S2 l2 v2 w)(hb:base'<=base)(j:lo<=base'):ly lo base' e S l v e2 S2 l2 v2 w:=⟨h.a.low hb,h.b.low hb,h.ne,j⟩
theorem ly.swap(h:ly lo base e S l v e2 S2 l2 v2 w):ly lo base e2 S2 l2 v2 e S l v w:=⟨h.b,h.a,λk j t=>h.ne k t j,h.lo⟩
theorem ly.Yj(h:aC (λk=>k<lo) base e S l v w)(j:lo<=base):ly lo base e S l v e2 S2 ([]:List β) (.slice none 0 0) w :=
 ⟨h.less (Y':=λk=>k<lo∨(Value.slice none 0 0).ownBlock=some k) λk hk=>hk.elim id λh=>FT,aC.nil _ _ _ _ _,λk _ h=>FT,j⟩
theorem ly.push(h:ly lo base e S l v e2 S2 l2 v2 w){j y}(h9:aC (λk=>k<lo∨v2.ownBlock=some k) base e S y j w')(hg:w.grownBy w' v.ownBlock)(hb:j.ownBlock=v.ownBlock∨j.ownBlock=some w.heap.size):ly lo base e S y j e2 S2 l2 v2 w':=by
 have hz:=h.b.blk;refine⟨h9,h.b.to (X:=λk=>v.ownBlock=some k) (ag.eP hg λk e=>e) (λk hk=>.inr hk) (λk t u=>h.ne k u t) (λk hk A=>?_),λk t u=>?_,h.lo⟩
 ·grind
 ·rcases hb with hb|hb
  ·exact h.ne k (hb▸t) u
  grind
end
section
variable {α:Type} {S:dV α} {Y N:Nat->Prop} {base lo:Nat} {e:TypeId} {l:List α} {v:Value} {x:α} {w w' W:World}
theorem aC.own(h:aC Y base e S l v w){b}(hb:v.ownBlock=some b):base<=b/\b<w.heap.size/\∃cur,ah w b e cur :=
 ⟨(h.blk b hb).1,(h.blk b hb).2,h.elim λ_ h=>lO h.1 hb⟩
theorem ez.mut{row u}(h:ez N lo e S x u w)(k:w.grownBy w' row)(y:∀b,row=some b->N b/\b<lo):ez N lo e S x u w':=by obtain⟨g,cs,B,t,A,j⟩:=h;exact⟨g,cs,B,t,A.grown k λh=>aB,j.up (ag.eP (X:=λb=>row=some b) k λ_ h=>h) λb h=>(y b h).1⟩
theorem uv.mut{row u}(h:uv N S x u w)(k:w.grownBy w' row)(j:∀b,row=some b->N b):uv N S x u w' :=
 ⟨h.1,h.2.up (ag.eP (X:=λb=>row=some b) k λ_ h=>h) j⟩
abbrev rA(v:Value)(w W:World):Prop:=ag (λk=>v.ownBlock=some k) w W
theorem Fp{P:Program}{Q:Exit->Act->World->Prop}{id:Nat}{ops:Array Oper}{y:Act}(m z:Nat)(l:List α)(v:Value)(x:α)(F:TypeId){J:Value}{size bytes:Nat}(T:fS P F e J size bytes){s u:Operand}{o:Oper}{B:List Nat×List (Nat×Nat)}(C:List (List Nat×List (Nat×Nat)))(n:Nat)
 (O:aC Y base e S l v w) (hb:base<=w.heap.size) (hl:(l.length+1)*(bytes+1)<=140737488355328)
 (h:ar P y (rA v w) (λW W'=>W.grownBy W' v.ownBlock) [z] (λr xs t=>(∀v W,tab t z v W)/\(∀V W,rA v w W->(∀j∈B.1,tab t j (V j) W)->aF B.2 y V s=v/\ez (λk=>Y k∨v.ownBlock=some k) 0 e S x (aF B.2 y V u) W) /\
  ∀V W,rA v w W->aC Y base e S (l++[x]) (V z) W->(∀b,(V z).ownBlock=some b->v.ownBlock=some b∨w.heap.size<=b)->b6 V W 0 t->aH P y (λV W=>Q .normal (fT V ops.toList 0 y) W) m r xs V W) m ops.toList C [])
 (hz:ops[z]?=some o:=by rfl) (L:C[z]?=some B:=by rfl) (U:o.op=.call { callee:=.builtin .append,args:=#[s,u],argTypes:=#[F,F] }:=by rfl) (hg:o.guard=none:=by rfl) (X:S.size=size:=by rfl)
 (hn:y.tmps.size=n:=by rfl) (hm:P.follows .mixedOrders=true:=by kernel_rfl) (hok:rT ops n=true:=by kernel_rfl) (R:tQ ops C=true:=by kernel_rfl) (im:IV C m ops.size=true:=by kernel_rfl) (N:Ej C [z] m=true:=by kernel_rfl) (M:m<=ops.size:=by decide) :
 (Code.region id ops true).wp P Q y w :=
 OI m [z] (rA v w) (λW W'=>W.grownBy W' v.ownBlock) (λk vs W=>if k=0 then aC Y base e S l v W else ∃v',vs=[v']/\aC Y base e S (l++[x]) v' W/\∀b,v'.ownBlock=some b->v.ownBlock=some b∨w.heap.size<=b) C n
  (λ_ _ h k=>h.tr (ag.aU k _)) (λ_ _ h=>BU h _) (λk vs W W' h kW=>by
   split at h
   ·next D=>rw[if_pos D];exact h.st kW
   ·next D =>
    rw[if_neg D];obtain⟨v',A,G,I⟩:=h;exact⟨v',A,G.st kW,I⟩) (ag.rf _ _) (λ_=>O)
  (ar.imp (λr xs t ⟨D,G,I⟩=>⟨⟨⟨o,B,hz,L,hg,λV W hW hD hp=>by
   obtain⟨A,Z⟩:=G V W hW hp
   obtain⟨v',w',hrun,H,E,g3,-⟩:=adt (P:=P) (ρ:=aF B.2 y V) s u F o.type J size bytes T X A hD _ rfl x Z hl (bo hb hW.size)
   rw[U,hrun]
   exact⟨hW.tr (ag.eP E λ_ h=>h),E,⟨v',rfl,H,λb hb=>g3.elim (λh=>.inl (h▸hb)) λh=>.inr af2⟩,D _ _⟩⟩,trivial⟩,
   λV W hW ⟨v',A,H,E⟩ hA=>by
    injection A with A;subst A;exact I V W hW H E hA⟩) _ _ _ _ h) hn hm hok R im N aj M
end
theorem ar.Gp{P:Program}{D:Act}{R:World->Prop}{A:List Nat}{E:List Oper->List (List Nat×List (Nat×Nat))->List (Value->World->Prop)->Prop}{m:Nat}{o:Oper}{r:List Oper}{u:List Nat×List (Nat×Nat)}{xs:List (List Nat×List (Nat×Nat))}{t:List (Value->World->Prop)}{row:Option Nat}
 {α:Type} {S:dV α} {e:TypeId} {N:Nat->Prop} (lo:Nat) {B:TypeId} {z:Value} {size bytes:Nat} (T:fS P B e z size bytes) {C:Operand} (y:α) (M:∀W,R W->lo<=W.heap.size) (I:∀b,row=some b->N b/\b<lo)
 (h:∀(V:Nat->Value) (w:World),R w->(∀j∈u.1,tab t j (V j) w)->uv N S y (aF u.2 D V C) w)
 (k:ar P D R (λW W'=>W.grownBy W' row) A E m r xs (t++[ez N lo e S y])) (H:o.op=.buildSlice B 1 #[(0,C)]:=by rfl) (hg:o.guard=none:=by rfl) (Q:S.size=size:=by rfl) (G:size<=16777216:=by decide) (L:A.contains t.length=false:=by (simp only[dq,eQ,List.length_nil,List.contains_nil];try rfl)) :
 ar P D R (λW W'=>W.grownBy W' row) A E (m+1) (o :: r) (u :: xs) t:=by
 refine ar.op (ez N lo e S y) (λ_ _ _ h k=>h.mut k I) (λV w F hp=>?_) k L
 obtain⟨O,J⟩:=h V w F hp
 rw[hg,if_pos (show bO V none=true from rfl),H,acb (P:=P) (w:=w) B _ z size bytes T C rfl af G]
 exact⟨ez.new J lo (M w F),(K.rf w).al _⟩
theorem Ca{B x v w}(h:vN B x v w):∃vf y,v=.agg (aE x vf y)/\Fx (λk=>k<B) (λW=>aW.rel x (aE x vf y).toList W) w:=by have t:=h;obtain⟨vf,y,e,-,-⟩:=h;refine⟨vf,y,e,λW u=>?_⟩;obtain⟨D,C,j,A,t⟩:=au7 (awJ t W (u.rI λk A _ _ t=>af));rw[e]at j;injection j with j;exact⟨D,C,congrArg Array.toList j,A,t⟩
theorem Qa{B x v w N}(h:vN B x v w)(j:∀k,N k->k<B):uv N aW x v w:=by obtain⟨vf,u,rfl,t⟩:=Ca h;exact⟨rfl,t.less j⟩
theorem ayg:(prog.info? 126).map (λi=>(i.zero,i.size,i.bytes))=some (some (.agg eM),8,96):=by rfl
theorem oZ:fS prog 43 126 (.agg eM) 8 96:=⟨underlying43,ayg,rfl,ax⟩
theorem ayh:(prog.info? 26).map (λi=>(i.zero,i.size,i.bytes))=some (some (.agg #[.int .i64 0,.int .u64 0,.int .u64 0]),3,24):=by rfl
theorem wu:fS prog 44 26 (.agg #[.int .i64 0,.int .u64 0,.int .u64 0]) 3 24:=⟨underlying44,ayh,rfl,ax⟩
abbrev cJ(s:dy)(vl vp va:Value):Array Value:=#[.int .u64 (s.life:Int),vl,vp,va]
def nB(s:dy)(v:Value)(w:World):Prop:=∃vl vp va,v=.agg (cJ s vl vp va)/\aq aW s.list vl w/\aq aW s.prom vp w/\aq bZ s.ab va w
theorem LS{s v w w'}(h:nB s v w)(k:K w w'):nB s v w':=by obtain⟨vl,vp,va,e,j,u,t⟩:=h;exact⟨vl,vp,va,e,bj j k,bj u k,bj t k⟩
theorem ael(l:List aT):(l.map fG).flatten=l.flatMap fG:=by rfl
theorem Pz l W:Each bZ l (l.map fG) W:=⟨aj,λi h j=>by simp[bZ]⟩
def lG(M:Nat->Prop)(s:dy)(vl vp va:Value)(w:World):Prop:=Fx M (λW=>aq aW s.list vl W/\aq aW s.prom vp W/\aq bZ s.ab va W) w
theorem lG.sl{M s vl vp va w}(h:lG M s vl vp va w):(∃A c,vl=.slice A s.list.length c)/\(∃A c,vp=.slice A s.prom.length c)/\∃A c,va=.slice A s.ab.length c:=⟨av h.now.1,av h.now.2.1,av h.now.2.2⟩
def iC(base g:Nat)(vl vp va:Value)(k:Nat):Prop:=k<base∨k=g∨vl.ownBlock=some k∨vp.ownBlock=some k∨va.ownBlock=some k
structure eF(base g:Nat)(s:dy)(vl vp va:Value)(W:World):Prop where
 blk:ah W g 46 (cJ s vl vp va)
 low:base<=g
 l:aC (iC base g vl vp va) base 126 aW s.list vl W
 p:aC (iC base g vl vp va) base 126 aW s.prom vp W
 a:aC (iC base g vl vp va) base 26 bZ s.ab va W
 ne:∀b,vl.ownBlock=some b->vp.ownBlock≠some b
def zx(base g:Nat)(s:dy)(W:World):Prop:=∃vl vp va,eF base g s vl vp va W
section
variable {base g:Nat} {s:dy} {vl vp va v':Value} {W W':World}
theorem eF.st(h:eF base g s vl vp va W)(k:K W W'):eF base g s vl vp va W':=⟨h.blk.ay k,h.low,h.l.st k,h.p.st k,h.a.st k,h.ne⟩
theorem eF.lt(h:eF base g s vl vp va W)(hb:base<=W.heap.size) k(hk:iC base g vl vp va k):k<W.heap.size:=by
 have:=h.blk.lt
 have:=h.l.blk
 have:=h.p.blk
 have:=h.a.blk
 unfold iC at hk
 grind
theorem eF.nB(h:eF base g s vl vp va W):nB s (.agg (cJ s vl vp va)) W:=⟨vl,vp,va,rfl,h.l.aq,h.p.aq,h.a.aq⟩
theorem eF.sep(h:eF base g s vl vp va W) b:(vl.ownBlock=some b->base<=b/\b≠g/\vp.ownBlock≠some b/\va.ownBlock≠some b)/\(vp.ownBlock=some b->base<=b/\b≠g/\vl.ownBlock≠some b/\va.ownBlock≠some b)/\(va.ownBlock=some b->base<=b/\b≠g/\vl.ownBlock≠some b/\vp.ownBlock≠some b):=by
 have:=λe=>h.l.own (b:=b) e
 have:=λe=>h.p.own (b:=b) e
 have:=λe=>h.a.own (b:=b) e
 have:=h.ne b
 have hb:=h.blk
 have d1:∀ {cur cs},ah W b 126 cur->¬ah W b 26 cs:=λh k=>absurd (h.gY k) ax
 have d2:∀ {cur cs},ah W b 126 cur->¬ah W b 46 cs:=λh k=>absurd (h.gY k) ax
 have d3:∀ {cur cs},ah W b 26 cur->¬ah W b 46 cs:=λh k=>absurd (h.gY k) ax
 grind
theorem eF.xM{j y t X α S e}{l:List α}{v}(h:aC (iC base g vl vp va) base e S l v W)(u:ag X W W')(C:∀k,X k->iC base g vl vp va k)(B:∀k,v.ownBlock=some k->¬X k)
 (A:∀b,j.ownBlock=some b->vl.ownBlock=some b∨W.heap.size<=b∨v.ownBlock=some b) (D:∀b,y.ownBlock=some b->vp.ownBlock=some b∨W.heap.size<=b∨v.ownBlock=some b) (E:∀b,t.ownBlock=some b->va.ownBlock=some b∨W.heap.size<=b∨v.ownBlock=some b):aC (iC base g j y t) base e S l v W' :=
 h.to u C B λk hk F=>by
  unfold iC at *
  have:=A k
  have:=D k
  have:=E k
  grind
theorem eF.I8(h:eF base g s vl vp va W)(u:rA vl W W'){l}(A:aC (iC base g vl vp va) base 126 aW l v' W')(y:∀b,v'.ownBlock=some b->vl.ownBlock=some b∨W.heap.size<=b):eF base g ⟨s.life,l,s.prom,s.ab⟩ v' vp va (W'.setCell ⟨g,1,none⟩ v'):=by
 have us:ag (λk=>vl.ownBlock=some k∨k=g) W (W'.setCell ⟨g,1,none⟩ v'):=(u.more λ_ h=>.inl h).tr (ag.bK (X:=λk=>vl.ownBlock=some k∨k=g) (.inr rfl) _ _);have B:=h.sep;have hg:=h.blk.lt;have hp:=h.p.blk;refine⟨(h.blk.aX u λe=>((B g).1 e).2.1 rfl).aP 1 _,h.low,eF.xM A (ag.bK (X:=λk=>k=g) rfl _ _) (λk e=>.inr (.inl e)) (λk t j=>?_) (λb e=>.inr (.inr e)) (λb e=>.inl e) λb e=>.inl e,eF.xM h.p us (λk e=>?_) (λk t j=>?_) (λb e=>(y b e).imp id .inl) (λb e=>.inl e) λb e=>.inl e,eF.xM h.a us (λk e=>?_) (λk t j=>?_) (λb e=>(y b e).imp id .inl) (λb e=>.inl e) λb e=>.inl e,λb t j=>?_⟩;all_goals unfold iC at *
 all_goals grind
theorem eF.Yk(h:eF base g s vl vp va W)(u:rA vp W W'){l}(A:aC (iC base g vl vp va) base 126 aW l v' W')(y:∀b,v'.ownBlock=some b->vp.ownBlock=some b∨W.heap.size<=b):eF base g ⟨s.life,s.list,l,s.ab⟩ vl v' va (W'.setCell ⟨g,2,none⟩ v'):=by
 have us:ag (λk=>vp.ownBlock=some k∨k=g) W (W'.setCell ⟨g,2,none⟩ v'):=(u.more λ_ h=>.inl h).tr (ag.bK (X:=λk=>vp.ownBlock=some k∨k=g) (.inr rfl) _ _);have B:=h.sep;have hg:=h.blk.lt;have hp:=h.l.blk;refine⟨(h.blk.aX u λe=>((B g).2.1 e).2.1 rfl).aP 2 _,h.low,eF.xM h.l us (λk e=>?_) (λk t j=>?_) (λb e=>.inl e) (λb e=>(y b e).imp id .inl) λb e=>.inl e,eF.xM A (ag.bK (X:=λk=>k=g) rfl _ _) (λk e=>.inr (.inl e)) (λk t j=>?_) (λb e=>.inl e) (λb e=>.inr (.inr e)) λb e=>.inl e,eF.xM h.a us (λk e=>?_) (λk t j=>?_) (λb e=>.inl e) (λb e=>(y b e).imp id .inl) λb e=>.inl e,λb t j=>?_⟩;all_goals unfold iC at *
 all_goals grind
theorem eF.azJ(h:eF base g s vl vp va W)(u:rA va W W'){l}(A:aC (iC base g vl vp va) base 26 bZ l v' W')(j:∀b,v'.ownBlock=some b->va.ownBlock=some b∨W.heap.size<=b):eF base g ⟨s.life,s.list,s.prom,l⟩ vl vp v' (W'.setCell ⟨g,3,none⟩ v'):=by
 have us:ag (λk=>va.ownBlock=some k∨k=g) W (W'.setCell ⟨g,3,none⟩ v'):=(u.more λ_ h=>.inl h).tr (ag.bK (X:=λk=>va.ownBlock=some k∨k=g) (.inr rfl) _ _);have B:=h.sep;have hg:=h.blk.lt;refine⟨(h.blk.aX u λe=>((B g).2.2 e).2.1 rfl).aP 3 _,h.low,eF.xM h.l us (λk e=>?_) (λk y t=>?_) (λb e=>.inl e) (λb e=>.inl e) λb e=>(j b e).imp id .inl,eF.xM h.p us (λk e=>?_) (λk y t=>?_) (λb e=>.inl e) (λb e=>.inl e) λb e=>(j b e).imp id .inl,eF.xM A (ag.bK (X:=λk=>k=g) rfl _ _) (λk e=>.inr (.inl e)) (λk y t=>?_) (λb e=>.inl e) (λb e=>.inl e) λb e=>.inr (.inr e),h.ne⟩;all_goals unfold iC at *
 all_goals grind
theorem eF.awK(h:eF base g s vl vp va W) n:eF base g ⟨n,s.list,s.prom,s.ab⟩ vl vp va (W.setCell ⟨g,0,none⟩ (.int .u64 n)):=by have u:ag (λk=>k=g) W (W.setCell ⟨g,0,none⟩ (.int .u64 n)):=ag.bK (X:=λk=>k=g) rfl _ _;have:=h.sep g;refine⟨h.blk.aP 0 _,h.low,eF.xM h.l u (λk e=>.inr (.inl e)) (λk j t=>?_) (λb e=>.inl e) (λb e=>.inl e) λb e=>.inl e,eF.xM h.p u (λk e=>.inr (.inl e)) (λk j t=>?_) (λb e=>.inl e) (λb e=>.inl e) λb e=>.inl e,eF.xM h.a u (λk e=>.inr (.inl e)) (λk j t=>?_) (λb e=>.inl e) (λb e=>.inl e) λb e=>.inl e,h.ne⟩;all_goals grind
theorem eF.fx(h:eF base g s vl vp va W):lG (λk=>k<base) s vl vp va W:=λW' u =>
 have t:=h.l.blk
 have hp:=h.p.blk
 have j:=h.a.blk
 ⟨(h.l.to u (λk e=>.inl e) (λk e h=>by have:=t k e;omega) (λ_ _ h=>.inl h)).aq,(h.p.to u (λk e=>.inl e) (λk e h=>by have:=hp k e;omega) (λ_ _ h=>.inl h)).aq,(h.a.to u (λk e=>.inl e) (λk e h=>by have:=j k e;omega) (λ_ _ h=>.inl h)).aq⟩
theorem eF.nil{n l}(hb:ah W g 46 (cJ ⟨n,[],[],l⟩ (.slice none 0 0) (.slice none 0 0) va))(hg:base<=g)(j:aC (iC base g (.slice none 0 0) (.slice none 0 0) va) base 26 bZ l va W):eF base g ⟨n,[],[],l⟩ (.slice none 0 0) (.slice none 0 0) va W :=
 ⟨hb,hg,aC.nil _ _ _ _ _,aC.nil _ _ _ _ _,j,λb h=>FT⟩
theorem eF.slices(h:eF base g s vl vp va W):(∃A c,vl=.slice A s.list.length c)/\(∃A c,vp=.slice A s.prom.length c)/\∃A c,va=.slice A s.ab.length c:=⟨h.l.slice,h.p.slice,h.a.slice⟩
theorem LU{w cs} s vl vp va(h:ah W g 46 cs)(j:cs.size=4)(k:K w W)(hg:w.heap.size<=g):ah ((((W.setCell ⟨g,0,none⟩ (.int .u64 s.life)).setCell ⟨g,1,none⟩ vl).setCell ⟨g,2,none⟩ vp).setCell ⟨g,3,none⟩ va) g 46 (cJ s vl vp va)/\K w ((((W.setCell ⟨g,0,none⟩ (.int .u64 s.life)).setCell ⟨g,1,none⟩ vl).setCell ⟨g,2,none⟩ vp).setCell ⟨g,3,none⟩ va)/\ag (λk=>k=g) W ((((W.setCell ⟨g,0,none⟩ (.int .u64 s.life)).setCell ⟨g,1,none⟩ vl).setCell ⟨g,2,none⟩ vp).setCell ⟨g,3,none⟩ va) :=
 have u:=ag.sets (X:=λk=>k=g) rfl [.int .u64 s.life,vl,vp,va] 0 W
 ⟨FO (us:=[.int .u64 s.life,vl,vp,va]) h j.symm,u.k k λk e=>e▸hg,u⟩
end
theorem yp{α:Type}(p:α->Bool)(l:List α)(j:Nat)(t:j<l.length):(l.take (j+1)).any p=((l.take j).any p||p l[j]):=by rw[gg t,List.any_append];simp
theorem yq{α:Type} p(l:List α) j(h:(l.take j).any p=true):l.any p=true:=by
 grind
theorem aem l a v w(h:aq aW l v w)(U:l.length<=1000000) :
 Calls prog 185 #[v,cA a] w λe w'=>e=.returned (.bool (bU l a))/\K w w':=by
 obtain⟨D,d,rfl,N,-⟩:=h
 have H:Hid (bU l a=l.any λx=>decide (au x=a)):=ae rfl
 generalize bU l a=R at *
 have A:=ah.new w 26 #[.int .i64 a.1,.int .u64 a.2.1,.int .u64 a.2.2]
 have u:=A.aS
 go_in
 go_upto_region 1 with fail
 generalize w.alloc _=G at *
 generalize w.heap.size=g at A⊢
 have L:=A.cells
 have J:=K.rf G
 go_wp2_with fail
 go_loopw [5,8] (fun _ i wr=>∃j:Nat,j<=l.length/\i=.int .i64 j/\Hid ((l.take j).any (fun x=>decide (au x=a))=false)/\K G wr) (fun _ i _=>l.length-(intOf i).toNat)
 case atStart=>exact⟨0,af,rfl,ae aj,J⟩
 case round =>
  obtain⟨j,X,rfl,HT,kr⟩:=hrel;by_cases F:j<l.length
  ·have I:(j:Int)<l.length:=af;obtain⟨E,C,cs1,rfl,iD,Q,d0,dd⟩:=ed N j F ax;have HB:=ae (yp (λx=>decide (au x=a)) l j F);have M:=ae (yq (λx=>decide (au x=a)) l (j+1));generalize l[j]=x at *;obtain⟨Bw,Z,rfl,s5,Y⟩:=Q w (K.rf w);have O:=λW (kW:K wr W)=>L W (kr.tr kW)
   have p1:∀W,K wr W->W.cell? ⟨E,C+j*8+1,none⟩=some (.int .i64 (au x).1):=λW kW=>dd W (u.tr (kr.tr kW)) 1 ax
   have p2:∀W,K wr W->W.cell? ⟨E,C+j*8+2,none⟩=some (.int .u64 ((au x).2.1:Int)):=λW kW=>dd W (u.tr (kr.tr kW)) 2 ax
   have p3:∀W,K wr W->W.cell? ⟨E,C+j*8+3,none⟩=some (.int .u64 ((au x).2.2:Int)):=λW kW=>dd W (u.tr (kr.tr kW)) 3 ax
   go_upto_region 4 with fail;have qs:=And.intro p1 (And.intro p2 (And.intro p3 (And.intro O I)));refine dK 7 ?_;iterate 6 refine ar.i ?_
   refine ar.is (.bool (decide (au x=a))) (λV W kW hp=>?_) ?_
   ·simp only[cz,aN,aQ,bV,bW,aJ]at hp;simp[bO,aF,List.lookup,hp,cU,execOp,aG,aJ,cP,go_sem];by_cases t:(au x).1=a.1
    ·by_cases y:(au x).2.1=a.2.1
     ·by_cases B:(au x).2.2=a.2.2
      ·rw[show decide (au x=a)=true from decide_eq_true (Prod.ext t (Prod.ext y B))];simp[t,y,B,cP]
      ·rw[show decide (au x=a)=false from decide_eq_false (λe=>B IB)];try simp only[t,y,if_true]
       exact Qb
     ·rw[show decide (au x=a)=false from decide_eq_false (λe=>y IB)];try simp only[t,if_true]
      exact Qb
    ·rw[show decide (au x=a)=false from decide_eq_false (λe=>t IB)];simp[t,cP]
   intro V W kW hA;simp only[aN,aQ,b6,aJ,Nat.reduceAdd]at hA;refine aH.h ?_;have JC:=kr.tr kW;generalize S:decide (au x=a)=q at *;have:=ae S;cases q
   ·have nC:Hid ((l.take (j+1)).any (λx=>decide (au x=a))=false):=ae af3;exact VZ
   ·have HR:Hid (R=true):=ae (by rw[H.aa];exact M.aa (by rw[HB.aa];simp));go_wp2;go_ret;exact⟨fJ,u.tr JC⟩
  ·have I:¬(j:Int)<l.length:=af;have HR:Hid (R=false):=ae (by
    have t:=HT.aa;rw[gI af]at t;rw[H.aa,t])
   go_wp2;go_ret;exact⟨fJ,u.tr kr⟩
theorem awL{l a k}(hk:k<l.length)(h:l[k]=a):dG l a=true:=by
 grind [dG]
theorem au8{l a}(h:∀x∈l,x≠a):dG l a=false:=by
 grind [dG]
theorem ao8 l a v w(h:aq bZ l v w)(hlen:l.length<=1000000) :
 Calls prog 237 #[v,cA a] w λe w'=>∃i:Int,e=.returned (.int .i64 i)/\K w w'/\dG l a=decide (0<=i):=by
 obtain⟨D,d,rfl,Y,-⟩:=h
 have T:=ae (@au8 l a)
 have O:=ae λk hk=>@awL l a k hk
 have u:=ah.new w 26 #[.int .i64 a.1,.int .u64 a.2.1,.int .u64 a.2.2]
 have y:=u.aS
 go_in
 go_upto_region 1 with fail
 generalize w.alloc _=H at *
 generalize w.heap.size=g at u⊢
 have M:=u.cells
 have L:=K.rf H
 go_wp2_with fail
 go_loopw [5,8] (fun _ i wr=>∃j:Nat,j<=l.length/\i=.int .i64 j/\Hid (∀x∈l.take j,x≠a)/\K H wr) (fun _ i _=>l.length-(intOf i).toNat)
 case atStart=>exact⟨0,af,rfl,ae aj,L⟩
 case round =>
  obtain⟨j,hj,rfl,I,kr⟩:=hrel;by_cases B:j<l.length
  ·have J:(j:Int)<l.length:=af;obtain⟨F,E,cs1,rfl,iD,X,R,dd⟩:=ed Y j B ax;have U:Hid (l[j]≠a->∀x∈l.take (j+1),x≠a):=by
    refine ae λh x u=>?_
    rw[gg B]at u;rcases List.mem_append.1 u with u|u
    ·exact I.aa x u
    ·grind
   have N:=ae (O.aa j B);generalize l[j]=x at *;obtain rfl:=X w (K.rf w);have Q:=λW (kW:K wr W)=>M W (kr.tr kW)
   have p1:∀W,K wr W->W.cell? ⟨F,E+j*3,none⟩=some (.int .i64 x.1):=λW kW=>R W (y.tr (kr.tr kW))
   have p2:∀W,K wr W->W.cell? ⟨F,E+j*3+1,none⟩=some (.int .u64 x.2.1):=λW kW=>dd W (y.tr (kr.tr kW)) 1 ax
   have p3:∀W,K wr W->W.cell? ⟨F,E+j*3+2,none⟩=some (.int .u64 x.2.2):=λW kW=>dd W (y.tr (kr.tr kW)) 2 ax
   go_upto_region 4 with fail;have qs:=And.intro p1 (And.intro p2 (And.intro p3 (And.intro Q J)));refine dK 6 ?_;iterate 5 refine ar.i ?_
   refine ar.is (.bool (decide (a=x))) (λV W kW hp=>?_) ?_
   ·simp only[cz,aN,aQ,bV,bW,aJ]at hp;simp[bO,aF,List.lookup,hp,cU,execOp,aG,aJ,cP,go_sem];by_cases t:a.1=x.1
    ·by_cases A:a.2.1=x.2.1
     ·by_cases C:a.2.2=x.2.2
      ·rw[show decide (a=x)=true from decide_eq_true (Prod.ext t (Prod.ext A C))];simp[t,A,C,cP]
      ·rw[show decide (a=x)=false from decide_eq_false (λe=>C IB)];try simp only[t,A,if_true]
       exact Qb
     ·rw[show decide (a=x)=false from decide_eq_false (λe=>A IB)];try simp only[t,if_true]
      exact Qb
    ·rw[show decide (a=x)=false from decide_eq_false (λe=>t IB)];simp[t,cP]
   intro V W kW hA;simp only[aN,aQ,b6,aJ,Nat.reduceAdd]at hA;refine aH.h ?_;have JC:=kr.tr kW;generalize Z:decide (a=x)=q at *;have G:=ae Z;cases q
   ·have nC:=ae (U.aa λe=>by have:=of_decide_eq_false G.aa;exact this e.symm);exact VZ
   ·have S:=ae (N.aa (of_decide_eq_true G.aa).symm);go_wp2;go_ret;exact⟨_,rfl,y.tr JC,fk⟩
  ·have J:¬(j:Int)<l.length:=af;have S:=ae (T.aa (by
    have t:=I.aa;rw[gI af]at t;exact t))
   go_wp2;go_ret;exact⟨_,rfl,y.tr kr,fk⟩
theorem Fo l a v w(h:aq bZ l v w)(y:l.length<=1000000) :
 Calls prog 144 #[v,cA a] w λe w'=>e=.returned (.bool (dG l a))/\K w w':=by
 have F:=h
 obtain⟨D,d,rfl,G,-⟩:=h
 have t:=ah.new w 26 #[.int .i64 a.1,.int .u64 a.2.1,.int .u64 a.2.2]
 have j:=t.aS
 have C:=ae λW (kW:K w W)=>ao8 l a _ W (bj F kW) y
 go_in
 go_wp2_with fail
 generalize w.alloc _=E at *
 refine (C.aa E j).mono ?_
 rintro e H⟨i,rfl,B,A⟩
 have u:=ae A
 go_wp2
 go_ret
 exact⟨by rw[u.aa];rfl,j.tr B⟩
theorem DP s a v w(h:nB s v w)(u:s.list.length<=1000000) :
 Calls prog 107 #[v,cA a] w λe w'=>e=.returned (.bool (bU s.list a))/\K w w':=by
 obtain⟨vl,vp,va,rfl,t,hp,D⟩:=h
 have y:=ae λW (kW:K w W)=>aem s.list a _ W (bj t kW) u
 have j:=K.kK w (.cells (cJ s vl vp va) 46) (.cells #[.int .i64 a.1,.int .u64 a.2.1,.int .u64 a.2.2] 26)
 go_in
 go_wp2_with fail
 generalize World.alloc (World.alloc w _) _=B at *
 apply aI (y.aa B j)
 intro C A
 go_wp2
 go_ret
 exact⟨rfl,j.tr A⟩
theorem Ku s a v w(h:nB s v w)(t:s.prom.length<=1000000) :
 Calls prog 202 #[v,cA a] w λe w'=>e=.returned (.bool (bU s.prom a))/\K w w':=by
 obtain⟨vl,vp,va,rfl,B,hp,D⟩:=h
 have u:=ae λW (kW:K w W)=>aem s.prom a _ W (bj hp kW) t
 have j:=K.kK w (.cells (cJ s vl vp va) 46) (.cells #[.int .i64 a.1,.int .u64 a.2.1,.int .u64 a.2.2] 26)
 go_in
 go_wp2_with fail
 generalize World.alloc (World.alloc w _) _=A at *
 apply aI (u.aa A j)
 intro C y
 go_wp2
 go_ret
 exact⟨rfl,j.tr y⟩
theorem Ia s a v w(h:nB s v w)(t:s.ab.length<=1000000) :
 Calls prog 186 #[v,cA a] w λe w'=>e=.returned (.bool (dG s.ab a))/\K w w':=by
 obtain⟨vl,vp,va,rfl,C,hp,A⟩:=h
 have u:=ae λW (kW:K w W)=>Fo s.ab a _ W (bj A kW) t
 have j:=K.kK w (.cells (cJ s vl vp va) 46) (.cells #[.int .i64 a.1,.int .u64 a.2.1,.int .u64 a.2.2] 26)
 go_in
 go_wp2_with fail
 generalize World.alloc (World.alloc w _) _=B at *
 apply aI (u.aa B j)
 intro D y
 go_wp2
 go_ret
 exact⟨rfl,j.tr y⟩
def gZ(a:aT)(x:aL):Bool:=decide (au x=a)
theorem KY a x:gZ a x=(decide (x.br=a.1)&&decide (x.life=a.2.1)&&decide (x.bY=a.2.2)):=by
 grind [gZ,au]
theorem abF x a v g w(h:dx x v w)(hg:ah w g 26 #[.int .i64 a.1,.int .u64 a.2.1,.int .u64 a.2.2]) :
 Calls prog 279 #[v,.pointer (some ⟨g,0,none⟩)] w λe w'=>e=.returned (.bool (gZ a x))/\K w w':=by
 obtain⟨vf,G,rfl,t,y⟩:=h
 obtain⟨A,c,rfl⟩:=b5 t
 obtain⟨D,d,rfl⟩:=av y
 clear t y
 have j:=ae (KY a x)
 have q:=hg.cells
 have C:=λo=>(K.rf w).al o
 obtain⟨E,F,B⟩:=a
 obtain⟨k,b,l,s,cl,u,f,es⟩:=x
 simp only at q j⊢
 generalize gZ (E,F,B) ⟨k,b,l,s,cl,u,f,es⟩=R at *
 go_in
 go_wp2
 all_goals
  go_ret
  refine⟨?_,(K.rf w).al _⟩
  rw[j.aa]
  show Ending.returned (.bool _)=Ending.returned (.bool _)
  clear q C
  first|(simp_all;done)|(simp_all;omega)|(congr 2;rw[Bool.eq_iff_iff];simp_all;omega)
theorem anW A c l a g w(h:zm aW l A w)(Q:l.length<=1000000)(hg:ah w g 26 #[.int .i64 a.1,.int .u64 a.2.1,.int .u64 a.2.2]) :
 Calls prog 236 #[.slice A l.length c,.func (Fn.func 279) #[] #[.pointer (some ⟨g,0,none⟩)]] w λe w'=>∃i:Int,e=.returned (.int .i64 i)/\K w w'/\((i=-1/\∀x∈l,gZ a x=false)∨∃k:Nat,k<l.length/\i=(k:Int)/\(∀x∈l.take k,gZ a x=false)/\∀x,l[k]?=some x->gZ a x=true):=by
 have B:=K.rf w
 go_in
 go_wp2_with fail
 go_loopw [5,8] (fun _ i wr=>∃k:Nat,k<=l.length/\i=.int .i64 k/\Hid (∀t∈l.take k,gZ a t=false)/\K w wr) (fun _ i _=>l.length-(intOf i).toNat)
 case atStart=>exact⟨0,af,rfl,ae aj,B⟩
 case round =>
  clear B;obtain⟨k,hk,rfl,hall,kr⟩:=hrel;by_cases hlt:k<l.length
  ·have O:(k:Int)<l.length:=af;obtain⟨D,F,cs,rfl,J,E,u,d⟩:=ed h k hlt ax;have M:Hid (gZ a l[k]=false->∀t∈l.take (k+1),gZ a t=false):=af4;have L:Hid (gZ a l[k]=true->∀x,l[k]?=some x->gZ a x=true):=ae λh x hx=>by
    grind
   generalize l[k]=t at *;obtain⟨vf,C,rfl,G,H⟩:=E wr kr;have u:∀W,K w W->W.cell? ⟨D,F+k*8,none⟩=some (.int .i64 t.kind):=u;have d:∀W,K w W->∀i,i<8->W.cell? ⟨D,F+k*8+i,none⟩=(aE t vf C)[i]?:=λW j I=>λN=>(d W j I N).trans Array.getElem?_toList
   clear E J;go_wp2_with fail
   apply cF (abF t a _ g wr ⟨vf,C,rfl,G,H⟩ (hg.ay kr)) kr;intro R S kW;clear d u G H;cases hx:gZ a t
   ·have o6:=ae (M.aa hx);exact IC
   ·have y:=ae (L.aa hx);go_wp2;go_ret;exact⟨_,rfl,kW,.inr ⟨k,hlt,rfl,hall.aa,y.aa⟩⟩
  ·have O:¬(k:Int)<l.length:=af;have y:=ae (by
    have:=hall.aa;rw[gI af]at this;exact this)
   go_wp2;go_ret;exact⟨_,rfl,kr,.inl ⟨rfl,y.aa⟩⟩
def Ek(a:aT)(z:List (aL×List Value)):List (aL×List Value):=z.filter λp=>!gZ a p.1
theorem V0{α β:Type}:∀(l:List α) (m:List β),m.length=l.length->(l.zip m).map (·.1)=l
 | [],[],_=>rfl
 | _ :: _,[],h=>xb
 | [],_ :: _,h=>xb
 | x :: l,y :: m,h=>by simp at h;simp[V0 l m h]
theorem af5{α β:Type}:∀(l:List α) (m:List β),m.length=l.length->(l.zip m).map (·.2)=m
 | [],[],_=>rfl
 | _ :: _,[],h=>xb
 | [],_ :: _,h=>xb
 | x :: l,y :: m,h=>by simp at h;simp[af5 l m h]
theorem au9{α S W}:∀(z:List (α×List Value)),(∀p∈z,S.rel p.1 p.2 W)->Each S (z.map (·.1)) (z.map (·.2)) W:=by
 intro z h
 refine⟨aj,λi t j=>?_⟩
 grind
theorem apY{α S W}{l:List α}{css}(h:Each S l css W):∀p∈l.zip css,S.rel p.1 p.2 W:=by intro p hp;obtain⟨i,j,rfl⟩:=List.mem_iff_getElem.1 hp;simp only[List.getElem_zip];have:=h.1;rw[List.length_zip]at j;exact h.2 i af af
theorem aen{l css}(j:css.length=l.length) a:(Ek a (l.zip css)).map (·.1)=iY l a:=by unfold Ek iY;rw[show (λp:aL×List Value=>!gZ a p.1)=(λx=>!decide (au x=a)) ∘ (·.1)from rfl,<- List.filter_map,V0 l css j]
theorem aeo:∀(us xs:List Value) (q:Nat),q+us.length<=xs.length->oI xs q us=xs.take q++us++xs.drop (q+us.length)
 | [],xs,q,_=>by simp[oI]
 | u :: us,xs,q,h=>by simp only[eQ]at h;rw[oI,aeo us _ (q+1) aY];rw[gg aY,List.take_set_of_le (aD _),List.drop_set_of_lt af];simp[Nat.add_assoc,Nat.add_comm 1]
theorem aoy{P w t e z cur}(E:P.underlying t=some (.slice e))(D:∀w,(zeroValue e).run P w=.ok z w) g o m(hb:ah w g e cur)(I:o+m*z.cells.size<=cur.size)(H:0<m)(F:∀u∈z.cells.toList,u.oneCell'=true)(hz:0<z.cells.size) :
 ∃w' j,(∀ty c,(Builtin.clear_ #[t] ty #[.slice (some ⟨g,o,none⟩) m c]).run P w=.ok (.tuple #[]) w')/\ah w' g e j/\j.size=cur.size/\j.toList.take o=cur.toList.take o/\w.grownBy w' (some g):=by
 have:(Builtin.zeroCells z.cells m).toList.length=m*z.cells.size:=by simp[Builtin.zeroCells]
 have C:∀u∈(Builtin.zeroCells z.cells m).toList,u.oneCell'=true:=by
  intro u y
  simp only[Builtin.zeroCells,Array.toList_map,List.mem_map]at y
  obtain⟨i,G,rfl⟩:=y
  grind [Nat.mod_lt]
 have A:=run_storeCells_at P g o e (Builtin.zeroCells z.cells m).toList 0 cur w hb af C
 simp only[Nat.add_zero]at A
 refine⟨_,(cur.toList.take o++(Builtin.zeroCells z.cells m).toList++cur.toList.drop (o+(Builtin.zeroCells z.cells m).toList.length)).toArray,λty c=>?_,setRow_heap w g cur _ e _ hb,?_,?_,⟨rfl,rfl,rfl,aj,λk hk B=>setRow_other w g k _ (λe=>B DW)⟩⟩
 ·cases m with
  | zero=>omega
  | succ m=>simp[Builtin.clear_,run_underlying E,D,A]
 all_goals grind
theorem aby{α:Type}{n}:∀(css:List (List α)),(∀cs∈css,cs.length=n)->∀k,(css.take k).flatten=css.flatten.take (k*n)
 | [],_,k=>aj
 | c :: css,h,0=>aj
 | c :: css,h,k+1=>by have hc:=h c aj;have ih:=aby css (λx hx=>h x Iz) k;exact af6
theorem ayi W:(zeroValue 126).run prog W=.ok (.agg eM) W:=by rfl
theorem ay0{α:Type}(l:List α)(h:l.length=8):∃t c1 c2 c3 c4 c5 u j,l=[t,c1,c2,c3,c4,c5,u,j]:=by
 match l,h with
 | [t,c1,c2,c3,c4,c5,u,j],_=>exact⟨_,_,_,_,_,_,_,_,rfl⟩
structure AL(l:List aL)(css:List (List Value))(a:aT)(j i:Nat)(cur:List (List Value)):Prop where
 len:cur.length=l.length
 lens:∀cs∈cur,cs.length=8
 pre:cur.take i=(Ek a ((l.zip css).take j)).map (·.2)
 post:cur.drop j=css.drop j
 lt:i<j
theorem AL.cut{l css cur a j i}(u:css.length=l.length)(h:AL l css a j i cur)(y:j<l.length)(t:gZ a l[j]=true):AL l css a (j+1) i cur:=by
 refine⟨h.len,h.lens,?_,?_,by have:=h.lt;omega⟩
 ·rw[h.pre,gg aB];simp[Ek,t]
 ·exact af7
theorem AL.at{l css cur a j i}(_:css.length=l.length)(h:AL l css a j i cur)(_:j<l.length)(t:j<cur.length)(u:j<css.length):cur[j]=css[j]:=by
 have:=congrArg (λx=>x[0]?) h.post
 grind
theorem AL.keep{l:List aL}{css cur:List (List Value)}{a:aT}{j i:Nat}(D:css.length=l.length)(h:AL l css a j i cur)(C:j<l.length)(y:gZ a l[j]=false)(u:(css[j]'af).length=8):AL l css a (j+1) (i+1) (cur.set i (css[j]'af)):=by
 have E:=h.len;have B:=h.lt;refine⟨aB,λcs A=>?_,?_,?_,af⟩
 ·rcases List.mem_or_eq_of_mem_set A with t|rfl
  ·exact h.lens _ t
  ·exact u
 ·rw[gg aB,List.take_set_of_le (aD _),h.pre,gg aB];simp[Ek,y]
 ·rw[List.drop_set_of_lt af];exact af7
theorem anT l a J base v css w(hown:w.ownsRow base 126 8 v l.length css.flatten)(B:css.length=l.length)
 (hE:∀W,ag (λk=>v.ownBlock=some k) w W->Each aW l css W) (hg:ah w J 26 #[.int .i64 a.1,.int .u64 a.2.1,.int .u64 a.2.2]) (hlen:l.length<=1000000) :
 Calls prog 278 #[v,.func (Fn.func 279) #[] #[.pointer (some ⟨J,0,none⟩)]] w λe w'=>∃v' C,e=.returned v'/\w'.ownsRow base 126 8 v' (iY l a).length C.flatten/\C.length=(iY l a).length/\v'.ownBlock=v.ownBlock/\w.grownBy w' v.ownBlock/\∀W,Each aW l css W->Each aW (iY l a) C W:=by
 have Zi:=hE w (ag.rf _ _)
 have azK:=O4 (S:=aW) hown Zi
 obtain⟨A,c,rfl,hl,hc⟩:=azK
 have C1:=ae (anW A c l a J w hl hlen hg)
 have HN:Hid ((∀x∈l,gZ a x=false)->iY l a=l):=ae λh=>by unfold iY;rw[List.filter_eq_self];intro x hx;have:=h x hx;simpa [gZ]using this
 have Y:=ae hown
 have HC:=ae hE
 have c8:=ae Zi.lens
 clear hown hE Zi hl
 go_in
 go_wp2_with fail
 refine C1.aa.mono ?_
 rintro e w2⟨i0,rfl,U,hi⟩
 rcases hi with ⟨rfl,R⟩|⟨k,hk,rfl,R,hit⟩
 ·have D:=ae (HN.aa R);clear R;go_wp2;go_ret;refine⟨_,css,rfl,by rw[D.aa];exact pZ Y.aa U,by rw[D.aa];exact B,rfl,BU U _,λW h=>by rw[D.aa];exact h⟩
 have pS:Hid (AL l css a (k+1) k css):=ae (by
  refine⟨B,c8.aa,?_,rfl,af⟩;rw[gg aB];have h1:=hit _ (List.getElem?_eq_getElem hk);have h2:Ek a ((l.zip css).take k)=(l.zip css).take k:=by unfold Ek;rw[List.filter_eq_self];intro p hp;have this:p.1∈((l.zip css).take k).map (·.1):=List.mem_map_of_mem hp;rw[List.map_take,V0 l css B]at this;simp[R p.1 this]
  unfold Ek at h2⊢;rw[List.filter_append,h2];simp[h1];rw[af5 l css B])
 clear R hit HN
 rcases Y.aa.2 with ⟨h0,zj⟩|⟨g,cap,cur,e0,g1,g2,g3,g4,g5,g6⟩
 ·omega
 obtain⟨rfl,e3⟩:A=some ⟨g,0,none⟩/\cap=c:=aB
 subst e3
 have hg0:w.grownBy w2 (some g):=BU U _
 have bG:=ae (pZ Y.aa U)
 have hgg:J≠g:=by rintro rfl;exact absurd ((show ah w J _ cur from g2).gY hg) ax
 have HG:=ae hg
 have hcm:cap<=9223372036854775807:=g4
 have qG:(k:Int)+1<=(l.length:Int):=af
 clear Y U g5 g6 g2 hg g4 C1
 go_wp2_with fail
 go_loopw [5,6,7] (fun i j _ W=>∃(j' i':Nat) (y:List (List Value)),j=.int .i64 j'/\i=.int .i64 i'/\j'<=l.length/\i'<j'/\Hid (AL l css a j' i' y)/\Hid (W.ownsRow base 126 8 (.slice (some ⟨g,0,none⟩) l.length cap) l.length y.flatten)/\w.grownBy W (some g)) (fun _ j _ _=>l.length-(intOf j).toNat)
 case atStart=>exact⟨k+1,k,css,bD,rfl,af,af,pS,bG,hg0⟩
 case round =>
  clear pS bG hg0;obtain⟨j,i,y,rfl,rfl,hj,hij,D,H,kr⟩:=hrel;by_cases O:j<l.length
  ·have aO:(j:Int)<l.length:=af;have zo:(i:Int)<l.length:=af;have hrel:=(HC.aa wr (ag.eP kr (λ_ h=>h))).2 j O af;have c8j:=c8.aa _ (bT (show j<css.length by omega));have u:=D.aa;have HK:=ae (u.keep B O);have HX:=ae (u.cut B O);have hat:=u.at B O (by rw[u.len];exact O) af;obtain⟨Q,Z⟩:=Fv H.aa;have cN:=H.aa.1;have aFs:=u.len;have QZ:=u.lens;generalize hx:l[j]=x at *;obtain⟨vf,ve,hcs,hf,he⟩:=hrel;have d:∀i,i<8->wr.cell? ⟨g,j*8+i,none⟩=(aE x vf ve)[i]?:=λi hi=>by rw[Q _ af,wX 8 y QZ j i af hi,List.getElem?_eq_getElem (show j<y.length by omega),Option.getD_some,hat,hcs];exact Array.getElem?_toList
   have d0:wr.cell? ⟨g,j*8,none⟩=some (.int .i64 x.kind):=d 0 af;have hEv:Hid (∀W,K wr W->dx x (.agg (aE x vf ve)) W):=ae λW k=>⟨_,_,rfl,eu _ _ _ _ hf k,bj he k⟩
   have hgr:=HG.aa.grown kr (λe=>hgg (by injection e));obtain⟨I,E,rfl⟩:=b5 hf;obtain⟨G,F,rfl⟩:=av he;have eB:=ah.new wr 126 (aE x (.slice I x.f.length E) (.slice G x.es.length F));have V:=eB.aS;clear Q hf he hat u;go_upto_region 8 with fail;have HG5:=hgr.ay V;have mh:=oG kr (BU V (some g));have iL:=pZ H.aa V;have hE5:=hEv.aa _ V;clear d d0;generalize wr.alloc _=w5 at *;generalize wr.heap.size=g5 at *;have q5:=eB.cell;go_wp2_with fail
   refine (abF x a _ J w5 hE5 HG5).mono ?_;rintro e N⟨rfl,k6⟩;have T:=pZ iL k6;have ot:=oG mh (BU k6 (some g));have q6:=(eB.ay k6).cell;clear q5 iL;cases hq:gZ a x
   ·have GN:=HK.aa hq c8j;have gJ:=Px (aE x (.slice I x.f.length E) (.slice G x.es.length F)).toList _ (i*8) N T (by rw[cN];show i*8+8<=_;omega);have e9:=OL 8 (aE x (.slice I x.f.length E) (.slice G x.es.length F)).toList y QZ i 0 af aj;rw[Nat.add_zero]at e9;rw[e9,aeo _ _ _ FJ]at gJ;have gu:(y[i]'af).take 0++(aE x (.slice I x.f.length E) (.slice G x.es.length F)).toList++(y[i]'af).drop (0+(aE x (.slice I x.f.length E) (.slice G x.es.length F)).toList.length)=css[j]'af:=by simp_all
    rw[gu]at gJ;have M:ag (λk=>k=g) N (dY N g (i*8) (aE x (.slice I x.f.length E) (.slice G x.es.length F)).toList):=ag.sets (X:=λk=>k=g) (g:=g) rfl _ _ _;have iR:=oG ot ⟨M.os,M.tape,M.output,M.size,λk hk hne=>M.block k hk aB⟩;obtain⟨Q,Z⟩:=Fv T;obtain⟨c0,c1,c2,c3,c4,c5,c6,c7,hci⟩:=ay0 (y[i]'af) (QZ _ (bT _));have d6:∀t,t<8->N.cell? ⟨g,i*8+t,none⟩=#[c0,c1,c2,c3,c4,c5,c6,c7][t]?:=λt ht=>by rw[Q _ af,wX 8 y QZ i t af ht,List.getElem?_eq_getElem (show i<y.length by omega),Option.getD_some,hci];exact Array.getElem?_toList
    have d60:N.cell? ⟨g,i*8,none⟩=some c0:=d6 0 af;have z6:=λt=>Z (i*8+t)
    have z60:=Z (i*8);have JD:=ae GN;have Zj:=ae gJ;clear gJ M Q Z e9 gu hci HK HX GN hcs T;go_wp2;go_roundw
    case rel =>
     (repeat apply Exists.intro)
     refine⟨?_,rfl⟩
     exact⟨j+1,i+1,_,bD,bD,af,af,JD,Zj,iR⟩
    case measure=>simp[intOf];omega
   ·have HX3:=ae (HX.aa hq);have Zj:=ae T;clear HK HX hcs T;go_wp2;go_roundw
    case rel =>
     (repeat apply Exists.intro)
     refine⟨?_,rfl⟩
     exact⟨j+1,i,_,bD,rfl,af,af,HX3,Zj,ot⟩
    case measure=>simp[intOf];omega
  ·have aO:¬(j:Int)<l.length:=af;obtain rfl:j=l.length:=af;have u:=D.aa;have cN:=H.aa.1;rcases H.aa.2 with ⟨h0,zj⟩|⟨g',cap',cur,e0,r1,r2,r3,r4,r5,r6⟩
   ·cases h0
   injection e0 with L _ e3;injection L with L;injection L with L;subst L e3;have Zk:(Value.agg eM).cells.size=8:=rfl;obtain⟨W2,Rn,azL,hb2,fH,ht2,dZ⟩:=aoy (P:=prog) (w:=wr) (t:=43) (e:=126) underlying43 ayi g (i*8) (l.length-i) r2 aB af ax ax;have iR:=oG kr dZ;have xw:=u.pre;rw[gI (l:=l.zip css) aB]at xw;have qG:(iY l a).length=i:=by rw[<- aen B a,List.length_map,<- List.length_map (f:=λx:aL×List Value=>x.2),<- xw,p8,u.len];omega
   have HF:Hid (∃C,W2.ownsRow base 126 8 (.slice (some ⟨g,0,none⟩) i cap) i C.flatten/\C.length=i/\∀W,Each aW l css W->Each aW (iY l a) C W):=ae (by
    refine⟨y.take i,?_,by rw[p8,u.len];omega,λW hW=>?_⟩
    ·refine⟨?_,.inr ⟨g,cap,Rn,rfl,r1,hb2,af,r4,af,?_⟩⟩
     ·rw[BV 8 _ (λcs h=>u.lens cs (nQ h)),p8,u.len];rw[Nat.min_eq_left af]
     ·rw[ht2];have L:=r6;have e2:=aby y u.lens i;grind
    ·rw[xw,<- aen B a];exact au9 _ λp hp=>apY hW p (List.mem_filter.1 hp).1)
   have zo:(i:Int)<=l.length:=af;have hic:i<=cap:=af;have hnc:¬cap=i:=af;have aFt:(i:Int)<=cap:=af;clear u xw r5 r6 r2 D H cN hb2 ht2 HC;go_wp2;go_ret;obtain⟨C,f1,f2,f3⟩:=HF.aa;exact⟨_,rfl,C,f1,f2,rfl,iR,f3⟩
theorem Ul s a base g w(h:zx base g s w)(R:s.prom.length<=1000000)(I:base<=w.heap.size) :
 Calls prog 217 #[.pointer (some ⟨g,0,none⟩),cA a] w λe w'=>e=.returned (.tuple #[])/\zx base g ⟨s.life,s.list,iY s.prom a,s.ab⟩ w'/\Below base w w':=by
 obtain⟨vl,vp,va,h⟩:=h
 have B:=ah.new w 26 #[.int .i64 a.1,.int .u64 a.2.1,.int .u64 a.2.2]
 have F:=B.aS
 go_in
 go_upto_region 1 with fail
 have t:=h.st F
 generalize w.alloc _=J at *
 generalize w.heap.size=Q at B⊢
 have q:=t.blk.cell
 have z:=t.blk.frozen
 obtain⟨css,O,y,j⟩:=t.p
 have X:=ae (anT s.prom a Q base vp css J O y (λW u=>j W (u.more λk e=>.inr e)) B R)
 have C:=ae t
 have V:=ae j
 clear h t B O y j
 go_wp2_with fail
 refine X.aa.mono ?_
 rintro e N⟨v',T,rfl,H,y,L,M,j⟩
 have A:rA vp J N:=ag.eP M λ_ h=>h
 have E:=C.aa.Yk A (v':=v') ⟨T,H,y,λW u=>j W (V.aa W ((A.more λ_ h=>.inr h).gq u λk _ h=>by rwa [L]at h))⟩ λb e=>.inl (L▸e)
 have G:=λb=>(C.aa.sep b).2.1
 have D:=C.aa.blk.aX A λe=>(G g e).2.1 rfl
 have U:Below base w (N.setCell ⟨g,2,none⟩ v'):=((F.mono I).trans (A.low (λk e=>(G k e).1) (bo I F.size))).setCell C.aa.low _
 have q:=D.cell
 have z:=D.frozen
 have S:=ae E
 obtain⟨A',Y,rfl⟩:=E.p.slice
 clear E H y M j D G A
 go_wp2
 go_end0
 exact⟨rfl,⟨_,_,_,S.aa⟩,U⟩
def Yl(g:Nat)(vl vp va:Value)(k:Nat):Prop:=k=g∨vl.ownBlock=some k∨vp.ownBlock=some k∨va.ownBlock=some k
structure pT(base g gs gr:Nat)(s:dy)(r:Rec)(vl vp va vf ve:Value)(w:World):Prop where
 st:eF base g s vl vp va w
 bs:ah w gs 201 #[.pointer (some ⟨g,0,none⟩)]
 br:ah w gr 197 (eY r vf ve)
 en:Fx (Yl g vl vp va) (λW=>dx r.e (.agg (aE r.e vf ve)) W) w
 low:base<=w.heap.size
 sz:s.list.length<=900000/\s.prom.length<=900000/\s.ab.length<=900000
 sm:ew r.e
def D8(base g:Nat)(s:dy)(o:Option dy)(w:World)(e:Ending)(w':World):Prop:=e=.returned (.bool o.isSome)/\zx base g (o.getD s) w'/\Below base w w'
section
variable {base g gs gr:Nat} {s:dy} {r:Rec} {vl vp va vf ve:Value} {w w' W:World} {o:Option dy} {t:dy}
theorem pT.k(h:pT base g gs gr s r vl vp va vf ve w)(k:K w W):pT base g gs gr s r vl vp va vf ve W :=
 ⟨h.st.st k,h.bs.ay k,h.br.ay k,h.en.k k,bo h.low k.size,h.sz,h.sm⟩
theorem pT.up{X}(h:pT base g gs gr s r vl vp va vf ve w)(j:¬X g/\¬X gs/\¬X gr):∀W,ag X w W->(∀i,W.cell? ⟨g,i,none⟩=(cJ s vl vp va)[i]?)/\(∀i,W.cell? ⟨gs,i,none⟩=#[Value.pointer (some ⟨g,0,none⟩)][i]?)/\∀i,W.cell? ⟨gr,i,none⟩=(eY r vf ve)[i]? :=
 λ_ u=>⟨(h.st.blk.aX u j.1).cell,(h.bs.aX u j.2.1).cell,(h.br.aX u j.2.2).cell⟩
theorem pT.q(h:pT base g gs gr s r vl vp va vf ve w) W(k:K w W):(∀i,W.cell? ⟨g,i,none⟩=(cJ s vl vp va)[i]?)/\(∀i,W.cell? ⟨gs,i,none⟩=#[Value.pointer (some ⟨g,0,none⟩)][i]?)/\∀i,W.cell? ⟨gr,i,none⟩=(eY r vf ve)[i]? :=
 h.up (X:=λ_=>False) ⟨id,id,id⟩ W (ag.aU k _)
theorem zy.no(e:o=none)(h:eF base g s vl vp va w')(b:Below base w w'):D8 base g s o w (.returned (.bool false)) w':=by subst e;exact⟨rfl,⟨_,_,_,h⟩,b⟩
theorem zy.yes(e:o=some t)(h:zx base g t w')(b:Below base w w'):D8 base g s o w (.returned (.bool true)) w':=by subst e;exact⟨rfl,h,b⟩
end
theorem as4{base g A gr s r vl vp va vf B} w(h:pT base g A gr s r vl vp va vf B w) :
 Calls prog 214 #[.pointer (some ⟨gr,0,none⟩),.pointer (some ⟨A,0,none⟩)] w λe w'=>D8 base g s (zu s r) w e w':=by
 have u:Hid (zu s r=if r.n<=s.life then none else some ⟨r.n,s.list,s.prom,s.ab⟩):=ae rfl
 generalize zu s r=R at *
 have qs:=h.q
 have H:=ae h
 clear h
 go_in
 go_upto_region 1 with fail
 refine dK 7 ?_
 iterate 7 refine ar.i ?_
 intro V W kW hA
 simp only[aN,aQ,b6,aJ,Nat.reduceAdd]at hA
 refine aH.h ?_
 have t:=ae (H.aa.k kW)
 have y:=kW.mono H.aa.low
 obtain⟨D,E,C⟩:=qs W kW
 have z:=t.aa.st.blk.frozen
 clear qs hA
 by_cases j:r.n<=s.life
 ·rw[decide_eq_true j];go_wp2;go_ret;exact zy.no (by rw[u.aa,if_pos j]) t.aa.st y
 ·rw[decide_eq_false j];go_wp2;go_ret;exact zy.yes (by rw[u.aa,if_neg j]) ⟨_,_,_,t.aa.st.awK r.n⟩ (y.setCell H.aa.st.low _)
theorem as5{base g C gr s r vl vp va vf E} w(h:pT base g C gr s r vl vp va vf E w) :
 Calls prog 220 #[.pointer (some ⟨C,0,none⟩),.pointer (some ⟨gr,0,none⟩)] w λe w'=>D8 base g s (zw s r) w e w':=by
 have t:Hid (zw s r=if bU s.prom (iG r)then some ⟨s.life,s.list,iY s.prom (iG r),s.ab⟩else none):=ae rfl
 generalize zw s r=R at *
 have qs:=And.intro h.q (show iG r=(r.br,r.life,r.bY)from rfl)
 have H:=ae h
 have y:=ae λW (kW:K w W)=>Ku s (iG r) _ W (h.st.st kW).nB V1
 clear h
 go_in
 go_upto_region 1 with fail
 generalize bU s.prom (iG r)=B at *
 refine dK 7 ?_
 iterate 5 refine ar.i ?_
 refine ar.v y.aa ?_
 refine ar.i ?_
 intro V W kW hA
 simp only[aN,aQ,b6,aJ,Nat.reduceAdd]at hA
 refine aH.h ?_
 have j:=ae (H.aa.k kW)
 have u:=kW.mono H.aa.low
 have F:=ae (Ul s (iG r) base g W ⟨_,_,_,j.aa.st⟩ (by have:=H.aa.sz;omega) j.aa.low)
 obtain⟨I,J,G⟩:=qs.1 W kW
 clear qs hA y
 cases B
 ·go_wp2;go_ret;exact zy.no t.aa j.aa.st u
 ·go_wp2_with fail
  apply aI F.aa;rintro L⟨A,hb⟩;have D:=ae A;clear A;go_wp2;go_ret;exact zy.yes t.aa D.aa (u.trans hb)
section
variable {base g gs gr:Nat} {s:dy} {r:Rec} {vl vp va vf ve:Value} {w W:World}
theorem pT.ns(h:pT base g gs gr s r vl vp va vf ve w){v}(t:v=vl∨v=vp∨v=va):¬v.ownBlock=some g/\¬v.ownBlock=some gs/\¬v.ownBlock=some gr:=by
 have key:∀ {b e cs},ah w b e cs->v.ownBlock=some b->e=126∨e=26:=λhb j=>by
  rcases t with rfl|rfl|rfl
  ·exact .inl ((h.st.l.own j).2.2.elim λ_ k=>hb.gY k)
  ·exact .inl ((h.st.p.own j).2.2.elim λ_ k=>hb.gY k)
  ·exact .inr ((h.st.a.own j).2.2.elim λ_ k=>hb.gY k)
 exact⟨λe=>absurd (key h.st.blk e) ax,λe=>absurd (key h.bs e) ax,λe=>absurd (key h.br e) ax⟩
theorem pT.far(h:pT base g gs gr s r vl vp va vf ve w){v}(A:v=vl∨v=vp∨v=va)(u:rA v w W) i x{b e cs}(hb:ah w b e cs)(j:e≠126/\e≠26/\e≠46):ah (W.setCell ⟨g,i,none⟩ x) b e cs:=by
 have y:¬v.ownBlock=some b:=λt=>by
  rcases A with rfl|rfl|rfl
  ·exact j.1 ((h.st.l.own t).2.2.elim λ_ k=>hb.gY k)
  ·exact j.1 ((h.st.p.own t).2.2.elim λ_ k=>hb.gY k)
  ·exact j.2.1 ((h.st.a.own t).2.2.elim λ_ k=>hb.gY k)
 exact (hb.aX u y).far (λB=>j.2.2 (hb.gY (by rw[B];exact h.st.blk))) x
theorem pT.Ym(h:pT base g gs gr s r vl vp va vf ve w){v}(j:v=vl∨v=vp∨v=va)(u:rA v w W) i x:Below base w (W.setCell ⟨g,i,none⟩ x) :=
 (u.low (λk e=>by have:=h.st.sep k;rcases j with rfl|rfl|rfl <;> grind) h.low).setCell h.st.low _
end
theorem as6{base g D gr s r vl vp va vf ve} w(h:pT base g D gr s r vl vp va vf ve w) :
 Calls prog 219 #[.pointer (some ⟨D,0,none⟩),.pointer (some ⟨gr,0,none⟩)] w λe w'=>D8 base g s (xL s r) w e w':=by
 have L:Hid (xL s r=if bU s.list (iG r)then none else if dG s.ab (iG r)then none else some ⟨s.life,s.list,iY s.prom (iG r),s.ab++[iG r]⟩):=ae rfl
 generalize xL s r=R at *
 have qs:=And.intro h.q (show iG r=(r.br,r.life,r.bY)from rfl)
 have H:=ae h
 have M:=ae λW (kW:K w W)=>DP s (iG r) _ W (h.st.st kW).nB V1
 have O:=ae λW (kW:K w W)=>Ia s (iG r) _ W (h.st.st kW).nB V1
 generalize bU s.list (iG r)=j at *
 generalize dG s.ab (iG r)=Q at *
 clear h
 go_in
 go_upto_region 1 with fail
 rcases (show (j=true∨j=false/\Q=true)∨j=false/\Q=false by grind)with (rfl|⟨rfl,rfl⟩)|⟨rfl,rfl⟩
 all_goals
  refine dK 14 ?_
  iterate 14 first|refine ar.i ?_|refine ar.v M.aa ?_|refine ar.v O.aa ?_
  intro V W kW hA
  simp only[aN,aQ,b6,aJ,Nat.reduceAdd]at hA
  refine aH.h ?_
  have HW:=ae (H.aa.k kW)
  have I:=kW.mono H.aa.low
  obtain⟨T,G,C⟩:=qs.1 W kW
  clear hA M O qs
 iterate 2
  (go_wp2
   go_ret
   exact zy.no L.aa HW.aa.st I)
 generalize W=U at *
 go_upto_region 3 with fail
 clear T G C
 have ns:=HW.aa.ns (.inr (.inr rfl))
 have qs:=And.intro (HW.aa.up (X:=λk=>va.ownBlock=some k) ns) (show iG r=(r.br,r.life,r.bY)from rfl)
 refine Fp 11 8 s.ab va (iG r) 44 wu [([],[]),([],[]),([1],[(18,1)]),([2],[(19,2)]),([3],[(20,3)]),([],[]),([5],[(22,5)]),([6],[(23,6)]),([4,7],[(21,4),(24,7)]),([0],[(17,0)]),([9],[(26,9)]),([10,8],[(27,10),(25,8)])] 32 HW.aa.st.a HW.aa.low (by have:=HW.aa.sz;omega) ?_
 iterate 7 refine ar.i ?_
 refine ar.Gp (S:=bZ) (N:=λk=>iC base g vl vp va k∨va.ownBlock=some k) U.heap.size wu (iG r) (λ_ h=>h.size) (λb hb=>⟨.inr hb,(HW.aa.st.a.own hb).2.1⟩) (λV W hW hp=>?_) ?_
 ·simp only[cz,aN,aQ,bV,bW,aJ]at hp;show uv _ _ _ (V 6) _;rw[hp.1];exact⟨rfl,λ_ _=>rfl⟩
 refine ar.s ?_
 iterate 2 refine ar.i ?_
 refine⟨λ_ _=>trivial,λV W hW hp=>?_,λV W hW u F hA=>?_⟩
 ·exact ID
 simp only[aN,aQ,b6,aJ,Nat.reduceAdd]at hA
 have y:=HW.aa.st.azJ hW u F
 obtain⟨B,A,E⟩:=u.slice
 rw[E]at y
 generalize (s.ab++[iG r]).length=t at *
 have hA:=And.intro E hA
 have hb:=HW.aa.st.blk.aX hW ns.1
 have qs:=And.intro hb.cell hb.frozen
 refine aH.s ?_
 refine aH.h ?_
 have G:=(HW.aa.far (.inr (.inr rfl)) hW 3 (.slice B t A) HW.aa.bs ax).cell
 have C:=(HW.aa.far (.inr (.inr rfl)) hW 3 (.slice B t A) HW.aa.br ax).cell
 have M7:=I.trans (HW.aa.Ym (.inr (.inr rfl)) hW 3 (.slice B t A))
 have Y:=ae (Ul ⟨s.life,s.list,s.prom,s.ab++[iG r]⟩ (iG r) base g _ ⟨_,_,_,y⟩ (by show s.prom.length<=1000000;have:=HW.aa.sz;omega) af8)
 clear hA qs y u F hb ns
 generalize World.setCell W _ _=w5 at *
 go_wp2_with fail
 apply aI Y.aa
 rintro w3⟨J,hb⟩
 have Z:=ae J
 clear J
 go_wp2
 go_ret
 exact zy.yes L.aa Z.aa (M7.trans hb)
theorem as7{base g I gr s r vl vp va vf ve} w(h:pT base g I gr s r vl vp va vf ve w) :
 Calls prog 218 #[.pointer (some ⟨gr,0,none⟩),.pointer (some ⟨I,0,none⟩)] w λe w'=>D8 base g s (xK s r) w e w':=by
 have T:Hid (xK s r=if bU s.list (au r.e)then none else if bU s.prom (au r.e)then none else if dG s.ab (au r.e)then none else some ⟨s.life,s.list,s.prom++[r.e],s.ab⟩):=ae rfl
 generalize xK s r=R at *
 have:=h.sz
 have hlow:=h.low
 have U:=ae λW (kW:K w W)=>DP s (au r.e) _ W (h.st.st kW).nB af
 have Y:=ae λW (kW:K w W)=>Ku s (au r.e) _ W (h.st.st kW).nB af
 have L:=ae λW (kW:K w W)=>Ia s (au r.e) _ W (h.st.st kW).nB af
 generalize bU s.list (au r.e)=B at *
 generalize bU s.prom (au r.e)=F at *
 generalize dG s.ab (au r.e)=G at *
 have y:=ah.new w 26 #[.int .i64 r.e.br,.int .u64 r.e.life,.int .u64 r.e.bY]
 have A:=y.aS
 have H:=ae (h.k A)
 have q:=h.br.cell
 clear h
 go_in
 go_upto_region 2 with fail
 clear q
 generalize w.alloc _=C at *
 generalize w.heap.size=gi at y⊢
 have qs:=And.intro H.aa.q (And.intro y.cells (show au r.e=(r.e.br,r.e.life,r.e.bY)from rfl))
 rcases (show (B=true∨B=false/\F=true∨B=false/\F=false/\G=true)∨B=false/\F=false/\G=false by grind)with (rfl|⟨rfl,rfl⟩|⟨rfl,rfl,rfl⟩)|⟨rfl,rfl,rfl⟩
 all_goals
  refine dK 19 ?_
  iterate 19 first|refine ar.i ?_|refine ar.v (λW k=>U.aa W (A.tr k)) ?_|refine ar.v (λW k=>Y.aa W (A.tr k)) ?_|refine ar.v (λW k=>L.aa W (A.tr k)) ?_
  intro V W kW hA
  simp only[aN,aQ,b6,aJ,Nat.reduceAdd]at hA
  refine aH.h ?_
  have j:=ae (H.aa.k kW)
  have O:=(A.tr kW).mono hlow
  obtain⟨q1,q2,Z⟩:=qs.1 W kW
  have:=y.ay kW
  clear hA qs y U Y L
 iterate 3
  (go_wp2
   go_ret
   exact zy.no (T.aa.trans cC) j.aa.st O)
 generalize W=C at *
 go_upto_region 4 with fail
 clear q1 q2 Z
 have ns:=j.aa.ns (v:=vp) (.inr (.inl rfl))
 have Q:∀k,(iC base g vl vp va k∨vp.ownBlock=some k)->k<C.heap.size:=λk h=>h.elim (j.aa.st.lt j.aa.low k) λh=>(j.aa.st.p.own h).2.1
 have qs:=j.aa.up (X:=λk=>vp.ownBlock=some k) ns
 refine Fp 12 9 s.prom vp r.e 43 oZ [([],[]),([],[]),([1],[(27,1)]),([2],[(28,2)]),([3],[(29,3)]),([],[]),([5],[(31,5)]),([6],[(32,6)]),([7],[(33,7)]),([4,8],[(30,4),(34,8)]),([0],[(26,0)]),([10],[(36,10)]),([11,9],[(37,11),(35,9)])] 38 j.aa.st.p j.aa.low af ?_
 iterate 7 refine ar.i ?_
 refine ar.c (uv (λk=>iC base g vl vp va k∨vp.ownBlock=some k) aW r.e) (λ_ _ _ h k=>h.mut k λ_ h=>.inr h) (λW' u=>(OY r.e _ W' (j.aa.en W' (u.more λk h=>.inr (.inr (.inl h)))) j.aa.sm).mono λe w' ⟨v,e1,ho,k⟩=>⟨v,e1,Qa ho λk h=>bw (Q k h) u.size,k⟩) ?_
 refine ar.Gp (S:=aW) (N:=λk=>iC base g vl vp va k∨vp.ownBlock=some k) C.heap.size oZ r.e (λ_ h=>h.size) (λb hb=>⟨.inr hb,Q b (.inr hb)⟩) (λV W t hp=>?_) ?_
 ·exact Qc
 refine ar.s ?_
 iterate 2 refine ar.i ?_
 refine⟨λ_ _=>trivial,λV W t hp=>?_,λV W t D M hA=>?_⟩
 ·exact ID
 simp only[aN,aQ,b6,aJ,Nat.reduceAdd]at hA
 have E:=j.aa.st.Yk t D M
 obtain⟨A9,c9,J⟩:=D.slice
 rw[J]at E
 generalize (s.prom++[r.e]).length=n9 at *
 have hA:=And.intro J hA
 have hb:=j.aa.st.blk.aX t ns.1
 have qs:=And.intro hb.cell hb.frozen
 refine aH.s ?_
 refine aH.h ?_
 have M7:=O.trans (j.aa.Ym (.inr (.inl rfl)) t 2 (.slice A9 n9 c9))
 have HS:=ae E
 clear hA qs E D M hb ns
 go_wp2
 go_ret
 exact zy.yes T.aa ⟨_,_,_,HS.aa⟩ M7
theorem as8{base g L gr s r vl vp va vf ve} w(h:pT base g L gr s r vl vp va vf ve w) :
 Calls prog 215 #[.pointer (some ⟨gr,0,none⟩),.pointer (some ⟨L,0,none⟩)] w λe w'=>D8 base g s (xJ s r) w e w':=by
 have E:Hid (xJ s r=if ¬r.n=s.list.length then none else if bU s.list (au r.e)then none else if dG s.ab (au r.e)then none else some ⟨s.life,s.list++[r.e],iY s.prom (au r.e),s.ab⟩):=ae rfl
 generalize xJ s r=R at *
 obtain⟨j,cl,rfl⟩:=h.st.l.slice
 have:=h.sz
 have hlow:=h.low
 have C1:=ae λW (kW:K w W)=>DP s (au r.e) _ W (h.st.st kW).nB af
 have C2:=ae λW (kW:K w W)=>Ia s (au r.e) _ W (h.st.st kW).nB af
 generalize bU s.list (au r.e)=y at *
 generalize dG s.ab (au r.e)=I at *
 have C:=ah.new w 26 #[.int .i64 r.e.br,.int .u64 r.e.life,.int .u64 r.e.bY]
 have D:=C.aS
 have H:=ae (h.k D)
 have q:=h.br.cell
 go_in
 go_upto_region 2 with fail
 generalize w.alloc _=A at *
 generalize w.heap.size=U at C⊢
 have hwr:IntKind.u64.wrap (s.list.length:Int)=s.list.length:=by rw[IntKind.wrap_u64];omega
 obtain⟨t,Q⟩:∃b,((r.n:Int) != (s.list.length:Int))=b:=⟨_,rfl⟩
 replace E:=ae (show R=if t=true then none else if y=true then none else if I=true then none else some ⟨s.life,s.list++[r.e],iY s.prom (au r.e),s.ab⟩ by rw[E.aa,<- Q];by_cases h:r.n=s.list.length <;> simp[h,Int.ofNat_inj])
 have qs:=And.intro H.aa.q (And.intro C.cells (And.intro hwr (And.intro (show au r.e=(r.e.br,r.e.life,r.e.bY)from rfl) Q)))
 rcases (show (t=true∨t=false/\y=true∨t=false/\y=false/\I=true)∨t=false/\y=false/\I=false by grind)with (rfl|⟨rfl,rfl⟩|⟨rfl,rfl,rfl⟩)|⟨rfl,rfl,rfl⟩
 all_goals
  refine dK 23 ?_
  iterate 23 first|refine ar.i ?_|refine ar.v (λW k=>C1.aa W (D.tr k)) ?_|refine ar.v (λW k=>C2.aa W (D.tr k)) ?_
  intro V W kW hA
  simp only[aN,aQ,b6,aJ,Nat.reduceAdd]at hA
  refine aH.h ?_
  have HW:=ae (H.aa.k kW)
  have Y:=(D.tr kW).mono hlow
  obtain⟨q1,q2,q3⟩:=qs.1 W kW
  have J:=C.ay kW
 iterate 3
  (go_wp2
   go_ret
   exact zy.no (E.aa.trans cC) HW.aa.st Y)
 generalize W=A at *
 go_upto_region 4 with fail
 have ns:=HW.aa.ns (v:=(Value.slice j s.list.length cl)) (.inl rfl)
 have Z:∀k,(iC base g (Value.slice j s.list.length cl) vp va k∨(Value.slice j s.list.length cl).ownBlock=some k)->k<A.heap.size:=λk h=>h.elim (HW.aa.st.lt HW.aa.low k) λh=>(HW.aa.st.l.own h).2.1
 have qs:=HW.aa.up (X:=λk=>(Value.slice j s.list.length cl).ownBlock=some k) ns
 refine Fp 12 9 s.list (Value.slice j s.list.length cl) r.e 43 oZ [([],[]),([],[]),([1],[(31,1)]),([2],[(32,2)]),([3],[(33,3)]),([],[]),([5],[(35,5)]),([6],[(36,6)]),([7],[(37,7)]),([4,8],[(34,4),(38,8)]),([0],[(30,0)]),([10],[(40,10)]),([11,9],[(41,11),(39,9)])] 45 HW.aa.st.l HW.aa.low af ?_
 iterate 7 refine ar.i ?_
 refine ar.c (uv (λk=>iC base g (Value.slice j s.list.length cl) vp va k∨(Value.slice j s.list.length cl).ownBlock=some k) aW r.e) (λ_ _ _ h k=>h.mut k λ_ h=>.inr h) (λW' u=>(OY r.e _ W' (HW.aa.en W' (u.more λk h=>.inr (.inl h))) HW.aa.sm).mono λe w' ⟨v,e1,ho,k⟩=>⟨v,e1,Qa ho λk h=>bw (Z k h) u.size,k⟩) ?_
 refine ar.Gp (S:=aW) (N:=λk=>iC base g (Value.slice j s.list.length cl) vp va k∨(Value.slice j s.list.length cl).ownBlock=some k) A.heap.size oZ r.e (λ_ h=>h.size) (λb hb=>⟨.inr hb,Z b (.inr hb)⟩) (λV W hW hp=>?_) ?_
 ·exact Qc
 refine ar.s ?_
 iterate 2 refine ar.i ?_
 refine⟨λ_ _=>trivial,λV W hW hp=>?_,λV W hW O hv hA=>?_⟩
 ·exact ID
 simp only[aN,aQ,b6,aJ,Nat.reduceAdd]at hA
 have T:=HW.aa.st.I8 hW O hv
 obtain⟨G,F,M⟩:=O.slice
 rw[M]at T
 generalize (s.list++[r.e]).length=B at *
 have hA:=And.intro M hA
 have hb:=HW.aa.st.blk.aX hW ns.1
 have qs:=And.intro hb.cell hb.frozen
 refine aH.s ?_
 refine aH.h ?_
 have M7:=Y.trans (HW.aa.Ym (.inl rfl) hW 1 (.slice G B F))
 have q2:=(HW.aa.far (.inl rfl) hW 1 (.slice G B F) HW.aa.bs ax).cell
 have q3:=(HW.aa.far (.inl rfl) hW 1 (.slice G B F) HW.aa.br ax).cell
 have:=((J.aX hW λe=>absurd ((HW.aa.st.l.own e).2.2.elim λ_ k=>J.gY k) ax).far (p:=⟨g,1,none⟩) (λe=>absurd (J.gY (show ah A U 46 _ by rw[show U=g from e];exact HW.aa.st.blk)) ax) (.slice G B F)).cell
 have C3:=ae (Ul ⟨s.life,s.list++[r.e],s.prom,s.ab⟩ (au r.e) base g _ ⟨_,_,_,T⟩ aB af8)
 generalize World.setCell W _ _=w5 at *
 go_wp2_with fail
 apply aI C3.aa
 rintro w3⟨hs,hb⟩
 have HS:=ae hs
 go_wp2
 go_ret
 exact zy.yes E.aa HS.aa (M7.trans hb)
theorem as9{s r}(h:dL r=false):mA s r=(s,110):=by simp[mA,h]
def akl(s:dy):Option dy->dy×Int
 | none=>(s,160)
 | some t=>(t,0)
theorem aep{s r o}(h:dL r=true)(e:dW s r=o):mA s r=akl s o:=by grind [dL,dW,mA,akl]
theorem ay1{s r}(h:r.kind=1):dW s r=zu s r:=by simp[dW,h]
theorem ay2{s r}(h:r.kind=2):dW s r=xJ s r:=by simp[dW,h]
theorem ay3{s r}(h:r.kind=3):dW s r=xK s r:=by simp[dW,h]
theorem ay4{s r}(h:r.kind=4):dW s r=xL s r:=by simp[dW,h]
theorem ay5{s r}(h:r.kind=5):dW s r=zw s r:=by simp[dW,h]
theorem ava{r}(h:dL r=true):r.kind=1∨r.kind=2∨r.kind=3∨r.kind=4∨r.kind=5:=by
 grind [dL]
structure M8(base g:Nat)(s:dy)(r:Rec)(vl vp va v:Value)(w:World):Prop where
 st:eF base g s vl vp va w
 rc:Fx (Yl g vl vp va) (λW=>pQ r v W) w
 low:base<=w.heap.size
 sz:s.list.length<=900000/\s.prom.length<=900000/\s.ab.length<=900000
 sm:ew r.e
 fit:jA r
theorem M8.onV{base g t gr s r vl vp va vf j w}(h:M8 base g s r vl vp va (.agg (eY r vf j)) w){W}(k:K w W)(u:ah W t 201 #[.pointer (some ⟨g,0,none⟩)])(B:ah W gr 197 (eY r vf j)) :
 pT base g t gr s r vl vp va vf j W:=by
 refine⟨h.st.st k,u,B,(h.rc.k k).mono λW' h=>?_,bo h.low k.size,h.sz,h.sm⟩
 obtain⟨D,C,e,y,A⟩:=h
 injection e with e
 have e:=congrArg Array.toList e
 simp at e
 obtain⟨rfl,rfl⟩:=e
 exact⟨_,_,rfl,y,A⟩
theorem aeq{base g s r vl vp va v} w(h:M8 base g s r vl vp va v w) :
 Calls prog 120 #[.pointer (some ⟨g,0,none⟩),v] w λe w'=>e=.returned (.int .i64 (mA s r).2)/\zx base g (mA s r).1 w'/\Below base w w':=by
 obtain⟨vf,D,rfl,-,-⟩:=h.rc.now
 have H:=ae h
 have M:=ae λW (k:K w W)=>arl r (.agg (eY r vf D)) W (h.rc.at k) h.fit
 have y:=(ah.new w 201 #[.pointer (some ⟨g,0,none⟩)]).alloc (.cells (eY r vf D) 197)
 have t:=ah.new (w.alloc (.cells #[.pointer (some ⟨g,0,none⟩)] 201)) 197 (eY r vf D)
 have j:=K.kK w (.cells #[.pointer (some ⟨g,0,none⟩)] 201) (.cells (eY r vf D) 197)
 rw[World.size_alloc]at t
 have:=@run_makeMap prog
 have B:∀W:World,(zeroValue 22).run prog W=.ok .nilFunc W:=λW=>fo
 go_in
 go_wp2_with fail
 generalize World.alloc (World.alloc w _) _=J at *
 generalize O:w.heap.size=I at *
 refine (M.aa J j).mono ?_
 rintro e A⟨Q,rfl,-,F⟩
 replace j:=j.tr F
 replace y:=y.ay F
 replace t:=t.ay F
 cases hok:dL r
 ·rw[show tR r=110 by simp[tR,hok]];have HQ:=ae (as9 (s:=s) hok);have HS:=ae (H.aa.st.st j);have E:=j.mono H.aa.low;go_wp2;go_ret;exact⟨nL,by rw[HQ.aa];exact⟨_,_,_,HS.aa⟩,E⟩
 rw[show tR r=0 by simp[tR,hok]]
 have G:=ae hok
 have u:=Cr.new A
 have:=t.lt
 replace y:=y.alloc (.map #[] 0)
 replace t:=t.alloc (.map #[] 0)
 replace j:=j.al (.map #[] 0)
 go_wp2_with (with_reducible refine wV _ rfl (.tmp 17) (.const (.int .i64 1)) (.tmp 18) 286 rfl 3 22 underlying286 underlying3 A.heap.size _ rfl u 1 rfl _ rfl rfl ?_)
 intro W u hg
 replace j:K w W:=j.trans (ku hg af j.size)
 replace y:=y.grown hg aY
 replace t:=t.grown hg aY
 go_wp2_with (with_reducible refine wV _ rfl (.tmp 17) (.const (.int .i64 2)) (.tmp 19) 286 rfl 3 22 underlying286 underlying3 A.heap.size _ rfl u 2 rfl _ rfl rfl ?_)
 intro W u hg
 replace j:K w W:=j.trans (ku hg af j.size)
 replace y:=y.grown hg aY
 replace t:=t.grown hg aY
 go_wp2_with (with_reducible refine wV _ rfl (.tmp 17) (.const (.int .i64 3)) (.tmp 20) 286 rfl 3 22 underlying286 underlying3 A.heap.size _ rfl u 3 rfl _ rfl rfl ?_)
 intro W u hg
 replace j:K w W:=j.trans (ku hg af j.size)
 replace y:=y.grown hg aY
 replace t:=t.grown hg aY
 go_wp2_with (with_reducible refine wV _ rfl (.tmp 17) (.const (.int .i64 4)) (.tmp 21) 286 rfl 3 22 underlying286 underlying3 A.heap.size _ rfl u 4 rfl _ rfl rfl ?_)
 intro W u hg
 replace j:K w W:=j.trans (ku hg af j.size)
 replace y:=y.grown hg aY
 replace t:=t.grown hg aY
 go_wp2_with (with_reducible refine wV _ rfl (.tmp 17) (.const (.int .i64 5)) (.tmp 22) 286 rfl 3 22 underlying286 underlying3 A.heap.size _ rfl u 5 rfl _ rfl rfl ?_)
 intro W u hg
 replace j:K w W:=j.trans (ku hg af j.size)
 replace y:=y.grown hg aY
 replace t:=t.grown hg aY
 have:W.cell? ⟨I+1,0,none⟩=some (.int .i64 r.kind):=t.cell 0
 have C:=ae (H.aa.onV j y t)
 have E:=j.mono H.aa.low
 obtain⟨f,c1,c2,V,R,N⟩:∃(f:Nat) (c1 c2:Value),(∀args W,(callFunc f args).run prog W=.ok (.enter f args) W)/\(Instr.lookup 286 (.map (some A.heap.size)) (.int .i64 r.kind) true).run prog W=.ok (.tuple #[Value.func (Fn.func f) #[] #[c1,c2],.bool true]) W/\Hid (Calls prog f #[c1,c2] W (D8 base g s (dW s r) W)):=by
  rcases ava G.aa with hk|hk|hk|hk|hk <;> rw[hk]
  ·exact⟨_,_,_,λ_ _=>cC,uL underlying286 underlying3 (B W) u 1,by rw[ay1 hk];exact ae (as4 W C.aa)⟩
  ·exact⟨_,_,_,λ_ _=>cC,uL underlying286 underlying3 (B W) u 2,by rw[ay2 hk];exact ae (as8 W C.aa)⟩
  ·exact⟨_,_,_,λ_ _=>cC,uL underlying286 underlying3 (B W) u 3,by rw[ay3 hk];exact ae (as7 W C.aa)⟩
  ·exact⟨_,_,_,λ_ _=>cC,uL underlying286 underlying3 (B W) u 4,by rw[ay4 hk];exact ae (as6 W C.aa)⟩
  ·exact⟨_,_,_,λ_ _=>cC,uL underlying286 underlying3 (B W) u 5,by rw[ay5 hk];exact ae (as5 W C.aa)⟩
 have HQ:=ae (aep (s:=s) G.aa rfl)
 go_wp2_with fail
 refine N.aa.mono ?_
 rintro e X⟨rfl,L,hb⟩
 have HS:=ae L
 generalize dW s r=o at *
 have oT:=E.trans hb
 cases o
 ·exact af9
 ·exact af9
theorem ady{l A w}(h:zm bZ l A w):Reads w w.heap.size 3 A l.length (l.flatMap fG):=by
 obtain⟨css,j,t⟩:=h;have:css=l.map fG:=by
  refine List.ext_getElem (by simpa using j.1) λi u y=>?_
  rw[List.getElem_map];exact j.2 i aB u
 rw[this,ael]at t;exact t
theorem Qd(l:List aT):∀u∈l.flatMap fG,u.oneCell'=true:=by intro u t;obtain⟨a,-,j⟩:=List.mem_flatMap.1 t;simp at j;rcases j with rfl|rfl|rfl <;> rfl
theorem eF.lower{base base' g s vl vp va W}(h:eF base g s vl vp va W)(hb:base'<=base):eF base' g s vl vp va W:=by
 have j:∀b,iC base' g vl vp va b->iC base g vl vp va b:=λb h=>by grind [iC]
 exact⟨h.blk,bo hb h.low,(h.l.less j).low hb,(h.p.less j).low hb,(h.a.less j).low hb,h.ne⟩
def Mo(base:Nat)(s:dy)(vl vp va:Value)(W:World):Prop:=∀W',ag (λk=>k<base) W W'->eF base W'.heap.size s vl vp va (W'.alloc (.cells (cJ s vl vp va) 46))
theorem eF.r{base g s vl vp va W}(h:eF base g s vl vp va W)(hb:base<=W.heap.size):Mo base s vl vp va W:=λW' u=>by
 have j:=K.new W' (.cells (cJ s vl vp va) 46);have hz:=u.size;have t:∀b,b<W.heap.size->iC base W'.heap.size vl vp va b->iC base g vl vp va b:=λb hb h=>by unfold iC at *;grind
 have A:=h.l.blk;have hp:=h.p.blk;have y:=h.a.blk;exact⟨ah.new _ _ _,bo hb hz,(h.l.to u (λ_ h=>.inl h) (λk e _=>by have:=A k e;omega) λb hb h=>.inl (t b hb h)).st j,(h.p.to u (λ_ h=>.inl h) (λk e _=>by have:=hp k e;omega) λb hb h=>.inl (t b hb h)).st j,(h.a.to u (λ_ h=>.inl h) (λk e _=>by have:=y k e;omega) λb hb h=>.inl (t b hb h)).st j,h.ne⟩
theorem Mo.to{base base' s vl vp va W W'}(h:Mo base s vl vp va W)(u:ag (λk=>k<base) W W')(hb:base'<=base):Mo base' s vl vp va W' :=
 λt j=>(h t (u.tr (j.more λ_ h=>bw h hb))).lower hb
abbrev lH:Array Value:=#[.int .u64 0,.slice none 0 0,.slice none 0 0,.slice none 0 0]
def azM(base:Nat)(v:Value)(W:World):Prop:=∃b,v=.pointer (some ⟨b,0,none⟩)/\base<=b/\ah W b 46 lH
theorem avb{P t z}(T:fS P t 26 z 3 24){ρ} s x(F:ρ s=.slice none 0 0){l u}(B:ρ x=u){w}(h:aq bZ l u w)(G:l.length<=1000000) base(hb:base<=w.heap.size) Y ty :
 ∃v' w',(execOp ρ (aG (.call { callee:=.builtin .append,args:=#[s,x],argTypes:=#[t,t] }) ty)).run P w=.ok (.value v') w'/\aC Y base 26 bZ l v' w'/\K w w':=by
 obtain⟨A,c,rfl,C,-⟩:=h
 obtain⟨v',w',y,E,j,-,-⟩:=FK (P:=P) w base t ty 26 z 3 24 T (.slice none 0 0) 0 [] (jV _ _ _ _) _ A l.length c _ (ady C) (Qd _) af hb
 exact⟨v',w',by simp only[execOp,aG,resolve,invoke,builtin,Sem.run_bind,Sem.run_pure,Result.andThen_ok,List.map_toArray,jU,List.map_nil,F,B,y],⟨l.map fG,by rw[ael];simpa [show bZ.size=3 from rfl]using E,aj,λW _=>Pz l W⟩,⟨j.os,j.tape,j.output,j.size,λi D=>j.block i D (by simp[Value.ownBlock])⟩⟩
theorem ao9 s v w(h:nB s v w)(je:∀x∈s.list,ew x)(hsp:∀x∈s.prom,ew x)(hz:s.list.length<=900000/\s.prom.length<=900000/\s.ab.length<=900000) :
 Calls prog 303 #[v] w λe w'=>∃vl vp va,e=.returned (.agg (cJ s vl vp va))/\Mo w.heap.size s vl vp va w'/\K w w':=by
 obtain⟨vl,vp,va,rfl,hl,hp,ha⟩:=h
 have HA:=ae ha
 obtain⟨Al,cl,rfl,hl,-⟩:=hl
 obtain⟨Ap,cp,rfl,hp,-⟩:=hp
 obtain⟨Aa,ca,rfl⟩:=av ha
 have eH:=(ah.new w 46 (cJ s (.slice Al s.list.length cl) (.slice Ap s.prom.length cp) (.slice Aa s.ab.length ca))).alloc (.cells lH 46)
 have dH:=ah.new (w.alloc (.cells (cJ s (.slice Al s.list.length cl) (.slice Ap s.prom.length cp) (.slice Aa s.ab.length ca)) 46)) 46 lH
 have I:=K.kK w (.cells (cJ s (.slice Al s.list.length cl) (.slice Ap s.prom.length cp) (.slice Aa s.ab.length ca)) 46) (.cells lH 46)
 rw[World.size_alloc]at dH
 have je:=ae je
 have hsp:=ae hsp
 have HL:=ae hl
 have HP:=ae hp
 go_in
 go_upto_region 1 with fail
 generalize World.alloc (World.alloc w _) _=w0 at *
 obtain⟨base,hbase⟩:∃b,b=w0.heap.size:=⟨_,rfl⟩
 have jy:w.heap.size+1<base:=by rw[hbase];exact dH.lt
 generalize eO:w.heap.size=gp at eH dH jy⊢
 have qs:=eH.cells
 refine dK 7 ?_
 iterate 4 refine ar.i ?_
 refine ar.op (λv W=>aC (λ_=>True) base 26 bZ s.ab v W) (λ_ _ _ h k=>h.st k) (λV W kW hp=>?_) ?_
 ·simp only[cz,aN,aQ,bV,bW,aJ]at hp;obtain⟨v',w',hrun,L,h2⟩:=avb (P:=prog) wu (ρ:=aF [(11,3)] _ V) (.const (.slice none 0 0)) (.tmp 11) rfl hp.1 (bj HA.aa (I.tr kW)) af base aga (λ_=>True) 44;change cU _ _ _ ((execOp (aF [(11,3)] _ V) (aG (.call { callee:=.builtin .append,args:=#[.const (.slice none 0 0),.tmp 11],argTypes:=#[44,44] }) 44)).run _ _);rw[hrun];exact⟨L,h2⟩
 refine ar.op (λv W=>∃va,v=.agg (cJ ⟨s.life,[],[],s.ab⟩ (.slice none 0 0) (.slice none 0 0) va)/\aC (λ_=>True) base 26 bZ s.ab va W) (λ_ _ _ ⟨va,e,h⟩ k=>⟨va,e,h.st k⟩) (λV W kW hp=>?_) ?_
 ·simp only[cz,aN,aQ,bV,bW,aJ]at hp;obtain⟨L,h4,-⟩:=hp;obtain⟨A4,c4,e4⟩:=h4.slice;simp[L,e4,bO,aF,List.lookup,cU,execOp,aG,cP,go_sem];rw[<- e4];exact h4
 refine ar.op (azM base) (λv w w' ⟨b,e,L,h2⟩ k=>⟨b,e,L,h2.ay k⟩) (λV W kW _=>?_) ?_
 ·simp[bO,cU,execOp,aG,go_sem];exact⟨⟨W.heap.size,rfl,aga,ah.new _ _ _⟩,(K.rf W).al _⟩
 intro V W kW hA
 simp only[aN,aQ,b6,aJ,Nat.reduceAdd]at hA
 obtain⟨-,-,-,-,-,⟨va9,e5,B⟩,⟨g,e6,hg,hb⟩,-⟩:=hA
 have hA:=And.intro e6 e5
 obtain⟨G,E,rfl⟩:=B.slice
 have u9:ag (λk=>k=g) W (dY W g 0 [.int .u64 s.life,.slice none 0 0,.slice none 0 0,.slice G s.ab.length E]):=ag.sets (X:=λk=>k=g) rfl _ _ _
 have Zl:Hid (zx base g ⟨s.life,[],[],s.ab⟩ (dY W g 0 [.int .u64 s.life,.slice none 0 0,.slice none 0 0,.slice G s.ab.length E])):=ae ⟨_,_,_,eF.nil (FO hb rfl) hg (B.to u9 (λ_ _=>trivial) (λk h e=>absurd ((B.own h).2.2.elim λ_ k=>k.gY (e▸hb)) ax) λ_ _ _=>.inl trivial)⟩
 have qq:=hb.cell
 have zz:=hb.frozen
 refine aH.skip (dY W g 0 [.int .u64 s.life,.slice none 0 0,.slice none 0 0,.slice G s.ab.length E]) rfl (by simp[aF,List.lookup,ba,e5,e6,execOp,aG,dY,qq,zz,go_sem]) ?_
 refine aH.h ?_
 have kk:=u9.k kW λk e=>af
 generalize dY _ _ _ _=W1 at *
 have:=eH.cells
 go_wp2_with fail
 go_loopw [5,17] (fun _ i W=>∃j:Nat,j<=s.list.length/\i=.int .i64 j/\Hid (zx base g ⟨s.life,s.list.take j,[],s.ab⟩ W)/\K w0 W) (fun _ i _=>s.list.length-(intOf i).toNat)
 case atStart=>exact⟨0,af,rfl,ae fk,kk⟩
 case round =>
  obtain⟨j,hj,rfl,F,kr⟩:=hrel;by_cases Q:j<s.list.length
  ·have aO:(j:Int)<s.list.length:=af;obtain⟨b1,off,cs,rfl,hcl,hrl,d0,d⟩:=ed HL.aa j Q ax;have HT:Hid (s.list.take (j+1)=s.list.take j++[s.list[j]]):=ae aj;have hxs:=je.aa _ (bT Q);generalize s.list[j]=x at *;obtain⟨vf,ve,rfl,Y,he⟩:=hrl w (K.rf w);have kU:Hid (∀W,K w W->dx x (.agg (aE x vf ve)) W):=ae λW k=>⟨_,_,rfl,eu _ _ _ _ Y k,bj he k⟩
   have T:=I.tr kr;have d0:wr.cell? ⟨b1,off+j*8,none⟩=some (.int .i64 x.kind):=d0 wr T;have d:∀i,i<8->wr.cell? ⟨b1,off+j*8+i,none⟩=(aE x vf ve)[i]?:=λi hi=>(d wr T i hi).trans Array.getElem?_toList
   obtain⟨Af,R,rfl⟩:=b5 Y;obtain⟨Ae,Z,rfl⟩:=av he;have D:=ah.new wr 126 (aE x (.slice Af x.f.length R) (.slice Ae x.es.length Z));have M:=D.aS;go_upto_region 5 with fail;obtain⟨vl,vp,va,y⟩:=F.aa;have J:vl.ownBlock≠some wr.heap.size:=λe=>by have:=(y.l.own e).2.1;omega
   have t:=ae (y.st M);generalize wr.alloc _=C at *;generalize wr.heap.size=ge at D J⊢;replace kr:=kr.tr M;have dP:base<=C.heap.size:=V2;have hN:∀k,(iC base g vl vp va k∨vl.ownBlock=some k)->k<C.heap.size:=λk h=>h.elim (t.aa.lt dP k) λh=>(t.aa.l.own h).2.1
   have U:vl.ownBlock≠some g:=λe=>((t.aa.sep g).1 e).2.1 rfl
   have qs:∀W,rA vl C W->(∀i,W.cell? ⟨g,i,none⟩=(cJ ⟨s.life,s.list.take j,[],s.ab⟩ vl vp va)[i]?)/\(∀i,W.cell? ⟨ge,i,none⟩=(aE x (.slice Af x.f.length R) (.slice Ae x.es.length Z))[i]?):=λW u=>⟨(t.aa.blk.aX u U).cell,(D.aX u J).cell⟩
   have O:∀k,vl.ownBlock=some k->w0.heap.size<=k:=λk e=>by rw[<- hbase];exact ((t.aa.sep k).1 e).1
   refine Fp 7 5 (s.list.take j) vl x 43 oZ [([],[]),([0],[(21,0)]),([],[]),([2],[(23,2)]),([3],[(24,3)]),([1,4],[(22,1),(25,4)]),([],[]),([6,5],[(27,6),(26,5)])] 45 t.aa.l dP aY ?_;iterate 3 refine ar.i ?_
   refine ar.c (uv (λk=>iC base g vl vp va k∨vl.ownBlock=some k) aW x) (λ_ _ _ h k=>h.mut k λ_ h=>.inr h) (λW' u=>(OY x _ W' (kU.aa W' (I.tr (u.k kr O))) hxs).mono λe w' ⟨v,e1,ho,k⟩=>⟨v,e1,Qa ho λk h=>bw (hN k h) u.size,k⟩) ?_;refine ar.Gp (S:=aW) (N:=λk=>iC base g vl vp va k∨vl.ownBlock=some k) C.heap.size oZ x (λ_ h=>h.size) (λb hb=>⟨.inr hb,hN b (.inr hb)⟩) (λV W A hp=>?_) ?_
   ·exact Qc
   refine ar.s ?_;refine ar.i ?_;refine⟨λ_ _=>trivial,λV W A hp=>?_,λV W A B hv hA=>?_⟩
   ·exact ID
   simp only[aN,aQ,b6,aJ,Nat.reduceAdd]at hA;have y:=t.aa.I8 A B hv;obtain⟨G,E,H⟩:=B.slice;rw[H]at y;generalize (s.list.take j++[x]).length=n9 at *;rw[<- HT.aa]at y;have hA:=And.intro H hA;have hb:=t.aa.blk.aX A U;have qs:=And.intro hb.cell hb.frozen;refine aH.s ?_;refine aH.h ?_;have HS9:=ae y;have k9:K w0 (W.setCell ⟨g,1,none⟩ (.slice G n9 E)):=(A.k kr O).setCell aB _;exact agb
  ·have aO:¬(j:Int)<s.list.length:=af;rw[gI af]at F;have Zl:=F;have kk:=kr;generalize wr=wa at *;go_wp2_with fail
   go_loopw [7,32] (fun _ i W=>∃j:Nat,j<=s.prom.length/\i=.int .i64 j/\Hid (zx base g ⟨s.life,s.list,s.prom.take j,s.ab⟩ W)/\K w0 W) (fun _ i _=>s.prom.length-(intOf i).toNat)
   case atStart=>exact⟨0,af,rfl,ae fk,kk⟩
   case round =>
    obtain⟨j,hj,rfl,F,kr⟩:=hrel;by_cases Q:j<s.prom.length
    ·have aO:(j:Int)<s.prom.length:=af;obtain⟨b1,off,cs,rfl,hcl,hrl,d0,d⟩:=ed HP.aa j Q ax;have HT:Hid (s.prom.take (j+1)=s.prom.take j++[s.prom[j]]):=ae aj;have hxs:=hsp.aa _ (bT Q);generalize s.prom[j]=x at *;obtain⟨vf,ve,rfl,Y,he⟩:=hrl w (K.rf w);have kU:Hid (∀W,K w W->dx x (.agg (aE x vf ve)) W):=ae λW k=>⟨_,_,rfl,eu _ _ _ _ Y k,bj he k⟩
     have T:=I.tr kr;have d0:wr.cell? ⟨b1,off+j*8,none⟩=some (.int .i64 x.kind):=d0 wr T;have d:∀i,i<8->wr.cell? ⟨b1,off+j*8+i,none⟩=(aE x vf ve)[i]?:=λi hi=>(d wr T i hi).trans Array.getElem?_toList
     obtain⟨Af,R,rfl⟩:=b5 Y;obtain⟨Ae,Z,rfl⟩:=av he;have D:=ah.new wr 126 (aE x (.slice Af x.f.length R) (.slice Ae x.es.length Z));have M:=D.aS;go_upto_region 10 with fail;obtain⟨vl,vp,va,y⟩:=F.aa;have J:vp.ownBlock≠some wr.heap.size:=λe=>by have:=(y.p.own e).2.1;omega
     have t:=ae (y.st M);generalize wr.alloc _=C at *;generalize wr.heap.size=ge at D J⊢;replace kr:=kr.tr M;have dP:base<=C.heap.size:=V2;have hN:∀k,(iC base g vl vp va k∨vp.ownBlock=some k)->k<C.heap.size:=λk h=>h.elim (t.aa.lt dP k) λh=>(t.aa.p.own h).2.1
     have U:vp.ownBlock≠some g:=λe=>((t.aa.sep g).2.1 e).2.1 rfl
     have qs:∀W,rA vp C W->(∀i,W.cell? ⟨g,i,none⟩=(cJ ⟨s.life,s.list,s.prom.take j,s.ab⟩ vl vp va)[i]?)/\(∀i,W.cell? ⟨ge,i,none⟩=(aE x (.slice Af x.f.length R) (.slice Ae x.es.length Z))[i]?):=λW u=>⟨(t.aa.blk.aX u U).cell,(D.aX u J).cell⟩
     have O:∀k,vp.ownBlock=some k->w0.heap.size<=k:=λk e=>by rw[<- hbase];exact ((t.aa.sep k).2.1 e).1
     refine Fp 7 5 (s.prom.take j) vp x 43 oZ [([],[]),([0],[(36,0)]),([],[]),([2],[(38,2)]),([3],[(39,3)]),([1,4],[(37,1),(40,4)]),([],[]),([6,5],[(42,6),(41,5)])] 45 t.aa.p dP aY ?_;iterate 3 refine ar.i ?_
     refine ar.c (uv (λk=>iC base g vl vp va k∨vp.ownBlock=some k) aW x) (λ_ _ _ h k=>h.mut k λ_ h=>.inr h) (λW' u=>(OY x _ W' (kU.aa W' (I.tr (u.k kr O))) hxs).mono λe w' ⟨v,e1,ho,k⟩=>⟨v,e1,Qa ho λk h=>bw (hN k h) u.size,k⟩) ?_;refine ar.Gp (S:=aW) (N:=λk=>iC base g vl vp va k∨vp.ownBlock=some k) C.heap.size oZ x (λ_ h=>h.size) (λb hb=>⟨.inr hb,hN b (.inr hb)⟩) (λV W A hp=>?_) ?_
     ·exact Qc
     refine ar.s ?_;refine ar.i ?_;refine⟨λ_ _=>trivial,λV W A hp=>?_,λV W A B hv hA=>?_⟩
     ·exact ID
     simp only[aN,aQ,b6,aJ,Nat.reduceAdd]at hA;have y:=t.aa.Yk A B hv;obtain⟨G,E,H⟩:=B.slice;rw[H]at y;generalize (s.prom.take j++[x]).length=n9 at *;rw[<- HT.aa]at y;have hA:=And.intro H hA;have hb:=t.aa.blk.aX A U;have qs:=And.intro hb.cell hb.frozen;refine aH.s ?_;refine aH.h ?_;have HS9:=ae y;have k9:K w0 (W.setCell ⟨g,2,none⟩ (.slice G n9 E)):=(A.k kr O).setCell aB _;exact agb
    ·have aO:¬(j:Int)<s.prom.length:=af;rw[gI af]at F;obtain⟨vl,vp,va,y⟩:=F.aa;obtain⟨⟨Bl,dl,rfl⟩,⟨Bp,dp,rfl⟩,Ba,da,rfl⟩:=y.slices;have q:=y.blk.cell;have df:=dH.ay kr;have z:=df.frozen;have:=df.cell;obtain⟨bq,k9,u9⟩:=LU s (.slice Bl s.list.length dl) (.slice Bp s.prom.length dp) (.slice Ba s.ab.length da) df rfl (I.tr kr) af;have H9:=ae (And.intro ((y.r V2).to (u9.more λk e=>show k<base by omega) (show w.heap.size<=base by omega)) k9);go_wp2;generalize World.setCell (World.setCell (World.setCell (World.setCell wr _ _) _ _) _ _) _ _=W9 at *;have H:=bq.cell;refine bodyPost_ret (v:=.agg (cJ s (.slice Bl s.list.length dl) (.slice Bp s.prom.length dp) (.slice Ba s.ab.length da))) (by simp[results,results303,go_sem,H]) rfl ?_;exact⟨_,_,_,rfl,eO▸H9.aa.1,H9.aa.2⟩
theorem avc s r v u w(h:nB s v w)(Z:pQ r u w)(hfit:jA r)(azN:ew r.e)(je:∀x∈s.list,ew x)(hsp:∀x∈s.prom,ew x)(hz:s.list.length<=900000/\s.prom.length<=900000/\s.ab.length<=900000) :
 Calls prog 269 #[v,u] w λe w'=>∃vl vp va,e=.returned (.tuple #[.agg (cJ (mA s r).1 vl vp va),.int .i64 (mA s r).2])/\lG (λk=>k<w.heap.size) (mA s r).1 vl vp va w'/\K w w':=by
 have C1:=ae λW (k:K w W)=>ao9 s v W (LS h k) je hsp hz
 obtain⟨vl,vp,va,rfl,hl,hp,ha⟩:=h
 obtain⟨F,cl,rfl⟩:=av hl
 obtain⟨H,J,rfl⟩:=av hp
 obtain⟨C,D,rfl⟩:=av ha
 have xO:=ae (λW (k:K w W)=>QX Z k)
 obtain⟨vf,ve,rfl,hf,he⟩:=Z
 obtain⟨B,A,rfl⟩:=b5 hf
 obtain⟨y,t,rfl⟩:=av he
 have HF:=ae hfit
 generalize ho:mA s r=o
 have HO:=ae ho
 obtain⟨j,e'⟩:=o
 have HM:=ae azN
 have eH:=((ah.new w 46 (cJ s (.slice F s.list.length cl) (.slice H s.prom.length J) (.slice C s.ab.length D))).alloc (.cells (eY r (.slice B r.e.f.length A) (.slice y r.e.es.length t)) 197)).alloc (.cells lH 46)
 have O:=(ah.new (w.alloc (.cells (cJ s (.slice F s.list.length cl) (.slice H s.prom.length J) (.slice C s.ab.length D)) 46)) 197 (eY r (.slice B r.e.f.length A) (.slice y r.e.es.length t))).alloc (.cells lH 46)
 have L:=ah.new ((w.alloc (.cells (cJ s (.slice F s.list.length cl) (.slice H s.prom.length J) (.slice C s.ab.length D)) 46)).alloc (.cells (eY r (.slice B r.e.f.length A) (.slice y r.e.es.length t)) 197)) 46 lH
 have N:=K.Rk w (.cells (cJ s (.slice F s.list.length cl) (.slice H s.prom.length J) (.slice C s.ab.length D)) 46) (.cells (eY r (.slice B r.e.f.length A) (.slice y r.e.es.length t)) 197) (.cells lH 46)
 simp only[World.size_alloc]at O L
 go_in
 go_wp2_with fail
 generalize World.alloc (World.alloc (World.alloc w _) _) _=w0 at *
 generalize jy:w.heap.size=gp at eH O L⊢
 refine (C1.aa w0 N).mono ?_
 rintro e E⟨vl1,vp1,va1,rfl,hS,k1⟩
 have Y:=hS E (ag.rf _ _)
 obtain⟨⟨Bl,dl,rfl⟩,⟨V,dp,rfl⟩,T,da,rfl⟩:=Y.slices
 have kA:=K.new E (.cells (cJ s (.slice Bl s.list.length dl) (.slice V s.prom.length dp) (.slice T s.ab.length da)) 46)
 have G:=k1.tr kA
 have:=(O.ay G).cell
 have R:=ae Y
 have hgr:=L.lt
 have hz0:=N.size
 go_wp2_with fail
 generalize World.alloc E _=X at *
 generalize E.heap.size=g at *
 have GQ:=N.tr G
 have Sc:M8 w0.heap.size g s r (.slice Bl s.list.length dl) (.slice V s.prom.length dp) (.slice T s.ab.length da) (.agg (eY r (.slice B r.e.f.length A) (.slice y r.e.es.length t))) X :=
  ⟨R.aa,λW' u'=>xO.aa W' (u'.k GQ λk e=>by have:=R.aa.sep k;have:=R.aa.low;unfold Yl at e;grind),G.size,hz,HM.aa,HF.aa⟩
 have M:=aeq X Sc
 rw[HO.aa]at M
 have M:=ae M
 apply aI M.aa
 rintro w3⟨⟨vl,vp,va,I⟩,bP⟩
 simp only at I⊢
 obtain⟨⟨El,fl,rfl⟩,⟨U,fp,rfl⟩,Ea,fa,rfl⟩:=I.slices
 have q:=I.blk.cell
 have Q:=(L.ay G).below bP hgr
 have z:=Q.frozen
 have:=Q.cell
 obtain⟨bq,k9,u9⟩:=LU j (.slice El j.list.length fl) (.slice U j.prom.length fp) (.slice Ea j.ab.length fa) Q rfl (GQ.trans (bP.mono hz0)) af
 have S:=ae (And.intro (I.fx.up u9 λk e=>show k<w0.heap.size by omega) k9)
 go_wp2
 generalize World.setCell (World.setCell (World.setCell (World.setCell w3 _ _) _ _) _ _) _ _=W9 at *
 have e9:=bq.cell
 refine bodyPost_ret (v:=.tuple #[.agg (cJ j (.slice El j.list.length fl) (.slice U j.prom.length fp) (.slice Ea j.ab.length fa)),.int .i64 e']) (by simp[results,results269,go_sem,e9]) rfl ?_
 exact⟨_,_,_,rfl,S.aa.1.less λk h=>af,S.aa.2⟩
theorem avd n l wr:∀a∈(lV n l wr).1,lU a:=by
 simp only[lV]
 cases hd:sV (aM n l wr).1 with
 | none=>simp
 | some e=>exact (adp hd).2.2
theorem ave n l wr:∀a∈(qu n l wr).1,iB a:=by
 simp only[qu]
 cases hd:qV (aM n l wr).1 with
 | none=>simp
 | some e=>exact (ado hd).2.2
theorem ayj l wr:(gK l wr).1.2.2.1<18446744073709551616/\(gK l wr).1.2.2.2.1<18446744073709551616/\(gK l wr).1.2.2.2.2.2<18446744073709551616 :=
 ⟨nM _ _,nM _ _,nM _ _⟩
theorem Vi a f es(j:a.2.2.1<18446744073709551616)(u:a.2.2.2.1<18446744073709551616)(y:a.2.2.2.2.2<18446744073709551616)(A:∀t∈f,iB t)(B:∀e∈es,∀a∈e,lU a) :
 cE { oK a with f:=f,es:=es }:=by
 grind [iB,lU,cE,oK,bR]
theorem avf n l wr:cE (qv n l wr).1:=by
 obtain⟨t,j,u⟩:=ayj l wr;unfold qv;split
 ·exact Vi _ [] _ t j u aj (aff (λe=>∀a∈e,lU a) (avd n) _ _ _)
 ·split
  ·exact Vi _ _ [] t j u (ave n _ _) aj
  ·exact Vi _ [] [] t j u aj aj
theorem adz{b x}(h:iA b=some x):cE x:=by
 grind [iA,avf]
theorem PA:cE dC:=by simp[cE,dC,bR]
theorem ata n l wr:jA (ng n l wr).1:=by
 have j:∀(k m:Nat) (e:aL) (b c d:Nat),cE e->m<18446744073709551616->c<18446744073709551616->d<18446744073709551616->jA ⟨(min k 6:Nat),m,e,(min b 16:Nat),c,d⟩:=by
  grind [jA,ng,bR]
 unfold ng;simp only;split
 ·split
  ·simp[jA,I6,bR,PA]
  ·rename_i e t;have:=j (aw l wr).1 _ _ 0 0 0 (adz t) (nM (aw l wr).2.1 (aw l wr).2.2) af af;simpa using this
 ·split
  ·exact j _ _ _ _ _ _ PA (nM _ _) (nM _ _) (nM _ _)
  ·have:=j (aw l wr).1 _ _ 0 0 0 PA (nM (aw l wr).2.1 (aw l wr).2.2) af af;simpa using this
theorem aro{b x}(h:mZ b=some x):jA x:=by
 unfold mZ at h;split at h
 ·injection h with h;rw[<- h];exact ata _ _ _
 ·cases h
def ki:dV (List UInt8) where
 size:=1
 rel l cs w:=∃v,cs=[v]/\sl l v w
 len:=by rintro _ _ _⟨v,rfl,_⟩;rfl
 one:=by rintro _ _ _⟨v,rfl,A,c,rfl,_⟩ u j;simp at j;subst j;rfl
 st:=by rintro _ _ _ _⟨v,rfl,h⟩ k;exact⟨v,rfl,nP _ _ _ _ h k⟩
def sc(s:dy)(b:List UInt8):dy×Int:=if tN b=0 then mA s (tM b)else (s,tN b)
def iu:dy->List (List UInt8)->dy×Int
 | s,[]=>(s,0)
 | s,b :: l=>if (sc s b).2=0 then iu (sc s b).1 l else sc s b
def sW(l:List (List UInt8)):dy×Int:=if (iu cV l).2=0 then iu cV l else (cV,(iu cV l).2)
theorem atb l b:∀s,(iu s l).2=0->iu s (l++[b])=sc (iu s l).1 b:=by
 induction l with
 | nil =>
  grind [iu,sc]
 | cons c l j =>
  grind [iu,sc]
theorem avg l m:∀s,(iu s l).2≠0->iu s (l++m)=iu s l:=by
 induction l with
 | nil=>intro s h;simp[iu]at h
 | cons c l j =>
  grind [iu]
theorem arp{b}(h:tN b=0):∃x,mZ b=some x/\tM b=x:=by
 unfold tN at h
 cases hd:mZ b with
 | none=>simp[hd]at h
 | some x=>exact⟨x,rfl,by simp[tM,hd]⟩
theorem ayk{l}(h:fN l=true):l.length<=16:=by
 grind [fN]
theorem uK{x}(h:bH x=true):ew x:=by
 unfold bH at h;simp only[dz,decide_eq_true_eq]at h;obtain⟨-,h⟩:=h;split at h
 ·simp only[dz,decide_eq_true_eq,List.isEmpty_iff]at h;obtain⟨⟨⟨-,t⟩,j⟩,y⟩:=h;exact⟨aB,af,λe u=>by grind [ayk,vD]⟩
 ·split at h
  ·grind [bH,ew]
  ·split at h
   ·simp only[dz,List.isEmpty_iff]at h;exact⟨by grind [DK],aB,aB⟩
   ·cases h
theorem acQ:ew dC:=by simp[ew,dC]
theorem apZ{x}(h:dL x=true):ew x.e:=by
 rcases BW h with ⟨-,e,-⟩|⟨-,e,-⟩|⟨-,-,-,e⟩
 ·grind [acQ]
 ·exact uK e
 ·grind [acQ]
theorem ajE s t r(h:dW s r=some t):t.list.length<=s.list.length+1/\t.prom.length<=s.prom.length+1/\t.ab.length<=s.ab.length+1:=by
 have j:∀(l:List aL) a,(iY l a).length<=l.length:=λl a=>lQ _ _
 have:=j s.prom (au r.e)
 have:=j s.prom (iG r)
 unfold dW zu xJ xK xL zw at h
 grind
theorem avh s r:(mA s r).1.list.length<=s.list.length+1/\(mA s r).1.prom.length<=s.prom.length+1/\(mA s r).1.ab.length<=s.ab.length+1:=by
 unfold mA;split
 ·cases h:dW s r with
  | none=>simp
  | some t=>exact ajE s t r h
 ·simp
theorem avi s b:(sc s b).1.list.length<=s.list.length+1/\(sc s b).1.prom.length<=s.prom.length+1/\(sc s b).1.ab.length<=s.ab.length+1:=by
 grind [sc,avh]
theorem avj l:∀s,(iu s l).1.list.length<=s.list.length+l.length/\(iu s l).1.prom.length<=s.prom.length+l.length/\(iu s l).1.ab.length<=s.ab.length+l.length:=by
 induction l with
 | nil=>intro s;simp[iu]
 | cons c l j =>
  grind [avi,iu,eQ,sc]
theorem adA{l:List (List UInt8)}{j}(u:j<l.length)(t:(iu cV (l.take j)).2=0):iu cV (l.take (j+1))=sc (iu cV (l.take j)).1 l[j]:=by
 grind [gg,atb]
theorem avk{l j}(t:j<l.length)(u:(iu cV (l.take j)).2=0){c}(hb:(sc (iu cV (l.take j)).1 l[j]).2=c)(B:¬c=0):sW l=(cV,c):=by
 have:=adA t u
 have:iu cV l=iu cV (l.take (j+1)):=by
  grind [List.take_append_drop,avg]
 unfold sW
 grind
theorem atc{l}(h:(iu cV l).2=0):sW l=((iu cV l).1,0):=by
 grind [iu,cV,sW]
def lX(l:List aL):List Rec:=l.zipIdx.map λp=>⟨2,p.2,p.1,0,0,0⟩
def kM(l:List aL):List Rec:=l.map λx=>⟨3,0,x,0,0,0⟩
def pH(l:List aT):List Rec:=l.map λa=>⟨4,0,dC,a.1,a.2.1,a.2.2⟩
def vO(n:Nat):List Rec:=if n=0 then []else [⟨1,n,dC,0,0,0⟩]
def dc(s:dy):List Rec:=vO s.life++lX s.list++kM s.prom++pH s.ab
theorem atd(l:List aL)(j:Nat)(h:j<l.length):lX (l.take (j+1))=lX (l.take j)++[⟨2,j,l[j],0,0,0⟩]:=by unfold lX;rw[gg h,List.zipIdx_append,List.map_append];simp[p8,Nat.min_eq_left (Nat.le_of_lt h)]
theorem ate(l:List aL)(j:Nat)(h:j<l.length):kM (l.take (j+1))=kM (l.take j)++[⟨3,0,l[j],0,0,0⟩]:=by unfold kM;exact agc
theorem atf(l:List aT)(j:Nat)(h:j<l.length):pH (l.take (j+1))=pH (l.take j)++[⟨4,0,dC,l[j].1,l[j].2.1,l[j].2.2⟩]:=by unfold pH;exact agc
theorem aer n:(vO n).length<=1:=by grind [vO]
theorem K2 l:(lX l).length=l.length:=by simp[lX]
theorem PB l:(kM l).length=l.length:=by simp[kM]
theorem Vj l:(pH l).length=l.length:=by simp[pH]
theorem awM:(prog.info? 197).map (λi=>(i.zero,i.size,i.bytes))=some (some (.agg rz),13,136):=by rfl
theorem Ro:fS prog 333 197 (.agg rz) 13 136:=⟨underlying333,awM,rfl,ax⟩
theorem ajF:(prog.info? 94).map (λi=>(i.zero,i.size,i.bytes))=some (some (.slice none 0 0),1,24):=by rfl
theorem Sd:fS prog 119 94 (.slice none 0 0) 1 24:=⟨underlying119,ajF,rfl,ax⟩
theorem ajG{k n x}{a:aT}{vf j W}(h:dx x (.agg (aE x vf j)) W):vJ.rel ⟨k,n,x,a.1,a.2.1,a.2.2⟩ (eY ⟨k,n,x,a.1,a.2.1,a.2.2⟩ vf j).toList W:=by obtain⟨t,u,e,h1,h2⟩:=h;exact Qe
def xy(l:List cM):Bool:=decide (l.length<=20)&&l.all λx=>decide (x.1.size<=100)&&decide (x.2.2.2.size<=100)
theorem awN l k(h:k<l.length)(hb:¬(l[k].1.size<=100/\l[k].2.2.2.size<=100)):xy l=false:=by
 grind [xy]
theorem avl l(j:l.length<=20)(h:∀k (hk:k<l.length),l[k].1.size<=100/\l[k].2.2.2.size<=100):xy l=true:=by
 simp only[xy,dz,decide_eq_true_eq,j,true_and,vD]
 intro x t
 grind [List.getElem_of_mem]
theorem atg A c l w B(u:Reads w B 4 A l.length (l.flatMap kJ))(J:B<=w.heap.size) :
 Calls prog 64 #[.slice A l.length c] w λe w'=>e=.returned (.bool (xy l))/\w=w':=by
 have G:=ae u
 clear u
 by_cases y:l.length<=20
 rotate_left
 ·have F:(20:Int)<(l.length:Int):=af;have HE:Hid (xy l=false):=ae (by simp[xy];omega);clear y;go_in;exact qT
 have F:¬(20:Int)<(l.length:Int):=af
 go_in
 go_wp2_with fail
 go_loop [3] (fun i=>∃k:Nat,k<=l.length/\i=.int .i64 k/\Hid (∀j (hj:j<l.length),j<k->l[j].1.size<=100/\l[j].2.2.2.size<=100)) (fun i=>l.length-(intOf i).toNat)
 case atStart=>exact⟨0,af,rfl,ae (λj _ h=>absurd h af)⟩
 case round =>
  obtain⟨k,hk,rfl,hall⟩:=hrel;by_cases t:k<l.length
  ·have E:(k:Int)<l.length:=af;obtain⟨b,I,rfl,L,C⟩:=G.aa.Mj af;obtain⟨D,d1,d2,d3⟩:=C k t;clear C d1 d2;have HF:=ae (awN l k t);have HT:Hid (l[k].1.size<=100/\l[k].2.2.2.size<=100->∀j (hj:j<l.length),j<k+1->l[j].1.size<=100/\l[j].2.2.2.size<=100):=agd;generalize l[k]=x at *;obtain⟨xs,H,M,xt⟩:=x;simp only at D d3 HF HT;exact age
  ·have E:¬(k:Int)<l.length:=af;have HE:=ae (avl l y λj hj=>hall.aa j hj af);exact qT
section
variable {l la lb:List cM} {b:List UInt8} {v va vb:Value} {w:World}
theorem awO(h:iy l v w):Calls prog 64 #[v] w λe w'=>e=.returned (.bool (xy l))/\w=w':=by obtain⟨A,c,rfl,j⟩:=h;exact atg A c l w _ j (aD _)
end
def yT(l:List cX):Bool:=decide (l.length<=10)&&l.all λx=>decide (x.1.size<=100)&&decide (x.2.2.2.2.size<=100)
theorem avm l k(h:k<l.length)(hb:¬(l[k].1.size<=100/\l[k].2.2.2.2.size<=100)):yT l=false:=by
 grind [yT]
theorem ath l(om:l.length<=10)(h:∀k (hk:k<l.length),l[k].1.size<=100/\l[k].2.2.2.2.size<=100):yT l=true:=by
 simp only[yT,dz,decide_eq_true_eq,om,true_and,vD]
 intro x j
 grind [List.getElem_of_mem]
theorem arq A c l w B(u:Reads w B 5 A l.length (l.flatMap fq))(M:B<=w.heap.size) :
 Calls prog 65 #[.slice A l.length c] w λe w'=>e=.returned (.bool (yT l))/\w=w':=by
 have G:=ae u
 clear u
 by_cases y:l.length<=10
 rotate_left
 ·have F:(10:Int)<(l.length:Int):=af;have HE:Hid (yT l=false):=ae (by simp[yT];omega);clear y;go_in;exact qT
 have F:¬(10:Int)<(l.length:Int):=af
 go_in
 go_wp2_with fail
 go_loop [3] (fun i=>∃k:Nat,k<=l.length/\i=.int .i64 k/\Hid (∀j (hj:j<l.length),j<k->l[j].1.size<=100/\l[j].2.2.2.2.size<=100)) (fun i=>l.length-(intOf i).toNat)
 case atStart=>exact⟨0,af,rfl,ae (λj _ h=>absurd h af)⟩
 case round =>
  obtain⟨k,hk,rfl,hall⟩:=hrel;by_cases t:k<l.length
  ·have E:(k:Int)<l.length:=af;obtain⟨b,J,rfl,N,C⟩:=G.aa.I5 af;obtain⟨D,d1,d2,d3,H⟩:=C k t;clear C d1 d2 d3;have HF:=ae (avm l k t);have HT:Hid (l[k].1.size<=100/\l[k].2.2.2.2.size<=100->∀j (hj:j<l.length),j<k+1->l[j].1.size<=100/\l[j].2.2.2.2.size<=100):=agd;generalize l[k]=x at *;obtain⟨xs,L,I,O,xt⟩:=x;simp only at D H HF HT;exact age
  ·have E:¬(k:Int)<l.length:=af;have HE:=ae (ath l y λj hj=>hall.aa j hj af);exact qT
section
variable {l:List cX} {v:Value} {w:World}
theorem avn(h:eI l v w):Calls prog 65 #[v] w λe w'=>e=.returned (.bool (yT l))/\w=w':=by obtain⟨A,c,rfl,j⟩:=h;exact arq A c l w _ j (aD _)
end
