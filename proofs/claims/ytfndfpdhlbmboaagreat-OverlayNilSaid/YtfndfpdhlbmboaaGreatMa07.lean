/-
  The walk of stage.whole (layer 17): an entry in memory of its own. Conditions: lists of at most a million.
-/
import Derived.Test.YtfndfpdhlbmboaaGreatMa06
import Derived.Test.YtfndfpdhlbmboaaGreatMz
set_option maxRecDepth 100000
set_option maxHeartbeats 16000000
set_option linter.unusedVariables false
set_option linter.unusedSimpArgs false
namespace Go.Proofs.YtfndfpdhlbmboaaGreat
open Go Go.RowKit _root_.Go.Proofs.Tryz
def vG(B:Nat)(x:aK)(v:Value)(w:World):Prop:=∃vf j,v=.agg (aD x vf j)/\fH w B vf x.f/\aV B B 51 cG x.es j w
theorem awr{B x v w}(h:vG B x v w):∀w',aI B none w w'->vG B x v w':=by obtain⟨vf,y,e,j,t⟩:=h;exact λw' u=>⟨vf,y,e,j.up u,t.up (aC _) u⟩
theorem auZ{B x v w}(h:vG B x v w):cV x v w:=by obtain⟨vf,u,e,j,t⟩:=h;exact⟨vf,u,e,wP j,t.aq⟩
theorem J8 x v w(h:cV x v w)(X:eB x) :
 Calls prog 184 #[v] w λe w'=>∃v',e=.returned v'/\vG w.heap.size x v' w'/\K w w':=by
 have T:=ae func184
 have Q:=ae ntmps184
 have zR:=ae results184
 obtain⟨vf,ve,rfl,U,he⟩:=h
 obtain⟨A,c,F,G⟩:=U
 obtain rfl:=F
 obtain⟨D,d,F,he,R⟩:=he
 obtain rfl:=F
 obtain⟨N,V,H⟩:=X
 obtain⟨k,b,l,s,cl,u,f,es⟩:=x
 simp only at G he R N V H⊢
 have E:=(ah.new w 126 (aD ⟨k,b,l,s,cl,u,f,es⟩ (.slice A f.length c) (.slice D es.length d))).alloc (.cells eI 126)
 have B:=ah.new (w.alloc (.cells (aD ⟨k,b,l,s,cl,u,f,es⟩ (.slice A f.length c) (.slice D es.length d)) 126)) 126 eI
 have J:=K.lq w (.cells (aD ⟨k,b,l,s,cl,u,f,es⟩ (.slice A f.length c) (.slice D es.length d)) 126) (.cells eI 126)
 have hz:(w.alloc (.cells (aD ⟨k,b,l,s,cl,u,f,es⟩ (.slice A f.length c) (.slice D es.length d)) 126)).heap.size=w.heap.size+1:=aj
 rw[hz]at B
 clear hz
 have Gp:=ae H
 clear H
 go_enter T.aa,Q.aa
 go_upto_region 1 with (fail)
 generalize World.alloc (World.alloc w _) _=w1 at *
 have O:=(G.below J (aC _)).more J.size
 have hr1:=B.lt
 clear G
 have q:=E.cell
 have z:=E.frozen
 go_wp2_with (at_builtin;refine iF rfl _ _ 53 rfl w1.heap.size 73 _ 5 56 TF _ 0 [] rfl (jV _ _ _ _) _ A f.length c (f.flatMap fF) rfl O (Ht f) ?p1 (aC _) ?_)
 case p1=>omega
 intro S t I _ _ aN
 have C:=E.av aN
 have M:=B.av aN
 have L:=J.tr aN
 obtain⟨A1,c1,rfl,-⟩:=(show fH t w1.heap.size S f from I).slice
 clear q z E B
 have q:=C.cell
 have z:=C.frozen
 have Y:=aN.size
 clear aN
 go_upto_region 3 with (fail)
 have eO:ah (t.setCell ⟨w.heap.size,6,none⟩ (.slice A1 f.length c1)) w.heap.size 126 #[.int .i64 k,.int .i64 b,.int .u64 l,.int .u64 s,.int .i64 cl,.int .u64 u,.slice A1 f.length c1,.slice D es.length d]:=C.aM 6 (.slice A1 f.length c1)
 have dI:=M.far (p:=⟨w.heap.size,6,none⟩) aj (.slice A1 f.length c1)
 have k3:K w (t.setCell ⟨w.heap.size,6,none⟩ (.slice A1 f.length c1)):=K.set L (aC _) 6 _
 have eD:fH (t.setCell ⟨w.heap.size,6,none⟩ (.slice A1 f.length c1)) w1.heap.size (.slice A1 f.length c1) f:=fH.up I (aI.set af 6 _)
 have Z:w.heap.size+1<(t.setCell ⟨w.heap.size,6,none⟩ (.slice A1 f.length c1)).heap.size:=KY
 clear C M L I q z
 generalize t.setCell _ _=w3 at *
 have rX:=K.rf w3
 have q:=eO.cell
 go_wp2_with fail
 clear q
 go_loopw [3,5,13] (fun o _ i W=>∃j:Nat,j<=es.length/\i=.int .i64 j/\aV w3.heap.size w3.heap.size 51 cG (es.take j) o W/\K w3 W) (fun _ _ i _=>es.length-(intOf i).toNat)
 case atStart=>exact⟨0,af,rfl,Fu,rX⟩
 case round => exact KZ
theorem OD x v w(h:cV x v w)(X:eB x) :
 Calls prog 216 #[v] w λe w'=>∃v',e=.returned v'/\vG w.heap.size x v' w'/\K w w':=by
 have T:=ae func216
 have Q:=ae ntmps216
 have zR:=ae results216
 obtain⟨vf,ve,rfl,U,he⟩:=h
 obtain⟨A,c,F,G⟩:=U
 obtain rfl:=F
 obtain⟨D,d,F,he,R⟩:=he
 obtain rfl:=F
 obtain⟨N,V,H⟩:=X
 obtain⟨k,b,l,s,cl,u,f,es⟩:=x
 simp only at G he R N V H⊢
 have E:=(ah.new w 126 (aD ⟨k,b,l,s,cl,u,f,es⟩ (.slice A f.length c) (.slice D es.length d))).alloc (.cells eI 126)
 have B:=ah.new (w.alloc (.cells (aD ⟨k,b,l,s,cl,u,f,es⟩ (.slice A f.length c) (.slice D es.length d)) 126)) 126 eI
 have J:=K.lq w (.cells (aD ⟨k,b,l,s,cl,u,f,es⟩ (.slice A f.length c) (.slice D es.length d)) 126) (.cells eI 126)
 have hz:(w.alloc (.cells (aD ⟨k,b,l,s,cl,u,f,es⟩ (.slice A f.length c) (.slice D es.length d)) 126)).heap.size=w.heap.size+1:=aj
 rw[hz]at B
 clear hz
 have Gp:=ae H
 clear H
 go_enter T.aa,Q.aa
 go_upto_region 1 with (fail)
 generalize World.alloc (World.alloc w _) _=w1 at *
 have O:=(G.below J (aC _)).more J.size
 have hr1:=B.lt
 clear G
 have q:=E.cell
 have z:=E.frozen
 go_wp2_with (at_builtin;refine iF rfl _ _ 53 rfl w1.heap.size 73 _ 5 56 TF _ 0 [] rfl (jV _ _ _ _) _ A f.length c (f.flatMap fF) rfl O (Ht f) ?p1 (aC _) ?_)
 case p1=>omega
 intro S t I _ _ aN
 have C:=E.av aN
 have M:=B.av aN
 have L:=J.tr aN
 obtain⟨A1,c1,rfl,-⟩:=(show fH t w1.heap.size S f from I).slice
 clear q z E B
 have q:=C.cell
 have z:=C.frozen
 have Y:=aN.size
 clear aN
 go_upto_region 3 with (fail)
 have eO:ah (t.setCell ⟨w.heap.size,6,none⟩ (.slice A1 f.length c1)) w.heap.size 126 #[.int .i64 k,.int .i64 b,.int .u64 l,.int .u64 s,.int .i64 cl,.int .u64 u,.slice A1 f.length c1,.slice D es.length d]:=C.aM 6 (.slice A1 f.length c1)
 have dI:=M.far (p:=⟨w.heap.size,6,none⟩) aj (.slice A1 f.length c1)
 have k3:K w (t.setCell ⟨w.heap.size,6,none⟩ (.slice A1 f.length c1)):=K.set L (aC _) 6 _
 have eD:fH (t.setCell ⟨w.heap.size,6,none⟩ (.slice A1 f.length c1)) w1.heap.size (.slice A1 f.length c1) f:=fH.up I (aI.set af 6 _)
 have Z:w.heap.size+1<(t.setCell ⟨w.heap.size,6,none⟩ (.slice A1 f.length c1)).heap.size:=KY
 clear C M L I q z
 generalize t.setCell _ _=w3 at *
 have rX:=K.rf w3
 have q:=eO.cell
 go_wp2_with fail
 clear q
 go_loopw [3,5,13] (fun o _ i W=>∃j:Nat,j<=es.length/\i=.int .i64 j/\aV w3.heap.size w3.heap.size 51 cG (es.take j) o W/\K w3 W) (fun _ _ i _=>es.length-(intOf i).toNat)
 case atStart=>exact⟨0,af,rfl,Fu,rX⟩
 case round => exact KZ
section
variable {α β:Type} {S:dW α} {S2:dW β} {Y Y' X:Nat->Prop} {base lo:Nat} {e e2:TypeId} {l:List α} {l2:List β} {v v2:Value} {w w':World}
theorem aA.to(h:aA Y base e S l v w)(u:ag X w w')(G:∀k,X k->Y k)(hn:∀k,v.ownBlock=some k->¬X k)(C:∀k,k<w.heap.size->Y' k->Y k∨v.ownBlock=some k):aA Y' base e S l v w':=by obtain⟨css,t,A,D⟩:=h;exact⟨css,iK t u λb B F=>hn b B F,A,λE y=>D E ((u.more λk hk=>.inl (G k hk)).gg y λk hk j=>j.elim (λj=>C k hk j) .inr)⟩
structure lr(lo base:Nat)(e:TypeId)(S:dW α)(l:List α)(v:Value)(e2:TypeId)(S2:dW β)(l2:List β)(v2:Value)(w:World):Prop where
 a:aA (λk=>k<lo∨v2.ownBlock=some k) base e S l v w
 b:aA (λk=>k<lo∨v.ownBlock=some k) base e2 S2 l2 v2 w
 ne:∀k,v.ownBlock=some k->v2.ownBlock=some k->False
 lo:lo<=base
theorem lr.st(h:lr lo base e S l v e2 S2 l2 v2 w)(k:K w w'):lr lo base e S l v e2 S2 l2 v2 w':=⟨h.a.st k,h.b.st k,h.ne,h.lo⟩
theorem lr.low{base'}(h:lr lo base e S l v e2 S2 l2 v2 w)(hb:base'<=base)(j:lo<=base'):lr lo base' e S l v e2 S2 l2 v2 w:=⟨h.a.low hb,h.b.low hb,h.ne,j⟩
theorem lr.swap(h:lr lo base e S l v e2 S2 l2 v2 w):lr lo base e2 S2 l2 v2 e S l v w:=⟨h.b,h.a,λk j t=>h.ne k t j,h.lo⟩
theorem lr.X6(h:aA (λk=>k<lo) base e S l v w)(j:lo<=base):lr lo base e S l v e2 S2 ([]:List β) (.slice none 0 0) w :=
 ⟨h.less (Y':=λk=>k<lo∨(Value.slice none 0 0).ownBlock=some k) λk hk=>hk.elim id λh=>Fv,aA.nil _ _ _ _ _,λk _ h=>Fv,j⟩
theorem lr.push(h:lr lo base e S l v e2 S2 l2 v2 w){j y}(h9:aA (λk=>k<lo∨v2.ownBlock=some k) base e S y j w')(hg:w.grownBy w' v.ownBlock)(hb:j.ownBlock=v.ownBlock∨j.ownBlock=some w.heap.size):lr lo base e S y j e2 S2 l2 v2 w':=by
 have hz:=h.b.blk;refine⟨h9,h.b.to (X:=λk=>v.ownBlock=some k) (ag.eM hg λk e=>e) (λk hk=>.inr hk) (λk t u=>h.ne k u t) (λk hk A=>?_),λk t u=>?_,h.lo⟩
 ·grind
 ·rcases hb with hb|hb
  ·exact h.ne k (hb▸t) u
  grind
end
section
variable {α:Type} {S:dW α} {Y N:Nat->Prop} {base lo:Nat} {e:TypeId} {l:List α} {v:Value} {x:α} {w w' W:World}
theorem aA.own(h:aA Y base e S l v w){b}(hb:v.ownBlock=some b):base<=b/\b<w.heap.size/\∃cur,ah w b e cur :=
 ⟨(h.blk b hb).1,(h.blk b hb).2,h.elim λ_ h=>lI h.1 hb⟩
theorem ew.mut{row u}(h:ew N lo e S x u w)(k:w.grownBy w' row)(y:∀b,row=some b->N b/\b<lo):ew N lo e S x u w':=by obtain⟨g,cs,A,j,t,B⟩:=h;exact⟨g,cs,A,j,t.grown k λh=>aG,B.up (ag.eM (X:=λb=>row=some b) k λ_ h=>h) λb h=>(y b h).1⟩
theorem tT.mut{row u}(h:tT N S x u w)(k:w.grownBy w' row)(j:∀b,row=some b->N b):tT N S x u w' :=
 ⟨h.1,h.2.up (ag.eM (X:=λb=>row=some b) k λ_ h=>h) j⟩
abbrev qU(v:Value)(w W:World):Prop:=ag (λk=>v.ownBlock=some k) w W
theorem E4{P:Program}{Q:Exit->Act->World->Prop}{id:Nat}{ops:Array Oper}{y:Act}(m z:Nat)(l:List α)(v:Value)(x:α)(E:TypeId){J:Value}{size bytes:Nat}(T:fK P E e J size bytes){s u:Operand}{o:Oper}{B:List Nat×List (Nat×Nat)}(C:List (List Nat×List (Nat×Nat)))(n:Nat)
 (hO:aA Y base e S l v w) (hb:base<=w.heap.size) (hl:(l.length+1)*(bytes+1)<=140737488355328)
 (h:au P y (qU v w) (λW W'=>W.grownBy W' v.ownBlock) [z] (λr xs t=>(∀v W,tab t z v W)/\(∀V W,qU v w W->(∀j∈B.1,tab t j (V j) W)->aE B.2 y V s=v/\ew (λk=>Y k∨v.ownBlock=some k) 0 e S x (aE B.2 y V u) W) /\
  ∀V W,qU v w W->aA Y base e S (l++[x]) (V z) W->(∀b,(V z).ownBlock=some b->v.ownBlock=some b∨w.heap.size<=b)->cz V W 0 t->aH P y (λV W=>Q .normal (fX V ops.toList 0 y) W) m r xs V W) m ops.toList C [])
 (hz:ops[z]?=some o:=by rfl) (N:C[z]?=some B:=by rfl) (R:o.op=.call { callee:=.builtin .append,args:=#[s,u],argTypes:=#[E,E] }:=by rfl) (hg:o.guard=none:=by rfl) (hS:S.size=size:=by rfl)
 (hn:y.tmps.size=n:=by rfl) (hm:P.follows .mixedOrders=true:=by kernel_rfl) (X:sC ops n=true:=by kernel_rfl) (hpl:uI ops C=true:=by kernel_rfl) (U:Lk C m ops.size=true:=by kernel_rfl) (M:DN C [z] m=true:=by kernel_rfl) (Z:m<=ops.size:=by decide) :
 (Code.region id ops true).wp P Q y w :=
 Ol m [z] (qU v w) (λW W'=>W.grownBy W' v.ownBlock) (λk vs W=>if k=0 then aA Y base e S l v W else ∃v',vs=[v']/\aA Y base e S (l++[x]) v' W/\∀b,v'.ownBlock=some b->v.ownBlock=some b∨w.heap.size<=b) C n
  (λ_ _ h k=>h.tr (ag.aT k _)) (λ_ _ h=>Bi h _) (λk vs W W' h kW=>by
   split at h
   ·next D=>rw[if_pos D];exact h.st kW
   ·next D =>
    rw[if_neg D];obtain⟨v',A,G,H⟩:=h;exact⟨v',A,G.st kW,H⟩) (ag.rf _ _) (λ_=>hO)
  (au.imp (λr xs t ⟨D,G,H⟩=>⟨⟨⟨o,B,hz,N,hg,λV W hW hD hp=>by
   obtain⟨A,L⟩:=G V W hW hp
   obtain⟨v',w',O,I,F,g3,-⟩:=ac7 (P:=P) (ρ:=aE B.2 y V) s u E o.type J size bytes T hS A hD _ rfl x L hl (bn hb hW.size)
   rw[R,O]
   exact⟨hW.tr (ag.eM F λ_ h=>h),F,⟨v',rfl,I,λb hb=>g3.elim (λh=>.inl (h▸hb)) λh=>.inr afJ⟩,D _ _⟩⟩,trivial⟩,
   λV W hW ⟨v',A,I,F⟩ hA=>by
    injection A with A;subst A;exact H V W hW I F hA⟩) _ _ _ _ h) hn hm X hpl U M aj Z
end
theorem au.FV{P:Program}{C:Act}{R:World->Prop}{u:List Nat}{E:List Oper->List (List Nat×List (Nat×Nat))->List (Value->World->Prop)->Prop}{m:Nat}{o:Oper}{r:List Oper}{D:List Nat×List (Nat×Nat)}{xs:List (List Nat×List (Nat×Nat))}{t:List (Value->World->Prop)}{row:Option Nat}
 {α:Type} {S:dW α} {e:TypeId} {N:Nat->Prop} (lo:Nat) {A:TypeId} {z:Value} {size bytes:Nat} (T:fK P A e z size bytes) {B:Operand} (y:α) (G:∀W,R W->lo<=W.heap.size) (I:∀b,row=some b->N b/\b<lo)
 (h:∀(V:Nat->Value) (w:World),R w->(∀j∈D.1,tab t j (V j) w)->tT N S y (aE D.2 C V B) w)
 (k:au P C R (λW W'=>W.grownBy W' row) u E m r xs (t++[ew N lo e S y])) (M:o.op=.buildSlice A 1 #[(0,B)]:=by rfl) (hg:o.guard=none:=by rfl) (Q:S.size=size:=by rfl) (J:size<=16777216:=by decide) (L:u.contains t.length=false:=by (simp only[cF,eQ,List.length_nil,List.contains_nil];try rfl)) :
 au P C R (λW W'=>W.grownBy W' row) u E (m+1) (o :: r) (D :: xs) t:=by
 refine au.op (ew N lo e S y) (λ_ _ _ h k=>h.mut k I) (λV w F hp=>?_) k L
 obtain⟨O,H⟩:=h V w F hp
 rw[hg,if_pos (show bP V none=true from rfl),M,abQ (P:=P) (w:=w) A _ z size bytes T B rfl af J]
 exact⟨ew.new H lo (G w F),(K.rf w).al _⟩
theorem Bq{B x v w}(h:vG B x v w):∃vf y,v=.agg (aD x vf y)/\Fx (λk=>k<B) (λW=>aU.rel x (aD x vf y).toList W) w:=by have t:=h;obtain⟨vf,y,e,-,-⟩:=h;refine⟨vf,y,e,λW u=>?_⟩;obtain⟨D,C,j,A,t⟩:=auZ (awr t W (u.qZ λk A _ _ t=>af));rw[e]at j;injection j with j;exact⟨D,C,congrArg Array.toList j,A,t⟩
theorem PH{B x v w N}(h:vG B x v w)(t:∀k,N k->k<B):tT N aU x v w:=by obtain⟨vf,u,rfl,j⟩:=Bq h;exact⟨rfl,j.less t⟩
theorem axU:(prog.info? 126).map (λi=>(i.zero,i.size,i.bytes))=some (some (.agg eI),8,96):=by rfl
theorem oH:fK prog 43 126 (.agg eI) 8 96:=⟨underlying43,axU,rfl,ay⟩
theorem axV:(prog.info? 26).map (λi=>(i.zero,i.size,i.bytes))=some (some (.agg #[.int .i64 0,.int .u64 0,.int .u64 0]),3,24):=by rfl
theorem vX:fK prog 44 26 (.agg #[.int .i64 0,.int .u64 0,.int .u64 0]) 3 24:=⟨underlying44,axV,rfl,ay⟩
abbrev cE(s:dc)(vl vp va:Value):Array Value:=#[.int .u64 (s.life:Int),vl,vp,va]
def nh(s:dc)(v:Value)(w:World):Prop:=∃vl vp va,v=.agg (cE s vl vp va)/\aq aU s.list vl w/\aq aU s.prom vp w/\aq b5 s.ab va w
theorem Ll{s v w w'}(h:nh s v w)(k:K w w'):nh s v w':=by obtain⟨vl,vp,va,e,j,u,t⟩:=h;exact⟨vl,vp,va,e,bo j k,bo u k,bo t k⟩
theorem UG(l:List aR):(l.map eY).flatten=l.flatMap eY:=by rfl
theorem Pa l W:Each b5 l (l.map eY) W:=⟨aj,λi h j=>by simp[b5]⟩
def lE(M:Nat->Prop)(s:dc)(vl vp va:Value)(w:World):Prop:=Fx M (λW=>aq aU s.list vl W/\aq aU s.prom vp W/\aq b5 s.ab va W) w
theorem lE.sl{M s vl vp va w}(h:lE M s vl vp va w):(∃A c,vl=.slice A s.list.length c)/\(∃A c,vp=.slice A s.prom.length c)/\∃A c,va=.slice A s.ab.length c:=⟨aw h.now.1,aw h.now.2.1,aw h.now.2.2⟩
def iw(base g:Nat)(vl vp va:Value)(k:Nat):Prop:=k<base∨k=g∨vl.ownBlock=some k∨vp.ownBlock=some k∨va.ownBlock=some k
structure eC(base g:Nat)(s:dc)(vl vp va:Value)(W:World):Prop where
 blk:ah W g 46 (cE s vl vp va)
 low:base<=g
 l:aA (iw base g vl vp va) base 126 aU s.list vl W
 p:aA (iw base g vl vp va) base 126 aU s.prom vp W
 a:aA (iw base g vl vp va) base 26 b5 s.ab va W
 ne:∀b,vl.ownBlock=some b->vp.ownBlock≠some b
def yS(base g:Nat)(s:dc)(W:World):Prop:=∃vl vp va,eC base g s vl vp va W
section
variable {base g:Nat} {s:dc} {vl vp va v':Value} {W W':World}
theorem eC.st(h:eC base g s vl vp va W)(k:K W W'):eC base g s vl vp va W':=⟨h.blk.av k,h.low,h.l.st k,h.p.st k,h.a.st k,h.ne⟩
theorem eC.lt(h:eC base g s vl vp va W)(hb:base<=W.heap.size) k(hk:iw base g vl vp va k):k<W.heap.size:=by
 have:=h.blk.lt
 have:=h.l.blk
 have:=h.p.blk
 have:=h.a.blk
 unfold iw at hk
 grind
theorem eC.nh(h:eC base g s vl vp va W):nh s (.agg (cE s vl vp va)) W:=⟨vl,vp,va,rfl,h.l.aq,h.p.aq,h.a.aq⟩
theorem eC.sep(h:eC base g s vl vp va W) b:(vl.ownBlock=some b->base<=b/\b≠g/\vp.ownBlock≠some b/\va.ownBlock≠some b)/\(vp.ownBlock=some b->base<=b/\b≠g/\vl.ownBlock≠some b/\va.ownBlock≠some b)/\(va.ownBlock=some b->base<=b/\b≠g/\vl.ownBlock≠some b/\vp.ownBlock≠some b):=by
 have j:=λe=>h.l.own (b:=b) e
 have u:=λe=>h.p.own (b:=b) e
 have t:=λe=>h.a.own (b:=b) e
 have y:=h.ne b
 have hb:=h.blk
 have d1:∀ {cur cs},ah W b 126 cur->¬ah W b 26 cs:=λh k=>absurd (h.gM k) ay
 have d2:∀ {cur cs},ah W b 126 cur->¬ah W b 46 cs:=λh k=>absurd (h.gM k) ay
 have d3:∀ {cur cs},ah W b 26 cur->¬ah W b 46 cs:=λh k=>absurd (h.gM k) ay
 grind
theorem eC.xq{t y j X α S e}{l:List α}{v}(h:aA (iw base g vl vp va) base e S l v W)(u:ag X W W')(E:∀k,X k->iw base g vl vp va k)(C:∀k,v.ownBlock=some k->¬X k)
 (A:∀b,t.ownBlock=some b->vl.ownBlock=some b∨W.heap.size<=b∨v.ownBlock=some b) (B:∀b,y.ownBlock=some b->vp.ownBlock=some b∨W.heap.size<=b∨v.ownBlock=some b) (D:∀b,j.ownBlock=some b->va.ownBlock=some b∨W.heap.size<=b∨v.ownBlock=some b):aA (iw base g t y j) base e S l v W' :=
 h.to u E C λk hk F=>by
  unfold iw at *
  have:=A k
  have:=B k
  have:=D k
  grind
theorem eC.IU(h:eC base g s vl vp va W)(u:qU vl W W'){l}(B:aA (iw base g vl vp va) base 126 aU l v' W')(y:∀b,v'.ownBlock=some b->vl.ownBlock=some b∨W.heap.size<=b):eC base g ⟨s.life,l,s.prom,s.ab⟩ v' vp va (W'.setCell ⟨g,1,none⟩ v'):=by
 have us:ag (λk=>vl.ownBlock=some k∨k=g) W (W'.setCell ⟨g,1,none⟩ v'):=(u.more λ_ h=>.inl h).tr (ag.bL (X:=λk=>vl.ownBlock=some k∨k=g) (.inr rfl) _ _);have A:=h.sep;have hg:=h.blk.lt;have hp:=h.p.blk;refine⟨(h.blk.aX u λe=>((A g).1 e).2.1 rfl).aM 1 _,h.low,eC.xq B (ag.bL (X:=λk=>k=g) rfl _ _) (λk e=>.inr (.inl e)) (λk j t=>?_) (λb e=>.inr (.inr e)) (λb e=>.inl e) λb e=>.inl e,eC.xq h.p us (λk e=>?_) (λk j t=>?_) (λb e=>(y b e).imp id .inl) (λb e=>.inl e) λb e=>.inl e,eC.xq h.a us (λk e=>?_) (λk j t=>?_) (λb e=>(y b e).imp id .inl) (λb e=>.inl e) λb e=>.inl e,λb j t=>?_⟩;all_goals unfold iw at *
 all_goals grind
theorem eC.X7(h:eC base g s vl vp va W)(u:qU vp W W'){l}(B:aA (iw base g vl vp va) base 126 aU l v' W')(y:∀b,v'.ownBlock=some b->vp.ownBlock=some b∨W.heap.size<=b):eC base g ⟨s.life,s.list,l,s.ab⟩ vl v' va (W'.setCell ⟨g,2,none⟩ v'):=by
 have us:ag (λk=>vp.ownBlock=some k∨k=g) W (W'.setCell ⟨g,2,none⟩ v'):=(u.more λ_ h=>.inl h).tr (ag.bL (X:=λk=>vp.ownBlock=some k∨k=g) (.inr rfl) _ _);have A:=h.sep;have hg:=h.blk.lt;have hp:=h.l.blk;refine⟨(h.blk.aX u λe=>((A g).2.1 e).2.1 rfl).aM 2 _,h.low,eC.xq h.l us (λk e=>?_) (λk j t=>?_) (λb e=>.inl e) (λb e=>(y b e).imp id .inl) λb e=>.inl e,eC.xq B (ag.bL (X:=λk=>k=g) rfl _ _) (λk e=>.inr (.inl e)) (λk j t=>?_) (λb e=>.inl e) (λb e=>.inr (.inr e)) λb e=>.inl e,eC.xq h.a us (λk e=>?_) (λk j t=>?_) (λb e=>.inl e) (λb e=>(y b e).imp id .inl) λb e=>.inl e,λb j t=>?_⟩;all_goals unfold iw at *
 all_goals grind
theorem eC.azx(h:eC base g s vl vp va W)(u:qU va W W'){l}(B:aA (iw base g vl vp va) base 26 b5 l v' W')(j:∀b,v'.ownBlock=some b->va.ownBlock=some b∨W.heap.size<=b):eC base g ⟨s.life,s.list,s.prom,l⟩ vl vp v' (W'.setCell ⟨g,3,none⟩ v'):=by
 have us:ag (λk=>va.ownBlock=some k∨k=g) W (W'.setCell ⟨g,3,none⟩ v'):=(u.more λ_ h=>.inl h).tr (ag.bL (X:=λk=>va.ownBlock=some k∨k=g) (.inr rfl) _ _);have A:=h.sep;have hg:=h.blk.lt;refine⟨(h.blk.aX u λe=>((A g).2.2 e).2.1 rfl).aM 3 _,h.low,eC.xq h.l us (λk e=>?_) (λk t y=>?_) (λb e=>.inl e) (λb e=>.inl e) λb e=>(j b e).imp id .inl,eC.xq h.p us (λk e=>?_) (λk t y=>?_) (λb e=>.inl e) (λb e=>.inl e) λb e=>(j b e).imp id .inl,eC.xq B (ag.bL (X:=λk=>k=g) rfl _ _) (λk e=>.inr (.inl e)) (λk t y=>?_) (λb e=>.inl e) (λb e=>.inl e) λb e=>.inr (.inr e),h.ne⟩;all_goals unfold iw at *
 all_goals grind
theorem eC.aws(h:eC base g s vl vp va W) n:eC base g ⟨n,s.list,s.prom,s.ab⟩ vl vp va (W.setCell ⟨g,0,none⟩ (.int .u64 n)):=by have u:ag (λk=>k=g) W (W.setCell ⟨g,0,none⟩ (.int .u64 n)):=ag.bL (X:=λk=>k=g) rfl _ _;have y:=h.sep g;refine⟨h.blk.aM 0 _,h.low,eC.xq h.l u (λk e=>.inr (.inl e)) (λk j t=>?_) (λb e=>.inl e) (λb e=>.inl e) λb e=>.inl e,eC.xq h.p u (λk e=>.inr (.inl e)) (λk j t=>?_) (λb e=>.inl e) (λb e=>.inl e) λb e=>.inl e,eC.xq h.a u (λk e=>.inr (.inl e)) (λk j t=>?_) (λb e=>.inl e) (λb e=>.inl e) λb e=>.inl e,h.ne⟩;all_goals grind
theorem eC.fx(h:eC base g s vl vp va W):lE (λk=>k<base) s vl vp va W:=λW' u =>
 have t:=h.l.blk
 have hp:=h.p.blk
 have j:=h.a.blk
 ⟨(h.l.to u (λk e=>.inl e) (λk e h=>by have:=t k e;omega) (λ_ _ h=>.inl h)).aq,(h.p.to u (λk e=>.inl e) (λk e h=>by have:=hp k e;omega) (λ_ _ h=>.inl h)).aq,(h.a.to u (λk e=>.inl e) (λk e h=>by have:=j k e;omega) (λ_ _ h=>.inl h)).aq⟩
theorem eC.nil{n l}(hb:ah W g 46 (cE ⟨n,[],[],l⟩ (.slice none 0 0) (.slice none 0 0) va))(hg:base<=g)(j:aA (iw base g (.slice none 0 0) (.slice none 0 0) va) base 26 b5 l va W):eC base g ⟨n,[],[],l⟩ (.slice none 0 0) (.slice none 0 0) va W :=
 ⟨hb,hg,aA.nil _ _ _ _ _,aA.nil _ _ _ _ _,j,λb h=>Fv⟩
theorem eC.slices(h:eC base g s vl vp va W):(∃A c,vl=.slice A s.list.length c)/\(∃A c,vp=.slice A s.prom.length c)/\∃A c,va=.slice A s.ab.length c:=⟨h.l.slice,h.p.slice,h.a.slice⟩
theorem Lm{w cs} s vl vp va(h:ah W g 46 cs)(j:cs.size=4)(k:K w W)(hg:w.heap.size<=g):ah ((((W.setCell ⟨g,0,none⟩ (.int .u64 s.life)).setCell ⟨g,1,none⟩ vl).setCell ⟨g,2,none⟩ vp).setCell ⟨g,3,none⟩ va) g 46 (cE s vl vp va)/\K w ((((W.setCell ⟨g,0,none⟩ (.int .u64 s.life)).setCell ⟨g,1,none⟩ vl).setCell ⟨g,2,none⟩ vp).setCell ⟨g,3,none⟩ va)/\ag (λk=>k=g) W ((((W.setCell ⟨g,0,none⟩ (.int .u64 s.life)).setCell ⟨g,1,none⟩ vl).setCell ⟨g,2,none⟩ vp).setCell ⟨g,3,none⟩ va) :=
 have u:=ag.sets (X:=λk=>k=g) rfl [.int .u64 s.life,vl,vp,va] 0 W
 ⟨Fq (us:=[.int .u64 s.life,vl,vp,va]) h j.symm,u.k k λk e=>e▸hg,u⟩
end
theorem xP{α:Type} p(l:List α) j(t:j<l.length):(l.take (j+1)).any p=((l.take j).any p||p l[j]):=by rw[gj t,List.any_append];simp
theorem xQ{α:Type} p(l:List α) j(h:(l.take j).any p=true):l.any p=true:=by rw[List.any_eq_true]at h⊢;obtain⟨x,t,hp⟩:=h;exact⟨x,lM t,hp⟩
theorem ad2 l a v w(h:aq aU l v w)(hlen:l.length<=1000000) :
 Calls prog 185 #[v,bU a] w λe w'=>e=.returned (.bool (bT l a))/\K w w':=by
 obtain⟨D,d,rfl,U,-⟩:=h
 have H:Hid (bT l a=l.any λx=>decide (ar x=a)):=ae rfl
 generalize bT l a=R at *
 have y:=ah.new w 26 #[.int .i64 a.1,.int .u64 a.2.1,.int .u64 a.2.2]
 have u:=y.aS
 go_enter func185,ntmps185
 go_upto_region 1 with (fail)
 generalize w.alloc _=N at *
 generalize w.heap.size=g at y⊢
 have Y:=y.cells
 have J:=K.rf N
 clear y
 go_wp2_with fail
 go_loopw [5,8] (fun _ i wr=>∃j:Nat,j<=l.length/\i=.int .i64 j/\Hid ((l.take j).any (fun x=>decide (ar x=a))=false)/\K N wr) (fun _ i _=>l.length-(intOf i).toNat)
 case atStart=>exact⟨0,af,rfl,ae aj,J⟩
 case round =>
  clear J;obtain⟨j,hj,rfl,HT,kr⟩:=hrel;by_cases M:j<l.length
  ·have F:(j:Int)<l.length:=af;obtain⟨C,B,cs1,rfl,T,I,X,dd⟩:=ed U j M ay;have HB:=ae (xP (λx=>decide (ar x=a)) l j M);have Q:=ae (xQ (λx=>decide (ar x=a)) l (j+1));generalize l[j]=x at *;obtain⟨AK,Z,rfl,O,S⟩:=I w (K.rf w);have L:=λW (kW:K wr W)=>Y W (kr.tr kW)
   have p1:∀W,K wr W->W.cell? ⟨C,B+j*8+1,none⟩=some (.int .i64 (ar x).1):=λW kW=>dd W (u.tr (kr.tr kW)) 1 ay
   have p2:∀W,K wr W->W.cell? ⟨C,B+j*8+2,none⟩=some (.int .u64 ((ar x).2.1:Int)):=λW kW=>dd W (u.tr (kr.tr kW)) 2 ay
   have p3:∀W,K wr W->W.cell? ⟨C,B+j*8+3,none⟩=some (.int .u64 ((ar x).2.2:Int)):=λW kW=>dd W (u.tr (kr.tr kW)) 3 ay
   clear T I X dd O S;go_upto_region 4 with (fail);have qs:=And.intro p1 (And.intro p2 (And.intro p3 (And.intro L F)));refine dD 7 [([],[]),([],[]),([0,1],[(11,0),(12,1)]),([2],[(13,2)]),([3],[(14,3)]),([],[]),([4,5],[(15,4),(16,5)])] 19 ?_;iterate 6 refine au.i ?_
   refine au.is (.bool (decide (ar x=a))) (λV W kW hp=>?_) ?_
   ·simp only[cd,aO,aQ,bW,bY,aJ]at hp;simp[bP,aE,List.lookup,hp,cN,execOp,aF,aJ,cM,go_sem];by_cases t:(ar x).1=a.1
    ·by_cases A:(ar x).2.1=a.2.1
     ·by_cases E:(ar x).2.2=a.2.2
      ·rw[show decide (ar x=a)=true from decide_eq_true (Prod.ext t (Prod.ext A E))];simp[t,A,E,cM]
      ·rw[show decide (ar x=a)=false from decide_eq_false (λe=>E Ig)];try simp only[t,A,if_true]
       exact PI
     ·rw[show decide (ar x=a)=false from decide_eq_false (λe=>A Ig)];try simp only[t,if_true]
      exact PI
    ·rw[show decide (ar x=a)=false from decide_eq_false (λe=>t Ig)];simp[t,cM]
   intro V W kW hA;simp only[aO,aQ,cz,aJ,Nat.reduceAdd]at hA;refine aH.h ?_;have ME:=kr.tr kW;generalize G:decide (ar x=a)=q at *;have HQ:=ae G;clear G hA qs p1 p2 p3 L;cases q
   ·have mE:Hid ((l.take (j+1)).any (λx=>decide (ar x=a))=false):=ae afK;exact Vx
   ·have HR:Hid (R=true):=ae (by rw[H.aa];exact Q.aa (by rw[HB.aa];simp));go_wp2;go_ret;exact⟨fE,u.tr ME⟩
  ·have F:¬(j:Int)<l.length:=af;have HR:Hid (R=false):=ae (by
    have t:=HT.aa;rw[fM af]at t;rw[H.aa,t])
   go_wp2;go_ret;exact⟨fE,u.tr kr⟩
theorem awt{l a k}(hk:k<l.length)(h:l[k]=a):dG l a=true:=by unfold dG;rw[List.any_eq_true];exact⟨l[k],bS hk,zw⟩
theorem au0{l a}(h:∀x∈l,x≠a):dG l a=false:=by unfold dG;rw[List.any_eq_false];intro x j;simpa using h x j
theorem api l a v w(h:aq b5 l v w)(Z:l.length<=1000000) :
 Calls prog 237 #[v,bU a] w λe w'=>∃i:Int,e=.returned (.int .i64 i)/\K w w'/\dG l a=decide (0<=i):=by
 obtain⟨D,d,rfl,X,-⟩:=h
 have U:=ae (@au0 l a)
 have S:=ae λk hk=>@awt l a k hk
 have t:=ah.new w 26 #[.int .i64 a.1,.int .u64 a.2.1,.int .u64 a.2.2]
 have k1:=t.aS
 go_enter func237,ntmps237
 go_upto_region 1 with (fail)
 generalize w.alloc _=O at *
 generalize w.heap.size=g at t⊢
 have Y:=t.cells
 have J:=K.rf O
 clear t
 go_wp2_with fail
 go_loopw [5,8] (fun _ i wr=>∃j:Nat,j<=l.length/\i=.int .i64 j/\Hid (∀x∈l.take j,x≠a)/\K O wr) (fun _ i _=>l.length-(intOf i).toNat)
 case atStart=>exact⟨0,af,rfl,ae aj,J⟩
 case round =>
  clear J;obtain⟨j,hj,rfl,F,kr⟩:=hrel;by_cases E:j<l.length
  ·have G:(j:Int)<l.length:=af;obtain⟨B,A,cs1,rfl,T,I,N,dd⟩:=ed X j E ay;have R:Hid (l[j]≠a->∀x∈l.take (j+1),x≠a):=by
    refine ae λh x t=>?_
    rw[gj E]at t;rcases List.mem_append.1 t with t|t
    ·exact F.aa x t
    ·simp at t;rw[t];exact h
   have Q:=ae (S.aa j E);generalize l[j]=x at *;obtain rfl:=I w (K.rf w);have M:=λW (kW:K wr W)=>Y W (kr.tr kW)
   have p1:∀W,K wr W->W.cell? ⟨B,A+j*3,none⟩=some (.int .i64 x.1):=λW kW=>N W (k1.tr (kr.tr kW))
   have p2:∀W,K wr W->W.cell? ⟨B,A+j*3+1,none⟩=some (.int .u64 x.2.1):=λW kW=>dd W (k1.tr (kr.tr kW)) 1 ay
   have p3:∀W,K wr W->W.cell? ⟨B,A+j*3+2,none⟩=some (.int .u64 x.2.2):=λW kW=>dd W (k1.tr (kr.tr kW)) 2 ay
   clear T I N dd;go_upto_region 4 with (fail);have qs:=And.intro p1 (And.intro p2 (And.intro p3 (And.intro M G)));refine dD 6 [([],[]),([],[]),([],[]),([1,2],[(12,1),(13,2)]),([3],[(14,3)]),([0,4],[(11,0),(15,4)])] 19 ?_;iterate 5 refine au.i ?_
   refine au.is (.bool (decide (a=x))) (λV W kW hp=>?_) ?_
   ·simp only[cd,aO,aQ,bW,bY,aJ]at hp;simp[bP,aE,List.lookup,hp,cN,execOp,aF,aJ,cM,go_sem];by_cases u:a.1=x.1
    ·by_cases y:a.2.1=x.2.1
     ·by_cases C:a.2.2=x.2.2
      ·rw[show decide (a=x)=true from decide_eq_true (Prod.ext u (Prod.ext y C))];simp[u,y,C,cM]
      ·rw[show decide (a=x)=false from decide_eq_false (λe=>C Ig)];try simp only[u,y,if_true]
       exact PI
     ·rw[show decide (a=x)=false from decide_eq_false (λe=>y Ig)];try simp only[u,if_true]
      exact PI
    ·rw[show decide (a=x)=false from decide_eq_false (λe=>u Ig)];simp[u,cM]
   intro V W kW hA;simp only[aO,aQ,cz,aJ,Nat.reduceAdd]at hA;refine aH.h ?_;have ME:=kr.tr kW;generalize H:decide (a=x)=q at *;have L:=ae H;clear H hA qs p1 p2 p3 M;cases q
   ·have mE:=ae (R.aa λe=>by have:=of_decide_eq_false L.aa;exact this e.symm);exact Vx
   ·have HR:=ae (Q.aa (of_decide_eq_true L.aa).symm);exact afL
  ·have G:¬(j:Int)<l.length:=af;have HR:=ae (U.aa (by
    have u:=F.aa;rw[fM af]at u;exact u))
   exact afM
theorem E3 l a v w(h:aq b5 l v w)(A:l.length<=1000000) :
 Calls prog 144 #[v,bU a] w λe w'=>e=.returned (.bool (dG l a))/\K w w':=by
 have t:=h
 obtain⟨D,d,rfl,F,-⟩:=h
 have C:=ah.new w 26 #[.int .i64 a.1,.int .u64 a.2.1,.int .u64 a.2.2]
 have u:=C.aS
 have y:=ae λW (kW:K w W)=>api l a _ W (bo t kW) A
 clear t F
 go_enter func144,ntmps144
 go_wp2_with fail
 generalize w.alloc _=G at *
 refine (y.aa G u).mono ?_
 rintro e H⟨i,rfl,B,j⟩
 have E:=ae j
 clear j
 go_wp2
 go_ret
 exact⟨by rw[E.aa];rfl,u.tr B⟩
theorem Dg s a v w(h:nh s v w)(y:s.list.length<=1000000) :
 Calls prog 107 #[v,bU a] w λe w'=>e=.returned (.bool (bT s.list a))/\K w w':=by
 obtain⟨vl,vp,va,rfl,t,hp,B⟩:=h
 have u:=ae λW (kW:K w W)=>ad2 s.list a _ W (bo t kW) y
 have j:=K.lq w (.cells (cE s vl vp va) 46) (.cells #[.int .i64 a.1,.int .u64 a.2.1,.int .u64 a.2.2] 26)
 clear t hp B
 go_enter func107,ntmps107
 go_wp2_with fail
 generalize World.alloc (World.alloc w _) _=C at *
 refine (u.aa C j).mono ?_
 rintro e D⟨rfl,A⟩
 go_wp2
 go_ret
 exact⟨rfl,j.tr A⟩
theorem J5 s a v w(h:nh s v w)(u:s.prom.length<=1000000) :
 Calls prog 202 #[v,bU a] w λe w'=>e=.returned (.bool (bT s.prom a))/\K w w':=by
 obtain⟨vl,vp,va,rfl,B,hp,A⟩:=h
 have t:=ae λW (kW:K w W)=>ad2 s.prom a _ W (bo hp kW) u
 have j:=K.lq w (.cells (cE s vl vp va) 46) (.cells #[.int .i64 a.1,.int .u64 a.2.1,.int .u64 a.2.2] 26)
 clear B hp A
 go_enter func202,ntmps202
 go_wp2_with fail
 generalize World.alloc (World.alloc w _) _=C at *
 refine (t.aa C j).mono ?_
 rintro e D⟨rfl,y⟩
 go_wp2
 go_ret
 exact⟨rfl,j.tr y⟩
theorem Hi s a v w(h:nh s v w)(y:s.ab.length<=1000000) :
 Calls prog 186 #[v,bU a] w λe w'=>e=.returned (.bool (dG s.ab a))/\K w w':=by
 obtain⟨vl,vp,va,rfl,B,hp,j⟩:=h
 have u:=ae λW (kW:K w W)=>E3 s.ab a _ W (bo j kW) y
 have t:=K.lq w (.cells (cE s vl vp va) 46) (.cells #[.int .i64 a.1,.int .u64 a.2.1,.int .u64 a.2.2] 26)
 clear B hp j
 go_enter func186,ntmps186
 go_wp2_with fail
 generalize World.alloc (World.alloc w _) _=C at *
 refine (u.aa C t).mono ?_
 rintro e D⟨rfl,A⟩
 go_wp2
 go_ret
 exact⟨rfl,t.tr A⟩
def gN(a:aR)(x:aK):Bool:=decide (ar x=a)
theorem Kv a x:gN a x=(decide (x.br=a.1)&&decide (x.life=a.2.1)&&decide (x.bV=a.2.2)):=by
 grind [gN,ar]
theorem abl x a v g w(h:cV x v w)(hg:ah w g 26 #[.int .i64 a.1,.int .u64 a.2.1,.int .u64 a.2.2]) :
 Calls prog 279 #[v,.pointer (some ⟨g,0,none⟩)] w λe w'=>e=.returned (.bool (gN a x))/\K w w':=by
 obtain⟨vf,G,rfl,j,y⟩:=h
 obtain⟨A,c,rfl⟩:=b6 j
 obtain⟨D,d,rfl⟩:=aw y
 clear j y
 have t:=ae (Kv a x)
 have q:=hg.cells
 have C:=λo=>(K.rf w).al o
 obtain⟨F,E,B⟩:=a
 obtain⟨k,b,l,s,cl,u,f,es⟩:=x
 simp only at q t⊢
 generalize gN (F,E,B) ⟨k,b,l,s,cl,u,f,es⟩=R at *
 go_enter func279,ntmps279
 go_wp2
 all_goals
  go_ret
  refine⟨?_,(K.rf w).al _⟩
  rw[t.aa]
  show Ending.returned (.bool _)=Ending.returned (.bool _)
  clear q C
  first|(simp_all;done)|(simp_all;omega)|(congr 2;rw[Bool.eq_iff_iff];simp_all;omega)
theorem aob A c l a g w(h:yI aU l A w)(U:l.length<=1000000)(hg:ah w g 26 #[.int .i64 a.1,.int .u64 a.2.1,.int .u64 a.2.2]) :
 Calls prog 236 #[.slice A l.length c,.func (Fn.func 279) #[] #[.pointer (some ⟨g,0,none⟩)]] w λe w'=>∃i:Int,e=.returned (.int .i64 i)/\K w w'/\((i=-1/\∀x∈l,gN a x=false)∨∃k:Nat,k<l.length/\i=(k:Int)/\(∀x∈l.take k,gN a x=false)/\∀x,l[k]?=some x->gN a x=true):=by
 have G:=K.rf w
 go_enter func236,ntmps236
 go_wp2_with fail
 go_loopw [5,8] (fun _ i wr=>∃k:Nat,k<=l.length/\i=.int .i64 k/\Hid (∀t∈l.take k,gN a t=false)/\K w wr) (fun _ i _=>l.length-(intOf i).toNat)
 case atStart=>exact⟨0,af,rfl,ae aj,G⟩
 case round =>
  clear G;obtain⟨k,hk,rfl,B,kr⟩:=hrel;by_cases D:k<l.length
  ·have O:(k:Int)<l.length:=af;obtain⟨E,L,cs,rfl,N,F,C,d⟩:=ed h k D ay;have M:Hid (gN a l[k]=false->∀t∈l.take (k+1),gN a t=false):=by
    refine ae λh x u=>?_
    rw[gj D]at u;rcases List.mem_append.1 u with u|u
    ·exact B.aa x u
    ·grind
   have S:Hid (gN a l[k]=true->∀x,l[k]?=some x->gN a x=true):=ae λh x u=>by
    grind
   generalize l[k]=t at *;obtain⟨vf,H,rfl,I,J⟩:=F wr kr;have C:∀W,K w W->W.cell? ⟨E,L+k*8,none⟩=some (.int .i64 t.kind):=C;have d:∀W,K w W->∀i,i<8->W.cell? ⟨E,L+k*8+i,none⟩=(aD t vf H)[i]?:=λW j R=>λQ=>(d W j R Q).trans Array.getElem?_toList
   clear F N;go_wp2_with fail
   apply oX (abl t a _ g wr ⟨vf,H,rfl,I,J⟩ (hg.av kr)) kr;intro V T kW;clear d C I J;cases u:gN a t
   ·have nJ:=ae (M.aa u);exact Ih
   ·have y:=ae (S.aa u);go_wp2;go_ret;exact⟨_,rfl,kW,.inr ⟨k,D,rfl,B.aa,y.aa⟩⟩
  ·have O:¬(k:Int)<l.length:=af;have y:=ae (by
    have:=B.aa;rw[fM af]at this;exact this)
   go_wp2;go_ret;exact⟨_,rfl,kr,.inl ⟨rfl,y.aa⟩⟩
def DQ(a:aR)(z:List (aK×List Value)):List (aK×List Value):=z.filter λp=>!gN a p.1
theorem Vy{α β:Type}:∀(l:List α) (m:List β),m.length=l.length->(l.zip m).map (·.1)=l
 | [],[],_=>rfl
 | _ :: _,[],h=>wQ
 | [],_ :: _,h=>wQ
 | x :: l,y :: m,h=>by simp at h;simp[Vy l m h]
theorem afN{α β:Type}:∀(l:List α) (m:List β),m.length=l.length->(l.zip m).map (·.2)=m
 | [],[],_=>rfl
 | _ :: _,[],h=>wQ
 | [],_ :: _,h=>wQ
 | x :: l,y :: m,h=>by simp at h;simp[afN l m h]
theorem au1{α S W}:∀(z:List (α×List Value)),(∀p∈z,S.rel p.1 p.2 W)->Each S (z.map (·.1)) (z.map (·.2)) W:=by
 intro z h
 refine⟨aj,λi t j=>?_⟩
 grind
theorem ap2{α S W}{l:List α}{css}(h:Each S l css W):∀p∈l.zip css,S.rel p.1 p.2 W:=by intro p hp;obtain⟨i,j,rfl⟩:=List.mem_iff_getElem.1 hp;simp only[List.getElem_zip];have t:=h.1;rw[List.length_zip]at j;exact h.2 i af af
theorem ad3{l css}(j:css.length=l.length) a:(DQ a (l.zip css)).map (·.1)=iM l a:=by unfold DQ iM;rw[show (λp:aK×List Value=>!gN a p.1)=(λx=>!decide (ar x=a)) ∘ (·.1)from rfl,<- List.filter_map,Vy l css j]
theorem ad4:∀(us xs:List Value) (q:Nat),q+us.length<=xs.length->nW xs q us=xs.take q++us++xs.drop (q+us.length)
 | [],xs,q,_=>by simp[nW]
 | u :: us,xs,q,h=>by simp only[eQ]at h;rw[nW,ad4 us _ (q+1) aY];rw[gj aY,List.take_set_of_le (aC _),List.drop_set_of_lt af];simp[Nat.add_assoc,Nat.add_comm 1]
theorem aoN{P w t e z cur}(D:P.underlying t=some (.slice e))(C:∀w,(zeroValue e).run P w=.ok z w) g o m(hb:ah w g e cur)(J:o+m*z.cells.size<=cur.size)(H:0<m)(G:∀u∈z.cells.toList,u.oneCell'=true)(hz:0<z.cells.size) :
 ∃w' j,(∀ty c,(Builtin.clear_ #[t] ty #[.slice (some ⟨g,o,none⟩) m c]).run P w=.ok (.tuple #[]) w')/\ah w' g e j/\j.size=cur.size/\j.toList.take o=cur.toList.take o/\w.grownBy w' (some g):=by
 have F:(Builtin.zeroCells z.cells m).toList.length=m*z.cells.size:=by simp[Builtin.zeroCells]
 have B:∀u∈(Builtin.zeroCells z.cells m).toList,u.oneCell'=true:=by
  intro u A
  simp only[Builtin.zeroCells,Array.toList_map,List.mem_map]at A
  obtain⟨i,I,rfl⟩:=A
  grind [Nat.mod_lt]
 have y:=run_storeCells_at P g o e (Builtin.zeroCells z.cells m).toList 0 cur w hb af B
 simp only[Nat.add_zero]at y
 refine⟨_,(cur.toList.take o++(Builtin.zeroCells z.cells m).toList++cur.toList.drop (o+(Builtin.zeroCells z.cells m).toList.length)).toArray,λty c=>?_,setRow_heap w g cur _ e _ hb,?_,?_,⟨rfl,rfl,rfl,aj,λk hk E=>setRow_other w g k _ (λe=>E tB)⟩⟩
 ·cases m with
  | zero=>omega
  | succ m=>simp[Builtin.clear_,run_underlying D,C,y]
 all_goals grind
theorem abd{α:Type}{n}:∀(css:List (List α)),(∀cs∈css,cs.length=n)->∀k,(css.take k).flatten=css.flatten.take (k*n)
 | [],_,k=>aj
 | c :: css,h,0=>aj
 | c :: css,h,k+1=>by have hc:=h c aj;have ih:=abd css (λx hx=>h x Dn) k;exact afO
theorem axW W:(zeroValue 126).run prog W=.ok (.agg eI) W:=by rfl
