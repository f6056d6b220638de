/-
  An append of a list onto a list of the call's own. Conditions: none.
-/
import Derived.Test.YtoeiinllelipoaaGreatMa19
import Derived.Test.YtoeiinllelipoaaGreatMz
set_option maxRecDepth 100000
set_option maxHeartbeats 16000000
set_option linter.unusedVariables false
set_option linter.unusedSimpArgs false
namespace Go.Proofs.YtoeiinllelipoaaGreat
open Go Go.RowKit Tryz
section
variable {α:Type} {S:cF α} {Y:Nat->Prop} {base:Nat} {e:TypeId} {l l2:List α} {v:Value} {w w':World} {P:Program}
theorem au0(t ty:TypeId)(z:Value)(size bytes:Nat)(T:gJ P t e z size bytes)(D:S.size=size)(M:aT Y base e S l v w)(u:Value)(N:i7 (λk=>Y k∨v.ownBlock=some k) S l2 u w)
 (Q:(l.length+l2.length)*(bytes+1)<=140737488355328) (G:base<=w.heap.size) :
 ∃i w',(Builtin.append_ #[t,t] ty #[v,u]).run P w=.ok i w'/\aT Y base e S (l++l2) i w'/\w.grownBy w' v.ownBlock/\(i.ownBlock=v.ownBlock∨i.ownBlock=some w.heap.size)/\Below base w w':=by
 subst D
 obtain⟨A,c,C,rfl,R,O,I,hn,B⟩:=N
 obtain⟨css,E,H,J⟩:=M
 obtain⟨i,w',F,h2,s,h4,L⟩:=Bb w base t ty e z S.size bytes T v l.length css.flatten E w.heap.size A l2.length c C.flatten O (B w (ah.rf _ _)).ones Q G
 refine⟨i,w',F,⟨css++C,qN,by simp[H,I],λj u=>?_⟩,s,h4,L⟩
 have y:ah (λk=>Y k∨v.ownBlock=some k) w j:=(ah.fM (X:=λk=>Y k∨v.ownBlock=some k) s (λg hg=>.inr hg)).iA u λk hk h=>by exact agi
 exact (J j y).append (B j y)
theorem Tx{ops:Array Oper}{rest:List Oper}{o:Oper}{a:Act}{Q:Exit->Act->World->Prop}(G:o.guard=none)(s x:Operand)(t:TypeId)
 (J:o.op=.call { callee:=.builtin .append,args:=#[s,x],argTypes:=#[t,t] })
 (z:Value) (size bytes:Nat) (T:gJ P t e z size bytes) (A:S.size=size) (N:a.eval s=v) (H:aT Y base e S l v w) (u:Value) (j:a.eval x=u) (I:i7 (λk=>Y k∨v.ownBlock=some k) S l2 u w)
 (M:(l.length+l2.length)*(bytes+1)<=140737488355328) (D:base<=w.heap.size)
 (h:∀i w',aT Y base e S (l++l2) i w'->w.grownBy w' v.ownBlock->(i.ownBlock=v.ownBlock∨i.ownBlock=some w.heap.size)->Below base w w'->wpList P ops Q rest (a.put o.dst i) w') :
 wpList P ops Q (o :: rest) a w:=by
 refine wpList_plain G λK C=>?_
 obtain⟨i,w',B,L,y,E,F⟩:=au0 (P:=P) t o.type z size bytes T A H u I M D
 unfold Oper.wp execOp
 simp only[J,resolve,invoke,builtin,Sem.run_bind,Sem.run_pure,Result.andThen_ok,List.map_toArray,j9,List.map_nil,N,j,B]
 exact C _ _ (h i w' L y E F)
end
theorem atf(P:Program)(w:World)(T:TypeId)(u v:Value)(h:v.oneCell'=true):(store ⟨w.heap.size,0,none⟩ v).run P (w.alloc (.cells #[u] T))=.ok () (w.alloc (.cells #[v] T)):=by have hb:=ai.new w T #[u];rw[run_store _ _ _ _ _ h];rw[hb.cell 0,hb.frozen,World.setCell_alloc_new];rfl
theorem atg(s:dZ)(v:Value)(w:World)(h:sub s v w) :
 Calls prog 146 #[v] w λe w'=>e=.returned (.bool true)/\K w w':=by
 obtain⟨t,rfl,i⟩:=h
 obtain⟨A,c,rfl⟩:=cB i
 have j:K w (w.alloc (.cells (jU s (.slice A s.f.length c)) 206)):=(K.rf w).al _
 clear i
 go_enter func146,ntmps146
 go_wp2
 go_ret
 exact⟨rfl,j⟩
theorem acM(s:dZ)(x:aq)(v vf y:Value)(g gf:Nat)(w:World)(h:sub s v w)(hg:ai w g 102 (aA x vf y))(j:ai w gf 216 #[.func (.func 147) #[] #[.pointer (some ⟨g,0,none⟩)]]) :
 Calls prog 151 #[v,.pointer (some ⟨gf,0,none⟩)] w λe w'=>e=.returned (.bool (decide (jk s x<0)))/\K w w':=by
 have i:=λo=>(K.rf w).al o
 have t:=ae λW (k:K w W)=>ab4 s x v vf y g W (ajH h k) (hg.below k hg.lt)
 obtain⟨H,rfl,B⟩:=h
 obtain⟨A,c,rfl⟩:=cB B
 have hb:=ai.new w 206 (jU s (.slice A s.f.length c))
 replace i:=i (.cells (jU s (.slice A s.f.length c)) 206)
 have u:=j.below i j.lt
 generalize jk s x=R at *
 clear B hg j
 go_enter func151,ntmps151
 go_upto_region 1 with (fail)
 generalize w.alloc _=E at *
 have D:=hb.cell
 have C:=u.cell
 go_wp2_with fail
 refine (t.aa E i).mono ?_
 rintro e I⟨rfl,F⟩
 have G:=i.tr F
 clear t D C hb u
 go_wp2
 go_ret
 exact⟨nz,G⟩
theorem acN(s:dZ)(x:aq)(v vf y:Value)(g gf:Nat)(w:World)(h:sub s v w)(hg:ai w g 102 (aA x vf y))(j:ai w gf 216 #[.func (.func 147) #[] #[.pointer (some ⟨g,0,none⟩)]]) :
 Calls prog 152 #[v,.pointer (some ⟨gf,0,none⟩)] w λe w'=>e=.returned (.bool (decide (0<jk s x)))/\K w w':=by
 have i:=λo=>(K.rf w).al o
 have t:=ae λW (k:K w W)=>ab4 s x v vf y g W (ajH h k) (hg.below k hg.lt)
 obtain⟨H,rfl,B⟩:=h
 obtain⟨A,c,rfl⟩:=cB B
 have hb:=ai.new w 206 (jU s (.slice A s.f.length c))
 replace i:=i (.cells (jU s (.slice A s.f.length c)) 206)
 have u:=j.below i j.lt
 generalize jk s x=R at *
 clear B hg j
 go_enter func152,ntmps152
 go_upto_region 1 with (fail)
 generalize w.alloc _=E at *
 have D:=hb.cell
 have C:=u.cell
 go_wp2_with fail
 refine (t.aa E i).mono ?_
 rintro e I⟨rfl,F⟩
 have G:=i.tr F
 clear t D C hb u
 go_wp2
 go_ret
 exact⟨nz,G⟩
theorem II{α:Type}{S:cF α}{l:List α}{v:Value}{w:World}(h:ar S l v w):i7 (λk=>w.heap.size<=k) S l v w:=by
 obtain⟨A,c,rfl,⟨css,j,s⟩,C⟩:=h;refine⟨A,c,css,rfl,C,s,j.1,λy B b E e hb=>?_,λW u=>j.st ⟨u.os,u.tape,u.output,u.size,λk hk=>u.block k hk af⟩⟩;have t:0<css.flatten.length:=by rw[j.DX];exact Nat.mul_pos (List.length_pos_iff.2 y) B
 obtain⟨D,G,i,F,-⟩:=s.2 t;rw[e]at i;injection i with i;injection i with e1;omega
theorem yP{l:List dZ}{q:dZ->Bool}(i:∀s∈l,s.f.length<=1000000):∀s∈l.filter q,s.f.length<=1000000:=λs h=>i s (List.mem_filter.1 h).1
theorem abv(l:List dZ)(x:aq)(v vx:Value)(w:World)(h:ar gQ l v w)(hx:cR x vx w)(hlen:l.length<=400000)(i:∀s∈l,s.f.length<=1000000)(hxs:x.f.length<=1000000) :
 Calls prog 70 #[v,vx] w λe w'=>∃v',e=.returned v'/\aT (λk=>k<w.heap.size) w.heap.size 206 gQ (sY l x) v' w'/\K w w':=by
 have HR:Hid (sY l x=if x.kind=2 then l.filter (λs=>decide (jk s x<0))++[⟨x.cl,x.sub,x.f⟩]++l.filter (λs=>decide (0<jk s x))
  else if x.kind=3 then l.filter (λs=>decide (jk s x<0))++l.filter (λs=>decide (0<jk s x))else l):=ae rfl
 have T:=ae (II h)
 have HS:=ae i
 obtain⟨vf,ve,rfl,hf,he⟩:=hx
 have HF:=ae λW (k:K w W)=>dB _ _ _ _ hf k
 obtain⟨Af,cf,rfl⟩:=cB hf
 obtain⟨Ae,ce,rfl⟩:=az he
 obtain⟨A,c,rfl⟩:=az h
 have k1:K w (w.alloc (.cells (aA x (.slice Af x.f.length cf) (.slice Ae x.es.length ce)) 102)):=(K.rf w).al _
 have hb:=ai.new w 102 (aA x (.slice Af x.f.length cf) (.slice Ae x.es.length ce))
 generalize sY l x=R at *
 clear h hf he i
 go_enter func70,ntmps70
 go_upto_region 1 with (fail)
 generalize w.alloc _=H at *
 have hz1:=k1.size
 generalize kL:w.heap.size=lo at hb T hz1⊢
 have lQ:=ae kL
 clear kL
 have om:=hz1
 have qb:=hb.cell
 by_cases hk:x.kind=2∨x.kind=3
 rotate_left
 ·have eB:Hid (R=l):=ae (by rw[HR.aa,if_neg λh=>hk (.inl h),if_neg λh=>hk (.inr h)]);have hk2:(x.kind != 2)=true:=by simpa using λh=>hk (.inl h)
  have jA:(x.kind != 3)=true:=by simpa using λh=>hk (.inr h)
  have L:=ae (ER (λk=>lo<=k) l _ (λ_=>true) 146 #[] H (T.aa.st k1) af (λ_ _=>nz) λW _ s _ u F=>atg s u W F);clear HR hk;go_wp2_with fail
  refine L.aa.mono ?_;rintro e C⟨v2,rfl,Y,k2⟩;have E:=k1.tr k2;rw[show l.filter (λ_=>true)=l by simp]at Y;have J:=ae (ab3 _ _ l v2 C Y af HS.aa);have bN:=Y.blk;obtain⟨A2,c2,rfl⟩:=Y.slice;clear L Y qb;go_wp2_with fail
  refine J.aa.mono ?_;rintro e D⟨rfl,b5,u3⟩;have kF:K w D:=u3.k E λk hk=>by have:=(bN k hk).1;have:=lQ.aa;omega
  have HO:Hid (aT (λk=>k<lo) lo 206 gQ R (.slice A2 l.length c2) D):=ae awe;clear J b5 u3 bN;exact ahw
 have ZP:=(K.rf H).al (.cells #[.func (.func 147) #[] #[.pointer (some ⟨lo,0,none⟩)]] 216)
 have j:=ai.new H 216 #[.func (.func 147) #[] #[.pointer (some ⟨lo,0,none⟩)]]
 have hst:=atf prog H 216 .nilFunc (.func (.func 147) #[] #[.pointer (some ⟨lo,0,none⟩)]) rfl
 have B:=hb.below ZP hb.lt
 have E:=k1.tr ZP
 have hzz:=ZP.size
 rcases hk with hk|hk
 ·have hk2:(x.kind != 2)=false:=Fj;have jA:(x.kind==2)=true:=Fj;go_upto_region 4 with (fail);generalize H.alloc _=C at *;generalize tC:H.heap.size=gf at j⊢;clear tC hst;have L:=ae (ER (λk=>lo<=k) l _ (λs=>decide (jk s x<0)) 151 #[.pointer (some ⟨gf,0,none⟩)] C (T.aa.st E) af (λ_ _=>nz) λW k s _ u F=>acM s x u _ _ lo gf W F (B.below k B.lt) (j.below k j.lt));clear qb;go_wp2_with fail
  refine L.aa.mono ?_;rintro e D⟨v3,rfl,b5,t⟩;have Q:=B.below t B.lt;have Qy:=j.below t j.lt;have dW:=E.tr t;have iW:=t.size;obtain⟨A3,c3,rfl⟩:=b5.slice;have cC:=lV (λs=>decide (jk s x<0)) l;have q3:=Q.cell;clear L;have kA:K D (D.alloc (.cells (jU ⟨x.cl,x.sub,x.f⟩ (.slice Af x.f.length cf)) 206)):=(K.rf D).al _;have cE:=b5.st kA;have bN:=b5.blk;have hr:=fE.new (S:=gQ) (e:=206) (x:=⟨x.cl,x.sub,x.f⟩) (v:=.agg (jU ⟨x.cl,x.sub,x.f⟩ (.slice Af x.f.length cf))) (w:=D) (N:=λk=>lo<=k) (λW u=>⟨_,rfl,HF.aa W (u.k dW λk hk=>Bh)⟩) 0 (fw _);go_wp2_with (at_builtin;refine jK rfl _ _ 137 rfl _ 3 40 RO rfl rfl cE _ rfl ⟨x.cl,x.sub,x.f⟩ ?p1 ?p2 ?p3 ?_)
  case p1=>exact hr.less λk hk=>by rcases hk with hk|hk;exact hk;have:=bN k hk;omega
  case p2=>omega
  case p3=>exact bq iW kA.size
  intro v5 w5 I lN XZ gy;have V:=(t.tr kA).trans gy;have sA:=E.tr V;have U:=B.below V B.lt;have Z:=j.below V j.lt;have ou:=V.size;obtain⟨y,G⟩:∃y,Hid (y=l.filter (λs=>decide (jk s x<0))++[(⟨x.cl,x.sub,x.f⟩:dZ)]):=⟨_,ae rfl⟩;rw[<- G.aa]at I;obtain⟨A5,c5,rfl⟩:=I.slice;have J:=ae (ER (λk=>lo<=k) l _ (λs=>decide (0<jk s x)) 152 #[.pointer (some ⟨gf,0,none⟩)] w5 (T.aa.st sA) af (λ_ _=>nz) λW k s _ u F=>acN s x u _ _ lo gf W F (U.below k U.lt) (Z.below k Z.lt));clear hr cE b5 q3 Q Qy lN XZ gy;go_upto_region 7 with (fail);go_wp2_with fail
  refine J.aa.mono ?_;rintro e w6⟨v6,rfl,O,M⟩;have X:=I.st M;have azb:=lV (λs=>decide (0<jk s x)) l;have Yl:=I.blk;have akM:=O.blk;have I0:i7 (λk=>False∨(Value.slice A5 y.length c5).ownBlock=some k) gQ (l.filter (λs=>decide (0<jk s x))) v6 w6:=O.GQ (λk hk=>.inl ahx) λk hk hx=>by exact ahy
  have jh:=X.less (Y':=λ_=>False) λ_ h=>h.elim
  have wK:=M.size;have yF:y.length<=400001:=by rw[G.aa,cT];simp;omega
  clear J I X O U Z;obtain⟨A6,c6,rfl⟩:=I0.slice;go_wp2_with (at_builtin;refine Tx rfl _ _ 137 rfl _ 3 40 RO rfl rfl jh _ rfl I0 ?p1 ?p2 ?_)
  case p1=>omega
  case p2=>omega
  intro v8 w8 fX uK akN mM;have eB:Hid (R=y++l.filter (λs=>decide (0<jk s x))):=ae (by rw[HR.aa,G.aa,if_pos hk]);rw[<- eB.aa]at fX;have RP:Below C.heap.size C w8:=(V.tr M).trans mM;have rP:=E.tr RP;have RQ:R.length<=1000000:=ahz;have ZQ:∀s∈R,s.f.length<=1000000:=by
   rw[eB.aa,G.aa];intro s i;simp only[xG,List.mem_singleton]at i;rcases i with (i|rfl)|i
   ·exact yP HS.aa s i
   ·exact hxs
   ·exact yP HS.aa s i
  exact ahA
 ·have hk2:(x.kind != 2)=true:=Fj;have jA:(x.kind==2)=false:=Fj;go_upto_region 4 with (fail);generalize H.alloc _=C at *;generalize tC:H.heap.size=gf at j⊢;clear tC hst;have L:=ae (ER (λk=>lo<=k) l _ (λs=>decide (jk s x<0)) 151 #[.pointer (some ⟨gf,0,none⟩)] C (T.aa.st E) af (λ_ _=>nz) λW k s _ u F=>acM s x u _ _ lo gf W F (B.below k B.lt) (j.below k j.lt));clear qb;go_wp2_with fail
  refine L.aa.mono ?_;rintro e D⟨v3,rfl,b5,t⟩;have Q:=B.below t B.lt;have Qy:=j.below t j.lt;have dW:=E.tr t;have iW:=t.size;obtain⟨y,G⟩:∃y,Hid (y=l.filter (λs=>decide (jk s x<0))):=⟨_,ae rfl⟩;rw[<- G.aa]at b5;obtain⟨A3,c3,rfl⟩:=b5.slice;have cC:=lV (λs=>decide (jk s x<0)) l;have q3:=Q.cell;clear L;have sA:=dW;have Yl:=b5.blk;have I:=b5;generalize A3=A5 at *;generalize c3=c5 at *;have ou:=iW;have J:=ae (ER (λk=>lo<=k) l _ (λs=>decide (0<jk s x)) 152 #[.pointer (some ⟨gf,0,none⟩)] D (T.aa.st sA) af (λ_ _=>nz) λW k s _ u F=>acN s x u _ _ lo gf W F (Q.below k Q.lt) (Qy.below k Qy.lt));go_upto_region 7 with (fail);clear q3;go_wp2_with fail
  refine J.aa.mono ?_;rintro e w6⟨v6,rfl,O,M⟩;have X:=I.st M;have azb:=lV (λs=>decide (0<jk s x)) l;have akM:=O.blk;have U:=0;have Z:=0;have I0:i7 (λk=>False∨(Value.slice A5 y.length c5).ownBlock=some k) gQ (l.filter (λs=>decide (0<jk s x))) v6 w6:=O.GQ (λk hk=>.inl ahx) λk hk hx=>by exact ahy
  have jh:=X.less (Y':=λ_=>False) λ_ h=>h.elim
  have wK:=M.size;have yF:y.length<=400001:=by rw[G.aa];omega
  clear J I X O U Z;obtain⟨A6,c6,rfl⟩:=I0.slice;go_wp2_with (at_builtin;refine Tx rfl _ _ 137 rfl _ 3 40 RO rfl rfl jh _ rfl I0 ?p1 ?p2 ?_)
  case p1=>omega
  case p2=>omega
  intro v8 w8 fX uK akN mM;have eB:Hid (R=y++l.filter (λs=>decide (0<jk s x))):=ae (by rw[HR.aa,G.aa,if_neg (by omega),if_pos hk]);rw[<- eB.aa]at fX;have RP:Below C.heap.size C w8:=(t.tr M).trans mM;have rP:=E.tr RP;have RQ:R.length<=1000000:=ahz;have ZQ:∀s∈R,s.f.length<=1000000:=by
   rw[eB.aa,G.aa];intro s i;rcases List.mem_append.1 i with i|i
   ·exact yP HS.aa s i
   ·exact yP HS.aa s i
  exact ahA
theorem apk(a b:Int)(w:World) :
 Calls prog 283 #[.int .i64 a,.int .i64 b] w λe w'=>e=.returned (.int .i64 (gM a b))/\w=w':=by
 by_cases h1:a<b
 ·have HE:Hid (gM a b=-1):=ae (by simp[gM,h1]);exact Wg
 ·by_cases h2:b<a
  ·have HE:Hid (gM a b=1):=ae PA;exact Wg
  ·have HE:Hid (gM a b=0):=ae PA;exact Wg
theorem apl(a b:Int)(w:World) :
 Calls prog 284 #[.int .i64 a,.int .i64 b] w λe w'=>e=.returned (.int .i64 (gM a b))/\w=w':=by
 by_cases h1:a<b
 ·have HE:Hid (gM a b=-1):=ae (by simp[gM,h1]);exact Wh
 ·by_cases h2:b<a
  ·have HE:Hid (gM a b=1):=ae PA;exact Wh
  ·have HE:Hid (gM a b=0):=ae PA;exact Wh
theorem awf(a b:ByteArray):(!(Op.bytesLess a.toList b.toList||a.toList==b.toList))=kZ b a:=by rw[aek];simp
theorem apm(a b:ByteArray)(w:World) :
 Calls prog 285 #[.string a,.string b] w λe w'=>e=.returned (.int .i64 (xN a b))/\w=w':=by
 cases h1:kZ a b
 ·have h1':Op.bytesLess a.toList b.toList=false:=h1;cases h2:kZ b a
  ·have i:(!(a.toList==b.toList))=false:=ahB;have HE:Hid (xN a b=0):=ae (by simp[xN,h1,h2]);clear h1 h2;exact Wi
  ·have i:(!(a.toList==b.toList))=true:=ahB;have HE:Hid (xN a b=1):=ae (by simp[xN,h1,h2]);clear h1 h2;exact Wi
 ·have h1':Op.bytesLess a.toList b.toList=true:=h1;have HE:Hid (xN a b=-1):=ae (by simp[xN,h1]);clear h1;exact Wi
theorem abw(a b:Vl)(w:World) :
 Calls prog 260 #[vv a.1 a.2.1 a.2.2,vv b.1 b.2.1 b.2.2] w λe w'=>e=.returned (.int .i64 (fB a b))/\Below w.heap.size w w':=by
 obtain⟨s,na,A⟩:=a
 obtain⟨j,u,y⟩:=b
 have hb2:Below w.heap.size w ((w.alloc (.cells #[.int .i64 s,.int .i64 na,.string A] 79)).alloc (.cells #[.int .i64 j,.int .i64 u,.string y] 79)):=((aN _ _).alloc (aG _) _).alloc aj _
 have G:=(ai.new w 79 #[.int .i64 s,.int .i64 na,.string A]).alloc (.cells #[.int .i64 j,.int .i64 u,.string y] 79)
 have H:=ai.new (w.alloc (.cells #[.int .i64 s,.int .i64 na,.string A] 79)) 79 #[.int .i64 j,.int .i64 u,.string y]
 have D:Hid (fB (s,na,A) (j,u,y)=if gM s j != 0 then gM s j else if gM na u != 0 then gM na u else xN A y):=ae rfl
 go_enter func260,ntmps260
 go_wp2
 go_step3
 go_wp2_with fail
 go_step3
 generalize V:((w.alloc (.cells #[.int .i64 s,.int .i64 na,.string A] 79)).alloc (.cells #[.int .i64 j,.int .i64 u,.string y] 79))=W at *
 clear V
 have M:=G.cell 0
 have X:=G.cell 1
 have T:=G.cell 2
 have Q:=H.cell 0
 have N:=H.cell 1
 have O:=H.cell 2
 simp at M X T Q N O
 generalize J:gM s j=B at *
 generalize L:gM na u=E at *
 generalize I:xN A y=F at *
 have U:=ae J
 have R:=ae L
 have S:=ae I
 clear J L I
 go_wp2_with fail
 go_loop [5,7] (fun t i=>∃k:Nat,k<=3/\i=.int .i64 (k:Int)/\t=.int .i64 0/\Hid ((1<=k->B=0)/\(2<=k->E=0)/\(3<=k->F=0))) (fun _ i=>3-(intOf i).toNat)
 case atStart=>exact⟨0,af,rfl,rfl,ae ⟨af,af,af⟩⟩
 case round =>
  obtain⟨k,hk,rfl,rfl,hf⟩:=hrel;rcases (by omega:k=0∨k=1∨k=2∨k=3)with rfl|rfl|rfl|rfl
  ·go_wp2_with fail
   refine (apk s j W).mono ?_;rintro e w'⟨rfl,rfl⟩;rw[U.aa];by_cases h0:B=0
   ·have C:(B != 0)=false:=Fk;have Y:=ae h0;obtain rfl:=h0;go_wp2;go_round
    case rel=>exact⟨1,af,rfl,rfl,ae (by refine⟨?_,?_,?_⟩ <;> first|trivial|(intro _;rfl)|(intro _;exact hf.aa.1 (by omega))|(intro _;exact hf.aa.2.1 (by omega))|omega)⟩
    case measure=>simp[intOf]
   ·have C:(B != 0)=true:=Fk;have HE:Hid (fB (s,na,A) (j,u,y)=B):=by have:=D.aa;rw[if_pos C]at this;exact ae this
    clear h0;exact PB
  ·go_wp2_with fail
   refine (apl na u W).mono ?_;rintro e w'⟨rfl,rfl⟩;rw[R.aa];by_cases h0:E=0
   ·obtain rfl:=h0;go_wp2;go_round
    case rel=>exact⟨2,af,rfl,rfl,ae (by refine⟨?_,?_,?_⟩ <;> first|trivial|(intro _;rfl)|(intro _;exact hf.aa.1 (by omega))|(intro _;exact hf.aa.2.1 (by omega))|omega)⟩
    case measure=>simp[intOf]
   ·have C:(E != 0)=true:=Fk;have HE:Hid (fB (s,na,A) (j,u,y)=E):=by have:=D.aa;rw[if_neg Wj,if_pos C]at this;exact ae this
    clear h0;exact PB
  ·have HE:Hid (fB (s,na,A) (j,u,y)=F):=by have:=D.aa;rw[if_neg Wj,if_neg ahC]at this;exact ae this
   go_wp2_with fail
   refine (apm A y W).mono ?_;rintro e w'⟨rfl,rfl⟩;rw[S.aa];by_cases h0:F=0
   ·obtain rfl:=h0;go_wp2;go_round
    case rel=>exact⟨3,af,rfl,rfl,ae (by refine⟨?_,?_,?_⟩ <;> first|trivial|(intro _;rfl)|(intro _;exact hf.aa.1 (by omega))|(intro _;exact hf.aa.2.1 (by omega))|omega)⟩
    case measure=>simp[intOf]
   ·have C:(F != 0)=true:=Fk;clear h0;exact PB
  ·have HE:Hid (fB (s,na,A) (j,u,y)=0):=by have:=D.aa;rw[if_neg Wj,if_neg ahC,hf.aa.2.2 af]at this;exact ae this
   exact PB
theorem an8(a b:ByteArray)(w:World) :
 Calls prog 294 #[.string a,.string b] w λe w'=>e=.returned (.bool (preB a b))/\w=w':=by
 by_cases i:b.size<=a.size
 ·have j:(b.size:Int)<=(a.size:Int):=af;have HE:Hid (preB a b=((a.extract 0 b.size).toList==b.toList)):=ae (by simp[preB,i]);go_enter func294,ntmps294;exact sV
 ·have j:¬(b.size:Int)<=(a.size:Int):=af;have HE:Hid (preB a b=false):=ae (by simp[preB,i]);go_enter func294,ntmps294;exact sV
theorem aod(a b:ByteArray)(w:World) :
 Calls prog 286 #[.string a,.string b] w λe w'=>e=.returned (.bool (preB a b))/\w=w':=by
 go_enter func286,ntmps286
 go_wp2_with fail
 refine (an8 a b w).mono ?_
 rintro e w'⟨rfl,rfl⟩
 go_wp2
 go_ret
 exact⟨rfl,rfl⟩
theorem Tq(a b:Vl)(w:World) :
 Calls prog 268 #[vv a.1 a.2.1 a.2.2,vv b.1 b.2.1 b.2.2] w λe w'=>e=.returned (.bool (jR a b))/\Below w.heap.size w w':=by
 obtain⟨t,na,i⟩:=a
 obtain⟨s,u,j⟩:=b
 have hb2:Below w.heap.size w ((w.alloc (.cells #[.int .i64 t,.int .i64 na,.string i] 79)).alloc (.cells #[.int .i64 s,.int .i64 u,.string j] 79)):=((aN _ _).alloc (aG _) _).alloc aj _
 cases h1:(t==2)
 ·have HE:Hid (jR (t,na,i) (s,u,j)=false):=ae (by simp[jR,h1]);go_enter func268,ntmps268;go_wp2;exact PC
 ·cases h2:(s==2)
  ·have HE:Hid (jR (t,na,i) (s,u,j)=false):=ae (by simp[jR,h2]);go_enter func268,ntmps268;go_wp2;exact PC
  ·have HE:Hid (jR (t,na,i) (s,u,j)=preB i j):=ae (by simp[jR,h1,h2]);go_enter func268,ntmps268;go_wp2_with fail
   refine (aod i j _).mono ?_;rintro e w'⟨rfl,rfl⟩;go_wp2;exact PC
theorem aru(g:Nat)(o:Int)(w:World)(h:w.cell? ⟨g,0,none⟩=some (.int .i64 o)) :
 Calls prog 261 #[.pointer (some ⟨g,0,none⟩)] w λe w'=>e=.returned (.bool (o==0))/\w=w':=by
 go_enter func261,ntmps261
 go_wp2
 go_ret
 exact⟨rfl,rfl⟩
theorem arv(g:Nat)(o:Int)(w:World)(h:w.cell? ⟨g,0,none⟩=some (.int .i64 o)) :
 Calls prog 262 #[.pointer (some ⟨g,0,none⟩)] w λe w'=>e=.returned (.bool (o != 0))/\w=w':=by
 go_enter func262,ntmps262
 go_wp2
 go_ret
 exact⟨rfl,rfl⟩
theorem arw(g:Nat)(o:Int)(w:World)(h:w.cell? ⟨g,0,none⟩=some (.int .i64 o)) :
 Calls prog 263 #[.pointer (some ⟨g,0,none⟩)] w λe w'=>e=.returned (.bool (decide (o<0)))/\w=w':=by
 go_enter func263,ntmps263
 go_wp2
 go_ret
 exact⟨rfl,rfl⟩
theorem arx(g:Nat)(o:Int)(w:World)(h:w.cell? ⟨g,0,none⟩=some (.int .i64 o)) :
 Calls prog 264 #[.pointer (some ⟨g,0,none⟩)] w λe w'=>e=.returned (.bool (decide (o<=0)))/\w=w':=by
 go_enter func264,ntmps264
 go_wp2
 go_ret
 exact⟨rfl,rfl⟩
theorem ary(g:Nat)(o:Int)(w:World)(h:w.cell? ⟨g,0,none⟩=some (.int .i64 o)) :
 Calls prog 265 #[.pointer (some ⟨g,0,none⟩)] w λe w'=>e=.returned (.bool (decide (0<o)))/\w=w':=by
 go_enter func265,ntmps265
 go_wp2
 go_ret
 exact⟨rfl,rfl⟩
theorem arz(g:Nat)(o:Int)(w:World)(h:w.cell? ⟨g,0,none⟩=some (.int .i64 o)) :
 Calls prog 266 #[.pointer (some ⟨g,0,none⟩)] w λe w'=>e=.returned (.bool (decide (0<=o)))/\w=w':=by
 go_enter func266,ntmps266
 go_wp2
 go_ret
 exact⟨rfl,rfl⟩
theorem arA(j gt:Nat)(v:Vl)(t:bc)(w:World)(i:ai w j 79 #[.int .i64 v.1,.int .i64 v.2.1,.string v.2.2])(h:ai w gt 81 #[.string t.1,.int .i64 t.2.1,.int .i64 t.2.2.1,.int .i64 t.2.2.2.1,.string t.2.2.2.2]) :
 Calls prog 267 #[.pointer (some ⟨j,0,none⟩),.pointer (some ⟨gt,0,none⟩)] w λe w'=>e=.returned (.bool (jR v t.2.2))/\Below w.heap.size w w':=by
 obtain⟨s,op,k,n,x⟩:=t
 obtain⟨u,E,vt⟩:=v
 have y:=i.cell 0
 have F:=i.cell 1
 have B:=i.cell 2
 have C:=h.cell 2
 have A:=h.cell 3
 have D:=h.cell 4
 simp at y F B C A D
 go_enter func267,ntmps267
 go_wp2_with fail
 refine (Tq (u,E,vt) (k,n,x) _).mono ?_
 rintro e G⟨rfl,hb⟩
 go_wp2
 go_ret
 exact⟨rfl,hb⟩
theorem adB(t:bc)(v:Vl)(w:World) :
 Calls prog 245 #[oN t,vv v.1 v.2.1 v.2.2] w λe w'=>e=.returned (.bool (iV t v))/\Below w.heap.size w w':=by
 obtain⟨s,op,k,n,x⟩:=t
 obtain⟨j,A,vt⟩:=v
 have T:Below w.heap.size w ((w.alloc (.cells #[.string s,.int .i64 op,.int .i64 k,.int .i64 n,.string x] 81)).alloc (.cells #[.int .i64 j,.int .i64 A,.string vt] 79)):=((aN _ _).alloc (aG _) _).alloc aj _
 have Q:=(ai.new w 81 #[.string s,.int .i64 op,.int .i64 k,.int .i64 n,.string x]).alloc (.cells #[.int .i64 j,.int .i64 A,.string vt] 79)
 have O:=ai.new (w.alloc (.cells #[.string s,.int .i64 op,.int .i64 k,.int .i64 n,.string x] 81)) 79 #[.int .i64 j,.int .i64 A,.string vt]
 rw[World.size_alloc]at O
 have hmm:=@run_makeMap prog
 have B:∀W:World,(zeroValue 24).run prog W=.ok .nilFunc W:=λW=>ak
 go_enter func245,ntmps245
 go_wp2_with fail
 refine (abw (j,A,vt) (k,n,x) _).mono ?_
 rintro e u⟨rfl,D⟩
 generalize ho:fB (j,A,vt) (k,n,x)=o at *
 have HT:Hid (iV (s,op,k,n,x) (j,A,vt)=(if op==8 then true else (j==k)&&(if op==1 then o==0 else if op==2 then o != 0 else if op==3 then decide (o<0)else if op==4 then decide (o<=0)
  else if op==5 then decide (0<o)else if op==6 then decide (0<=o)else if op==7 then jR (j,A,vt) (k,n,x)else false))):=ae (by rw[<- ho];rfl)
 have hlt:w.heap.size+2<=u.heap.size:=by have:=D.size;simp at this;omega
 have hx1:=((Q.below D Q.lt).alloc (.cells #[.int .i64 o] 3)).alloc (.map #[] 0)
 have zA:=((O.below D O.lt).alloc (.cells #[.int .i64 o] 3)).alloc (.map #[] 0)
 have hz1:=(ai.new u 3 #[.int .i64 o]).alloc (.map #[] 0)
 have D:Below w.heap.size w ((u.alloc (.cells #[.int .i64 o] 3)).alloc (.map #[] 0)):=((T.trans (D.mono T.size)).alloc af _).alloc aU _
 have R:=BG.new (u.alloc (.cells #[.int .i64 o] 3))
 simp only[World.size_alloc]at R
 clear ho T Q O
 go_wp2_with (with_reducible refine vI _ rfl (.tmp 13) (.const (.int .i64 1)) (.tmp 14) 282 rfl 3 24 underlying282 underlying3 (u.heap.size+1) _ rfl R 1 rfl _ rfl rfl ?_)
 intro w2 dV H
 have hb2:Below w.heap.size w w2:=D.trans (lC H af D.size)
 have hx2:=hx1.grown H aU
 have hy2:=zA.grown H aU
 have hz2:=hz1.grown H aj
 clear R H D hx1 zA hz1
 go_wp2_with (with_reducible refine vI _ rfl (.tmp 13) (.const (.int .i64 2)) (.tmp 15) 282 rfl 3 24 underlying282 underlying3 (u.heap.size+1) _ rfl dV 2 rfl _ rfl rfl ?_)
 intro w3 cX I
 have S:Below w.heap.size w w3:=hb2.trans (lC I af hb2.size)
 have eI:=hx2.grown I aU
 have pM:=hy2.grown I aU
 have iW:=hz2.grown I aj
 clear dV I hb2 hx2 hy2 hz2
 go_wp2_with (with_reducible refine vI _ rfl (.tmp 13) (.const (.int .i64 3)) (.tmp 16) 282 rfl 3 24 underlying282 underlying3 (u.heap.size+1) _ rfl cX 3 rfl _ rfl rfl ?_)
 intro w4 eY N
 have U:Below w.heap.size w w4:=S.trans (lC N af S.size)
 have bQ:=eI.grown N aU
 have Ju:=pM.grown N aU
 have iX:=iW.grown N aj
 clear cX N S eI pM iW
 go_wp2_with (with_reducible refine vI _ rfl (.tmp 13) (.const (.int .i64 4)) (.tmp 17) 282 rfl 3 24 underlying282 underlying3 (u.heap.size+1) _ rfl eY 4 rfl _ rfl rfl ?_)
 intro w5 cU M
 have X:Below w.heap.size w w5:=U.trans (lC M af U.size)
 have di:=bQ.grown M aU
 have RC:=Ju.grown M aU
 have ou:=iX.grown M aj
 clear eY M U bQ Ju iX
 go_wp2_with (with_reducible refine vI _ rfl (.tmp 13) (.const (.int .i64 5)) (.tmp 18) 282 rfl 3 24 underlying282 underlying3 (u.heap.size+1) _ rfl cU 5 rfl _ rfl rfl ?_)
 intro w6 jq G
 have Y:Below w.heap.size w w6:=X.trans (lC G af X.size)
 have gH:=di.grown G aU
 have hy6:=RC.grown G aU
 have wK:=ou.grown G aj
 clear cU G X di RC ou
 go_wp2_with (with_reducible refine vI _ rfl (.tmp 13) (.const (.int .i64 6)) (.tmp 19) 282 rfl 3 24 underlying282 underlying3 (u.heap.size+1) _ rfl jq 6 rfl _ rfl rfl ?_)
 intro w7 zI L
 have V:Below w.heap.size w w7:=Y.trans (lC L af Y.size)
 have jc:=gH.grown L aU
 have hy7:=hy6.grown L aU
 have QY:=wK.grown L aj
 clear jq L Y gH hy6 wK
 go_wp2_with (with_reducible refine vI _ rfl (.tmp 13) (.const (.int .i64 7)) (.tmp 20) 282 rfl 3 24 underlying282 underlying3 (u.heap.size+1) _ rfl zI 7 rfl _ rfl rfl ?_)
 intro y C J
 have mM:Below w.heap.size w y:=V.trans (lC J af V.size)
 have Z:=jc.grown J aU
 have GA:=hy7.grown J aU
 have pI:=QY.grown J aj
 clear zI J V jc hy7 QY
 have E:=pI.cell 0
 have x1:=Z.cell 1
 have x2:=Z.cell 2
 have y0:=GA.cell 0
 simp at E x1 x2 y0
 have B:=B y
 by_cases h8:op=8
 ·have Ym:(op==8)=true:=by simp[h8]
  have HE:Hid (iV (s,op,k,n,x) (j,A,vt)=true):=ae (by rw[HT.aa,Ym];rfl);clear h8;exact Bi
 by_cases ZR:1<=op/\op<=7
 rotate_left
 ·have Ym:(op==8)=false:=by simp[h8]
  have F:(Instr.lookup 282 (.map (some (u.heap.size+1))) (.int .i64 op) true).run prog y=.ok (.tuple #[.nilFunc,.bool false]) y:=by
   have:=tN underlying282 underlying3 B C op;rw[this];have e:∀i:Int,1<=i->i<=7->(i==op)=false:=λi h1 h2=>aU
   simp[DQ,e]
  have HE:Hid (iV (s,op,k,n,x) (j,A,vt)=false):=ae (by
   rw[HT.aa,Ym];have e:∀i:Int,1<=i->i<=7->(op==i)=false:=λi h1 h2=>aU
   simp[e])
  clear h8 ZR;exact Bi
 rcases (by omega:op=1∨op=2∨op=3∨op=4∨op=5∨op=6∨op=7)with rfl|rfl|rfl|rfl|rfl|rfl|rfl
 ·have F:(Instr.lookup 282 (.map (some (u.heap.size+1))) (.int .i64 1) true).run prog y=.ok (.tuple #[Value.func (Fn.func 261) #[] #[Value.pointer (some ⟨u.heap.size,0,none⟩)],.bool true]) y :=
   tN underlying282 underlying3 B C 1
  cases hkk:(j==k)
  ·have HE:Hid (iV (s,1,k,n,x) (j,A,vt)=false):=ae sX;exact Bi
  ·have HE:Hid (iV (s,1,k,n,x) (j,A,vt)=(o==0)):=ae sX;go_wp2_with fail
   refine (aru u.heap.size o y E).mono ?_;exact IA
 ·have F:(Instr.lookup 282 (.map (some (u.heap.size+1))) (.int .i64 2) true).run prog y=.ok (.tuple #[Value.func (Fn.func 262) #[] #[Value.pointer (some ⟨u.heap.size,0,none⟩)],.bool true]) y :=
   tN underlying282 underlying3 B C 2
  cases hkk:(j==k)
  ·have HE:Hid (iV (s,2,k,n,x) (j,A,vt)=false):=ae sX;exact Bi
  ·have HE:Hid (iV (s,2,k,n,x) (j,A,vt)=(o != 0)):=ae sX;go_wp2_with fail
   refine (arv u.heap.size o y E).mono ?_;exact IA
 ·have F:(Instr.lookup 282 (.map (some (u.heap.size+1))) (.int .i64 3) true).run prog y=.ok (.tuple #[Value.func (Fn.func 263) #[] #[Value.pointer (some ⟨u.heap.size,0,none⟩)],.bool true]) y :=
   tN underlying282 underlying3 B C 3
  cases hkk:(j==k)
  ·have HE:Hid (iV (s,3,k,n,x) (j,A,vt)=false):=ae sX;exact Bi
  ·have HE:Hid (iV (s,3,k,n,x) (j,A,vt)=(decide (o<0))):=ae sX;go_wp2_with fail
   refine (arw u.heap.size o y E).mono ?_;exact IA
 ·have F:(Instr.lookup 282 (.map (some (u.heap.size+1))) (.int .i64 4) true).run prog y=.ok (.tuple #[Value.func (Fn.func 264) #[] #[Value.pointer (some ⟨u.heap.size,0,none⟩)],.bool true]) y :=
   tN underlying282 underlying3 B C 4
  cases hkk:(j==k)
  ·have HE:Hid (iV (s,4,k,n,x) (j,A,vt)=false):=ae sX;exact Bi
  ·have HE:Hid (iV (s,4,k,n,x) (j,A,vt)=(decide (o<=0))):=ae sX;go_wp2_with fail
   refine (arx u.heap.size o y E).mono ?_;exact IA
 ·have F:(Instr.lookup 282 (.map (some (u.heap.size+1))) (.int .i64 5) true).run prog y=.ok (.tuple #[Value.func (Fn.func 265) #[] #[Value.pointer (some ⟨u.heap.size,0,none⟩)],.bool true]) y :=
   tN underlying282 underlying3 B C 5
  cases hkk:(j==k)
  ·have HE:Hid (iV (s,5,k,n,x) (j,A,vt)=false):=ae sX;exact Bi
  ·have HE:Hid (iV (s,5,k,n,x) (j,A,vt)=(decide (0<o))):=ae sX;go_wp2_with fail
   refine (ary u.heap.size o y E).mono ?_;exact IA
 ·have F:(Instr.lookup 282 (.map (some (u.heap.size+1))) (.int .i64 6) true).run prog y=.ok (.tuple #[Value.func (Fn.func 266) #[] #[Value.pointer (some ⟨u.heap.size,0,none⟩)],.bool true]) y :=
   tN underlying282 underlying3 B C 6
  cases hkk:(j==k)
  ·have HE:Hid (iV (s,6,k,n,x) (j,A,vt)=false):=ae sX;exact Bi
  ·have HE:Hid (iV (s,6,k,n,x) (j,A,vt)=(decide (0<=o))):=ae sX;go_wp2_with fail
   refine (arz u.heap.size o y E).mono ?_;exact IA
 ·have F:(Instr.lookup 282 (.map (some (u.heap.size+1))) (.int .i64 7) true).run prog y=.ok (.tuple #[Value.func (Fn.func 267) #[] #[Value.pointer (some ⟨w.heap.size+1,0,none⟩),Value.pointer (some ⟨w.heap.size,0,none⟩)],.bool true]) y :=
   tN underlying282 underlying3 B C 7
  cases hkk:(j==k)
  ·have HE:Hid (iV (s,7,k,n,x) (j,A,vt)=false):=ae sX;exact Bi
  ·have HE:Hid (iV (s,7,k,n,x) (j,A,vt)=(jR (j,A,vt) (k,n,x))):=ae sX;go_wp2_with fail
   refine (arA (w.heap.size+1) w.heap.size (j,A,vt) (s,7,k,n,x) y GA Z).mono ?_;rintro e w9⟨rfl,bo⟩;have ZS:=mM.trans (bo.mono mM.size);go_wp2;go_ret;exact⟨fL,ZS⟩
theorem aqa(x:bh)(s:ByteArray)(g:Nat)(w:World)(hg:w.cell? ⟨g,0,none⟩=some (.string s)) :
 Calls prog 258 #[XP x,.pointer (some ⟨g,0,none⟩)] w λe w'=>e=.returned (.bool (mI s x))/\Below w.heap.size w w':=by
 have h:g<w.heap.size:=Ka hg
 obtain⟨a,k,n,t⟩:=x
 go_enter func258,ntmps258
 go_wp2
 go_ret
 refine⟨?_,(aN _ _).alloc (aG _) _⟩
 show Ending.returned (.bool _)=Ending.returned (.bool _)
 rw[Kt];rfl
theorem aaP(A:Option Addr)(c:Nat)(l:List bh)(s:ByteArray)(g:Nat)(w:World)(B:Nat)(N:Reads w B 4 A l.length (l.flatMap jQ))(t:B<=w.heap.size)(hlen:l.length<=1000000)(hg:w.cell? ⟨g,0,none⟩=some (.string s))(r:Int)
 (D:(∃k,∃hk:k<l.length,r=(k:Int)/\mI s l[k]=true/\∀x∈l.take k,mI s x=false)∨(r=-1/\∀x∈l,mI s x=false)) :
 Calls prog 259 #[.slice A l.length c,.func (Fn.func 258) #[] #[.pointer (some ⟨g,0,none⟩)]] w λe w'=>e=.returned (.int .i64 r)/\Below w.heap.size w w':=by
 have V:g<w.heap.size:=Ka hg
 have H:=ae D
 have S:=ae N
 clear D N
 go_enter func259,ntmps259
 go_wp2_with fail
 go_loopw [8] (fun i wr=>∃k:Nat,k<=l.length/\i=.int .i64 (k:Int)/\Hid (∀x∈l.take k,mI s x=false)/\Below w.heap.size w wr) (fun i _=>l.length-(intOf i).toNat)
 case atStart=>exact⟨0,af,rfl,ae aj,aN _ _⟩
 case round =>
  obtain⟨k,hk,rfl,hall,hb⟩:=hrel;by_cases hlt:k<l.length
  ·have X:(k:Int)<(l.length:Int):=af;obtain⟨b,y,rfl,u,M⟩:=S.aa.FG af;obtain⟨L,E,I,F⟩:=M k hlt;have d0:=(hb.cell (p:=⟨b,y+k*4,none⟩) (bB u t)).trans L;have d1:=(hb.cell (p:=⟨b,y+k*4+1,none⟩) (bB u t)).trans E;have d2:=(hb.cell (p:=⟨b,y+k*4+2,none⟩) (bB u t)).trans I;have d3:=(hb.cell (p:=⟨b,y+k*4+3,none⟩) (bB u t)).trans F;have T:=(hb.cell (p:=⟨g,0,none⟩) V).trans hg;clear L E I F M;have hz:=hb.size;have J:=ae (λh=>adh l s k hlt h hall.aa);have O:Hid (mI s l[k]=false->∀x∈l.take (k+1),mI s x=false):=by exact Vx
   have R:Hid (mI s l[k]=true->(k:Int)=r):=by
    refine ae λh=>?_
    rcases H.aa with ⟨j,Y,rfl,h1,Q⟩|⟨_,h1⟩
    ·have:=J.aa h;have:k=j:=by
      rcases Nat.lt_trichotomy k j with C|C|C
      ·have:=Q l[k] (List.mem_take_iff_getElem.2 ⟨k,af,rfl⟩);rw[h]at this;cases this
      ·exact C
      ·exact ahD
     rw[this]
    ·have:=h1 l[k] (bW hlt);rw[h]at this;cases this
   clear J;generalize l[k]=x at *;go_wp2_with fail
   refine (aqa x s g wr T).mono ?_;rintro e Z⟨rfl,U⟩;have G:=hb.trans (U.mono hz);cases hx:mI s x
   ·have W:=ae (O.aa hx);go_wp2;go_roundw
    case rel=>exact⟨k+1,af,bO,W,G⟩
    case measure=>simp[intOf];omega
   ·have HE:=ae (R.aa hx);go_wp2;go_ret;exact⟨by rw[<- HE.aa];rfl,G⟩
  ·have X:¬(k:Int)<(l.length:Int):=af;have HE:Hid (r=-1):=by
    refine ae ?_;rcases H.aa with ⟨j,Y,_,h1,_⟩|⟨h,_⟩
    ·exact ahD
    ·exact h
   go_wp2;exact KA
theorem arB(A:Option Addr)(c:Nat)(l:List bh)(s:ByteArray)(w:World)(B:Nat)(E:Reads w B 4 A l.length (l.flatMap jQ))(D:B<=w.heap.size)(W:l.length<=1000000) :
 Calls prog 244 #[.slice A l.length c,.string s] w λe w'=>e=.returned (Bt l s)/\Below w.heap.size w w':=by
 have Ej:Below w.heap.size w (w.alloc (.cells #[.string s] 9)):=(aN _ _).alloc (aG _) _
 have y:Below w.heap.size w ((w.alloc (.cells #[.string s] 9)).alloc (.cells #[.int .i64 0,.int .i64 0,.string { data:=#[] }] 79)):=Ej.alloc aj _
 have hx:=(ai.new w 9 #[.string s]).alloc (.cells #[.int .i64 0,.int .i64 0,.string { data:=#[] }] 79)
 have V:=ai.new (w.alloc (.cells #[.string s] 9)) 79 #[.int .i64 0,.int .i64 0,.string { data:=#[] }]
 have C:((w.alloc (.cells #[.string s] 9)).alloc (.cells #[.int .i64 0,.int .i64 0,.string { data:=#[] }] 79)).cell? ⟨w.heap.size,0,none⟩=some (.string s):=hx.cell 0
 have F:=E.below y D
 rcases adi s l with ⟨k,hk,j,G⟩|j
 ·have u:=adh l s k hk j G;have HE:Hid (Bt l s=.tuple #[vv l[k].2.1 l[k].2.2.1 l[k].2.2.2,.bool true]):=ae (by simp[Bt,u]);have N:=ae (aaP A c l s w.heap.size _ B F aU W C (k:Int) (.inl ⟨k,hk,rfl,j,G⟩));obtain⟨b,M,rfl,L,Y⟩:=E.FG af;obtain⟨X,H,J,I⟩:=Y k hk;clear Y u j G C E;have oU:(k:Int)<(l.length:Int):=af;generalize l[k]=x at *;obtain⟨xs,Z,xn,xt⟩:=x;simp only at X H J I HE;go_enter func244,ntmps244;go_wp2_with fail
  refine N.aa.mono ?_;rintro e w3⟨rfl,t⟩;have dI:=y.trans (t.mono y.size);have d1:=(dI.cell (p:=⟨b,M+k*4+1,none⟩) (bB L D)).trans H;have d2:=(dI.cell (p:=⟨b,M+k*4+2,none⟩) (bB L D)).trans J;have d3:=(dI.cell (p:=⟨b,M+k*4+3,none⟩) (bB L D)).trans I;have i:=V.below t aj;have S:=i.frozen 0;have O:=i.frozen 1;have T:=i.frozen 2;have U:=i.cell 0;have Q:=i.cell 1;have R:=i.cell 2;simp at S O T U Q R;clear X H J I F;go_wp2;have hz:=((i.aR 0 (.int .i64 Z)).aR 1 (.int .i64 xn)).aR 2 (.string xt);have g0:=hz.cell 0;have g1:=hz.cell 1;have g2:=hz.cell 2;simp at g0 g1 g2;refine bodyPost_ret (v:=.tuple #[vv Z xn xt,.bool true]) ahE rfl ⟨Kz,?_⟩;exact ahF
 ·have u:=ash l s j;have HE:Hid (Bt l s=.tuple #[vv 0 0 { data:=#[] },.bool false]):=ae (by simp[Bt,u]);have N:=ae (aaP A c l s w.heap.size _ B F aU W C (-1) (.inr ⟨rfl,j⟩));clear u j C E;go_enter func244,ntmps244;go_wp2_with fail
  refine N.aa.mono ?_;rintro e w3⟨rfl,t⟩;have dI:=y.trans (t.mono y.size);have i:=V.below t aj;have S:=i.frozen 0;have O:=i.frozen 1;have T:=i.frozen 2;have U:=i.cell 0;have Q:=i.cell 1;have R:=i.cell 2;simp at S O T U Q R;clear F;go_wp2;have hz:=((i.aR 0 (.int .i64 0)).aR 1 (.int .i64 0)).aR 2 (.string { data:=#[] });have g0:=hz.cell 0;have g1:=hz.cell 1;have g2:=hz.cell 2;simp at g0 g1 g2;refine bodyPost_ret (v:=.tuple #[vv 0 0 { data:=#[] },.bool false]) ahE rfl ⟨Kz,?_⟩;exact ahF
section
variable {l la lb:List bh} {b:List UInt8} {v va vb:Value} {w:World}
theorem adC(s:ByteArray)(h:ik l v w)(j:l.length<=1000000):Calls prog 244 #[v,.string s] w λe w'=>e=.returned (Bt l s)/\Below w.heap.size w w':=by obtain⟨A,c,rfl,i⟩:=h;exact arB A c l s w _ i (aG _) j
end
theorem aqb(e:List bh)(s:ByteArray):(∃x:bh,e.find? (mI s)=some x/\Bt e s=.tuple #[vv x.2.1 x.2.2.1 x.2.2.2,.bool true])∨(e.find? (mI s)=none/\Bt e s=.tuple #[vv 0 0 { data:=#[] },.bool false]):=by
 unfold Bt
 cases h:e.find? (mI s)with
 | none=>exact .inr ⟨rfl,rfl⟩
 | some x=>exact .inl ⟨x,rfl,rfl⟩
theorem aqc(t:bc)(e:List bh)(v:Value)(w:World)(N:ik e v w)(J:e.length<=1000000) :
 Calls prog 203 #[oN t,v] w λr w'=>r=.returned (.bool (rV t e))/\Below w.heap.size w w':=by
 obtain⟨s,op,k,n,x⟩:=t
 have C:Below w.heap.size w (w.alloc (.cells #[.string s,.int .i64 op,.int .i64 k,.int .i64 n,.string x] 81)):=(aN _ _).alloc (aG _) _
 have H:=ai.new w 81 #[.string s,.int .i64 op,.int .i64 k,.int .i64 n,.string x]
 have L:=mR _ _ _ _ N C
 rcases aqb e s with ⟨y,hf,D⟩|⟨hf,D⟩
 ·have F:Hid (∀W,ik e v W->Calls prog 244 #[v,.string s] W λr w'=>r=.returned (.tuple #[vv y.2.1 y.2.2.1 y.2.2.2,.bool true])/\Below W.heap.size W w'):=ae λW h=>by have:=adC s h J;rwa [D]at this
  have HE:Hid (rV (s,op,k,n,x) e=iV (s,op,k,n,x) y.2):=ae ahG;clear hf D;obtain⟨S,j,i,u⟩:=y;simp only at F HE;go_enter func203,ntmps203;go_wp2_with fail
  refine (F.aa _ L).mono ?_;rintro r A⟨rfl,G⟩;have B:=(H.below G H.lt).alloc (.cells #[.int .i64 j,.int .i64 i,.string u] 79);have E:=C.trans (G.mono C.size);have I:Below w.heap.size w (A.alloc (.cells #[.int .i64 j,.int .i64 i,.string u] 79)):=E.alloc E.size _;have Q:(A.alloc (.cells #[.int .i64 j,.int .i64 i,.string u] 79)).cell? ⟨w.heap.size,0,none⟩=some (.string s):=B.cell 0;have x1:(A.alloc (.cells #[.int .i64 j,.int .i64 i,.string u] 79)).cell? ⟨w.heap.size,1,none⟩=some (.int .i64 op):=B.cell 1;have Y:(A.alloc (.cells #[.int .i64 j,.int .i64 i,.string u] 79)).cell? ⟨w.heap.size,2,none⟩=some (.int .i64 k):=B.cell 2;have R:(A.alloc (.cells #[.int .i64 j,.int .i64 i,.string u] 79)).cell? ⟨w.heap.size,3,none⟩=some (.int .i64 n):=B.cell 3;have X:(A.alloc (.cells #[.int .i64 j,.int .i64 i,.string u] 79)).cell? ⟨w.heap.size,4,none⟩=some (.string x):=B.cell 4;go_upto_region 2 with (fail);have hn:=ai.new A 79 #[.int .i64 j,.int .i64 i,.string u];have V:=hn.cell 0;have Z:=hn.cell 1;have T:=hn.cell 2;generalize O:A.alloc (.cells #[.int .i64 j,.int .i64 i,.string u] 79)=w2 at *;clear O hn B;go_wp2_with fail
  refine (adB (s,op,k,n,x) (j,i,u) _).mono ?_;rintro r U⟨rfl,M⟩;go_wp2;go_ret;exact⟨fL,I.trans (M.mono I.size)⟩
 ·have F:Hid (∀W,ik e v W->Calls prog 244 #[v,.string s] W λr w'=>r=.returned (.tuple #[vv 0 0 { data:=#[] },.bool false])/\Below W.heap.size W w'):=ae λW h=>by have:=adC s h J;rwa [D]at this
  have HE:Hid (rV (s,op,k,n,x) e=false):=ae ahG;clear hf D;go_enter func203,ntmps203;go_wp2_with fail
  refine (F.aa _ L).mono ?_;rintro r A⟨rfl,G⟩;have E:=C.trans (G.mono C.size);go_wp2;go_ret;exact⟨fL,E.alloc E.size _⟩
theorem apn(l:List bc)(e:List bh)(k:Nat)(h:k<l.length)(ha:∀t∈l.take k,rV t e=true)(hb:rV l[k] e=true):∀t∈l.take (k+1),rV t e=true:=by exact aeu
theorem aqd(l:List bc)(e:List bh)(k:Nat)(h:k<l.length)(hb:rV l[k] e=false):lT l e=false:=by unfold lT;exact aeb
theorem apo(l:List bc)(e:List bh)(h:∀t∈l.take l.length,rV t e=true):lT l e=true:=by rw[mC]at h;exact List.all_eq_true.2 h
theorem aaZ(A:Option Addr)(c:Nat)(l:List bc)(e:List bh)(v:Value)(w:World)(B:Nat)(R:Reads w B 5 A l.length (l.flatMap dY))(V:B<=w.heap.size)(yF:l.length<=1000000)(J:ik e v w)(hlen:e.length<=1000000) :
 Calls prog 144 #[.slice A l.length c,v] w λr w'=>r=.returned (.bool (lT l e))/\Below w.heap.size w w':=by
 have W:=ae R
 have U:=ae J
 clear R J
 go_enter func144,ntmps144
 go_wp2
 go_step3
 go_wp2_with fail
 go_step3
 go_wp2_with fail
 go_loopw [5,10] (fun m i wr=>∃k:Nat,k<=l.length/\i=.int .i64 (k:Int)/\m=.bool true/\Hid (∀t∈l.take k,rV t e=true)/\Below w.heap.size w wr) (fun _ i _=>l.length-(intOf i).toNat)
 case atStart=>exact⟨0,af,rfl,rfl,ae aj,aN _ _⟩
 case round =>
  obtain⟨k,hk,rfl,rfl,O,hb⟩:=hrel;by_cases y:k<l.length
  ·have Z:(k:Int)<(l.length:Int):=af;obtain⟨b,j,rfl,X,Q⟩:=W.aa.DW af;obtain⟨N,F,M,H,L⟩:=Q k y;have s:b<w.heap.size:=bB X V;have d0:=(hb.cell (p:=⟨b,j+k*5,none⟩) s).trans N;have d1:=(hb.cell (p:=⟨b,j+k*5+1,none⟩) s).trans F;have d2:=(hb.cell (p:=⟨b,j+k*5+2,none⟩) s).trans M;have d3:=(hb.cell (p:=⟨b,j+k*5+3,none⟩) s).trans H;have d4:=(hb.cell (p:=⟨b,j+k*5+4,none⟩) s).trans L;have S:=ae (apn l e k y O.aa);have YP:=ae (aqd l e k y);have hz:=hb.size;clear N F M H L Q;generalize l[k]=x at *;obtain⟨xs,u,C,E,D⟩:=x;simp only at d0 d1 d2 d3 d4;have G:Below wr.heap.size wr (wr.alloc (.cells #[.string xs,.int .i64 u,.int .i64 C,.int .i64 E,.string D] 81)):=(aN _ _).alloc (aG _) _;have Y:=ae (mR _ _ _ _ (mR _ _ _ _ U.aa hb) G);go_wp2_with fail
   refine (aqc (xs,u,C,E,D) e v _ Y.aa hlen).mono ?_;rintro r w2⟨rfl,hb2⟩;have I:Below w.heap.size w w2:=(hb.trans (G.mono hz)).trans (hb2.mono aU);cases hh:rV (xs,u,C,E,D) e
   ·have HE:Hid (lT l e=false):=ae (YP.aa hh);clear hh;go_wp2;try rw[gS]
    go_ret;exact⟨fL,I⟩
   ·have T:=ae (S.aa hh);clear hh;go_wp2;go_roundw
    case rel=>exact⟨k+1,af,bO,Kq,T,I⟩
    case measure=>simp[intOf];omega
  ·have Z:¬(k:Int)<(l.length:Int):=af;have HE:Hid (lT l e=true):=ae (apo l e (by
    have:=O.aa;rwa [show k=l.length by omega]at this))
   go_wp2;try rw[gS]
   exact KA
theorem aqe{l:List bc}{e:List bh}{vf h:Value}{w:World}(s:eJ l vf w)(t:l.length<=1000000)(j:ik e h w)(u:e.length<=1000000) :
 Calls prog 144 #[vf,h] w λr w'=>r=.returned (.bool (lT l e))/\Below w.heap.size w w':=by
 obtain⟨A,c,rfl,i⟩:=s
 exact aaZ A c l e h w _ i (aG _) t j u
