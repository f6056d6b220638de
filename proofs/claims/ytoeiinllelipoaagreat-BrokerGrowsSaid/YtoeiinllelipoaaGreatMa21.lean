/-
  The walk of table.Batch (layer 15). Conditions: lists of at most a million.
-/
import Derived.Test.YtoeiinllelipoaaGreatMa20
import Derived.Test.YtoeiinllelipoaaGreatMz
set_option maxRecDepth 100000
set_option maxHeartbeats 16000000
set_option linter.unusedVariables false
set_option linter.unusedSimpArgs false
namespace Go.Proofs.YtoeiinllelipoaaGreat
open Go Go.RowKit Tryz
theorem arC(l:List dZ)(v:Value)(q:dZ->Bool)(f:Nat)(cs:Array Value)(w:World)(h:ar gQ l v w)(S:l.length<=1000000)(T:∀D W,(callFunc f D).run prog W=.ok (.enter f D) W)
 (E:∀W,K w W->∀x∈l,∀u,sub x u W->Calls prog f (#[u]++cs) W λe L=>e=.returned (.bool (q x))/\K W L) :
 Calls prog 202 #[v,.func (.func f) #[] cs] w λe w'=>∃i:Int,e=.returned (.int .i64 i)/\K w w'/\decide (0<=i)=l.any q:=by
 have kk:=K.rf w
 obtain⟨A,c,rfl,h,-⟩:=h
 have J:=ae E
 clear E
 go_enter func202,ntmps202
 go_wp2_with fail
 go_loopw [5,8] (fun _ i wr=>∃k:Nat,k<=l.length/\i=.int .i64 (k:Int)/\Hid ((l.take k).any q=false)/\K w wr) (fun _ i _=>l.length-(intOf i).toNat)
 case atStart=>exact⟨0,af,rfl,ae aj,kk⟩
 case round =>
  clear kk;obtain⟨k,hk,rfl,hall,kr⟩:=hrel;by_cases s:k<l.length
  ·have eF:(k:Int)<(l.length:Int):=af;obtain⟨C,G,Q,rfl,I,B,y,d⟩:=dM h k s au;have HB:=ae (xp q l k s);have HA:=ae (xq q l (k+1));have hm:=bW s;generalize l[k]=t at *;obtain⟨vf,rfl,F⟩:=B wr kr;have y:∀W,K w W->W.cell? ⟨C,G+k*3,none⟩=some (.int .i64 t.cl):=y;have d:∀W,K w W->∀i,i<3->W.cell? ⟨C,G+k*3+i,none⟩=(jU t vf)[i]?:=λW j O=>λM=>(d W j O M).trans Array.getElem?_toList
   have H:=ae (J.aa wr kr t hm (.agg (jU t vf)) ⟨vf,rfl,F⟩);clear B I hm;go_wp2_with fail
   refine H.aa.mono ?_;rintro e R⟨rfl,N⟩;have kW:=kr.tr N;clear d y F H;exact Wk
  ·exact Wl
theorem aqf(l:List dZ)(v:Value)(q:dZ->Bool)(f:Nat)(cs:Array Value)(w:World)(h:ar gQ l v w)(E:l.length<=1000000)(D:∀y W,(callFunc f y).run prog W=.ok (.enter f y) W)
 (t:∀W,K w W->∀x∈l,∀u,sub x u W->Calls prog f (#[u]++cs) W λe C=>e=.returned (.bool (q x))/\K W C) :
 Calls prog 142 #[v,.func (.func f) #[] cs] w λe w'=>e=.returned (.bool (l.any q))/\K w w':=by
 have j:=ae (arC l v q f cs w h E D t)
 obtain⟨A,c,rfl⟩:=az h
 clear h t
 generalize l.any q=R at *
 go_enter func142,ntmps142
 go_wp2_with fail
 refine j.aa.mono ?_
 rintro e F⟨i,rfl,B,s⟩
 have HR:=ae s
 clear j s
 go_wp2
 go_ret
 exact⟨Wm,B⟩
theorem ath(s:dZ)(c:Int)(v:Value)(g:Nat)(w:World)(h:sub s v w)(hg:ai w g 3 #[.int .i64 c]) :
 Calls prog 138 #[v,.pointer (some ⟨g,0,none⟩)] w λe w'=>e=.returned (.bool (decide (s.cl=c)))/\K w w':=by
 obtain⟨t,rfl,i⟩:=h
 obtain⟨A,d,rfl⟩:=cB i
 have j:K w (w.alloc (.cells (jU s (.slice A s.f.length d)) 206)):=(K.rf w).al _
 have q:=hg.cells
 clear i hg
 go_enter func138,ntmps138
 go_wp2
 go_ret
 refine⟨?_,j⟩
 show Ending.returned (.bool _)=Ending.returned (.bool _)
 rfl
theorem ati(s:dZ)(e:List bh)(v t:Value)(g:Nat)(w:World)(h:sub s v w)(hg:ai w g 34 #[t])(j:ik e t w)(F:s.f.length<=1000000)(D:e.length<=1000000) :
 Calls prog 143 #[v,.pointer (some ⟨g,0,none⟩)] w λr w'=>r=.returned (.bool (lT s.f e))/\K w w':=by
 obtain⟨J,rfl,C⟩:=h
 have G:=C
 obtain⟨A,d,rfl,B⟩:=C
 have i:K w (w.alloc (.cells (jU s (.slice A s.f.length d)) 206)):=(K.rf w).al _
 have hb:=ai.new w 206 (jU s (.slice A s.f.length d))
 have u:=hg.below i hg.lt
 have y:=ae (aaZ A d s.f e t _ _ (B.below i (aG _)) i.size F (mR _ _ _ _ j i) D)
 obtain⟨M,O,rfl⟩:=vN j
 generalize lT s.f e=R at *
 clear G B j hg
 go_enter func143,ntmps143
 go_upto_region 1 with (fail)
 generalize w.alloc _=L at *
 have q:=hb.cell
 have H:=u.cell
 go_wp2_with fail
 refine y.aa.mono ?_
 rintro r N⟨rfl,I⟩
 have E:=i.tr I
 clear y q H hb u
 go_wp2
 go_ret
 exact⟨rfl,E⟩
theorem atj(l:List dZ)(e:List bh)(v D:Value)(g:Nat)(w:World)(h:ar gQ l v w)(hg:ai w g 137 #[v])(j:ik e D w)(N:l.length<=1000000)(C:∀s∈l,s.f.length<=1000000)(J:e.length<=1000000) :
 Calls prog 141 #[D,.pointer (some ⟨g,0,none⟩)] w λr w'=>r=.returned (.bool (anyS l e))/\K w w':=by
 have HR:Hid (anyS l e=l.any λs=>lT s.f e):=ae rfl
 have G:=ae j
 obtain⟨B,F,rfl⟩:=vN j
 have i:K w (w.alloc (.cells #[.slice B e.length F] 34)):=(K.rf w).al _
 have hb:=ai.new w 34 #[.slice B e.length F]
 have y:=hg.below i hg.lt
 have H:=ae (aW h i)
 have O:=ae C
 obtain⟨A,c,rfl⟩:=az h
 generalize anyS l e=R at *
 clear h hg j C
 go_enter func141,ntmps141
 go_upto_region 1 with (fail)
 generalize w.alloc _=I at *
 generalize w.heap.size=t at hb⊢
 have E:=ae (aqf l _ (λs=>lT s.f e) 143 #[.pointer (some ⟨t,0,none⟩)] I H.aa N (λ_ _=>nz) λW k s S u M=>ati s e u _ t W M (hb.below k hb.lt) (mR _ _ _ _ G.aa (i.tr k)) (O.aa s S) J)
 have Q:=y.cell
 go_wp2_with fail
 refine E.aa.mono ?_
 rintro r U⟨rfl,T⟩
 have L:=i.tr T
 clear E Q hb y
 go_wp2
 go_ret
 exact⟨fo,L⟩
theorem aqg(l:List dZ)(c:Int)(x:aq)(v V:Value)(w:World)(h:ar gQ l v w)(hx:cR x V w)(hlen:l.length<=1000000)(hs:∀s∈l,s.f.length<=1000000)(O:eD x) :
 Calls prog 69 #[v,.int .i64 c,V] w λe w'=>∃v',e=.returned v'/\aX w.heap.size w.heap.size 34 dJ (qQ l c x) v' w'/\K w w':=by
 have C:Hid (qQ l c x=if x.kind=1 then x.es.filter (anyS (l.filter λs=>decide (s.cl=c)))else []):=ae (by unfold qQ p7;simp)
 have HL:=ae (II h)
 have HS:=ae hs
 obtain⟨vf,ve,rfl,hf,i⟩:=hx
 have Z:=ae (II i)
 obtain⟨M,N,rfl⟩:=cB hf
 obtain⟨H,Q,rfl⟩:=az i
 obtain⟨A,d,rfl⟩:=az h
 have B:K w ((w.alloc (.cells #[.int .i64 c] 3)).alloc (.cells (aA x (.slice M x.f.length N) (.slice H x.es.length Q)) 102)):=((K.rf w).al _).al _
 have hb:=(ai.new w 3 #[.int .i64 c]).alloc (.cells (aA x (.slice M x.f.length N) (.slice H x.es.length Q)) 102)
 have j:=ai.new (w.alloc (.cells #[.int .i64 c] 3)) 102 (aA x (.slice M x.f.length N) (.slice H x.es.length Q))
 have hz:(w.alloc (.cells #[.int .i64 c] 3)).heap.size=w.heap.size+1:=aj
 rw[hz]at j
 generalize qQ l c x=R at *
 clear h hf i hs hz
 go_enter func69,ntmps69
 go_upto_region 1 with (fail)
 generalize World.alloc (World.alloc w _) _=w1 at *
 have hz1:=B.size
 generalize kL:w.heap.size=lo at hb j HL Z hz1⊢
 have lQ:=ae kL
 clear kL
 have q:=j.cell
 by_cases hk:x.kind=1
 rotate_left
 ·have HF:Hid (R=[]):=ae (by rw[C.aa,if_neg hk]);have hk2:(x.kind != 1)=true:=pc;clear hk C;go_wp2;go_ret;exact⟨_,rfl,Wn,B⟩
 have HF:Hid (R=x.es.filter (anyS (l.filter λs=>decide (s.cl=c)))):=ae (by rw[C.aa,if_pos hk])
 have hk2:(x.kind != 1)=false:=Fj
 have C1:=ae (ER (λk=>lo<=k) l _ (λs=>decide (s.cl=c)) 138 #[.pointer (some ⟨lo,0,none⟩)] w1 (HL.aa.st B) hlen (λ_ _=>nz) λW k s _ u J=>ath s c u lo W J (hb.below k hb.lt))
 clear hk C
 go_wp2_with fail
 refine C1.aa.mono ?_
 rintro e t⟨v2,rfl,E,k2⟩
 have cC:=lV (λs=>decide (s.cl=c)) l
 have zU:=yP (q:=λs=>decide (s.cl=c)) HS.aa
 generalize l.filter (λs=>decide (s.cl=c))=l2 at *
 obtain⟨A2,c2,rfl⟩:=E.slice
 have L:=j.below k2 j.lt
 have bw:=B.tr k2
 have fg:=E.ar
 clear q j E C1 hb
 go_upto_region 4 with (fail)
 have I:K t (t.alloc (.cells #[.slice A2 l2.length c2] 137)):=(K.rf t).al _
 have y:=ai.new t 137 #[.slice A2 l2.length c2]
 have X:=L.below I L.lt
 have Y:=bw.tr I
 have H3:=ae (aW fg I)
 clear L fg
 generalize t.alloc _=w3 at *
 generalize t.heap.size=U at y⊢
 have Eu:=Z.aa.st Y
 have S:=ae O
 have C2:=ae (abu (λk=>lo<=k) x.es _ (anyS l2) 141 #[.pointer (some ⟨U,0,none⟩)] w3 Eu O.2.1 (λ_ _=>nz) λW k e i u J=>atj l2 e _ u U W (aW H3.aa k) (y.below k y.lt) J af zU (S.aa.2.2 e i))
 have q3:=X.cell
 clear Eu O zU
 go_wp2_with fail
 refine C2.aa.mono ?_
 rintro e w4⟨v4,rfl,cE,k4⟩
 have T:=Y.tr k4
 have hf4:=lV (anyS l2) x.es
 have hs4:∀e∈x.es.filter (anyS l2),e.length<=1000000:=λe i=>S.aa.2.2 e (List.mem_filter.1 i).1
 have D:=cE.ar
 have F:=ae (Tp _ v4 w4 D (by have:=S.aa.2.1;omega) hs4)
 rw[<- HF.aa]at F D
 obtain⟨A4,c4,rfl⟩:=az D
 clear C2 q3 cE hs4 X y
 go_wp2_with fail
 refine F.aa.mono ?_
 rintro e w5⟨v5,rfl,G,k5⟩
 have kF:=T.tr k5
 have iX:=T.size
 have HO:Hid (aX lo lo 34 dJ R v5 w5):=ae (aX.low (aX.floor G Bh) Bh)
 obtain⟨A5,c5,rfl⟩:=az G.sG.ar
 clear F G
 go_wp2
 go_ret
 exact⟨_,rfl,by rw[lQ.aa];exact HO.aa,kF⟩
theorem fold_succ{α β:Type}(f:β->α->β)(l:List α)(b:β)(j:Nat)(h:j<l.length):(l.take (j+1)).foldl f b=f ((l.take j).foldl f b) l[j]:=by rw[gE h,List.foldl_append];rfl
theorem ab5{α:Type}(f:α->Int):∀l:List α,(l.filter λs=>decide (f s<0)).length+(l.filter λs=>decide (0<f s)).length<=l.length
 | []=>aj
 | x :: l=>by
  have:=ab5 f l;by_cases j:f x<0
  ·have i:¬0<f x:=af;simp[j,i];omega
  ·by_cases i:0<f x
   ·simp[j,i];omega
   ·simp[j,i];omega
theorem arD(l:List dZ)(x:aq):(sY l x).length<=l.length+1:=by
 have:=ab5 (λs=>jk s x) l;unfold sY;split
 ·simp only[cT,List.length_singleton];omega
 ·split
  ·exact U3
  ·omega
def DT(l:List dZ):Prop:=∀s∈l,s.f.length<=1000000
theorem au1{l:List dZ}{x:aq}(h:DT l)(j:x.f.length<=1000000):DT (sY l x):=by
 unfold sY;split
 ·intro s i;simp only[xG,List.mem_singleton]at i;rcases i with (i|rfl)|i
  ·exact yP h s i
  ·exact j
  ·exact yP h s i
 ·split
  ·intro s i;rcases List.mem_append.1 i with i|i
   ·exact yP h s i
   ·exact yP h s i
  ·exact h
def kU(o:List dZ)(x:aq):List dZ:=if x.kind=1 then o else sY o x
theorem acO(l:List dZ)(x:aq):(kU l x).length<=l.length+1:=by unfold kU;split;omega;exact arD l x
theorem ahH{l:List dZ}{x:aq}(h:DT l)(i:x.f.length<=1000000):DT (kU l x):=by unfold kU;split;exact h;exact au1 h i
theorem PD(l:List aq):kO l=l.foldl kU []:=rfl
theorem T5(l:List aq):(kO l).length<=l.length:=by
 rw[PD];have key:∀(l:List aq) (o:List dZ),(l.foldl kU o).length<=o.length+l.length:=by
  intro l
  induction l with
  | nil=>intro o;simp
  | cons x l h=>intro o;have:=h (kU o x);have:=acO o x;simp only[List.foldl_cons,iE];omega
 simpa using key l []
theorem ahI{l:List aq}(h:∀x∈l,eD x):DT (kO l):=by
 rw[PD];have key:∀(l:List aq) (o:List dZ),(∀x∈l,eD x)->DT o->DT (l.foldl kU o):=by
  intro l
  induction l with
  | nil=>intro o _ i;exact i
  | cons x l u=>intro o j i;exact u _ (λy hy=>j y Bd) (ahH i (j x aj).1)
 exact key l [] h λs t=>by simp at t
theorem abx{M:Nat->Prop}{p:cV}{B:aB}{w:World}(h:bC M p B w)(F:bH B)(n:Nat)(hn:n<=B.st.list.length) :
 Calls prog 68 #[.pointer (some ⟨p.g,0,none⟩),.int .i64 (n:Int)] w λe w'=>∃Y,e=.returned Y/\aT (λk=>k<w.heap.size) w.heap.size 206 gQ (kO (B.st.list.take n)) Y w'/\K w w':=by
 have D:=F.IH
 have jX:=F.dk.len
 have q:=h.blk.cell
 have J:=h.bL.now.list
 obtain⟨g,gl,gd,gr,gt,vd,vr,vp,vh,vl,vq,va,vt,vf,vw,kr⟩:=p
 simp only at q J
 obtain⟨Al,cl,rfl,hl,hcl⟩:=J
 have yF:B.st.list.length<=300000:=af
 have vG:=ae D.1
 have HS1:=ae (PD (B.st.list.take n))
 have HSJ:=ae λ(j:Nat) (hj:j<n)=>fold_succ kU B.st.list [] j af
 have O:=ae λ(j:Nat)=>T5 (B.st.list.take j)
 have HFJ:=ae λ(j:Nat)=>ahI (l:=B.st.list.take j) λx C=>D.1 x (lE C)
 simp only[PD]at O HFJ
 generalize kO (B.st.list.take n)=R at *
 have kk:=K.rf w
 have hO:=aT.nil (λk=>k<w.heap.size) w.heap.size 206 gQ w
 have hn':(n:Int)<=(cl:Int):=af
 clear h F D jX
 go_enter func68,ntmps68
 go_wp2_with fail
 clear q
 go_loopw [5,7,16] (fun o _ i W=>∃j:Nat,j<=n/\i=.int .i64 (j:Int)/\aT (fun k=>k<w.heap.size) w.heap.size 206 gQ ((B.st.list.take j).foldl kU []) o W/\K w W) (fun _ _ i _=>n-(intOf i).toNat)
 case atStart=>exact⟨0,af,rfl,Dz,kk⟩
 case round =>
  clear hO kk;obtain⟨j,hj,rfl,hO,kr⟩:=hrel;by_cases hlt:j<n
  ·have ba:(j:Int)<(n:Int):=af;have Q:j<B.st.list.length:=af;obtain⟨N,V,cs,rfl,dH,L,Z,d⟩:=dM hl j Q au;have H:=ae (HSJ.aa j hlt);have qG:=vG.aa _ (bW Q);have Y6:=O.aa j;have hFj:=HFJ.aa j;have aDq:(B.st.list.take j).length<=300000:=aU;generalize B.st.list[j]=x at *;generalize (B.st.list.take j).foldl kU []=t at *;obtain⟨vf,A,rfl,G,E⟩:=L w (K.rf w);have HE:Hid (∀W,K w W->cR x (.agg (aA x vf A)) W):=ae λW k=>⟨_,_,rfl,dB _ _ _ _ G k,aW E k⟩
   have q:∀i,i<8->wr.cell? ⟨N,V+j*8+i,none⟩=(aA x vf A)[i]?:=λi hi=>(d wr kr i hi).trans Array.getElem?_toList
   have q0:wr.cell? ⟨N,V+j*8,none⟩=some (.int .i64 x.kind):=Z wr kr;have C:=ai.new wr 102 (aA x vf A);have T:K wr (wr.alloc (.cells (aA x vf A) 102)):=(K.rf wr).al _;obtain⟨Af,cf,rfl⟩:=cB G;obtain⟨Ae,ce,rfl⟩:=az E;clear d Z G E L dH;go_upto_region 5 with (fail);generalize wr.alloc _=U at *;have s:=hO.st T;have u:=kr.tr T;clear q q0 hO;have q:=C.cell;obtain⟨Ao,co,rfl⟩:=s.slice;by_cases hk:x.kind=1
   ·have y:Hid ((B.st.list.take (j+1)).foldl kU []=t):=ae (by rw[H.aa];unfold kU;rw[if_pos hk]);have hk2:(x.kind != 1)=false:=Fj;rw[<- y.aa]at s;clear hk;go_wp2;go_roundw
    case rel=>exact⟨j+1,af,bO,by rw[<- y.aa];exact s,u⟩
    case measure=>simp[intOf];omega
   have y:Hid ((B.st.list.take (j+1)).foldl kU []=sY t x):=ae (by rw[H.aa];unfold kU;rw[if_neg hk]);have hk2:(x.kind != 1)=true:=pc;have X:=ae (abv t x _ _ U s.ar (HE.aa U u) af hFj qG.1);clear s hk;go_wp2_with fail
   refine X.aa.mono ?_;rintro e w2⟨v2,rfl,S,k2⟩;have pK:=u.tr k2;have hz1:=u.size;have I:aT (λk=>k<w.heap.size) w.heap.size 206 gQ (sY t x) v2 w2:=(S.less λk hk=>af).low hz1;rw[<- y.aa]at I;clear X S q;go_wp2;go_roundw
   case rel=>exact⟨j+1,af,bO,I,pK⟩
   case measure=>simp[intOf];omega
  ·have ba:¬(j:Int)<(n:Int):=af;obtain rfl:j=n:=af;rw[<- HS1.aa]at hO;exact Pn
theorem aqh(x y:fG)(w:World)(d:Nat):(Op.equalIn (d+1+1+1) 117 (.agg (fk x)) (.agg (fk y))).run prog w=.ok (decide (x=y)) w:=by obtain⟨⟨a,b,c⟩,e⟩:=x;obtain⟨⟨A,j,B⟩,s⟩:=y;simp[fk,go_sem,Hy];by_cases h:a=A <;> by_cases i:b=j <;> by_cases t:c=B <;> by_cases u:e=s <;> simp[h,t,i,u] <;> omega
theorem apq(x y:fG)(w:World):(binOp .eql 117 (.agg (fk x)) (.agg (fk y))).run prog w=.ok (.bool (decide (x=y))) w:=by have h:(Op.equal 117 (.agg (fk x)) (.agg (fk y))).run prog w=.ok (decide (x=y)) w:=aqh x y w 9997;exact ahJ
theorem apr(l:List fG)(a:fG)(v:Value)(w:World)(h:ar jW l v w)(hlen:l.length<=1000000) :
 Calls prog 235 #[v,.agg (fk a)] w λe w'=>∃i:Int,e=.returned (.int .i64 i)/\K w w'/\decide (0<=i)=l.any λv=>decide (v=a):=by
 obtain⟨D,d,rfl,Z,-⟩:=h
 have y:=ai.new w 117 (fk a)
 have k1:K w (w.alloc (.cells (fk a) 117)):=(K.rf w).al _
 go_enter func235,ntmps235
 go_upto_region 1 with (fail)
 generalize w.alloc _=C at *
 generalize w.heap.size=g at y⊢
 have X:=y.cells
 have kk:=K.rf C
 clear y
 go_wp2_with fail
 go_loopw [5,8] (fun _ i wr=>∃j:Nat,j<=l.length/\i=.int .i64 (j:Int)/\Hid ((l.take j).any (fun v=>decide (v=a))=false)/\K C wr) (fun _ i _=>l.length-(intOf i).toNat)
 case atStart=>exact⟨0,af,rfl,ae aj,kk⟩
 case round =>
  clear kk;obtain⟨j,hj,rfl,HT,kr⟩:=hrel;by_cases I:j<l.length
  ·have Q:(j:Int)<(l.length:Int):=af;obtain⟨u,t,cs1,rfl,dH,G,O,dd⟩:=dM Z j I au;have HB:=ae (xp (λv=>decide (v=a)) l j I);have U:=ae (xq (λv=>decide (v=a)) l (j+1));generalize l[j]=x at *;obtain rfl:=G w (K.rf w);have B:=λW (s:K wr W)=>X W (kr.tr s)
   have R:∀W,K wr W->W.cell? ⟨u,t+j*4,none⟩=some (.int .i64 x.id.1):=λW s=>O W (k1.tr (kr.tr s))
   have p1:∀W,K wr W->W.cell? ⟨u,t+j*4+1,none⟩=some (.int .u64 (x.id.2.1:Int)):=λW s=>dd W (k1.tr (kr.tr s)) 1 au
   have p2:∀W,K wr W->W.cell? ⟨u,t+j*4+2,none⟩=some (.int .u64 (x.id.2.2:Int)):=λW s=>dd W (k1.tr (kr.tr s)) 2 au
   have p3:∀W,K wr W->W.cell? ⟨u,t+j*4+3,none⟩=some (.bool x.yes):=λW s=>dd W (k1.tr (kr.tr s)) 3 au
   clear dH G O dd;go_upto_region 4 with (fail);refine eM 5 [([],[]),([],[]),([],[]),([1,2],[(12,1),(13,2)]),([3],[(14,3)]),([0,4],[(11,0),(15,4)])] 19 rfl ak ak ak ak au ?_;simp only[dR,dN,ew,dP];iterate 5 (apply aV.is;intro V W s M;(try simp only[aI,aJ,aM,aE,aF,ag]at M);simp[aL,aw,List.lookup,M,aS,execOp,ay,ag,aN,s,R,p1,p2,p3,B,Q,go_sem];rfl)
   intro V W s H;simp only[aJ,aM,eA,ag,Nat.reduceAdd]at H;obtain⟨L,S,Y,T,F,-⟩:=H;have E:=apq a x W;refine bu.pure (.bool (decide (a=x))) rfl ?_ ?_
   ·simp[aw,List.lookup,L,F,execOp,ay];rw[show (eqGuard BinOp.eql 117 (Operand.tmp 11) (Operand.tmp 15) (.agg (fk a)) (.agg (fk x))).run prog W=.ok () W from by simp[eqGuard,go_sem]];simp only[Result.andThen_ok,E]
   refine bu.nil ?_;simp only[bF,Act.put,cO,cM,cL,Nat.reduceAdd,bj];have yj:=kr.tr s;have J:decide (a=x)=decide (x=a):=decide_eq_decide.2 eq_comm;rw[J];clear J E L S Y T F R p1 p2 p3 B;generalize A:decide (x=a)=q at *;have HQ:=ae A;clear A;cases q
   ·have kJ:Hid ((l.take (j+1)).any (λv=>decide (v=a))=false):=ae afn;exact KE
   ·have HR:Hid (l.any (λv=>decide (v=a))=true):=ae (U.aa (by rw[HB.aa];simp));exact afo
  ·have Q:¬(j:Int)<(l.length:Int):=af;have HR:Hid (l.any (λv=>decide (v=a))=false):=ae (by
    have N:=HT.aa;rw[eT af]at N;exact N)
   exact afp
theorem aoe(l:List fG)(a:fG)(v:Value)(w:World)(h:ar jW l v w)(C:l.length<=1000000) :
 Calls prog 191 #[v,.agg (fk a)] w λe w'=>e=.returned (.bool (l.any λv=>decide (v=a)))/\K w w':=by
 have j:K w (w.alloc (.cells (fk a) 117)):=(K.rf w).al _
 have t:=ae λW (A:K w W)=>apr l a v W (aW h A) C
 obtain⟨D,d,rfl⟩:=az h
 clear h
 go_enter func191,ntmps191
 go_wp2_with fail
 generalize w.alloc _=y at *
 refine (t.aa y j).mono ?_
 rintro e E⟨i,rfl,u,s⟩
 have B:=ae s
 clear s
 go_wp2
 go_ret
 exact⟨by rw[<- B.aa];rfl,j.tr u⟩
theorem aqi(m:bK)(a:av)(y:Bool)(v:Value)(g:Nat)(w:World)(h:js m v w)(hg:ai w g 46 #[.int .i64 a.1,.int .u64 (a.2.1:Int),.int .u64 (a.2.2:Int)])(M:m.bM.length<=1000000) :
 Calls prog 190 #[v,.bool y,.pointer (some ⟨g,0,none⟩)] w λe w'=>e=.returned (.bool (pY m a y))/\K w w':=by
 have HR:Hid (pY m a y=m.bM.any λv=>decide (v=⟨a,y⟩)):=ae rfl
 obtain⟨X,U,V,Z,W,v6,rfl,i,s,t,A,B,h6⟩:=h
 have T:=ae i
 obtain⟨I,c1,rfl⟩:=az i
 obtain⟨L,c2,rfl⟩:=az s
 obtain⟨O,c3,rfl⟩:=az t
 obtain⟨H,c4,rfl⟩:=az A
 obtain⟨F,c5,rfl⟩:=az B
 obtain⟨Q,E,rfl⟩:=az h6
 generalize G:fH m (.slice I m.bM.length c1) (.slice L m.asks.length c2) (.slice O m.entries.length c3) (.slice H m.cH.length c4) (.slice F m.bY.length c5) (.slice Q m.ends.length E)=C
 have j:K w (w.alloc (.cells C 41)):=(K.rf w).al _
 have hb:=ai.new w 41 C
 subst G
 have u:=hg.below j hg.lt
 have D:=ae (aoe m.bM ⟨a,y⟩ _ _ (aW i j) M)
 generalize pY m a y=R at *
 clear i s t A B h6 hg
 go_enter func190,ntmps190
 go_upto_region 1 with (fail)
 generalize w.alloc _=Y at *
 have q:=hb.cell
 have N:=u.cell
 go_wp2_with fail
 refine D.aa.mono ?_
 rintro e w2⟨rfl,S⟩
 have J:=j.tr S
 clear D q N hb u
 go_wp2
 go_ret
 exact⟨fo,J⟩
theorem ab6(kids:List bK)(a:av)(v:Value)(w:World)(h:ar vE kids v w)(hlen:kids.length<=1000000)(hv:∀m∈kids,m.bM.length<=1000000) :
 Calls prog 123 #[v,cN a] w λe w'=>e=.returned (.int .i64 (jv kids a))/\K w w':=by
 have HR:Hid (jv kids a=if kids.any (λk=>pY k a false)then 2 else if kids.all (λk=>pY k a true)then 1 else 0):=ae rfl
 obtain⟨A,c,rfl,hl,-⟩:=h
 have HV:=ae hv
 have s:K w (w.alloc (.cells #[.int .i64 a.1,.int .u64 (a.2.1:Int),.int .u64 (a.2.2:Int)] 46)):=(K.rf w).al _
 have hb:=ai.new w 46 #[.int .i64 a.1,.int .u64 (a.2.1:Int),.int .u64 (a.2.2:Int)]
 generalize jv kids a=R at *
 clear hv
 go_enter func123,ntmps123
 go_wp2
 go_step3
 generalize w.alloc _=w1 at *
 generalize w.heap.size=ga at hb⊢
 have kk:=K.rf w1
 go_wp2_with fail
 go_step3
 go_wp2_with fail
 go_loopw [6,8,12] (fun o _ i W=>∃j:Nat,j<=kids.length/\i=.int .i64 (j:Int)/\(∃z:Int,o=.int .i64 z/\Hid (z=if (kids.take j).all (fun k=>pY k a true)then 1 else 0))/\Hid ((kids.take j).any (fun k=>pY k a false)=false)/\K w1 W) (fun _ _ i _=>kids.length-(intOf i).toNat)
 case atStart=>exact⟨0,af,rfl,⟨1,rfl,ae aj⟩,ae aj,kk⟩
 case round =>
  clear kk;obtain⟨j,hj,rfl,⟨z,rfl,N⟩,C,kr⟩:=hrel;by_cases t:j<kids.length
  ·have ba:(j:Int)<(kids.length:Int):=af;obtain⟨V,O,cs1,rfl,dH,hr1,d0,dd⟩:=dM hl j t au;have HB:=ae (xp (λk=>pY k a false) kids j t);have HA:=ae (xq (λk=>pY k a false) kids (j+1));have HL:=ae (Df (λk=>pY k a true) kids j t);have hmv:=HV.aa _ (bW t);generalize kids[j]=m at *;have U:=s.tr kr;obtain⟨v1,X,Z,v4,v5,v6,rfl,H,J,B,F,G,E⟩:=hr1 w (K.rf w);have HM:Hid (∀W,K w W->js m (.agg (fH m v1 X Z v4 v5 v6)) W):=ae λW k=>⟨_,_,_,_,_,_,rfl,aW H k,aW J k,aW B k,aW F k,aW G k,aW E k⟩
   have q9:∀i,i<8->wr.cell? ⟨V,O+j*8+i,none⟩=(fH m v1 X Z v4 v5 v6)[i]?:=λi hi=>(dd wr U i hi).trans Array.getElem?_toList
   have q0:wr.cell? ⟨V,O+j*8,none⟩=some (.int .i64 m.kind):=d0 wr U;obtain⟨A1,c1,rfl⟩:=az H;obtain⟨A2,c2,rfl⟩:=az J;obtain⟨A3,c3,rfl⟩:=az B;obtain⟨A4,c4,rfl⟩:=az F;obtain⟨S,c5,rfl⟩:=az G;obtain⟨A6,Q,rfl⟩:=az E;have k3:K wr (wr.alloc (.cells (fH m (.slice A1 m.bM.length c1) (.slice A2 m.asks.length c2) (.slice A3 m.entries.length c3) (.slice A4 m.cH.length c4) (.slice S m.bY.length c5) (.slice A6 m.ends.length Q)) 41)):=(K.rf wr).al _;have u:=ai.new wr 41 (fH m (.slice A1 m.bM.length c1) (.slice A2 m.asks.length c2) (.slice A3 m.entries.length c3) (.slice A4 m.cH.length c4) (.slice S m.bY.length c5) (.slice A6 m.ends.length Q));clear dd d0 dH hr1 H J B F G E;go_upto_region 6 with (fail);generalize wr.alloc _=w3 at *;have I:=kr.tr k3;clear q9 q0;have q8:=u.cell;have L:=ae λW (k:K w3 W) y=>aqi m a y _ ga W (HM.aa W (s.tr (I.tr k))) (hb.below (I.tr k) hb.lt) hmv
   go_wp2_with fail
   refine (L.aa w3 (K.rf _) false).mono ?_;rintro e w4⟨rfl,D⟩;have gB:=I.tr D;have bQ:=(u.below D u.lt).cell;clear q8;cases hb0:pY m a false;rotate_left
   ·have HF:Hid (R=2):=ae (by rw[HR.aa,if_pos (HA.aa (by rw[HB.aa,hb0];simp))]);have kF:=s.tr gB;clear C hb0 N;go_wp2;rw[gS];exact DC
   have Y:Hid ((kids.take (j+1)).any (λk=>pY k a false)=false):=ae (by rw[HB.aa,C.aa,hb0];rfl);clear hb0;go_wp2_with fail
   refine (L.aa w4 D true).mono ?_;rintro e w5⟨rfl,k5⟩;have mq:=gB.tr k5;clear bQ L;cases aO:pY m a true
   ·have M:Hid ((0:Int)=if (kids.take (j+1)).all (λk=>pY k a true)then 1 else 0):=ae (by rw[HL.aa,aO];simp);clear aO;go_wp2;go_roundw
    case rel=>exact⟨j+1,af,bO,⟨0,rfl,M⟩,Y,mq⟩
    case measure=>simp[intOf];omega
   ·have M:Hid (z=if (kids.take (j+1)).all (λk=>pY k a true)then 1 else 0):=ae (by rw[HL.aa,aO,N.aa];simp);clear aO;go_wp2;go_roundw
    case rel=>exact⟨j+1,af,bO,⟨z,rfl,M⟩,Y,mq⟩
    case measure=>simp[intOf];omega
  ·have ba:¬(j:Int)<(kids.length:Int):=af;have HF:Hid (R=z):=ae (by
    have h1:=C.aa;have T:=N.aa;rw[eT af]at h1 T;rw[HR.aa,h1,T];rfl)
   have kF:=s.tr kr;go_wp2;exact DC
theorem arE(l:List aq)(v:Value)(q:aq->Bool)(f:Nat)(cs:Array Value)(w:World)(h:ar aQ l v w)(U:l.length<=1000000)(V:∀E W,(callFunc f E).run prog W=.ok (.enter f E) W)
 (F:∀W,K w W->∀x∈l,∀u,cR x u W->Calls prog f (#[u]++cs) W λe N=>e=.returned (.bool (q x))/\K W N) :
 Calls prog 184 #[v,.func (.func f) #[] cs] w λe w'=>∃i:Int,e=.returned (.int .i64 i)/\K w w'/\decide (0<=i)=l.any q:=by
 have kk:=K.rf w
 obtain⟨A,c,rfl,h,-⟩:=h
 have M:=ae F
 clear F
 go_enter func184,ntmps184
 go_wp2_with fail
 go_loopw [5,8] (fun _ i wr=>∃k:Nat,k<=l.length/\i=.int .i64 (k:Int)/\Hid ((l.take k).any q=false)/\K w wr) (fun _ i _=>l.length-(intOf i).toNat)
 case atStart=>exact⟨0,af,rfl,ae aj,kk⟩
 case round =>
  clear kk;obtain⟨k,hk,rfl,hall,kr⟩:=hrel;by_cases s:k<l.length
  ·have eF:(k:Int)<(l.length:Int):=af;obtain⟨D,I,S,rfl,L,C,B,d⟩:=dM h k s au;have HB:=ae (xp q l k s);have HA:=ae (xq q l (k+1));have hm:=bW s;generalize l[k]=t at *;obtain⟨vf,y,rfl,H,G⟩:=C wr kr;have B:∀W,K w W->W.cell? ⟨D,I+k*8,none⟩=some (.int .i64 t.kind):=B;have d:∀W,K w W->∀i,i<8->W.cell? ⟨D,I+k*8+i,none⟩=(aA t vf y)[i]?:=λW j R=>λO=>(d W j R O).trans Array.getElem?_toList
   have J:=ae (M.aa wr kr t hm (.agg (aA t vf y)) ⟨vf,y,rfl,H,G⟩);clear C L hm;go_wp2_with fail
   refine J.aa.mono ?_;rintro e T⟨rfl,Q⟩;have kW:=kr.tr Q;clear d B H G J;exact Wk
  ·exact Wl
theorem N9(l:List aq)(v:Value)(q:aq->Bool)(f:Nat)(cs:Array Value)(w:World)(h:ar aQ l v w)(E:l.length<=1000000)(D:∀y W,(callFunc f y).run prog W=.ok (.enter f y) W)
 (t:∀W,K w W->∀x∈l,∀u,cR x u W->Calls prog f (#[u]++cs) W λe C=>e=.returned (.bool (q x))/\K W C) :
 Calls prog 115 #[v,.func (.func f) #[] cs] w λe w'=>e=.returned (.bool (l.any q))/\K w w':=by
 have j:=ae (arE l v q f cs w h E D t)
 obtain⟨A,c,rfl⟩:=az h
 clear h t
 generalize l.any q=R at *
 go_enter func115,ntmps115
 go_wp2_with fail
 refine j.aa.mono ?_
 rintro e F⟨i,rfl,B,s⟩
 have HR:=ae s
 clear j s
 go_wp2
 go_ret
 exact⟨Wm,B⟩
theorem aps(x:aq)(a:av)(v:Value)(g:Nat)(w:World)(h:cR x v w)(hg:ai w g 46 #[.int .i64 a.1,.int .u64 (a.2.1:Int),.int .u64 (a.2.2:Int)]) :
 Calls prog 229 #[v,.pointer (some ⟨g,0,none⟩)] w λe w'=>e=.returned (.bool (fQ a x))/\K w w':=by
 obtain⟨vf,F,rfl,t,i⟩:=h
 obtain⟨A,c,rfl⟩:=cB t
 obtain⟨D,d,rfl⟩:=az i
 clear t i
 have j:=ae (J6 a x)
 have q:=hg.cells
 have E:=λo=>(K.rf w).al o
 obtain⟨y,B,C⟩:=a
 obtain⟨k,b,l,s,cl,u,f,es⟩:=x
 simp only at q j⊢
 generalize fQ (y,B,C) ⟨k,b,l,s,cl,u,f,es⟩=R at *
 go_enter func229,ntmps229
 go_wp2
 all_goals
  go_ret
  refine⟨?_,(K.rf w).al _⟩
  rw[j.aa]
  show Ending.returned (.bool _)=Ending.returned (.bool _)
  clear q E
  first|(simp_all;done)|(simp_all;omega)|(congr 2;rw[Bool.eq_iff_iff];simp_all;omega)
theorem aoO(x:aq)(a:av)(v:Value)(g:Nat)(w:World)(h:cR x v w)(hg:ai w g 46 #[.int .i64 a.1,.int .u64 (a.2.1:Int),.int .u64 (a.2.2:Int)]) :
 Calls prog 243 #[v,.pointer (some ⟨g,0,none⟩)] w λe w'=>e=.returned (.bool (fQ a x))/\K w w':=by
 obtain⟨vf,F,rfl,t,i⟩:=h
 obtain⟨A,c,rfl⟩:=cB t
 obtain⟨D,d,rfl⟩:=az i
 clear t i
 have j:=ae (J6 a x)
 have q:=hg.cells
 have E:=λo=>(K.rf w).al o
 obtain⟨y,B,C⟩:=a
 obtain⟨k,b,l,s,cl,u,f,es⟩:=x
 simp only at q j⊢
 generalize fQ (y,B,C) ⟨k,b,l,s,cl,u,f,es⟩=R at *
 go_enter func243,ntmps243
 go_wp2
 all_goals
  go_ret
  refine⟨?_,(K.rf w).al _⟩
  rw[j.aa]
  show Ending.returned (.bool _)=Ending.returned (.bool _)
  clear q E
  first|(simp_all;done)|(simp_all;omega)|(congr 2;rw[Bool.eq_iff_iff];simp_all;omega)
theorem arF(x y:aq)(v F G:Value)(g:Nat)(w:World)(h:cR x v w)(hg:ai w g 102 (aA y F G)) :
 Calls prog 127 #[v,.pointer (some ⟨g,0,none⟩)] w λe w'=>e=.returned (.bool (fQ (ax y) x))/\K w w':=by
 obtain⟨vf,J,rfl,t,j⟩:=h
 obtain⟨A,c,rfl⟩:=cB t
 obtain⟨D,d,rfl⟩:=az j
 clear t j
 have i:Hid (fQ (ax y) x=(decide (x.br=y.br)&&decide (x.life=y.life)&&decide (x.cI=y.cI))):=ae (J6 (y.br,y.life,y.cI) x)
 have q:=hg.cells
 have E:=λo=>(K.rf w).al o
 generalize fQ (ax y) x=R at *
 obtain⟨I,M,B,C,H,L,N,yes⟩:=y
 obtain⟨k,b,l,s,cl,u,f,es⟩:=x
 simp only at q i⊢
 clear hg
 go_enter func127,ntmps127
 go_wp2
 all_goals
  go_ret
  refine⟨?_,(K.rf w).al _⟩
  rw[i.aa]
  show Ending.returned (.bool _)=Ending.returned (.bool _)
  clear q E i
  rw[show decide (l=B)=decide ((l:Int)=(B:Int))from decide_eq_decide.2 af,show decide (s=C)=decide ((s:Int)=(C:Int))from decide_eq_decide.2 af]
  simp[*]
theorem aqj(x y:aq)(v F G:Value)(g:Nat)(w:World)(h:cR x v w)(hg:ai w g 102 (aA y F G)) :
 Calls prog 116 #[v,.pointer (some ⟨g,0,none⟩)] w λe w'=>e=.returned (.bool (fQ (ax y) x))/\K w w':=by
 obtain⟨vf,J,rfl,t,j⟩:=h
 obtain⟨A,c,rfl⟩:=cB t
 obtain⟨D,d,rfl⟩:=az j
 clear t j
 have i:Hid (fQ (ax y) x=(decide (x.br=y.br)&&decide (x.life=y.life)&&decide (x.cI=y.cI))):=ae (J6 (y.br,y.life,y.cI) x)
 have q:=hg.cells
 have E:=λo=>(K.rf w).al o
 generalize fQ (ax y) x=R at *
 obtain⟨I,M,B,C,H,L,N,yes⟩:=y
 obtain⟨k,b,l,s,cl,u,f,es⟩:=x
 simp only at q i⊢
 clear hg
 go_enter func116,ntmps116
 go_wp2
 all_goals
  go_ret
  refine⟨?_,(K.rf w).al _⟩
  rw[i.aa]
  show Ending.returned (.bool _)=Ending.returned (.bool _)
  clear q E i
  rw[show decide (l=B)=decide ((l:Int)=(B:Int))from decide_eq_decide.2 af,show decide (s=C)=decide ((s:Int)=(C:Int))from decide_eq_decide.2 af]
  simp[*]
theorem aby(l:List aq)(a:av)(v:Value)(w:World)(h:ar aQ l v w)(C:l.length<=1000000) :
 Calls prog 179 #[v,cN a] w λe w'=>e=.returned (.bool (cA l a))/\K w w':=by
 have j:K w (w.alloc (.cells #[.int .i64 a.1,.int .u64 (a.2.1:Int),.int .u64 (a.2.2:Int)] 46)):=(K.rf w).al _
 have hb:=ai.new w 46 #[.int .i64 a.1,.int .u64 (a.2.1:Int),.int .u64 (a.2.2:Int)]
 have HR:Hid (cA l a=l.any (fQ a)):=ae rfl
 have H:=ae h
 obtain⟨A,c,rfl⟩:=az h
 generalize cA l a=R at *
 clear h
 go_enter func179,ntmps179
 go_upto_region 1 with (fail)
 generalize w.alloc _=y at *
 generalize w.heap.size=s at hb⊢
 have i:=ae (N9 l _ (fQ a) 229 #[.pointer (some ⟨s,0,none⟩)] y (aW H.aa j) C (λ_ _=>nz) (λW k x _ u B=>aps x a u s W B (hb.below k hb.lt)))
 clear hb
 go_wp2_with fail
 refine i.aa.mono ?_
 rintro e E⟨rfl,t⟩
 have D:=j.tr t
 clear i
 go_wp2
 go_ret
 exact⟨fo,D⟩
theorem abc(l:List aq)(a:av)(v:Value)(w:World)(h:ar aQ l v w)(C:l.length<=1000000) :
 Calls prog 201 #[v,cN a] w λe w'=>e=.returned (.bool (cA l a))/\K w w':=by
 have j:K w (w.alloc (.cells #[.int .i64 a.1,.int .u64 (a.2.1:Int),.int .u64 (a.2.2:Int)] 46)):=(K.rf w).al _
 have hb:=ai.new w 46 #[.int .i64 a.1,.int .u64 (a.2.1:Int),.int .u64 (a.2.2:Int)]
 have HR:Hid (cA l a=l.any (fQ a)):=ae rfl
 have H:=ae h
 obtain⟨A,c,rfl⟩:=az h
 generalize cA l a=R at *
 clear h
 go_enter func201,ntmps201
 go_upto_region 1 with (fail)
 generalize w.alloc _=y at *
 generalize w.heap.size=s at hb⊢
 have i:=ae (N9 l _ (fQ a) 243 #[.pointer (some ⟨s,0,none⟩)] y (aW H.aa j) C (λ_ _=>nz) (λW k x _ u B=>aoO x a u s W B (hb.below k hb.lt)))
 clear hb
 go_wp2_with fail
 refine i.aa.mono ?_
 rintro e E⟨rfl,t⟩
 have D:=j.tr t
 clear i
 go_wp2
 go_ret
 exact⟨fo,D⟩
def LM{α:Type}(Y:Nat->Prop)(base:Nat)(T e:TypeId)(S:cF α)(l:List α)(i:Value)(j:Nat)(w w':World):Prop :=
 ∃h,ai w' j T #[h]/\aT Y base e S l h w'/\(∀k,h.ownBlock=some k->i.ownBlock=some k∨w.heap.size<=k)/\ah (λk=>k=j∨i.ownBlock=some k) w w'
theorem arG(Y:Nat->Prop)(base:Nat)(o:List aq)(D:Value)(ob:Nat)(x:aq)(v:Value)(w:World)(h:cR x v w)(hs:eD x)(hb:ai w ob 39 #[D])(y:aT Y base 102 aQ o D w)(hY:∀k,Y k->k<w.heap.size)(GS:Y ob)(hbase:base<=w.heap.size)(jZ:ob<base)(hlen:o.length<=1000000) :
 Calls prog 181 #[v,.pointer (some ⟨ob,0,none⟩)] w λe w'=>e=.returned (.tuple #[])/\LM Y base 39 102 aQ (o++[x]) D ob w w':=by
 have zF:=ae func181
 have Z:=ae ntmps181
 have HE:=ae λW (k:K w W)=>Lh h k
 obtain⟨vf,ve,rfl,R,I⟩:=h
 obtain⟨M,O,rfl⟩:=cB R
 obtain⟨L,Q,rfl⟩:=az I
 have k1:K w (w.alloc (.cells (aA x (.slice M x.f.length O) (.slice L x.es.length Q)) 102)):=(K.rf w).al _
 have E:=ai.new w 102 (aA x (.slice M x.f.length O) (.slice L x.es.length Q))
 obtain⟨j,B,rfl⟩:=y.slice
 have t:=hb.below k1 hb.lt
 have G:=y.st k1
 have bN:=y.blk
 clear R I hb y
 go_enter zF.aa,Z.aa
 go_upto_region 1 with (fail)
 generalize w.alloc _=H at *
 have qx:=E.cells
 have qo:=t.cells
 refine eM 4 [([],[]),([],[]),([1],[(4,1)]),([2],[(5,2)]),([0,2,3],[(3,0),(6,3)]),([0,1,2,3,4],[(7,4)])] 8 rfl ak ak ak ak au ?_
 simp only[dR,dN,ew,dP]
 iterate 2 (apply aV.is;intro V W kW hp;(try simp only[aI,aJ,aM,aE,aF,ag]at hp);simp[aL,aw,List.lookup,hp,aS,execOp,ay,ag,aN,kW,qx,qo,go_sem];rfl)
 refine aV.op (Qx H.heap.size x) (ahf _ _) (λV W kW hp=>?_) ?_
 ·(try simp only[aI,aJ,aM,aE,aF,ag]at hp)
  exact ahK
 refine aV.row (N:=λk=>k<H.heap.size) (lo:=0) (S:=aQ) 39 _ 8 96 rG rfl au _ x rfl rfl (fw _) (λV W kW hp=>?_) ?_
 ·exact ahL
 intro V W kW J
 simp only[aJ,aM,eA,ag,Nat.reduceAdd]at J
 obtain⟨e0,e1,U,h3,-⟩:=J
 have F:=G.st kW
 have hz1:=k1.size
 refine bu.push _ _ 39 _ 8 96 rG rfl rfl rfl _ o x ahM F ?_ af (bq hbase (bq hz1 kW.size)) ?_
 ·exact ahN
 intro i A bG C dc bo
 obtain⟨s,AE⟩:∃s,Hid (s=o++[x]):=⟨_,ae rfl⟩
 rw[<- AE.aa]at bG
 have T:=t.below kW t.lt
 have u:=T.grown C Wo
 have q9:=u.cell
 have z9:=u.frozen
 have h1:i.oneCell'=true:=ahO
 have HU:Hid (ah (λk=>k=ob∨(Value.slice j o.length B).ownBlock=some k) w (A.setCell ⟨ob,0,none⟩ i)):=ae ((ah.bg (k1.tr kW) _).tr ((ah.fM (X:=λk=>k=ob∨(Value.slice j o.length B).ownBlock=some k) C λk e=>.inr e).tr (ah.b6 (X:=λk=>k=ob∨(Value.slice j o.length B).ownBlock=some k) (.inl rfl) 0 i)))
 have HB:Hid (ai (A.setCell ⟨ob,0,none⟩ i) ob 39 #[i]):=ae (u.aR 0 i)
 have yy:Hid (aT Y base 102 aQ s i (A.setCell ⟨ob,0,none⟩ i)):=ae (bG.to (X:=λk=>k=ob) (ah.b6 (X:=λk=>k=ob) rfl 0 i) (λk hk=>PE) (λk hk e=>PF) λk _ hk=>.inl hk)
 have uP:Hid (∀k,i.ownBlock=some k->(Value.slice j o.length B).ownBlock=some k∨w.heap.size<=k):=ae λk hk=>by exact ahP
 obtain⟨A9,c9,rfl⟩:=bG.slice
 refine bu.skip (A.setCell ⟨ob,0,none⟩ (.slice A9 s.length c9)) rfl VT ?_
 refine bu.nil ?_
 simp only[bF,Act.put,cO,cM,cL,Nat.reduceAdd,bj,Nat.reduceEqDiff,reduceIte]
 clear F bG C dc bo T u q9 z9 h1 U h3 e0 e1 qx qo G t E
 go_wp2
 go_end0
 exact⟨rfl,_,HB.aa,Wp,uP.aa,HU.aa⟩
theorem arH(Y:Nat->Prop)(base:Nat)(o:List aq)(D:Value)(ob:Nat)(x:aq)(v:Value)(w:World)(h:cR x v w)(hs:eD x)(hb:ai w ob 39 #[D])(y:aT Y base 102 aQ o D w)(hY:∀k,Y k->k<w.heap.size)(GS:Y ob)(hbase:base<=w.heap.size)(jZ:ob<base)(hlen:o.length<=1000000) :
 Calls prog 182 #[v,.pointer (some ⟨ob,0,none⟩)] w λe w'=>e=.returned (.tuple #[])/\LM Y base 39 102 aQ (o++[x]) D ob w w':=by
 have zF:=ae func182
 have Z:=ae ntmps182
 have HE:=ae λW (k:K w W)=>Lh h k
 obtain⟨vf,ve,rfl,R,I⟩:=h
 obtain⟨M,O,rfl⟩:=cB R
 obtain⟨L,Q,rfl⟩:=az I
 have k1:K w (w.alloc (.cells (aA x (.slice M x.f.length O) (.slice L x.es.length Q)) 102)):=(K.rf w).al _
 have E:=ai.new w 102 (aA x (.slice M x.f.length O) (.slice L x.es.length Q))
 obtain⟨j,B,rfl⟩:=y.slice
 have t:=hb.below k1 hb.lt
 have G:=y.st k1
 have bN:=y.blk
 clear R I hb y
 go_enter zF.aa,Z.aa
 go_upto_region 1 with (fail)
 generalize w.alloc _=H at *
 have qx:=E.cells
 have qo:=t.cells
 refine eM 4 [([],[]),([],[]),([1],[(4,1)]),([2],[(5,2)]),([0,2,3],[(3,0),(6,3)]),([0,1,2,3,4],[(7,4)])] 8 rfl ak ak ak ak au ?_
 simp only[dR,dN,ew,dP]
 iterate 2 (apply aV.is;intro V W kW hp;(try simp only[aI,aJ,aM,aE,aF,ag]at hp);simp[aL,aw,List.lookup,hp,aS,execOp,ay,ag,aN,kW,qx,qo,go_sem];rfl)
 refine aV.op (Qx H.heap.size x) (ahf _ _) (λV W kW hp=>?_) ?_
 ·(try simp only[aI,aJ,aM,aE,aF,ag]at hp)
  exact ahK
 refine aV.row (N:=λk=>k<H.heap.size) (lo:=0) (S:=aQ) 39 _ 8 96 rG rfl au _ x rfl rfl (fw _) (λV W kW hp=>?_) ?_
 ·exact ahL
 intro V W kW J
 simp only[aJ,aM,eA,ag,Nat.reduceAdd]at J
 obtain⟨e0,e1,U,h3,-⟩:=J
 have F:=G.st kW
 have hz1:=k1.size
 refine bu.push _ _ 39 _ 8 96 rG rfl rfl rfl _ o x ahM F ?_ af (bq hbase (bq hz1 kW.size)) ?_
 ·exact ahN
 intro i A bG C dc bo
 obtain⟨s,AE⟩:∃s,Hid (s=o++[x]):=⟨_,ae rfl⟩
 rw[<- AE.aa]at bG
 have T:=t.below kW t.lt
 have u:=T.grown C Wo
 have q9:=u.cell
 have z9:=u.frozen
 have h1:i.oneCell'=true:=ahO
 have HU:Hid (ah (λk=>k=ob∨(Value.slice j o.length B).ownBlock=some k) w (A.setCell ⟨ob,0,none⟩ i)):=ae ((ah.bg (k1.tr kW) _).tr ((ah.fM (X:=λk=>k=ob∨(Value.slice j o.length B).ownBlock=some k) C λk e=>.inr e).tr (ah.b6 (X:=λk=>k=ob∨(Value.slice j o.length B).ownBlock=some k) (.inl rfl) 0 i)))
 have HB:Hid (ai (A.setCell ⟨ob,0,none⟩ i) ob 39 #[i]):=ae (u.aR 0 i)
 have yy:Hid (aT Y base 102 aQ s i (A.setCell ⟨ob,0,none⟩ i)):=ae (bG.to (X:=λk=>k=ob) (ah.b6 (X:=λk=>k=ob) rfl 0 i) (λk hk=>PE) (λk hk e=>PF) λk _ hk=>.inl hk)
 have uP:Hid (∀k,i.ownBlock=some k->(Value.slice j o.length B).ownBlock=some k∨w.heap.size<=k):=ae λk hk=>by exact ahP
 obtain⟨A9,c9,rfl⟩:=bG.slice
 refine bu.skip (A.setCell ⟨ob,0,none⟩ (.slice A9 s.length c9)) rfl VT ?_
 refine bu.nil ?_
 simp only[bF,Act.put,cO,cM,cL,Nat.reduceAdd,bj,Nat.reduceEqDiff,reduceIte]
 clear F bG C dc bo T u q9 z9 h1 U h3 e0 e1 qx qo G t E
 go_wp2
 go_end0
 exact⟨rfl,_,HB.aa,Wp,uP.aa,HU.aa⟩
theorem arI(Y:Nat->Prop)(base:Nat)(o:List av)(G:Value)(ob:Nat)(x:aq)(v:Value)(w:World)(h:cR x v w)(hb:ai w ob 32 #[G])(C:aT Y base 46 bI o G w)(GS:Y ob)(hbase:base<=w.heap.size)(jZ:ob<base)(hlen:o.length<=1000000) :
 Calls prog 183 #[v,.pointer (some ⟨ob,0,none⟩)] w λe w'=>e=.returned (.tuple #[])/\LM Y base 32 46 bI (o++[ax x]) G ob w w':=by
 obtain⟨vf,ve,rfl,Z,Q⟩:=h
 obtain⟨T,U,rfl⟩:=cB Z
 obtain⟨R,V,rfl⟩:=az Q
 have t:K w (w.alloc (.cells (aA x (.slice T x.f.length U) (.slice R x.es.length V)) 102)):=(K.rf w).al _
 have I:=ai.new w 102 (aA x (.slice T x.f.length U) (.slice R x.es.length V))
 obtain⟨j,s,rfl⟩:=C.slice
 have A:=hb.below t hb.lt
 have L:=C.st t
 have bN:=C.blk
 clear Z Q hb C
 go_enter func183,ntmps183
 go_upto_region 1 with (fail)
 generalize w.alloc _=y at *
 have hz1:=t.size
 have qx:=I.cell
 have qo:=A.cell
 have D:K y (y.alloc (.cells (bZ (ax x)) 46)):=(K.rf y).al _
 have M:=L.st D
 have J:=fE.new (S:=bI) (e:=46) (x:=ax x) (v:=.agg (bZ (ax x))) (w:=y) (N:=λk=>Y k∨(Value.slice j o.length s).ownBlock=some k) (λW u=>rfl) 0 (fw _)
 go_wp2_with (at_builtin;refine jK rfl _ _ 32 rfl _ 3 24 uJ rfl rfl M _ rfl (ax x) ?p1 ?p2 ?p3 ?_)
 case p1=>exact J.less λk hk=>hk
 case p2=>omega
 case p3=>exact bq hbase (bq hz1 D.size)
 intro i H bG F O bo
 obtain⟨E,AE⟩:∃E,Hid (E=o++[ax x]):=⟨_,ae rfl⟩
 rw[<- AE.aa]at bG
 have iP:=A.below D A.lt
 have B:=iP.grown F Wo
 have q9:=B.cell
 have z9:=B.frozen
 have HU:Hid (ah (λk=>k=ob∨(Value.slice j o.length s).ownBlock=some k) w (H.setCell ⟨ob,0,none⟩ i)):=ae ((ah.bg (t.tr D) _).tr ((ah.fM (X:=λk=>k=ob∨(Value.slice j o.length s).ownBlock=some k) F λk e=>.inr e).tr (ah.b6 (X:=λk=>k=ob∨(Value.slice j o.length s).ownBlock=some k) (.inl rfl) 0 i)))
 have HB:Hid (ai (H.setCell ⟨ob,0,none⟩ i) ob 32 #[i]):=ae (B.aR 0 i)
 have yy:Hid (aT Y base 46 bI E i (H.setCell ⟨ob,0,none⟩ i)):=ae (bG.to (X:=λk=>k=ob) (ah.b6 (X:=λk=>k=ob) rfl 0 i) (λk hk=>PE) (λk hk e=>PF) λk _ hk=>.inl hk)
 have uP:Hid (∀k,i.ownBlock=some k->(Value.slice j o.length s).ownBlock=some k∨w.heap.size<=k):=ae λk hk=>by
  rcases O with h|h
  ·exact .inl (h▸hk)
  ·rw[h]at hk;injection hk with hk;exact .inr af
 obtain⟨A9,c9,rfl⟩:=bG.slice
 clear bG F O bo iP B qx qo L M A I J
 go_wp2
 go_end0
 exact⟨rfl,_,HB.aa,Wp,uP.aa,HU.aa⟩
theorem au2(s:bA)(op:List aq):∀(l:List fG) (o:List av),o.length<=16->(l.foldl (kP s op) o).length<=16:=by
 intro l
 induction l with
 | nil=>intro o h;exact h
 | cons x l i =>
  intro o h;refine i _ ?_;unfold kP;split
  ·exact h
  ·split
   ·exact h
   ·simp;omega
theorem atk(s:bA)(op:List aq):∀(l:List fG) (o:List av),16<=o.length->l.foldl (kP s op) o=o:=by
 intro l
 induction l with
 | nil=>intro o h;rfl
 | cons x l i =>
  intro o h;have j:kP s op o x=o:=by unfold kP;rw[if_pos h]
  rw[List.foldl_cons,j];exact i o h
theorem arJ(s:bA)(op:List aq)(k:bK)(vl vp E vo vk:Value)(w:World)(hs:jr s (.agg (bS s vl vp E)) w)(U:ar aQ op vo w)(hk:js k vk w)
 (jX:s.list.length<=1000000/\s.prom.length<=1000000) (hlo:op.length<=1000000) (hv:k.bM.length<=1000000) :
 Calls prog 134 #[.agg (bS s vl vp E),vo,vk] w λe w'=>∃v',e=.returned v'/\aT (λk=>k<w.heap.size) w.heap.size 46 bI (tW s op k) v' w'/\K w w':=by
 have J:=ae λW (k:K w W)=>Fm hs k
 have CH:=ae λW (k:K w W) a=>AW s a (.agg (bS s vl vp E)) W (J.aa W k) jX.1
 have CP:=ae λW (k:K w W) a=>JR s a (.agg (bS s vl vp E)) W (J.aa W k) jX.2
 have CO:=ae λW (k:K w W) a=>abc op a vo W (aW U k) hlo
 have HE:Hid (tW s op k=k.bM.foldl (kP s op) []):=ae rfl
 have uq:=ae λj=>au2 s op (k.bM.take j) [] aj
 have XL:=ae λj (h:16<=((k.bM.take j).foldl (kP s op) []).length)=>atk s op (k.bM.drop j) _ h
 obtain⟨Re,Rf,JA,e,h1,h2,h3⟩:=hs
 simp at e
 obtain⟨rfl,rfl,rfl⟩:=e
 obtain⟨Al,cl,rfl⟩:=az h1
 obtain⟨Ap,cp,rfl⟩:=az h2
 obtain⟨Ab,cb,rfl⟩:=az h3
 obtain⟨Ao,co,rfl⟩:=az U
 obtain⟨v1,v2,v3,v4,v5,v6,rfl,g1,g2,g3,g4,g5,g6⟩:=hk
 obtain⟨A1,c1,rfl,hl,-⟩:=g1
 obtain⟨A2,c2,rfl⟩:=az g2
 obtain⟨A3,c3,rfl⟩:=az g3
 obtain⟨A4,c4,rfl⟩:=az g4
 obtain⟨A5,c5,rfl⟩:=az g5
 obtain⟨A6,c6,rfl⟩:=az g6
 generalize tW s op k=R at *
 generalize GU:bS s (.slice Al s.list.length cl) (.slice Ap s.prom.length cp) (.slice Ab s.ab.length cb)=H at *
 generalize ZU:fH k (.slice A1 k.bM.length c1) (.slice A2 k.asks.length c2) (.slice A3 k.entries.length c3) (.slice A4 k.cH.length c4) (.slice A5 k.bY.length c5) (.slice A6 k.ends.length c6)=ma at *
 have B:K w ((w.alloc (.cells H 52)).alloc (.cells ma 41)):=((K.rf w).al _).al _
 have hb:=(ai.new w 52 H).alloc (.cells ma 41)
 have G:=ai.new (w.alloc (.cells H 52)) 41 ma
 have hz:(w.alloc (.cells H 52)).heap.size=w.heap.size+1:=aj
 rw[hz]at G
 subst GU ZU
 clear h1 h2 h3 U g2 g3 g4 g5 g6 J hz
 go_enter func134,ntmps134
 go_wp2
 go_step3
 generalize World.alloc (World.alloc w _) _=y at *
 generalize kL:w.heap.size=lo at hb G⊢
 have lQ:=ae kL
 have hz1:lo<=y.heap.size:=by rw[<- kL];exact B.size
 clear kL
 have kk:=K.rf y
 have qb:=hb.cells
 have qc:=G.cells y kk
 have jt:=aT.nil (λk=>k<lo) y.heap.size 46 bI y
 clear hb G
 go_wp2_with fail
 go_step3
 go_wp2_with fail
 go_loopw [7,9,13] (fun o _ i W=>∃j:Nat,j<=k.bM.length/\i=.int .i64 (j:Int)/\aT (fun k=>k<lo) y.heap.size 46 bI ((k.bM.take j).foldl (kP s op) []) o W/\K y W) (fun _ _ i _=>k.bM.length-(intOf i).toNat)
 case atStart=>exact⟨0,af,rfl,jt,kk⟩
 case round =>
  clear jt kk;obtain⟨j,hj,rfl,D,kr⟩:=hrel;have hpl:=uq.aa j;by_cases hlt:j<k.bM.length
  ·have ba:(j:Int)<(k.bM.length:Int):=af;obtain⟨b1,o1,cs1,rfl,dH,hr1,d0,dd⟩:=dM hl j hlt au;have HF:=ae (fold_succ (kP s op) k.bM [] j hlt);have L:=ae (XL.aa j);have M:=ae (show k.bM.foldl (kP s op) []=(k.bM.drop j).foldl (kP s op) ((k.bM.take j).foldl (kP s op) []) by rw[<- List.foldl_append,List.take_append_drop]);generalize k.bM[j]=x at *;generalize (k.bM.take j).foldl (kP s op) []=P at *;obtain⟨A,gD⟩:∃A,Hid (A=(k.bM.take (j+1)).foldl (kP s op) []):=⟨_,ae rfl⟩;replace HF:Hid (A=kP s op P x):=ae (gD.aa.trans HF.aa);obtain rfl:=hr1 w (K.rf w);have Y:=B.tr kr;obtain⟨AF,AG,rfl⟩:=D.slice;have q9:∀i,i<4->wr.cell? ⟨b1,o1+j*4+i,none⟩=(fk x)[i]?:=λi hi=>(dd wr Y i hi).trans Array.getElem?_toList
   have q0:wr.cell? ⟨b1,o1+j*4,none⟩=some (.int .i64 x.id.1):=d0 wr Y;have I:=ai.new wr 117 (fk x);have Z:K wr (wr.alloc (.cells (fk x) 117)):=(K.rf wr).al _;clear dd d0 dH hr1;go_upto_region 5 with (fail);have F:=D.st Z;have cS:=kr.tr Z;generalize wr.alloc _=w3 at *;clear q9 q0 D Z kr Y;by_cases X:16<=P.length
   ·have FP:(16:Int)<=(P.length:Int):=af;have O:Hid (R=P):=ae (by rw[HE.aa,M.aa,L.aa X]);have Q:=B.tr cS;clear X HF gD L M hpl;go_wp2;rw[gS];go_ret;exact⟨_,rfl,by rw[O.aa,lQ.aa];exact F.low hz1,Q⟩
   have FP:¬(16:Int)<=(P.length:Int):=af;have q8:=I.cell;clear X L M;have C3:=ae (EN P x.id _ w3 F.ar af);go_wp2_with fail
   refine C3.aa.mono ?_;rintro e w4⟨rfl,t⟩;have gB:=cS.tr t;have cE:=F.st t;have T:=I.below t I.lt;clear F t q8 C3;have q8:=T.cell;cases hb0:dx P x.id;rotate_left
   ·have HP:Hid (A=P):=ae (by rw[HF.aa];unfold kP;rw[if_neg (by omega),if_pos (by simp[hb0])]);clear q8 hb0;exact K6
   go_wp2_with fail
   refine (CH.aa w4 (B.tr gB) x.id).mono ?_;rintro e w5⟨rfl,t⟩;have mq:=gB.tr t;have b9:=cE.st t;have di:=T.below t T.lt;clear cE t q8;have q8:=di.cell;cases aO:cA s.list x.id;rotate_left
   ·have HP:Hid (A=P):=ae (by rw[HF.aa];unfold kP;rw[if_neg (by omega),if_pos (by simp[hb0,aO])]);exact ahQ
   go_wp2_with fail
   refine (CP.aa w5 (B.tr mq) x.id).mono ?_;rintro e w6⟨rfl,t⟩;have nL:=mq.tr t;have nO:=b9.st t;have V:=di.below t di.lt;clear b9 t q8;have q8:=V.cell;cases hb2:cA s.prom x.id;rotate_left
   ·have HP:Hid (A=P):=ae (by rw[HF.aa];unfold kP;rw[if_neg (by omega),if_pos (by simp[hb0,aO,hb2])]);clear q8 hb0 aO hb2;go_wp2;go_roundw
    case rel=>exact⟨j+1,af,bO,by rw[<- gD.aa,HP.aa];exact nO,nL⟩
    case measure=>simp[intOf];omega
   go_wp2_with fail
   refine (CO.aa w6 (B.tr nL) x.id).mono ?_;rintro e C⟨rfl,t⟩;have ov:=nL.tr t;have jh:=nO.st t;have jc:=V.below t V.lt;clear nO t q8;have q8:=jc.cell;cases bD:cA op x.id;rotate_left
   ·have HP:Hid (A=P):=ae awg;clear q8 hb0 aO hb2 bD;go_wp2;go_roundw
    case rel=>exact⟨j+1,af,bO,by rw[<- gD.aa,HP.aa];exact jh,ov⟩
    case measure=>simp[intOf];omega
   have HP:Hid (A=P++[x.id]):=ae awh;clear hb0 aO hb2 bD HF;have hr:=fE.new (S:=bI) (e:=46) (x:=x.id) (v:=.agg (bZ x.id)) (w:=C) (N:=λk=>k<lo∨(Value.slice AF P.length AG).ownBlock=some k) (λW u=>rfl) 0 (fw _);have kA:K C (C.alloc (.cells (bZ x.id) 46)):=(K.rf C).al _;have fX:=jh.st kA;have oY:=ov.tr kA;have pI:y.heap.size<=(C.alloc (.cells (bZ x.id) 46)).heap.size:=oY.size;clear jh;go_wp2_with (at_builtin;refine jK rfl _ _ 32 rfl _ 3 24 uJ rfl rfl fX _ rfl x.id ?p1 ?p2 ?p3 ?_)
   case p1=>exact hr
   case p2=>omega
   case p3=>exact pI
   exact Wq
  ·have ba:¬(j:Int)<(k.bM.length:Int):=af;have O:Hid (R=(k.bM.take j).foldl (kP s op) []):=ae Wr;have Q:=B.tr kr;generalize (k.bM.take j).foldl (kP s op) []=P at *;obtain⟨AF,AG,rfl⟩:=D.slice;go_wp2;go_ret;exact⟨_,rfl,by rw[O.aa,lQ.aa];exact D.low hz1,Q⟩
