/-
  The walk of frame.Scan at bytes that are frames (layer 3). Conditions: at most a thousand million bytes.
-/
import Derived.Test.YtcjlnlcpodcldaaGreatMs01
import Derived.Test.YtcjlnlcpodcldaaGreatMsz
set_option maxRecDepth 100000
set_option maxHeartbeats 16000000
set_option linter.all false
namespace Go.Proofs.YtcjlnlcpodcldaaGreat
open Go Go.RowKit _root_.Go.Proofs.Tryz
open List renaming length→Z
open _root_.Array renaming size→D
open Go.World renaming heap→L,alloc→aU,setCell→aV
open Go.Value renaming ownBlock→aW
open Go.Value renaming int→G,slice→F,pointer→aj,bool→ar,tuple→au,agg→av,string→aw
open Go.IntKind renaming i64→J,u64→E
open Option renaming none→U,some→I
open Go.Ending renaming returned→ak
open Go.Obj renaming cells→aq
open Go.World renaming setCell→ax,alloc→ay
open Bool renaming false→az,true→aA
open And renaming intro→aB
open List renaming lookup→aC,getElem?_eq_getElem→aE,getElem?_eq_some_iff→aF
open _root_.Array renaming getElem?_toList→aD,getElem?_eq_some_iff→aG
open Nat renaming le_succ→aH
open Or renaming inl→aI,inr→aJ
open Go renaming Calls→aK,execOp→aL,bodyPost_ret→aM,World→aP,Value→aQ
open Go.RowKit renaming Below→aN,intOf→aO
open _root_.Go.Proofs.Tryz renaming prog→aR
def frames(j:List (List UInt8)):List UInt8:=j.flatMap frame
theorem aya(t:List (List UInt8))(j:Nat)(h:j<Z t)(y:jG t[j]=aA) :∃z,frames t=frames (t.take j)++(frame t[j]++z)/\kT (((frames t).drop (Z (frames (t.take j)))).take 2)=Z t[j]/\kT (((frames t).drop (Z (frames (t.take j))+2)).take 4)=D7 t[j] /\((frames t).take (Z (frames (t.take j))+6+Z t[j])).drop (Z (frames (t.take j))+6)=t[j]/\Z (frames t)=Z (frames (t.take j))+6+Z t[j]+Z z/\Z (frames (t.take (j+1)))=Z (frames (t.take j))+6+Z t[j]:=by
 have e:frames t=frames (t.take j)++(frame t[j]++frames (t.drop (j+1))):=by unfold frames;conv=>lhs;rw[<- List.take_append_drop j t,List.flatMap_append,<- List.getElem_cons_drop h,yp]
 have:Z t[j]<=4000:=by simp only[jG,fI,decide_eq_true_eq]at y;exact y.2
 have:=Zc t[j];refine⟨_,e,?_,?_,?_,?_,?_⟩;rw[e,List.drop_left,frame,gA,gA,List.take_left' (xW 2 _),Yp];exact Nat.mod_eq_of_lt aZ;rw[e,List.drop_append,List.drop_of_length_le aZ,bZ,Nat.add_sub_cancel_left,frame,gA,gA,List.drop_left' (xW 2 _),List.take_left' (xW 4 _),Yp];exact Nat.mod_eq_of_lt aZ;rw[e,Nat.add_assoc,List.take_append,jq (show Z (frames (t.take j))<=_ by omega),Nat.add_sub_cancel_left,List.drop_append,List.drop_of_length_le aZ,bZ,Nat.add_sub_cancel_left,
  List.take_left' (by rw[E1];rfl),frame,List.drop_left' (by simp[xW])]
 rw[e];simp only[fg,E1,Be];omega;rw[iY h];simp only[frames,List.flatMap_append,yp,List.flatMap_nil,List.append_nil,fg,E1,Be];omega
theorem auN t v w A c(hv:v=F A (Z (frames t)) c)(hR:Reads w (D (L w)) 1 A (Z (frames t)) (fW (frames t)))(O:Z (frames t)<=c)(hn:Z (frames t)<=1000000000)(R:∀b∈t,jG b=aA) :aK aR 89 #[v] w λe Y=>∃v',e=ak (au #[v',G J (Z (frames t):Int)])/\bK (λk=>k<D (L w)) (D (L w)) 118 ng t v' Y/\K w Y:=by
 subst hv;have nT:=aY R;have wI:=aY λj h=>aya t j h (R _ (dJ h))
 have hrl:Z t<=Z (frames t):=by
  clear hR O hn nT wI;induction t with
  | nil=>simp
  | cons b t ih => have:=ih (λb hb=>R b (by simp[hb]));simp only[frames,yp,fg,gH,E1,Be]at this|-;omega
 have HE:Hid (Z (frames (t.take (Z t)))=Z (frames t)):=aY (by rw[pL]);obtain⟨z,hL⟩:∃z,z=frames t:=⟨_,rfl⟩;rw[<- hL]at hR O hn hrl HE wI|-;clear hL R;have hb0:=bn.new w 118 #[F A (Z z) c];have k0:=hb0.cG;go_in;go_wp2;go_step3;go_wp2_with fail
 generalize w.alloc _=C at *;have AW:=(hR.below k0 (bP _)).more k0.size;have nV:=bK.nil (λk=>k<D (L w)) (D (L C)) 118 ng C;clear hR;go_step3;go_wp2_with fail
 go_loopw [4,5,7,8,9] (fun o at_ _ _ _ W=>∃j:Nat,j<=Z t/\at_=G J (Z (frames (t.take j)):Int)/\bK (fun k=>k<D (L w)) (D (L C)) 118 ng (t.take j) o W/\K C W) (fun _ at_ _ _ _ _=>Z z+1-(aO at_).toNat)
 case atStart=>exact⟨0,aZ,rfl,by simpa using nV,K.rf C⟩
 case round =>
  clear nV;obtain⟨j,hj,rfl,H,kr⟩:=hrel;have M:=hb0.bM kr;have q:=M.cell;have hgr:=M.lt;have krw:=k0.tr kr;by_cases hlt:j<Z t
  .obtain⟨rest,h1,h2,h3,h4,h5,h6⟩:=wI.aX j hlt;have hx:=nT.aX _ (dJ hlt);have HT:=aY (iY hlt);simp only[jG,fI,decide_eq_true_eq]at hx;obtain⟨hx1,hx2⟩:=hx;have H6:=aY h6;generalize Z (frames (t.take j))=y at *;generalize t[j]=x at *;have X:(Z z:Int)=y+6+(Z x:Int)+Z rest:=aZ;have Mg:6<(Z z:Int)-(y:Int):=aZ;have cK:((Z x:Int)==0)=false:=Zd;have hb2:¬4000<(Z x:Int):=aZ;have dB:¬((Z z:Int)-((y:Int)+6)<(Z x:Int)):=aZ;have hb4:(y:Int)+6+(Z x:Int)<=c:=aZ;clear X;have h0L:0<Z z:=aZ;have hRr:=(AW.below kr (bP _)).more kr.size;obtain⟨Q,N,rfl,hbk,hcell⟩:=hRr.at_ h0L;have C1:=aY (afa (D (L w)) Q N c y 2 z wr M hcell aZ O aZ aZ hn);rw[h2]at C1;have C2:Hid (∀W,K wr W->aK aR 129 #[G J ((y:Int)+2),G J 4,aj (I ⟨D (L w),0,U⟩)] W λe Y=>e=ak (G J (D7 x:Int))/\K W Y):=aY λW k=>by have h:=afa (D (L w)) Q N c (y+2) 4 z W (M.below k hgr) (λi hi=>(k.cell (p:=⟨Q,N+i,U⟩) hbk).trans (hcell i hi)) aZ O aZ aZ hn;rw[h3]at h;exact h
   have hcut:=hRr.cut (y+6) (y+6+Z x) c aZ aZ O;rw[show ((fW z).take (y+6+Z x)).drop (y+6)=fW x from by unfold fW;rw[<- List.map_take,<- List.map_drop,h4],show y+6+Z x-(y+6)=Z x by omega,bQ (show ¬c=y+6 by omega)]at hcut;have CS:=aY λW (k:K wr W)=>af3 x (F (I ⟨Q,N+(y+6),U⟩) (Z x) (c-(y+6))) W ⟨_,_,rfl,(hcut.below k (bP _)).more k.size⟩ aZ
   have CB:=aY λW (k:K wr W)=>as5 (I ⟨Q,N+(y+6),U⟩) (Z x) (c-(y+6)) (fW x) W ((hcut.below k (bP _)).more k.size) (yd x) aZ
   have hcs:=Zc x;clear h1 h2 h3 h4 h5 h6 hcut hcell hRr;go_wp2_with fail
   apply bW C1.aX;intro w1 k1;have q1:=(M.below k1 hgr).cell;clear q;go_wp2_with fail
   rw[show y+6+Z x-(y+6)=Z x from by omega];apply eu (C2.aX w1 k1) k1;intro w2 k2 pq;go_wp2_with fail
   apply eu (CS.aX w2 pq) pq;intro w3 k3 sN;clear q1 k1 k2 pq k3;generalize D7 x=sx at *;go_wp2_with fail
   apply dP (CB.aX w3 sN);rintro T V⟨B,k4⟩;replace B:Own V (D (L w3)) 5 T x:=by unfold Own;exact B
   have xO:=sN.tr k4;have dR:=H.blk;have fC:=(H.st xO).st ((K.rf V).al (aq #[T] 118));have hz:=sN.size;have hF:Fx (λk=>k<D (L w3)) (λW=>ng.rel x [T] W) V:=λW u=>⟨T,rfl,gS (kj B u λb hb h=>by have:=(B.lt b hb).1;omega)⟩
   obtain⟨A4,c4,rfl,-⟩:=B.slice;have hr:=fL.new (S:=ng) (e:=118) (v:=F A4 (Z x) c4) hF 0 (fw _);have PZ:=(kr.tr xO).tr ((K.rf V).al (aq #[F A4 (Z x) c4] 118));clear H hF B C1 C2 CS CB;go_wp2_with (at_builtin;refine j0 rfl _ _ 125 rfl _ 1 24 U2 rfl rfl fC _ rfl x ?p1 ?p2 ?p3 ?_)
   case p1=>exact hr.less λk hk=>aj9
   case p2=>simp;omega
   case p3=>exact PZ.size
   intro v9 w9 cX dW _ cV;rw[<- HT.aX]at cX;have k9:K C w9:=by exact PZ.trans cV
   clear hr fC;go_wp2;go_roundw
   case rel=>exact⟨j+1,aZ,by rw[H6.aX];go_num,cX,k9⟩
   case measure=>simp[aO];omega
  obtain rfl:j=Z t:=aZ;rw[pL]at H;have X:(Z (frames (t.take (Z t))):Int)=(Z z:Int):=N6;rw[X];have Mg:¬6<(Z z:Int)-(Z z:Int):=aZ;clear X;go_wp2;try rw[jE]
  go_ret2;exact⟨_,rfl,H.low k0.size,krw⟩
structure jr(d:rP)(s:eT):Prop where
 ie:∀r∈d.ie,fV r=aA/\lP r/\Z (dG r)<=4000
 run:lD eZ d.ie=I s
 fit:jM d.ie<=d.room
 room:d.room<=1048576
theorem ayb n:1<=Z (bO n):=by grind [bO]
theorem af4 r:1<=Z (dG r):=by grind [ayb,cO,dG,fg]
theorem XZ{r}(h:Z (dG r)<=4000):jG (dG r)=true:=by grind [af4,jG]
theorem Rv l:Z (frames (l.map dG))=jM l:=by
 induction l with
 | nil=>rfl
 | cons r l j => grind [frames,fg,E1,jM]
theorem ayc l:7*Z l<=jM l:=by
 induction l with
 | nil=>simp[jM]
 | cons r l j => grind [af4,jM,gH,Be]
theorem aBC l(h:∀r∈l,fV r=aA/\lP r):∀s t,uh s->lD s l=I t->uh t:=by
 induction l with
 | nil=>intro s t i e;injection e with e;exact e▸i
 | cons r l j =>
  intro s t i e;simp only[lD]at e;cases h1:fX s r with
  | none=>rw[h1]at e;cases e
  | some u => rw[h1]at e;obtain⟨a,b⟩:=h r bu;exact j (λq y=>h q bL) u t (i.on a b h1) e
theorem aBD l:∀s t,lD s l=I t->Z t.bq<=Z s.bq+Z l/\Z t.bF<=Z s.bF+Z l/\Z t.ab<=Z s.ab+Z l:=by
 induction l with
 | nil=>intro s t e;injection e with e;subst e;simp
 | cons r l j =>
  intro s t e;simp only[lD]at e;cases h1:fX s r with
  | none=>rw[h1]at e;cases e
  | some u => rw[h1]at e;have a:=ant s u r h1;grind
theorem aAp l a:Z (kQ l a)<=Z l:=oo _ _
theorem aCZ{s t r}(e:fX s r=I t):Z t.bq+Z t.bF+Z t.ab<=Z s.bq+Z s.bF+Z s.ab+1:=by unfold fX CQ yV yX yY AZ at e;grind [fg,gH,List.length_nil,aAp,bE,jT]
theorem aBE l:∀s t,lD s l=I t->Z t.bq+Z t.bF+Z t.ab<=Z s.bq+Z s.bF+Z s.ab+Z l:=by
 induction l with
 | nil=>intro s t e;injection e with e;subst e;simp
 | cons r l j =>
  intro s t e;simp only[lD]at e;cases h1:fX s r with
  | none=>rw[h1]at e;cases e
  | some u => rw[h1]at e;have a:=aCZ h1;grind
theorem aAq{s t r}(A:fV r=aA)(e:fX s r=I t):∀q∈fA t,q∈fA s\/q=r\/q.bA=1:=by
 have z:∀(p:List bU) a q,q∈ny (kQ p a)->q∈ny p:=λp a q j=>by grind [ny,List.mem_map_of_mem,RZ]
 have C:∀n,∀q∈yG n,q.bA=1:=λn q j=>by grind [fV,fX,fA,yG]
 intro q j
 obtain⟨k,n,x,b,l,c⟩:=r
 have y:=EY A
 simp only at y
 unfold fA at j|-
 simp only[r7]at j|-
 unfold fX CQ yV yX yY AZ at e
 simp only at e
 repeat' split at e
 all_goals first|(cases e;done)|(injection e with e;subst e)
 all_goals try simp only at j|-
 all_goals rcases j with ((j|j)|j)|j
 all_goals first
  | exact aJ (aJ (C _ _ j))
  | exact aI (aI (aI (aJ j)))
  | exact aI (aI (aJ j))
  | exact aI (aI (aJ (z _ _ _ j)))
  | exact aI (aJ j)
  | skip
 .grind [fV,fX,fA,oz]
 .grind [fV,fX,fA,ny]
 .unfold sA at j;rename_i M O B N H;rw[List.map_append,r7]at j;rcases j with j|j;exact aI (aJ j);simp at j;rcases y with ⟨g,_⟩|⟨g,_⟩|⟨_,_,rfl,rfl⟩;omega;omega;subst B;exact aJ (aI j)
theorem ayd l(h:∀r∈l,fV r=aA):∀s t,lD s l=I t->∀q∈fA t,q∈fA s\/q∈l\/q.bA=1:=by
 induction l with
 | nil=>intro s t e q j;injection e with e;subst e;exact aI j
 | cons r l y =>
  intro s t e q j;simp only[lD]at e;cases h1:fX s r with
  | none=>rw[h1]at e;cases e
  | some u =>
   rw[h1]at e;rcases y (λq j=>h q bL) u t e q j with a|a|a
   .rcases aAq (h r bu) h1 q a with b|b|b;all_goals grind
   all_goals grind
section
variable {d:rP}{s t:eT}{r:Rec}
theorem jr.inv(h:jr d s):uh s:=aBC _ (λr j=>⟨(h.ie r j).1,(h.ie r j).2.1⟩) _ _ uh.zero h.run
theorem jr.cnt(h:jr d s):Z d.ie<=150000:=by have:=ayc d.ie;have:=h.fit;have:=h.room;omega
theorem jr.len(h:jr d s):Z s.bq<=150000/\Z s.bF<=150000/\Z s.ab<=150000:=by have a:=aBD _ _ _ h.run;have b:=h.cnt;simp only[eZ,List.length_nil]at a;omega
theorem jr.tot(h:jr d s):Z s.bq+Z s.bF+Z s.ab<=150000:=by have a:=aBE _ _ _ h.run;have b:=h.cnt;simp only[eZ,List.length_nil]at a;omega
theorem jr.next(h:jr d s)(z:fV r=aA)(A:lP r)(y:xp d r=aA)(e:fX s r=I t):jr ⟨d.ie++[r],d.room⟩ t:=by
 simp only[xp,fI,decide_eq_true_eq]at y;refine⟨λq j=>?_,?_,?_,h.room⟩
 .simp only[r7,List.mem_singleton]at j;rcases j with j|rfl;exact h.ie q j;grind
 show lD eZ (d.ie++[r])=_;rw[Sd,h.run];simp[lD,e];grind [fV,lP,xp,fX,jM,Be,dG]
theorem uh.eN(h:uh s):uh (eN s):=⟨h.nl,h.np,h.na,h.lp,h.la,h.pa,h.Bd,h.CZ,h.JN,Nat.mod_lt _ bG⟩
theorem jr.small(h:jr d s):∀q∈fA (eN s),Z (dG q)<=4000:=by
 intro q t;have A:=YY h.inv.eN aka q t;have j:q∈fA s\/q.bA=1:=by grind [fA,eN,dG,yG]
 have y:q∈d.ie\/q.bA=1:=by
  rcases j with a|a;rcases ayd _ (λr z=>(h.ie r z).1) _ _ h.run q a with b|b|b
  .grind [fA,eZ,yG,oz,ny,sA]
  .grind
  omega;omega
 rcases y with a|a;exact (h.ie q a).2.2;have e:dG q=bO (cO q.bA)++bO q.n:=by grind [dG]
 have:=fu (cO q.bA) (jm q.bA);have:=fu q.n A.2.2.1;rw[e,fg];omega
theorem jr.life(h:jr d s)(y:jM (fA (eN s))<=d.room):jr ⟨fA (eN s),d.room⟩ (eN s):=by have t:=YY h.inv.eN aka;exact⟨λq j=>⟨(t q j).1,(t q j).2,h.small q j⟩,aAa h.inv.eN,y,h.room⟩
theorem jr.new{room}(h:room<=1048576):jr ⟨[],room⟩ eZ:=⟨bu,rfl,by simp[jM],h⟩
end
structure jl(gd:Nat)(vh:aQ)(l:List UInt8)(jw room:Nat)(w:aP):Prop where
 blk:bn w gd 149 #[vh,G J (jw:Int),G J (room:Int)]
 own:Own w 0 5 vh l
 len:Z l<=room
 room:room<=1048576
def nE(gd:Nat)(vh:aQ)(k:Nat):Prop:=k=gd\/aW vh=I k
structure mI(gd:Nat)(vh fN:aQ)(w w':aP):Prop where
 up:bf (nE gd vh) w w'
 new:∀k,nE gd fN k->nE gd vh k\/D (L w)<=k
section
variable {gd:Nat}{vh fN Ph:aQ}{l:List UInt8}{jw room:Nat}{w w' w'':aP}
theorem jl.st(h:jl gd vh l jw room w)(k:K w w'):jl gd vh l jw room w':=⟨h.blk.bM k,sU h.own k,h.len,h.room⟩
theorem jl.ne(h:jl gd vh l jw room w):aW vh≠I gd:=λe=>by obtain⟨cur,h1⟩:=pH h.own e;exact Ze
theorem jl.lt(h:jl gd vh l jw room w):∀k,nE gd vh k->k<D (L w):=λk j=>j.elim (λe=>e▸h.blk.lt) λe=>(h.own.lt k e).2
theorem mI.rf(k:K w w'):mI gd vh vh w w':=⟨bf.cz k _,λ_ h=>aI h⟩
theorem mI.tr(h:mI gd vh fN w w')(k:mI gd fN Ph w' w''):mI gd vh Ph w w'' :=
 ⟨h.up.ir k.up λb t y=>(h.new b y).resolve_right aZ,λb t=>(k.new b t).elim (λj=>h.new b j) λj=>aJ (cQ h.up.size j)⟩
theorem mI.k(h:mI gd vh fN w w')(k:K w' w''):mI gd vh fN w w'':=h.tr (mI.rf k)
end
theorem akb(room:Nat) w(h:room<=1048576) :aK aR 38 #[G J room] w λe j=>e=ak (au #[aj (I ⟨D (L w),0,U⟩),G J 0])/\jl (D (L w)) (F U 0 0) [] 0 room j/\K w j:=by have:¬(room:Int)<0:=aZ;have:¬1048576<(room:Int):=aZ;have t:=bn.new w 149 #[F U 0 0,G J 0,G J room];have k1:=t.cG;go_in;go_wp2;go_ret2;exact⟨rfl,⟨t,oV _ _ _ _,bu,h⟩,k1⟩
def wJ(l b:List UInt8)(room:Nat):List UInt8×Int:=if Z l+Z b<=room then (l++b,0)else (l,90)
theorem aeR gd vh v l b z room w(h:jl gd vh l z room w)(hb:sl b v w)(hn:Z b<=1000000000) :aK aR 44 #[aj (I ⟨gd,0,U⟩),v] w λe M=>∃N,e=ak (G J (wJ l b room).2)/\jl gd N (wJ l b room).1 z room M/\mI gd vh N w M:=by
 have HA:Hid (wJ l b room=if Z l+Z b<=room then (l++b,0)else (l,90)):=aY rfl;generalize wJ l b room=R at *;have S:=h.ne;obtain⟨A,c,rfl,-⟩:=h.own.slice;obtain⟨Y,cb,rfl,hRb⟩:=hb;have:=h.len;have T:=h.room;have q:=h.blk.cells;have H:=aY h;go_in;go_wp2;refine Na 0 rfl ?_;have JA:J.wrap ((room:Int)-(Z l:Int))=(room:Int)-(Z l:Int):=IntWalk.i64_in _ aZ;go_upto_region 3 with fail;have qs:=aB q JA;refine fD 13 ?_;iterate 13 refine bB.i ?_
 intro V W t hA;simp only[bZ,cC,dF,bS,Nat.reduceAdd]at hA;refine bN.h ?_;have y:=aY (H.aX.st t);have F3:=(hRb.below t (bP _)).more t.size;have q:=y.aX.blk.cell;by_cases hfit:Z l+Z b<=room
 .have Q:decide ((room:Int)-(Z l:Int)<Z b)=false:=cN;have HR:Hid (R=(l++b,0)):=aY akc;go_wp2_with (at_builtin;refine nZ rfl _ _ 118 rfl 0 5 _ 1 1 TB _ _ _ rfl y.aX.own _ Y (Z b) cb (fW b) rfl F3 (yd b) ?p1 (fw _) ?_)
  case p1=>omega
  intro j C gV O aEw hb2;have B:Own C 0 5 j (l++b):=akd;have hx2:=y.aX.blk.grown O λe=>S e.symm
  have G2:aW j≠I gd:=λe=>by obtain⟨cur,h1⟩:=pH B e;exact SX
  have hV:jl gd j (l++b) z room (aV C ⟨gd,0,U⟩ j) :=
   ⟨hx2.cH 0 j,kj B (bf.dx (X:=λk=>k=gd) rfl 0 j) λk hk e=>G2 yg,cN,T⟩
  have hU:mI gd (F A (Z l) c) j w (aV C ⟨gd,0,U⟩ j):=by have:=t.size;refine⟨((bf.cz t _).tr (bf.gy O λk hk=>aJ hk)).tr (bf.dx (aI rfl) 0 j),λk hk=>?_⟩;rcases hk with hk|hk;exact aI (aI hk);rcases aEw with e|e <;> rw[e]at hk;exact aI (aJ hk);grind
  have:=hx2.cell;have:=hx2.frozen;obtain⟨A2,c2,rfl,-⟩:=B.slice;simp only[fg]at hV hU;go_wp2;simp only[Exit.jump];exact ake
 have Q:decide ((room:Int)-(Z l:Int)<Z b)=true:=cN;have HR:Hid (R=(l,90)):=aY akf;go_wp2_with fail
 go_step3;refine⟨rfl,?_⟩;go_wp2;rw[jE];go_ret;exact⟨_,jB,by rw[HR.aX];exact y.aX,mI.rf t⟩
theorem auO gd vh l C room w(h:jl gd vh l C room w) :aK aR 319 #[aj (I ⟨gd,0,U⟩)] w λe j=>e=ak (G J 0)/\jl gd vh l (Z l) room j/\mI gd vh vh w j:=by
 have t:=h.ne;obtain⟨A,c,rfl,-⟩:=h.own.slice;have q:=h.blk.cell;have:=h.blk.frozen;have B:jl gd (F A (Z l) c) l (Z l) room (aV w ⟨gd,1,U⟩ (G J (Z l))) :=
  ⟨h.blk.cH 1 (G J (Z l)),kj h.own (bf.dx (X:=λk=>k=gd) rfl 1 _) λk hk e=>t yg,h.len,h.room⟩
 have y:mI gd (F A (Z l) c) (F A (Z l) c) w (aV w ⟨gd,1,U⟩ (G J (Z l))):=⟨bf.dx (aI rfl) 1 _,λ_ h=>aI h⟩;go_in;go_wp2;go_ret;exact⟨rfl,B,y⟩
theorem awc gd vh l M room w(h:jl gd vh l M room w) :aK aR 90 #[aj (I ⟨gd,0,U⟩),G J (Z l)] w λe t=>e=ak (G J 0)/\jl gd vh l (Z l) room t/\mI gd vh vh w t:=by
 have j:=h.ne;have y:=h.own;have B:∃A c,vh=F A (Z l) c/\Z l<=c:=by
  rcases y.2 with ⟨rfl,R⟩|⟨g,Q,cur,rfl,-,-,O,-⟩
  .grind
  grind
 obtain⟨A,c,rfl,N⟩:=B;have q:=h.blk.cell;have:=h.blk.frozen;have:(Z l:Int)<=c:=aZ;have H:jl gd (F A (Z l) c) l (Z l) room ((aV w ⟨gd,0,U⟩ (F A (Z l) c)).setCell ⟨gd,1,U⟩ (G J (Z l))):=by refine⟨(h.blk.cH 0 (F A (Z l) c)).cH 1 (G J (Z l)),?_,h.len,h.room⟩;exact kj (kj h.own (bf.dx (X:=λk=>k=gd) rfl 0 _) λk hk e=>j yg) (bf.dx (X:=λk=>k=gd) rfl 1 _) λk hk e=>j yg
 have C:mI gd (F A (Z l) c) (F A (Z l) c) w ((aV w ⟨gd,0,U⟩ (F A (Z l) c)).setCell ⟨gd,1,U⟩ (G J (Z l))):=⟨(bf.dx (aI rfl) 0 _).tr (bf.dx (aI rfl) 1 _),λ_ h=>aI h⟩;go_in;go_wp2;go_ret;exact⟨rfl,H,C⟩
def Bf(l b:List UInt8)(room:Nat):List UInt8×Int:=if Z b<=room then (b,0)else (l,90)
theorem auP gd vh v l b room w(h:jl gd vh l (Z l) room w)(hb:sl b v w)(hn:Z b<=1000000000) :aK aR 259 #[aj (I ⟨gd,0,U⟩),v] w λe A=>∃N,e=ak (G J (Bf l b room).2)/\jl gd N (Bf l b room).1 (Z (Bf l b room).1) room A/\mI gd vh N w A:=by
 have HA:Hid (Bf l b room=if Z b<=room then (b,0)else (l,90)):=aY rfl;generalize Bf l b room=R at *;have Q:=h.room;have O:=h.blk.lt;obtain⟨T,W,rfl,V⟩:=hb;have S:=aY (Nd T (Z b) W (fW b) w V (yd b) hn);have q:=h.blk.cell;have H:=aY h;go_in;go_wp2;refine Na 0 rfl ?_;by_cases hfit:Z b<=room
 .have Y:¬(room:Int)<Z b:=aZ;have HR:Hid (R=(b,0)):=aY akc;go_wp2_with fail
  apply dP S.aX;rintro j z⟨B,M⟩;have y:Own z (D (L w)) 5 j b:=B;have t:=H.aX.blk.below M O;have C:aW j≠I gd:=λe=>by have:=(y.lt gd e).1;omega
  have hV:jl gd j b (Z b) room ((aV z ⟨gd,0,U⟩ j).setCell ⟨gd,1,U⟩ (G J (Z b))):=by refine⟨(t.cH 0 j).cH 1 (G J (Z b)),?_,hfit,Q⟩;exact kj (kj (pF (fw _) B) (bf.dx (X:=λk=>k=gd) rfl 0 j) λk hk e=>C yg) (bf.dx (X:=λk=>k=gd) rfl 1 _) λk hk e=>C yg
  have hU:mI gd vh j w ((aV z ⟨gd,0,U⟩ j).setCell ⟨gd,1,U⟩ (G J (Z b))) :=
   ⟨((bf.cz M _).tr (bf.dx (aI rfl) 0 j)).tr (bf.dx (aI rfl) 1 _),λk hk=>hk.elim (λe=>aI (aI e)) λe=>aJ (y.lt k e).1⟩
  have:=t.cell;have:=t.frozen;obtain⟨A2,c2,rfl,-⟩:=y.slice;go_wp2;try simp only[Exit.jump]
  exact ake
 have Y:(room:Int)<Z b:=aZ;have HR:Hid (R=(l,90)):=aY akf;go_wp2_with fail
 go_step3;refine⟨rfl,?_⟩;go_wp2;rw[jE];go_ret;exact⟨_,jB,by rw[HR.aX];exact H.aX,mI.rf (K.rf w)⟩
theorem afs gd vh l H room w(h:jl gd vh l H room w) :aK aR 45 #[aj (I ⟨gd,0,U⟩)] w λe j=>∃t,e=ak t/\Own j (D (L w)) 5 t l/\K w j:=by
 have:=h.len;have:=h.room;obtain⟨A,c,rfl,z⟩:=h.own.slice;have q:=h.blk.cell;have M:=aY (Nd A (Z l) c (fW l) w z (yd l) aZ);go_in;go_wp2_with fail
 apply dP M.aX;rintro B C⟨y,k2⟩;have HO:Hid (Own C (D (L w)) 5 B l):=aY y;exact Zf
theorem atK gd vh l room keep w(h:jl gd vh l (Z l) room w)(hk:dA keep) :aK aR 111 #[aj (I ⟨gd,0,U⟩),G J keep] w λe N=>e=ak (au #[])/\jl gd vh l (Z l) room N/\mI gd vh vh w N:=by
 have M:=h.ne;have wK:=h.len;have O:=h.room;have hl:∃A c,vh=F A (Z l) c/\Z l<=c:=by rcases h.own.2 with ⟨rfl,Q⟩|⟨g,cap,cur,rfl,-,-,R,-⟩;exact⟨_,_,by rw[Q],aZ⟩;exact⟨_,_,rfl,R⟩
 obtain⟨A,c,rfl,hlc⟩:=hl;have Y:(Z l:Int)<=c:=aZ;have q:=h.blk.cells;have hw:J.wrap ((Z l:Int)-(Z l:Int))=0:=by rw[Int.sub_self];rfl
 have H:=aY h;go_in;go_upto_region 1 with fail;have qs:=aB q hw;refine fD 14 ?_;iterate 14 refine bB.i ?_
 intro V W j hA;simp only[bZ,cC,dF,bS,Nat.reduceAdd]at hA;refine bN.h ?_;first
 | rw[show min (max keep 0) (J.wrap 0)=0 from by
  rw[show J.wrap 0=0 from rfl];omega]
 | rw[show (if J.wrap 0<(if keep<0 then (0:Int)else keep)then J.wrap 0 else if keep<0 then 0 else keep)=0 from by
  rw[show J.wrap 0=0 from rfl];split <;> split <;> omega]
 have B:=H.aX.st j;have:=B.blk.frozen;have C:=B.blk.cH 1 (G J (Z l));have mG:=kj B.own (bf.dx (X:=λk=>k=gd) rfl 1 (G J (Z l))) λk hk e=>M yg
 have u1:bf (nE gd (F A (Z l) c)) w (aV W ⟨gd,1,U⟩ (G J (Z l))):=(bf.cz j _).tr (bf.dx (aI rfl) 1 _);go_upto_region 3 with fail;generalize W.setCell _ _=t at *;have q2:=(show bn t gd 149 #[F A (Z l) c,G J (Z l),G J room]from C).cells;have qs:=aB q2 Y;refine fD 10 ?_;iterate 10 refine bB.i ?_
 intro V W j hA;simp only[bZ,cC,dF,bS,Nat.reduceAdd]at hA;have y:=(show bn t gd 149 #[F A (Z l) c,G J (Z l),G J room]from C).below j (show gd<D (L t)from C.lt);have U4:=sU mG j;have S:=y.cell;have z3:=y.frozen;iterate 2 (apply bN.pure;rfl;(simp[bR,aC,cP,hA,aL,bT,go_sem];rfl))
 refine bN.skip (aV W ⟨gd,0,U⟩ (F A (Z l) c)) rfl (by simp[bR,aC,cP,hA,aL,bT,S,z3,go_sem]) ?_;refine bN.e ?_;have hV:jl gd (F A (Z l) c) l (Z l) room (aV W ⟨gd,0,U⟩ (F A (Z l) c)) :=
  ⟨y.cH 0 (F A (Z l) c),kj U4 (bf.dx (X:=λk=>k=gd) rfl 0 _) λk hk e=>M yg,wK,O⟩
 have T:mI gd (F A (Z l) c) (F A (Z l) c) w (aV W ⟨gd,0,U⟩ (F A (Z l) c)):=⟨(u1.tr (bf.cz j _)).tr (bf.dx (aI rfl) 0 _),λ_ h=>aI h⟩;go_wp2;all_goals
  go_end0
  exact⟨rfl,hV,T⟩
theorem awd g base lo v u l b w(hb:bn w g 118 #[v])(t:Own w base 5 v l)(N:sl b u w)(B:lo<=g/\lo<=base/\lo<=D (L w))(hbase:base<=D (L w))(hn:Z b<=1000000000)(hl:Z l<=1000000000) :aK aR 300 #[u,aj (I ⟨g,0,U⟩)] w λe y=>∃C,e=ak (G J (I7 b))/\bn y g 118 #[C]/\Own y base 5 C (l++DP b)/\aN lo w y:=by
 have Y:=aY (auM b u w N hn);have:Z (DP b)<=4006:=akg;obtain⟨A,c,rfl,hR⟩:=N;generalize DP b=f at *;go_in;go_wp2_with fail
 refine Y.aX.mono ?_;rintro e w1⟨v1,rfl,mG,k1⟩;have z:=hb.bM k1;have O:=Xt (bP _) t k1;obtain⟨V,c1,rfl,T⟩:=mG.slice;have hz:=k1.size;have S:aW v≠I g:=λe=>by obtain⟨cur,h1⟩:=pH O e;exact absurd (h1.jK z) bG
 have q:=z.cell;go_wp2_with (at_builtin;refine nZ rfl _ _ 118 rfl base 5 _ 1 1 TB _ _ _ rfl O _ V (Z f) c1 (fW f) rfl T (yd f) ?p1 aZ ?_)
 case p1=>omega
 intro j R gV gh _ hb2;have t:Own R base 5 j (l++f):=akd;have hx2:=z.grown gh λe=>S e.symm
 have W:aW j≠I g:=λe=>by obtain⟨cur,h1⟩:=pH t e;exact SX
 have H:=hx2.cH 0 j;have Q:Own (aV R ⟨g,0,U⟩ j) base 5 j (l++f):=kj t (bf.dx (X:=λk=>k=g) rfl 0 j) λk hk e=>W yg
 have M:=((k1.mono B.2.2).trans (hb2.mono B.2.1)).setCell (p:=⟨g,0,U⟩) B.1 j;have:=hx2.cell;have:=hx2.frozen;obtain⟨A2,c2,rfl,-⟩:=t.slice;simp only[fg]at H Q M;go_wp2;go_ret;exact⟨_,rfl,H,Q,M⟩
def DG(j:List (List UInt8)):List UInt8×Int:=if j.all jG then (frames j,0)else ([],30)
def DH(j:List (List UInt8)):List UInt8:=j.flatMap DP
theorem afu j:Z (DH j)<=Z j*4006:=by
 induction j with
 | nil=>simp[DH]
 | cons b j t => have:Z (DP b)<=4006:=akg;simp only[DH,yp,fg,gH]at t|-;omega
theorem af5{j}(h:j.all jG=aA):DH j=frames j:=by
 unfold DH frames;rw[yq]at h;induction j with
 | nil=>rfl
 | cons b j t => grind [jG,DH,frames,DP]
theorem aeS t v w(h:bD ng t v w)(hn:Z t<=200000)(hb:∀b∈t,Z b<=1000000000) :aK aR 258 #[v] w λe N=>∃y,e=ak (au #[y,G J (DG t).2])/\Own N (D (L w)) 5 y (DG t).1/\K w N:=by
 have T:Hid (DG t=if t.all jG then (frames t,0)else ([],30)):=aY rfl;generalize DG t=R at *;obtain⟨A,c,rfl,hl,-⟩:=h;have HB:=aY hb;have z:=bn.new w 118 #[F U 0 0];have k0:=z.cG;go_in;go_wp2_with fail
 generalize w.alloc _=w0 at *;have uq:Own w0 (D (L w)) 5 (F U 0 0) []:=oV _ _ _ _;go_loopw [7,8,12] (fun _ _ i W=>∃(j:Nat) (y:aQ),j<=Z t/\i=G J j/\bn W (D (L w)) 118 #[y]/\Own W (D (L w)) 5 y (DH (t.take j))/\Hid ((t.take j).all jG=aA)/\aN (D (L w)) w W) (fun _ _ i _=>Z t-(aO i).toNat)
 case atStart=>exact⟨0,_,aZ,rfl,z,iF,aY bu,k0⟩
 case round =>
  obtain⟨j,y,hj,rfl,z,C,M,kr⟩:=hrel;by_cases B:j<Z t
  .have cE:(j:Int)<Z t:=aZ;obtain⟨b1,off,cs,rfl,hcl,hrl,d0,d⟩:=fE hl j B bG;have dR:=HB.aX _ (dJ B);have Y:=aY (iY B);have H:Hid (jG t[j]=az->R=([],30)):=aY λh=>by rw[T.aX,bQ];simp only[yq];intro h2;have:=h2 _ (dJ B);rw[h]at this;cases this
   generalize t[j]=b at *;obtain⟨u,rfl,X⟩:=hrl w (K.rf w);have cj:wr.cell? ⟨b1,off+j,U⟩=I u:=by grind
   have hur:=qK _ _ _ _ X kr;obtain⟨Au,Q,rfl⟩:∃Au Q,u=F Au (Z b) Q:=by obtain⟨A,c,e,-⟩:=X;exact⟨A,c,e⟩
   have gT:=afu (t.take j);have aKn:Z (t.take j)<=200000:=cN;have C1:=aY (awd (D (L w)) (D (L w)) (D (L w)) y _ (DH (t.take j)) b wr z C hur ⟨bP _,bP _,kr.size⟩ kr.size dR aZ);have S:Hid (I7 b=if jG b then 0 else 30):=aY rfl;go_wp2_with fail
   refine C1.aX.mono ?_;rintro e w2⟨V,rfl,hx2,gV,k2⟩;cases hok:jG b
   .have iu:=aY (H.aX hok);rw[show I7 b=30 by rw[S.aX,hok];rfl];go_wp2;go_ret2;exact⟨_,Og,by rw[iu.aX];exact oV _ _ _ _,kr.trans k2⟩
   have HA:Hid ((t.take (j+1)).all jG=aA):=aY (by rw[Y.aX,List.all_append,M.aX];simp[hok]);rw[show I7 b=0 by rw[S.aX,hok];rfl];have jk:Own w2 (D (L w)) 5 V (DH (t.take (j+1))):=by rw[Y.aX];simpa [DH]using gV
   go_wp2;go_roundw
   case rel=>exact⟨j+1,V,aZ,dh,hx2,jk,HA,kr.trans k2⟩
   case measure=>simp[aO];omega
  have cE:¬(j:Int)<Z t:=aZ;obtain rfl:j=Z t:=aZ;have iu:Hid (R=(frames t,0)):=aY (by have:=M.aX;rw[pL]at this;rw[T.aX,bV this]);have H:Hid (Own wr (D (L w)) 5 y (frames t)):=aY (by have O:=M.aX;rw[pL]at C O;rw[<- af5 O];exact C);have q:=z.cell;go_wp2;go_ret2;exact⟨_,Og,by rw[iu.aX];exact H.aX,kr⟩
theorem WJ t v w(h:bD ng t v w)(hn:Z t<=200000)(hb:∀b∈t,Z b<=1000000000) :aK aR 93 #[v] w λe M=>∃N,e=ak N/\bK (λk=>k<D (L w)) (D (L w)) 118 ng t N M/\K w M:=by
 obtain⟨A,c,rfl,hl,-⟩:=h;have HB:=aY hb;obtain⟨i,hi,X,hz1,hz2⟩:=info_parts anu;have:∀W:aP,(Instr.makeSlice 125 (G J 0) (G J (Z t))).run aR W=.ok (F (I ⟨D (L W),0,U⟩) 0 (Z t)) (aU W (aq (madeCells #[F U 0 0] (Z t)) 118)):=by intro W;have h:=run_make (P:=aR) W 125 118 i (F U 0 0) underlying125 hi X J J 0 (Z t:Int) aZ aZ Ym aZ;rw[hz1]at h;simpa [Value.cells]using h
 have R:=bn.new w 118 (madeCells #[F U 0 0] (Z t));have k0:=R.cG;go_in;go_wp2_with fail
 generalize w.alloc _=w0 at *;have:bK (λk=>k<D (L w)) (D (L w)) 118 ng [] (F (I ⟨D (L w),0,U⟩) 0 (Z t)) w0 :=
  ⟨[],Rj (xs:=[]) (rest:=List.replicate (Z t) (F U 0 0)) (bP _) (by rw[bZ,<- toList_madeCells_one];exact R) rfl bu E3,rfl,λ_ _=>Each.nil _ _⟩
 go_loopw [3,5,11] (fun o _ i W=>∃j:Nat,j<=Z t/\i=G J j/\bK (fun k=>k<D (L w)) (D (L w)) 118 ng (t.take j) o W/\K w W) (fun _ _ i _=>Z t-(aO i).toNat)
 case atStart=>exact⟨0,aZ,rfl,iF,k0⟩
 case round =>
  obtain⟨j,hj,rfl,hO,kr⟩:=hrel;by_cases H:j<Z t
  .have cE:(j:Int)<Z t:=aZ;obtain⟨V,off,cs,rfl,hcl,hrl,d0,d⟩:=fE hl j H bG;have dR:=HB.aX _ (dJ H);have HT:=aY (iY H);generalize t[j]=b at *;obtain⟨u,rfl,hu⟩:=hrl w (K.rf w);have:wr.cell? ⟨V,off+j,U⟩=I u:=by grind
   obtain⟨Au,cu,rfl,hRu⟩:=qK _ _ _ _ hu kr;have C1:=aY (Nd Au (Z b) cu (fW b) wr hRu (yd b) dR);have Y:=hO.blk;go_wp2_with fail
   apply dP C1.aX;rintro C y⟨B,T⟩;replace B:Own y (D (L wr)) 5 C b:=aZ;have fC:=(hO.st T).st ((K.rf y).al (aq #[C] 118));have hz:=kr.size;have hF:Fx (λk=>k<D (L wr)) (λW=>ng.rel b [C] W) y:=λW u=>⟨C,rfl,gS (kj B u λb hb h=>by have:=(B.lt b hb).1;omega)⟩
   obtain⟨Q,c4,rfl,-⟩:=B.slice;have hr:=fL.new (S:=ng) (e:=118) (v:=F Q (Z b) c4) hF 0 (fw _);have O:=(kr.tr T).tr ((K.rf y).al (aq #[F Q (Z b) c4] 118));go_wp2_with (at_builtin;refine j0 rfl _ _ 125 rfl _ 1 24 U2 rfl rfl fC _ rfl b ?p1 ?p2 ?p3 ?_)
   case p1=>exact hr.less λk z=>by rcases z with z|z;omega;have:=Y k z;omega
   case p2=>simp;omega
   case p3=>exact O.size
   intro v9 w9 cX dW _ cV;rw[<- HT.aX]at cX;have k9:=O.trans cV;exact Zg
  have cE:¬(j:Int)<Z t:=aZ;obtain rfl:j=Z t:=aZ;rw[pL]at hO;exact SY
structure mJ(gl gd:Nat)(vh vr:aQ)(l:List UInt8)(jw room:Nat)(w:aP):Prop where
 dk:jl gd vh l jw room w
 blk:bn w gl 169 #[aj (I ⟨gd,0,U⟩),vr]
 row:∃n xs,n<=Z l/\w.ownsRow 0 118 1 vr n xs
def mK(gl gd:Nat)(vh vr:aQ)(k:Nat):Prop:=k=gl\/aW vr=I k\/nE gd vh k
structure qY(gl gd:Nat)(vh vr fN zh:aQ)(w w':aP):Prop where
 up:bf (mK gl gd vh vr) w w'
 new:∀k,mK gl gd fN zh k->mK gl gd vh vr k\/D (L w)<=k
section
variable {gl gd:Nat}{vh vr fN zh Ph aon:aQ}{l:List UInt8}{jw room:Nat}{w w' w'':aP}
theorem mJ.st(h:mJ gl gd vh vr l jw room w)(k:K w w'):mJ gl gd vh vr l jw room w':=by obtain⟨n,j,y,t⟩:=h.row;exact⟨h.dk.st k,h.blk.bM k,n,j,y,sU t k⟩
theorem mJ.lt(h:mJ gl gd vh vr l jw room w):∀k,mK gl gd vh vr k->k<D (L w):=λk j=>by obtain⟨n,y,z,t⟩:=h.row;rcases j with rfl|j|j;exact h.blk.lt;exact (t.lt k j).2;exact h.dk.lt k j
theorem mJ.apart(h:mJ gl gd vh vr l jw room w):¬nE gd vh gl/\(∀k,aW vr=I k->¬nE gd vh k)/\aW vr≠I gl:=by obtain⟨n,B,C,t⟩:=h.row;refine⟨λj=>?_,λk j y=>?_,λe=>?_⟩;rcases j with e|e;exact absurd (h.blk.jK (e▸h.dk.blk)) bG;obtain⟨cur,h1⟩:=pH h.dk.own e;exact Ze;obtain⟨cur,h1⟩:=pH t j;rcases y with rfl|e;exact absurd (h1.jK h.dk.blk) bG;obtain⟨A,z⟩:=pH h.dk.own e;exact absurd (h1.jK z) bG;obtain⟨cur,h1⟩:=pH t e;exact Ze
theorem mJ.Lu{l' t}(h:mJ gl gd vh vr l jw room w)(d:jl gd fN l' t room w')(u:mI gd vh fN w w')(z:Z l<=Z l'):mJ gl gd fN vr l' t room w'/\qY gl gd vh vr fN vr w w':=by obtain⟨y,A,-⟩:=h.apart;obtain⟨n,B,H,C⟩:=h.row;refine⟨⟨d,h.blk.cF u.up y,n,B,cQ H z,kj C u.up A⟩,⟨u.up.more λk j=>aJ (aJ j),λk j=>?_⟩⟩;rcases j with j|j|j;exact aI (aI j);exact aI (aJ (aI j));exact (u.new k j).imp (λh=>aJ (aJ h)) id
theorem qY.rf(k:K w w'):qY gl gd vh vr vh vr w w':=⟨bf.cz k _,λ_ h=>aI h⟩
theorem qY.tr(h:qY gl gd vh vr fN zh w w')(k:qY gl gd fN zh Ph aon w' w''):qY gl gd vh vr Ph aon w w'' :=
 ⟨h.up.ir k.up λb t y=>(h.new b y).resolve_right aZ,λb t=>(k.new b t).elim (λj=>h.new b j) λj=>aJ (cQ h.up.size j)⟩
end
theorem RE j:Z j<=Z (frames j):=by
 induction j with
 | nil=>simp
 | cons b j t => grind [frames,fg,gH,E1,Be]
def qZ(l:List UInt8)(j:List (List UInt8))(room:Nat):List UInt8×Int:=if j.all jG then wJ l (frames j) room else (l,30)
theorem aye{P e w base ρ} s u C ty z size bytes(T:gQ P C e z size bytes) v n vs(S:ρ s=v)(V:w.ownsRow base e size v n vs) B A m c y(R:ρ u=F A m c)(O:Reads w B size A m y)(Q:∀u∈y,u.oneCell'=aA)(N:(n+m)*(bytes+1)<=140737488355328)(H:base<=D (L w)) :∃t j,(aL ρ (bT (.call { callee:=.builtin .append,args:=#[s,u],argTypes:=#[C,C] }) ty)).run P w=.ok (.value t) j/\j.ownsRow base e size t (n+m) (vs++y)/\w.grownBy j (aW v)/\(aW t=aW v\/aW t=I (D (L w)))/\aN base w j:=by obtain⟨t,j,M,h⟩:=GC (P:=P) w base C ty e z size bytes T v n vs V B A m c y O Q N H;refine⟨t,j,?_,h⟩;subst S;simp only[aL,bT,resolve,invoke,builtin,Sem.run_bind,Sem.run_pure,Result.andThen_ok,List.map_toArray,mN,List.map_nil,R,M]
theorem as6 gl gd vh vr v l B room rs w(h:mJ gl gd vh vr l B room w)(hv:Fx (mK gl gd vh vr) (λW=>bD ng rs v W) w)(vD:Z rs<=200000)(hb:∀b∈rs,Z b<=1000000000) :aK aR 318 #[aj (I ⟨gl,0,U⟩),v] w λe w'=>∃fN zh,e=ak (G J (qZ l rs room).2)/\mJ gl gd fN zh (qZ l rs room).1 B room w'/\qY gl gd vh vr fN zh w w':=by
 have HA:Hid (qZ l rs room=if rs.all jG then wJ l (frames rs) room else (l,30)):=aY rfl;have HD:Hid (wJ l (frames rs) room=if Z l+Z (frames rs)<=room then (l++frames rs,0)else (l,90)):=aY rfl;have HF:Hid (DG rs=if rs.all jG then (frames rs,0)else ([],30)):=aY rfl;generalize qZ l rs room=R at *;have C1:=aY (aeS rs v w hv.now vD hb);have dU:Z (DG rs).1<=1000000000:=akh;have H:=aY h;have HV:=aY hv;have HRB:=aY hb;obtain⟨A,c,rfl⟩:=bH hv.now;have q:=h.blk.cells;go_in;go_wp2_with fail
 refine C1.aX.mono ?_;rintro e w1⟨v1,rfl,mG,k1⟩;generalize DG rs=ag at *;cases hok:rs.all jG
 .have jb:Hid (ag=([],30)):=aY aki;have iu:Hid (R=(l,30)):=aY akj;rw[jb.aX];go_wp2;go_ret;exact⟨vh,vr,Og,by rw[iu.aX];exact H.aX.st k1,qY.rf k1⟩
 have jb:Hid (ag=(frames rs,0)):=aY akk;have iu:Hid (R=wJ l (frames rs) room):=aY akl;rw[jb.aX]at mG dU|-;have S:=aY (H.aX.st k1);obtain⟨A1,c1,rfl,-⟩:=mG.slice;have C2:=aY (aeR gd vh _ l (frames rs) B room w1 S.aX.dk (gS mG) dU);go_wp2_with fail
 refine C2.aX.mono ?_;rintro e O⟨C,rfl,iB,kO⟩;obtain⟨n,xs,hnl,hrow⟩:=S.aX.row;replace hrow:=kj hrow kO.up S.aX.apart.2.1;obtain⟨wL,hU2⟩:=S.aX.Lu iB kO (by rw[HD.aX];split <;> simp);have HU:=aY ((qY.rf k1).tr hU2);have j:=aY wL;have EA:=HV.aX.to HU.aX.up (λ_ h=>h) λk hk hx=>(HU.aX.new k hx).resolve_right aZ
 by_cases hfit:Z l+Z (frames rs)<=room;rotate_left
 .have zi:Hid (wJ l (frames rs) room=(l,90)):=aY akm;rw[zi.aX];go_wp2;go_ret;exact⟨C,vr,SZ,by rw[iu.aX];exact j.aX,HU.aX⟩
 have zi:Hid (wJ l (frames rs) room=(l++frames rs,0)):=aY akn;rw[zi.aX]at j|-;obtain⟨-,-,hne⟩:=j.aX.apart;have q:=j.aX.blk.cells;go_upto_region 9 with fail;have aoo:=λk hk=>(hrow.lt k hk).2
 have Pg:¬aW vr=I gl:=λe=>hne e
 have qs:=λW (u:bf (λk=>aW vr=I k) O W)=>(j.aX.blk.cF u Pg).cell
 refine Kz 8 [7] (λW=>bf (λk=>aW vr=I k) O W) (λW W'=>W.grownBy W' (aW vr)) (λk vs W=>if k=0 then W.ownsRow 0 118 1 vr n xs else ∃t Q,vs=[t]/\W.ownsRow 0 118 1 t (n+Z rs) Q/\∀b,aW t=I b->aW vr=I b\/D (L O)<=b) [([],[]),([],[]),([1],[(28,1)]),([2],[(29,2)]),([3],[(30,3)]),([],[]),([5],[(32,5)]),([4,6],[(31,4),(33,6)]),([0,1,2,3,4,5,6,7],[(27,0)]),([0,1,2,3,4,5,6,7,8],[(35,8)]),([0,1,2,3,4,5,6,7,9],[(36,9),(34,7)])] 37 (λ_ _ h k=>h.tr (bf.cz k _)) (λ_ _ h=>zC h _) (λk vs W W' h kW=>by
  split at h
  .next M=>rw[bV M];exact sU h kW
  next M =>
  rw[bQ M];obtain⟨t,Q,e1,N,Y⟩:=h;exact⟨t,Q,e1,sU N kW,Y⟩) (bf.rf _ _) (λ_=>hrow) ?_
 iterate 6 refine bB.i ?_
 refine bB.c (λv W=>bK (λk=>k<D (L O)) (D (L O)) 118 ng rs v W) (λ_ _ _ h k=>h.up (bf.gy (X:=λk=>aW vr=I k) k λ_ e=>e) aoo λk hk=>by have:=aoo k hk;omega)
  (λW u=>(WJ rs _ W (EA W (u.more λ_ h=>aJ (aI h))) vD HRB.aX).mono λe w4 ⟨v4,e1,fC,k4⟩=>⟨v4,e1,(fC.low u.size).less λk hk=>cZ hk u.size,k4⟩) ?_
 refine bB.s ?_;refine⟨⟨⟨_,_,rfl,rfl,rfl,λV W hW hD hp=>?_⟩,trivial⟩,λV W hW hD hA=>?_⟩;simp only[dN,bZ,cC,dK,dL,bS]at hp;obtain⟨e4,hO,-⟩:=hp;obtain⟨A6,c6,e6⟩:=bH hO.bD;rw[e6]at hO;obtain⟨bw,um,-,hE6⟩:=hO;have hrf:=RE rs;have wK:=j.aX.dk.len;have rN:=j.aX.dk.room;have P4:Z (l++frames rs)<=1048576:=aZ;change lZ _ _ ((aL (bR [(31,4),(33,6)] _ V) (bT (.call { callee:=.builtin .append,args:=#[.tmp 31,.tmp 33],argTypes:=#[125,125] }) 125)).run _ _);obtain⟨t,w9,hrun,N,Y,h3,-⟩:=aye (P:=aR) (ρ:=bR [(31,4),(33,6)] _ V) (.tmp 31) (.tmp 33) 125 125 _ 1 24 U2 vr n xs (by simp[bR,aC,e4]) hD (D (L W)) A6 (Z rs) c6 bw.flatten (by simp[bR,aC,e6]) (Reads.B4 um) (hE6 W (bf.rf _ _)).ones (by simp only[fg]at P4;omega) (fw _);rw[hrun];exact⟨hW.tr (bf.gy Y λ_ e=>e),Y,⟨t,_,rfl,N,λb hb=>h3.elim (λh=>aI (h▸hb)) λh=>aJ ajB⟩,trivial⟩;simp only[bZ,cC,dF,bS,Nat.reduceAdd]at hA;obtain⟨e0,-⟩:=hA;obtain⟨t,Q,e7,pn,gD⟩:=hD;injection e7 with e7;have wK:=j.aX.dk.len;have rN:=j.aX.dk.room;have T:=j.aX.blk.cF hW Pg;have Bg:jl gd C (l++frames rs) B room W:=by obtain⟨-,a2,-⟩:=j.aX.apart;exact⟨j.aX.dk.blk.cF hW λe=>a2 _ e (aI rfl),kj j.aX.dk.own hW λk hk e=>a2 _ e (aJ hk),wK,rN⟩
 have aEx:aW t≠I gl:=λe=>by obtain⟨cur,N⟩:=pH pn e;exact absurd (N.jK T) bG
 have hgd:gl≠gd:=λe=>j.aX.apart.1 (aI e)
 have Bh:aW C≠I gl:=λe=>j.aX.apart.1 (aJ e)
 have q9:=T.cell;have z9:=T.frozen;obtain⟨z,y,rfl⟩:∃A c,t=F A (n+Z rs) c:=by rcases pn.2 with ⟨rfl,M⟩|⟨g,cap,cur,rfl,-⟩;exact⟨_,_,by rw[M]⟩;exact⟨_,_,rfl⟩
 have hA:=aB e0 e7;have qs:=aB q9 z9;iterate 2 refine bN.p ?_
 refine bN.s ?_;refine bN.e ?_;have u9:bf (λk=>k=gl) W (aV W ⟨gl,1,U⟩ (F z (n+Z rs) y)):=bf.dx (X:=λk=>k=gl) rfl 1 _;have hV:mJ gl gd C (F z (n+Z rs) y) (l++frames rs) B room (aV W ⟨gl,1,U⟩ (F z (n+Z rs) y)):=by refine⟨⟨Bg.blk.cF u9 λe=>hgd e.symm,kj Bg.own u9 λk hk e=>Bh yg,wK,rN⟩,T.cH 1 (F z (n+Z rs) y),_,_,?_,kj pn u9 λk hk e=>aEx yg⟩;have:=RE rs;simp only[fg];omega
 have hU:qY gl gd vh vr C (F z (n+Z rs) y) w (aV W ⟨gl,1,U⟩ (F z (n+Z rs) y)):=by refine HU.aX.tr ⟨(hW.more λk hk=>aJ (aI hk)).tr (bf.dx (aI rfl) 1 _),λk hk=>?_⟩;rcases hk with hk|hk|hk;exact aI (aI hk);exact (gD k hk).imp (λh=>aJ (aI h)) id;exact aI (aJ (aJ hk))
 go_wp2;go_ret;exact⟨_,_,SZ,by rw[iu.aX,zi.aX];exact hV,hU⟩
theorem aBF l j room:(qZ l j room).2=0\/(qZ l j room).1=l:=by grind [qZ,wJ]
theorem atL gl gd vh vr v l room j w(h:mJ gl gd vh vr l (Z l) room w)(T:Fx (mK gl gd vh vr) (λW=>bD ng j v W) w)(vD:Z j<=200000)(hb:∀b∈j,Z b<=1000000000) :aK aR 293 #[aj (I ⟨gl,0,U⟩),v] w λe M=>∃S B,e=ak (G J (qZ l j room).2)/\mJ gl gd S B (qZ l j room).1 (Z (qZ l j room).1) room M/\qY gl gd vh vr S B w M:=by
 have C1:=aY (as6 gl gd vh vr v l (Z l) room j w h T vD hb);have HL:=aY (aBF l j room);obtain⟨A,c,rfl⟩:=bH T.now;generalize qZ l j room=R at *;go_in;go_wp2_with fail
 refine C1.aX.mono ?_;rintro e z⟨N,Y,rfl,t,y⟩;by_cases h0:R.2=0
 .have H1:=aY t;have q:=t.blk.cell;have X:=aY (auO gd N R.1 (Z l) room z t.dk);have HU:=aY y;have H:=aY h0;rw[h0];go_wp2_with fail
  apply bW X.aX;rintro w2⟨iB,V⟩;obtain⟨O,hU2⟩:=H1.aX.Lu iB V (bP _);have C:=HU.aX.tr hU2;go_wp2;go_ret;first
  | exact⟨_,_,by rw[H.aX];rfl,O,C⟩
  | exact⟨by rw[H.aX];rfl,_,_,O,C⟩
 have hne:(R.2 != 0)=true:=NR;have Q:mJ gl gd N Y R.1 (Z R.1) room z:=by have:=HL.aX.resolve_left h0;rw[this]at t|-;exact t
 go_wp2;go_ret;first
 | exact⟨_,_,rfl,Q,y⟩
 | exact⟨rfl,_,_,Q,y⟩
def Bi(l:List UInt8)(j:List (List UInt8))(room:Nat):List UInt8×Int:=if j.all jG then Bf l (frames j) room else (l,30)
theorem asH gl gd vh vr v l room rs w(h:mJ gl gd vh vr l (Z l) room w)(hv:Fx (mK gl gd vh vr) (λW=>bD ng rs v W) w)(vD:Z rs<=200000)(hb:∀b∈rs,Z b<=1000000000) :aK aR 195 #[aj (I ⟨gl,0,U⟩),v] w λe V=>∃fN zh,e=ak (G J (Bi l rs room).2)/\((Bi l rs room).2=0->mJ gl gd fN zh (Bi l rs room).1 (Z (Bi l rs room).1) room V)/\jl gd fN (Bi l rs room).1 (Z (Bi l rs room).1) room V/\qY gl gd vh vr fN zh w V:=by
 have HA:Hid (Bi l rs room=if rs.all jG then Bf l (frames rs) room else (l,30)):=aY rfl;have HD:Hid (Bf l (frames rs) room=if Z (frames rs)<=room then (frames rs,0)else (l,90)):=aY rfl;have HF:Hid (DG rs=if rs.all jG then (frames rs,0)else ([],30)):=aY rfl;generalize Bi l rs room=R at *;have C1:=aY (aeS rs v w hv.now vD hb);have dU:Z (DG rs).1<=1000000000:=akh;have H:=aY h;have HV:=aY hv;have HRB:=aY hb;obtain⟨A,c,rfl⟩:=bH hv.now;have q:=h.blk.cells;go_in;go_wp2_with fail
 refine C1.aX.mono ?_;rintro e M⟨v1,rfl,mG,k1⟩;generalize DG rs=ag at *;cases hok:rs.all jG
 .have jb:Hid (ag=([],30)):=aY aki;have iu:Hid (R=(l,30)):=aY akj;rw[jb.aX];have z:Hid (((30:Int)=0->mJ gl gd vh vr l (Z l) room M)/\jl gd vh l (Z l) room M/\qY gl gd vh vr vh vr w M):=aY ⟨λe=>absurd e bG,(H.aX.st k1).dk,qY.rf k1⟩;go_wp2;go_ret;exact⟨vh,vr,Og,by rw[iu.aX];exact z.aX⟩
 have jb:Hid (ag=(frames rs,0)):=aY akk;have iu:Hid (R=Bf l (frames rs) room):=aY akl;rw[jb.aX]at mG dU|-;have Q:=aY (H.aX.st k1);obtain⟨A1,c1,rfl,-⟩:=mG.slice;have C2:=aY (auP gd vh _ l (frames rs) room M Q.aX.dk (gS mG) dU);go_wp2_with fail
 refine C2.aX.mono ?_;rintro e B⟨t,rfl,S,C⟩;obtain⟨a1,a2,a3⟩:=Q.aX.apart;have hx2:=Q.aX.blk.cF C.up a1;obtain⟨n,xs,hnl,hrow⟩:=Q.aX.row;replace hrow:=kj hrow C.up a2;have O:Hid (qY gl gd vh vr t vr w B):=aY ((qY.rf k1).tr ⟨C.up.more λk hk=>aJ (aJ hk),λk hk=>by
  rcases hk with hk|hk|hk;exact aI (aI hk);exact aI (aJ (aI hk));exact (C.new k hk).imp (λh=>aJ (aJ h)) id⟩)
 have EA:=HV.aX.to O.aX.up (λ_ h=>h) λk hk hx=>(O.aX.new k hx).resolve_right aZ
 by_cases hfit:Z (frames rs)<=room;rotate_left
 .have zi:Hid (Bf l (frames rs) room=(l,90)):=aY akm;rw[zi.aX]at S|-;have z:Hid (((90:Int)=0->mJ gl gd t vr l (Z l) room B)/\jl gd t l (Z l) room B/\qY gl gd vh vr t vr w B):=aY ⟨λe=>absurd e bG,S,O.aX⟩;go_wp2;go_ret;exact⟨t,vr,SZ,by rw[iu.aX,zi.aX];exact z.aX⟩
 have zi:Hid (Bf l (frames rs) room=(frames rs,0)):=aY akn;rw[zi.aX]at S|-;have C3:=aY (WJ rs _ B EA.now vD HRB.aX);have P5:=aY S;have q:=hx2.cells;have jg:=hx2.lt;go_wp2_with fail
 refine C3.aX.mono ?_;rintro e y⟨j,rfl,dS,Y⟩;obtain⟨bw,T,aEy,Mi⟩:=dS;have jX:=hx2.below Y jg;have aEz:aW j≠I gl:=λe=>by have:=(T.lt gl e).1;omega
 have hgd:gl≠gd:=λe=>a1 (aI e)
 have Bh:aW t≠I gl:=λe=>by obtain⟨cur,h1⟩:=pH P5.aX.own e;exact SX
 have u9:bf (λk=>k=gl) y (aV y ⟨gl,1,U⟩ j):=bf.dx (X:=λk=>k=gl) rfl 1 _;have N:=P5.aX.st Y;have hV:mJ gl gd t j (frames rs) (Z (frames rs)) room (aV y ⟨gl,1,U⟩ j) :=
  ⟨⟨N.blk.cF u9 λe=>hgd e.symm,kj N.own u9 λk hk e=>Bh yg,N.len,N.room⟩,jX.cH 1 j,_,_,RE rs,pF (fw _) (kj T u9 λk hk e=>aEz yg)⟩
 have hU:qY gl gd vh vr t j w (aV y ⟨gl,1,U⟩ j):=by refine O.aX.tr ⟨(bf.cz Y _).tr (bf.dx (aI rfl) 1 _),λk hk=>?_⟩;rcases hk with hk|hk|hk;exact aI (aI hk);exact aJ (T.lt k hk).1;exact aI (aJ (aJ hk))
 have z:Hid (((0:Int)=0->mJ gl gd t j (frames rs) (Z (frames rs)) room (aV y ⟨gl,1,U⟩ j))/\jl gd t (frames rs) (Z (frames rs)) room (aV y ⟨gl,1,U⟩ j)/\qY gl gd vh vr t j w (aV y ⟨gl,1,U⟩ j)):=aY ⟨λ_=>hV,hV.dk,hU⟩;obtain⟨A3,c3,rfl⟩:=bH (bK.bD ⟨bw,T,aEy,Mi⟩);have z3:=jX.frozen;go_wp2;go_ret;exact⟨_,_,SZ,by rw[iu.aX,zi.aX];exact⟨λ_=>z.aX.1 (by first|trivial|rfl),z.aX.2⟩⟩
theorem aeM gl vd vr j w(M:bn w gl 169 #[vd,vr])(z:bD ng j vr w)(B:Z j<=200000)(hb:∀b∈j,Z b<=1000000000) :aK aR 48 #[aj (I ⟨gl,0,U⟩)] w λe t=>∃y,e=ak y/\bK (λk=>k<D (L w)) (D (L w)) 118 ng j y t/\K w t:=by
 have C:=aY (WJ j vr w z B hb);obtain⟨A,c,rfl⟩:=bH z;have q:=M.cell;go_in;go_wp2_with fail
 apply dP C.aX;rintro O N⟨H,k1⟩;go_wp2;go_ret;exact⟨_,rfl,H,k1⟩
theorem afv gd vh j{N} room w(h:jl gd vh (frames j) N room w)(hok:∀b∈j,jG b=aA) :aK aR 46 #[aj (I ⟨gd,0,U⟩)] w λe z=>∃gl vr,e=ak (au #[aj (I ⟨gl,0,U⟩),G J 0])/\D (L w)<=gl/\bn z gl 169 #[aj (I ⟨gd,0,U⟩),vr]/\bK (λk=>k<D (L w)) (D (L w)) 118 ng j vr z/\jl gd vh (frames j) (Z (frames j)) room z/\bf (nE gd vh) w z:=by
 have:=h.len;have:=h.room;have C1:=aY (afs gd vh (frames j) N room w h);have H:=aY h;go_in;go_wp2_with fail
 refine C1.aX.mono ?_;rintro e y⟨V,rfl,mG,k1⟩;have mF:∃A c,V=F A (Z (frames j)) c/\Reads y (D (L y)) 1 A (Z (frames j)) (fW (frames j))/\Z (frames j)<=c:=by have S:y.ownsRow (D (L w)) 5 1 V (Z (frames j)) (fW (frames j)):=mG;have C:=S;rcases S.2 with ⟨rfl,Q⟩|⟨g,cap,cur,rfl,-,-,h1,-⟩;exact⟨_,_,by rw[Q],by rw[Q]at C|-;exact Reads.B4 C,aZ⟩;exact⟨_,_,rfl,Reads.B4 C,h1⟩
 obtain⟨A1,c1,rfl,Y,aEA⟩:=mF;have C2:=aY (auN j _ y A1 c1 rfl Y aEA aZ hok);go_wp2_with fail
 refine C2.aX.mono ?_;rintro e w2⟨v2,rfl,fq,k2⟩;have O:=k1.tr k2;have C3:=aY (awc gd vh (frames j) N room w2 (H.aX.st O));have Bk:=aY fq;go_wp2_with fail
 refine C3.aX.mono ?_;rintro e w3⟨rfl,hd3,M⟩;have W:=H.aX.lt;have T:=k1.size;have dS:=((Bk.aX.less λk t=>cZ t T).up M.up (λk t=>W k t) (λk t=>by have:=W k t;omega)).low T;have mg:=cQ O.size M.up.size;have R:=bn.new w3 169 #[aj (I ⟨gd,0,U⟩),v2];have B:=R.cG;have X:=dS.st B;have U8:=hd3.st B;have hu4:=((bf.cz O _).tr M.up).tr (bf.cz B _);obtain⟨A2,c2,rfl⟩:=X.slice;go_wp2;go_ret2;exact⟨_,_,rfl,mg,R,X,U8,hu4⟩
theorem aDN M w:nC M eZ (F U 0 0) (F U 0 0) (F U 0 0) w:=λ_ _=>⟨iJ _ _,iJ _ _,iJ _ _⟩
theorem aBG l v w(h:bD ng l v w)(hlen:Z l<=800000)(hb:∀b∈l,Z b<=1000000000) :aK aR 47 #[v] w λe w'=>∃vl vp va,e=ak (au #[av (eO (vZ l).1 vl vp va),G J (vZ l).2])/\nC (λk=>k<D (L w)) (vZ l).1 vl vp va w'/\K w w':=by
 obtain⟨aS,d,rfl,hl,-⟩:=h;have HL:=aY hl;generalize ho:vZ l=o;have HO:=aY ho;obtain⟨B,co⟩:=o;clear ho;have HB:=aY hb;have M:=(bn.new w 61 oK).alloc (aq oK 61);have R:=bn.new (aU w (aq oK 61)) 61 oK;have k0:=K.ou w (aq oK 61) (aq oK 61);rw[World.size_alloc]at R;clear hl hb;go_in;go_wp2;go_step3;go_wp2_with fail
 go_step3;generalize ay (ay w _) _=X at *;generalize kM:D (L w)=V at M R|-;obtain⟨C,hbase⟩:∃b,b=V+1:=⟨_,rfl⟩;have Mc:=aY (show CY C (V+1) eZ X from ⟨_,_,_,gN.nil (n:=0) (l:=[]) R aZ (bK.nil _ _ _ _ _)⟩);have hlow:C<=D (L X):=by have:=R.lt;omega
 have kk:aN C X X:=eP _ _;clear R;go_wp2_with fail
 go_loopw [5,7,8,9,12] (fun f _ _ _ i W=>∃j:Nat,j<=Z l/\i=G J j/\f=G J 0/\Hid ((jV eZ (l.take j)).2=0)/\Hid (CY C (V+1) (jV eZ (l.take j)).1 W)/\aN C X W) (fun _ _ _ _ i _=>Z l-(aO i).toNat)
 case atStart=>exact⟨0,aZ,rfl,rfl,aY dH,aY iF,kk⟩
 case round =>
  clear kk Mc;obtain⟨j,hj,rfl,rfl,HZ,O,kb⟩:=hrel;have kr:K w wr:=k0.trans (kb.mono aZ);by_cases H:j<Z l
  .have cE:(j:Int)<Z l:=aZ;obtain⟨b1,off,cs,rfl,hcl,hrl,d0,-⟩:=fE HL.aX j H bG;have HN:=aY (agR H HZ.aX);have Hg:=aY (λc=>az8 H HZ.aX (c:=c));have dR:=HB.aX _ (dJ H);have hsz:=az7 (l.take j) eZ;simp only[sc,show Z eZ.bq=0 from rfl,show Z eZ.bF=0 from rfl,show Z eZ.ab=0 from rfl]at hsz;generalize l[j]=b at *;generalize (jV eZ (l.take j)).1=s at *;obtain⟨vb,rfl,mF⟩:=hrl wr kr;have hv:∃A c,vb=F A (Z b) c:=by obtain⟨A,c,h,_⟩:=mF;exact⟨A,c,h⟩
   obtain⟨Ab,cb,rfl⟩:=hv;have q0:wr.cell? ⟨b1,off+j,U⟩=I (F Ab (Z b) cb):=by grind
   have C1:=aY (atH b _ wr mF dR);clear hrl hcl d0 mF;go_wp2_with fail
   refine C1.aX.mono ?_;rintro e w2⟨v',rfl,Db,k2⟩;have Ey:=aY Db;obtain⟨vf,ve,rfl,hf,he⟩:=Db w2 (cI.rf _ _ _);obtain⟨Af,cf,rfl⟩:=dX hf;obtain⟨Ae,ce,rfl⟩:=bH he;have Q:=bn.new w2 171 (jf (xc b) (F Af (Z (xc b).e.f) cf) (F Ae (Z (xc b).e.es) ce));have S:=Q.cG;have T:=k2.tr S;have hone:Hid (uP s b=if xd b=0 then oX s (xc b)else (s,xd b)):=aY rfl;have HDR:=aY (@av6 b);clear Db hf he C1 q0;generalize xd b=c at *;by_cases hc:c=0
   .subst hc;obtain⟨x,hx1,hx2⟩:=HDR.aX rfl;have HFX:=aY (av5 hx1);have HOX:=aY (auD (auy hx1).2);rw[hx2]at hone Ey Q S T|-;clear hx1 hx2 HDR;go_upto_region 8 with fail;generalize w2.alloc _=w3 at *;generalize D (L w2)=g8 at Q|-;obtain⟨vl,vp,va,hS⟩:=O.aX;have fY:=cQ hlow kb.size;have U1:PS C (V+1) s x vl vp va (av (jf x (F Af (Z x.e.f) cf) (F Ae (Z x.e.es) ce))) w3 :=
     ⟨hS.st T,λW u=>Ey.aX W ((cI.cz S _ _).tr (u.vu λk h1 _ _ e=>by have:=hS.lt fY k (aJ e);have:=k2.size;omega)),cQ fY T.size,⟨aZ,aZ,aZ⟩,HOX.aX,HFX.aX⟩
    have C2:=aY (ahN w3 U1);have q3:=Q.cell;have Va:=kb.trans (T.mono (cQ hlow kb.size));clear U1 hS O Ey Q S;go_wp2_with fail
    refine C2.aX.mono ?_;rintro e w4⟨rfl,N,hb4⟩;have Vb:=aY N;have kb4:=Va.trans hb4;have anP:=hone.aX.trans (bV bu);have abv:=aY anP;clear N q3 C2 hone anP;generalize oX s x=o at *;obtain⟨s',e'⟩:=o;by_cases he':e'=0
    .subst he';have Hr:Hid ((jV eZ (l.take (j+1))).2=0):=aY (by rw[HN.aX,abv.aX]);have HS5:Hid (CY C (V+1) (jV eZ (l.take (j+1))).1 w4):=aY (by rw[HN.aX,abv.aX];exact Vb.aX);go_wp2;go_roundw
     case rel=>exact⟨j+1,aZ,dh,rfl,Hr,HS5,kb4⟩
     case measure=>simp[aO];omega
    have y:=Hg.aX e' (by rw[abv.aX]) he';rw[HO.aX]at y;obtain⟨rfl,rfl⟩:=Prod.mk.inj y;clear y Hg HN Vb;have t:=(M.below kb4 aZ);have z:=t.frozen;have Y:=t.cell;obtain⟨cV,k9,-⟩:=OL eZ (F U 0 0) (F U 0 0) (F U 0 0) t rfl (k0.trans (kb4.mono aZ)) aZ;rw[show ((eZ.life:Nat):Int)=0 from rfl]at cV k9;clear M H cE t;go_wp2;clear z Y;generalize ax (ax (ax (ax w4 _ _) _ _) _ _) _ _=W9 at *;exact ako
   have y:=Hg.aX c (by rw[hone.aX,bQ hc]) hc;rw[HO.aX]at y;obtain⟨rfl,rfl⟩:=Prod.mk.inj y;have Va:=kb.trans (T.mono (cQ hlow kb.size));go_upto_region 7 with fail;generalize w2.alloc _=w3 at *;clear y Hg HN O Q S Ey;have t:=(M.below Va aZ);have z:=t.frozen;have Y:=t.cell;obtain⟨cV,k9,-⟩:=OL eZ (F U 0 0) (F U 0 0) (F U 0 0) t rfl (k0.trans (Va.mono aZ)) aZ;rw[show ((eZ.life:Nat):Int)=0 from rfl]at cV k9;clear M H cE t;go_wp2;clear z Y;generalize ax (ax (ax (ax w3 _ _) _ _) _ _) _ _=W9 at *;exact ako
  have cE:¬(j:Int)<Z l:=aZ;have y:=HZ.aX;rw[jq aZ]at y O;have y:=axZ y;rw[HO.aX]at y;obtain⟨vE,rfl⟩:=Prod.mk.inj y;rw[<- vE]at O;obtain⟨vl,vp,va,N⟩:=O.aX;obtain⟨⟨El,fl,rfl⟩,⟨Ep,fp,rfl⟩,Ea,fa,rfl⟩:=N.slices;have q:=N.blk.cell;have t:=M.below kb aZ;have z:=t.frozen;have Y:=t.cell;obtain⟨cV,k9,u9⟩:=OL B (F El (Z B.bq) fl) (F Ep (Z B.bF) fp) (F Ea (Z B.ab) fa) t rfl kr aZ;have H9:=aY (aB (N.fx.up u9 λk e=>show k<C by omega) k9);clear N O M y HZ H HO vE t k9 u9;go_wp2;clear q z Y;generalize ax (ax (ax (ax wr _ _) _ _) _ _) _ _=W9 at *;have e9:=cV.cell;try rw[jE]
  refine aM (v:=au #[av (eO B (F El (Z B.bq) fl) (F Ep (Z B.bF) fp) (F Ea (Z B.ab) fa)),G J 0]) (by simp[results,results47,go_sem,e9]) rfl ?_;exact ajM
def Jm(l:List (List UInt8)):Prop:=∀(v:aQ) (w:aP),bD ng l v w->aK aR 47 #[v] w λe j=>∃vl vp va,e=ak (au #[av (eO (vZ l).1 vl vp va),G J (vZ l).2])/\nC (λk=>k<D (L w)) (vZ l).1 vl vp va j/\K w j
theorem Jm.all{l}(j:Z l<=800000)(hb:∀b∈l,Z b<=1000000000):Jm l:=λv w h=>aBG l v w h j hb
def xF(w:aP)(l:List Rec)(v:aQ)(W:aP):Prop:=bK (λ_=>False) (D (L w)) 171 Jg l v W/\K w W
theorem xF.st{w l v W W'}(h:xF w l v W)(k:K W W'):xF w l v W':=⟨h.1.st k,h.2.tr k⟩
theorem xF.row{w l v W x vf ve}(h:xF w l v W)(t:∀W',K w W'->Jg.rel x (jf x vf ve).toList W'):fL (λb=>False\/aW v=I b) 0 171 Jg x (F (I ⟨D (L W),0,U⟩) 1 1) (aU W (aq (jf x vf ve) 171)) :=
 fL.new (v:=av (jf x vf ve)) (λW' u=>t W' (u.k h.2 λb j=>j.elim False.elim λj=>(h.1.blk b j).1)) 0 (fw _)
theorem auQ s v w(h:p6 s v w)(hz:Z s.bq<=300000/\Z s.bF<=300000/\Z s.ab<=300000)(hok:∀r∈fA s,fV r=aA/\lP r) :aK aR 194 #[v] w λe w'=>∃v',e=ak (au #[v',G J 0])/\cW (D (L w)) (D (L w)) 118 ng ((fA s).map dG) v' w'/\K w w':=by
 obtain⟨vl,vp,va,rfl,hl,hp,ha⟩:=h;obtain⟨Al,cl,rfl,hl,-⟩:=hl;obtain⟨Ap,cp,rfl,hp,-⟩:=hp;obtain⟨Aa,ca,rfl,ha,-⟩:=ha;have gI:=bn.new w 61 (eO s (F Al (Z s.bq) cl) (F Ap (Z s.bF) cp) (F Aa (Z s.ab) ca));have k1:=gI.cG;have HL:=aY hl;have HP:=aY hp;have HA:=aY ha;have nT:=aY hok;have H1L:=ahO s.life;obtain⟨y,mZ⟩:∃R,R=yG s.life:=⟨_,rfl⟩;have hS:fA s=y++oz s.bq++ny s.bF++sA s.ab:=by rw[mZ];rfl
 generalize fA s=M at *;have HS:=aY hS;have JP:=aY mZ;rw[<- mZ]at H1L;clear hl hp ha hok mZ hS;go_in;go_upto_region 2 with fail;generalize w.alloc _=C at *;have qp:=λW (k:K C W)=>(gI.bM k).cell
 have:=qp C (K.rf _);have JQ:Hid (xF C [] (F U 0 0) C):=aY ⟨bK.nil _ _ _ _ _,K.rf _⟩;clear gI;go_upto_if 18 with fail;go_cut [4]from 18 to 24 (fun v4 W=>Hid (xF C y v4 W))
 case first =>
  by_cases h0:s.life=0
  .have HQ:Hid (y=[]):=aY (by rw[JP.aX,yG,bV h0]);have h0i:((s.life:Int) != 0)=false:=by rw[h0];rfl
   clear h0;go_wp2;go_meet
   case rel=>exact aY (by rw[HQ.aX];exact JQ.aX)
  have HQ:Hid (y=[⟨1,s.life,fS,0,0,0⟩]):=aY (by rw[JP.aX,yG,bQ h0]);have h0i:((s.life:Int) != 0)=true:=cN;have z:=K.new C (aq (jf ⟨1,s.life,fS,0,0,0⟩ (F U 0 0) (F U 0 0)) 171);have hr:=JQ.aX.row (x:=⟨1,s.life,fS,0,0,0⟩) (vf:=F U 0 0) (ve:=F U 0 0) λQ _=>⟨_,_,rfl,⟨U,0,rfl,Reads.nil _ _ _ _⟩,iJ _ _⟩
  clear h0;go_wp2_with (at_builtin;refine j0 rfl _ _ 335 rfl _ 13 136 Ub rfl rfl (JQ.aX.1.st z) _ rfl _ hr ?p2 ?p3 ?_)
  case p2=>simp
  case p3=>exact z.size
  intro v9 w9 cX dW gD cV;have EB:Hid (xF C y v9 w9):=aY ⟨by rw[HQ.aX];exact cX,z.trans cV⟩;clear cX dW gD cV z hr;go_wp2;go_meet
  case rel=>exact EB
 case rest =>
 have q:=qp _ hcut.aX.2;go_wp2_with fail
 go_loopw [4,5,6,28] (fun v4 _ _ i W=>∃j:Nat,j<=Z s.bq/\i=G J j/\Hid (xF C (y++oz (s.bq.take j)) v4 W)) (fun _ _ _ i _=>Z s.bq-(aO i).toNat)
 case atStart=>exact⟨0,aZ,rfl,aY (by simpa [oz]using hcut.aX)⟩
 case round =>
 clear hcut;obtain⟨j,hj,rfl,t⟩:=hrel;by_cases hlt:j<Z s.bq
 case pos =>
  have cE:(j:Int)<Z s.bq:=aZ;have kr:=t.aX.2;obtain⟨T,X,cs,rfl,-,Y,H,d⟩:=fE HL.aX j hlt bG;have HT:=aY (ax0 s.bq j hlt);have JC:Z (y++oz (s.bq.take j))<=900001:=by simp only[fg,NJ,sc];omega
  generalize s.bq[j]=x at *;obtain⟨vf,ve,rfl,V,he⟩:=Y w (K.rf w);have O:∀Q,K C Q->Jg.rel ⟨2,j,x,0,0,0⟩ (jf ⟨2,j,x,0,0,0⟩ vf ve).toList Q:=λQ k=>anv (a:=(0,0,0)) ⟨_,_,rfl,fO _ _ _ _ V (k1.tr k),cM he (k1.tr k)⟩
  obtain⟨Af,cf,rfl⟩:=dX V;obtain⟨Ae,ce,rfl⟩:=bH he;have H:wr.cell? ⟨T,X+j*8,U⟩=I (G J x.bA):=H wr (k1.tr kr);have d:∀i,i<8->wr.cell? ⟨T,X+j*8+i,U⟩=(cB x (F Af (Z x.f) cf) (F Ae (Z x.es) ce))[i]?:=λi hi=>(d wr (k1.tr kr) i hi).trans aD
  have B:=bn.new wr 128 (cB x (F Af (Z x.f) cf) (F Ae (Z x.es) ce));have HI:=t.aX.st B.cG;clear Y t V he;go_upto_region 7 with fail;clear d H;generalize wr.alloc _=w5 at *;have q5:=B.cell;have z:=K.new w5 (aq (jf ⟨2,j,x,0,0,0⟩ (F Af (Z x.f) cf) (F Ae (Z x.es) ce)) 171);have hr:=HI.row O;have kW:=HI.2.tr z;replace HI:=HI.1.st z;clear B O kr;generalize F5:y++oz (s.bq.take j)=RJ at *;have F5:=aY F5;go_wp2_with (at_builtin;refine j0 rfl _ _ 335 rfl _ 13 136 Ub rfl rfl HI _ rfl _ hr ?p2 ?p3 ?_)
  case p2=>omega
  case p3=>exact kW.size
  intro v9 w9 cX dW gD cV;have EB:Hid (xF C (y++oz (s.bq.take (j+1))) v9 w9):=aY ⟨Zh,kW.trans cV⟩;exact Zi
 have cE:¬(j:Int)<Z s.bq:=aZ;have hcut:=t;rw[jq aZ]at hcut;have q:=qp wr hcut.aX.2;clear t hlt hj;go_wp2_with fail
 go_loopw [4,8,44] (fun v4 _ i W=>∃j:Nat,j<=Z s.bF/\i=G J j/\Hid (xF C (y++oz s.bq++ny (s.bF.take j)) v4 W)) (fun _ _ i _=>Z s.bF-(aO i).toNat)
 case atStart=>exact⟨0,aZ,rfl,aY (by simpa [ny]using hcut.aX)⟩
 case round =>
 clear hcut;obtain⟨j,hj,rfl,t⟩:=hrel;by_cases hlt:j<Z s.bF
 case pos =>
  have cE:(j:Int)<Z s.bF:=aZ;have kr:=t.aX.2;obtain⟨T,X,cs,rfl,-,Y,H,d⟩:=fE HP.aX j hlt bG;have HT:=aY (ax1 s.bF j hlt);have JC:Z (y++oz s.bq++ny (s.bF.take j))<=900001:=by simp only[fg,NJ,Sc,sc];omega
  generalize s.bF[j]=x at *;obtain⟨vf,ve,rfl,V,he⟩:=Y w (K.rf w);have O:∀Q,K C Q->Jg.rel ⟨3,0,x,0,0,0⟩ (jf ⟨3,0,x,0,0,0⟩ vf ve).toList Q:=λQ k=>anv (a:=(0,0,0)) ⟨_,_,rfl,fO _ _ _ _ V (k1.tr k),cM he (k1.tr k)⟩
  obtain⟨Af,cf,rfl⟩:=dX V;obtain⟨Ae,ce,rfl⟩:=bH he;have H:wr.cell? ⟨T,X+j*8,U⟩=I (G J x.bA):=H wr (k1.tr kr);have d:∀i,i<8->wr.cell? ⟨T,X+j*8+i,U⟩=(cB x (F Af (Z x.f) cf) (F Ae (Z x.es) ce))[i]?:=λi hi=>(d wr (k1.tr kr) i hi).trans aD
  have B:=bn.new wr 128 (cB x (F Af (Z x.f) cf) (F Ae (Z x.es) ce));have HI:=t.aX.st B.cG;clear Y t V he;go_upto_region 12 with fail;clear d H;generalize wr.alloc _=w5 at *;have q5:=B.cell;have z:=K.new w5 (aq (jf ⟨3,0,x,0,0,0⟩ (F Af (Z x.f) cf) (F Ae (Z x.es) ce)) 171);have hr:=HI.row O;have kW:=HI.2.tr z;replace HI:=HI.1.st z;clear B O kr;generalize F5:y++oz s.bq++ny (s.bF.take j)=RJ at *;have F5:=aY F5;go_wp2_with (at_builtin;refine j0 rfl _ _ 335 rfl _ 13 136 Ub rfl rfl HI _ rfl _ hr ?p2 ?p3 ?_)
  case p2=>omega
  case p3=>exact kW.size
  intro v9 w9 cX dW gD cV;have EB:Hid (xF C (y++oz s.bq++ny (s.bF.take (j+1))) v9 w9):=aY ⟨Zh,kW.trans cV⟩;exact Zi
 have cE:¬(j:Int)<Z s.bF:=aZ;have hcut:=t;rw[jq aZ]at hcut;have q:=qp wr hcut.aX.2;clear t hlt hj;go_wp2_with fail
 go_loopw [4,10,57] (fun v4 _ i W=>∃j:Nat,j<=Z s.ab/\i=G J j/\Hid (xF C (y++oz s.bq++ny s.bF++sA (s.ab.take j)) v4 W)) (fun _ _ i _=>Z s.ab-(aO i).toNat)
 case atStart=>exact⟨0,aZ,rfl,aY (by simpa [sA]using hcut.aX)⟩
 case round =>
 clear hcut;obtain⟨j,hj,rfl,t⟩:=hrel;by_cases hlt:j<Z s.ab
 case pos =>
  have cE:(j:Int)<Z s.ab:=aZ;have kr:=t.aX.2;obtain⟨T,X,cs,rfl,-,Y,H,d⟩:=fE HA.aX j hlt bG;have HT:=aY (ax2 s.ab j hlt);have JC:Z (y++oz s.bq++ny s.bF++sA (s.ab.take j))<=900001:=by simp only[fg,NJ,Sc,XX,sc];omega
  generalize s.ab[j]=x at *;obtain rfl:=Y w (K.rf w);have O:∀Q,K C Q->Jg.rel ⟨4,0,fS,x.1,x.2.1,x.2.2⟩ (jf ⟨4,0,fS,x.1,x.2.1,x.2.2⟩ (F U 0 0) (F U 0 0)).toList Q:=λQ _=>⟨_,_,rfl,⟨U,0,rfl,Reads.nil _ _ _ _⟩,iJ _ _⟩
  have H:wr.cell? ⟨T,X+j*3,U⟩=I (G J x.1):=H wr (k1.tr kr);have d:∀i,i<3->wr.cell? ⟨T,X+j*3+i,U⟩=(#[G J x.1,G E x.2.1,G E x.2.2]:Array aQ)[i]?:=λi hi=>(d wr (k1.tr kr) i hi).trans aD
  have B:=bn.new wr 42 #[G J x.1,G E x.2.1,G E x.2.2];have HI:=t.aX.st B.cG;clear Y t;go_upto_region 17 with fail;clear d H;generalize wr.alloc _=w5 at *;have q5:=B.cell;have z:=K.new w5 (aq (jf ⟨4,0,fS,x.1,x.2.1,x.2.2⟩ (F U 0 0) (F U 0 0)) 171);have hr:=HI.row O;have kW:=HI.2.tr z;replace HI:=HI.1.st z;clear B O kr;generalize F5:y++oz s.bq++ny s.bF++sA (s.ab.take j)=RJ at *;have F5:=aY F5;go_wp2_with (at_builtin;refine j0 rfl _ _ 335 rfl _ 13 136 Ub rfl rfl HI _ rfl _ hr ?p2 ?p3 ?_)
  case p2=>omega
  case p3=>exact kW.size
  intro v9 w9 cX dW gD cV;have EB:Hid (xF C (y++oz s.bq++ny s.bF++sA (s.ab.take (j+1))) v9 w9):=aY ⟨Zh,kW.trans cV⟩;exact Zi
 have cE:¬(j:Int)<Z s.ab:=aZ;have hcut:=t;rw[jq aZ]at hcut;have q:=qp wr hcut.aX.2;clear t hlt hj;rw[<- HS.aX]at hcut;have:Z M<=900001:=by rw[HS.aX];simp only[fg,NJ,Sc,XX];omega
 obtain⟨A4,c4,rfl,qT,-⟩:=hcut.aX.1.bD;have HR:=aY qT;have k2:=k1.tr hcut.aX.2;clear hcut qT HL HP HA;generalize wr=w2 at *;have Bm:Hid (bK (λk=>k<D (L w)) (D (L w2)) 118 ng ([]:List (List UInt8)) (F U 0 0) w2):=aY (bK.nil _ _ _ _ _);go_wp2_with fail
 clear cE;go_loopw [11,13,14,15,69] (fun o _ _ _ i W=>∃j:Nat,j<=Z M/\i=G J j/\Hid (bK (fun k=>k<D (L w)) (D (L w2)) 118 ng ((M.take j).map dG) o W/\K w2 W)) (fun _ _ _ _ i _=>Z M-(aO i).toNat)
 case atStart=>exact⟨0,aZ,rfl,aY ⟨Bm.aX,K.rf _⟩⟩
 case round =>
 clear Bm;obtain⟨j,hj,rfl,t⟩:=hrel;by_cases hlt:j<Z M
 case neg => have cE:¬(j:Int)<Z M:=aZ;rw[jq aZ]at t;clear hlt hj HR;go_wp2;go_ret2;exact⟨_,rfl,(t.aX.1.low k2.size).toL,k2.tr t.aX.2⟩
 have cE:(j:Int)<Z M:=aZ;have kr:=t.aX.2;obtain⟨T,X,cs,rfl,-,Y,H,d⟩:=fE HR.aX j hlt bG;have HT:Hid ((M.take (j+1)).map dG=(M.take j).map dG++[dG M[j]]):=aY Zj;have JC:Z ((M.take j).map dG)<=900001:=by simp only[List.length_map,sc];omega
 obtain⟨hok,hfit⟩:=nT.aX _ (dJ hlt);generalize M[j]=r at *;obtain⟨vf,ve,rfl,V,he⟩:=Y w2 (K.rf w2);have C1:=aY λW (kW:K w2 W)=>XT r _ W ⟨_,_,rfl,fO _ _ _ _ V kW,cM he kW⟩ hfit
 rw[show uD r=0 by simp[uD,hok],show zI r=dG r by simp[zI,hok]]at C1;obtain⟨Af,cf,rfl⟩:=dX V;obtain⟨Ae,ce,rfl⟩:=bH he;have H:wr.cell? ⟨T,X+j*13,U⟩=I (G J r.bA):=H wr kr;have d:∀i,i<13->wr.cell? ⟨T,X+j*13+i,U⟩=(jf r (F Af (Z r.e.f) cf) (F Ae (Z r.e.es) ce))[i]?:=λi hi=>(d wr kr i hi).trans aD
 have B:=bn.new wr 171 (jf r (F Af (Z r.e.f) cf) (F Ae (Z r.e.es) ce));have hO:=t.aX.1.st B.cG;replace kr:=kr.tr B.cG;clear Y V he hok hfit t;go_upto_region 23 with fail;clear d H;generalize wr.alloc _=w5 at *;have q5:=B.cell;clear B;have HO:=aY hO;clear hO;go_wp2_with fail
 refine (C1.aX w5 kr).mono ?_;rintro e w6⟨vb,rfl,gj,k6⟩;obtain⟨Ab,cb,rfl⟩:∃A c,vb=F A (Z (dG r)) c:=by obtain⟨A,c,h,_⟩:=gS gj;exact⟨A,c,h⟩
 have z:=K.new w6 (aq #[F Ab (Z (dG r)) cb] 118);have nW:=(HO.aX.st k6).st z;have hr:=fL.new (S:=ng) (e:=118) (x:=dG r) (v:=F Ab (Z (dG r)) cb) (w:=w6) (N:=λk=>k<D (L w)\/aW u11=I k) (λW u=>⟨_,rfl,gS (kj gj u λb hb O=>by
  have:=(gj.lt b hb).1;have:=(k2.tr kr).size;rcases O with O|O;omega;have:=(HO.aX.blk b O).2;omega)⟩) 0 (fw _)
 have kW:=(kr.tr k6).tr z;generalize (M.take j).map dG=RJ at *;clear C1 HO gj z;go_wp2_with (at_builtin;refine j0 rfl _ _ 125 rfl _ 1 24 U2 rfl rfl nW _ rfl _ hr ?p2 ?p3 ?_)
 case p2=>omega
 case p3=>exact kW.size
 intro v9 w9 cX dW gD cV;have EB:Hid (bK (λk=>k<D (L w)) (D (L w2)) 118 ng ((M.take (j+1)).map dG) v9 w9/\K w2 w9):=aY ⟨by rw[HT.aX];exact cX,kW.trans cV⟩;clear cX dW gD cV q5 nW hr kW;exact akp
def ly(d:rP):List UInt8:=frames (d.ie.map dG)
abbrev Mj(gd:Nat)(vh:aQ)(d:rP)(w:aP):Prop:=jl gd vh (ly d) (Z (ly d)) d.room w
abbrev Vc(gl gd:Nat)(vh vr:aQ)(d:rP)(w:aP):Prop:=mJ gl gd vh vr (ly d) (Z (ly d)) d.room w
structure abw(gd:Nat)(vh:aQ)(d:rP)(s:eT)(w:aP)(e:Ending)(w':aP)(gl:Nat)(fN vr vl vp va:aQ):Prop where
 ret:e=ak (au #[aj (I ⟨gl,0,U⟩),av (eO s vl vp va),G J 0])
 lg:Vc gl gd fN vr d w'
 st:nC (λk=>k<D (L w)\/mK gl gd fN vr k) s vl vp va w'
 up:bf (nE gd vh) w w'
 new:∀k,mK gl gd fN vr k->nE gd vh k\/D (L w)<=k
 gl:D (L w)<=gl
def abx(gd:Nat)(vh:aQ)(d:rP)(w:aP)(e:Ending)(w':aP):Prop :=
 ∃j,e=ak (au #[aj U,av oK,G J 90])/\Mj gd j d w'/\mI gd vh j w w'
def GJ(gd:Nat)(vh:aQ)(d:rP)(s:eT)(w:aP)(e:Ending)(w':aP):Prop :=
 if jM (fA (eN s))<=d.room then ∃gl j vr vl vp va,abw gd vh ⟨fA (eN s),d.room⟩ (eN s) w e w' gl j vr vl vp va else abx gd vh d w e w'
section
variable {gl gd jw room:Nat}{vh vr:aQ}{l:List UInt8}{w w':aP}{X:Nat->Prop}
theorem jl.cF(h:jl gd vh l jw room w)(u:bf X w w')(j:∀k,nE gd vh k->¬X k):jl gd vh l jw room w' :=
 ⟨h.blk.cF u (j _ (aI rfl)),kj h.own u λb t=>j b (aJ t),h.len,h.room⟩
theorem mJ.cF(h:mJ gl gd vh vr l jw room w)(u:bf X w w')(j:∀k,mK gl gd vh vr k->¬X k):mJ gl gd vh vr l jw room w':=by obtain⟨n,y,B,A⟩:=h.row;exact⟨h.dk.cF u λk t=>j k (aJ (aJ t)),h.blk.cF u (j _ (aI rfl)),n,y,B,kj A u λb z=>j b (aJ (aI z))⟩
end
theorem as7 gd vh d s w(h:Mj gd vh d w)(hG:jr d s)(hA:Jm (d.ie.map dG))(hl:s.life+1<18446744073709551616) :aK aR 127 #[aj (I ⟨gd,0,U⟩)] w (GJ gd vh d s w):=by
 obtain⟨t,vD⟩:∃t,t=d.ie.map dG:=⟨_,rfl⟩;obtain⟨A,Hs⟩:∃A,A=(fA (eN s)).map dG:=⟨_,rfl⟩;obtain⟨y,fR⟩:∃n,n=s.life+1:=⟨_,rfl⟩;have qT:eN s=⟨y,s.bq,s.bF,s.ab⟩:=by unfold eN;rw[Nat.mod_eq_of_lt hl,fR]
 have hlen:=hG.len;rw[<- vD]at hA;have HA:=aY hA;clear hA;have hD:ly d=frames t:=by rw[vD];rfl
 have hok:∀b∈t,jG b=true:=by rw[vD];exact akq
 have dR:∀b∈t,Z b<=1000000000:=λb hb=>by have:=hok b hb;simp[jG]at this;omega
 have Jk:A.all jG=true:=by rw[Hs,yq];intro b hb;obtain⟨r,hr,rfl⟩:=List.mem_map.1 hb;exact XZ (hG.small r hr)
 have aoq:∀b∈A,Z b<=1000000000:=λb hb=>by have:=List.all_eq_true.1 Jk b hb;simp[jG]at this;omega
 have Lp:Z t<=150000:=by rw[vD,List.length_map];exact hG.cnt
 have aJ8:Z A<=200000:=by have htot:=hG.tot;rw[Hs,List.length_map];have:=ahO (eN s).life;unfold fA;simp only[fg,NJ,Sc,XX];show _+Z s.bq+Z s.bF+Z s.ab<=_;omega
 have hall:vZ t=(s,0):=by have:=ahP d.ie (λr hr=>⟨(hG.ie r hr).1,(hG.ie r hr).2.1⟩) eZ s hG.run;rw[vD];unfold vZ;rw[this];rfl
 have hro:=YY hG.inv.eN bL;have dU:Z (frames A)=jM (fA (eN s)):=by rw[Hs,Rv]
 have zj:Hid (∀e w' gl fN vr vl vp va,jM (fA (eN s))<=d.room->abw gd vh ⟨fA (eN s),d.room⟩ (eN s) w e w' gl fN vr vl vp va->GJ gd vh d s w e w'):=aY λe w' gl fN vr vl vp va c h=>by unfold GJ;rw[bV c];exact⟨gl,fN,vr,vl,vp,va,h⟩
 have uv:Hid (∀e w',¬jM (fA (eN s))<=d.room->abx gd vh d w e w'->GJ gd vh d s w e w'):=aY λe w' c h=>by unfold GJ;rw[bQ c];exact h
 have HN:Hid (ly ⟨fA (eN s),d.room⟩=frames A):=aY (by rw[Hs];rfl);have HD:=aY hD;have HRO:Hid (∀r∈fA ⟨y,s.bq,s.bF,s.ab⟩,fV r=aA/\lP r):=aY (by rw[<- qT];exact hro);have Vd:Hid ((fA ⟨y,s.bq,s.bF,s.ab⟩).map dG=A):=aY bL;have Ve:=aY qT;have Ht:=aY dU;generalize jM (fA (eN s))=DL at *;generalize GJ gd vh d s w=Post at *;have HBL:=aY dR;have HOT:=aY Jk;have HBT:=aY aoq;have Ue:=aY hall;have fU:=bn.new w 61 oK;have k0:=fU.cG;have PF:=h.st k0;have hlo:=h.lt;rw[hD]at PF;have C1:=aY (afv gd vh t d.room _ PF hok);have hW:E.wrap ((s.life:Int)+1)=(y:Int):=by rw[IntWalk.u64_in ((s.life:Int)+1) aZ];omega
 clear fR hl;clear h hG vD Hs qT hD hok dR Jk aoq hall hro dU PF;go_in;go_wp2_with fail
 generalize w.alloc _=w1 at *;generalize kM:D (L w)=gp at fU|-;have EC:=aY kM;refine C1.aX.mono ?_;rintro e w2⟨gl,vr,rfl,jg,dR,hO,iB,kO⟩;have hz0:=k0.size;have P6:=aY kO.size;have P7:=aY fU.lt;have HZ1:=aY hz0;have dC:=fU.cF kO λh=>by have:=hlo gp h;omega
 have C2:=aY (aeM gl _ vr t w2 dR hO.bD aZ HBL.aX);have Mh:=aY ((bf.cz k0 _).tr kO);have Bk:=aY hO;have y9:=aY dR;have P5:=aY iB;clear kO hO dR iB C1 fU kM;go_wp2_with fail
 refine C2.aX.mono ?_;rintro e w3⟨v3,rfl,dS,k3⟩;have C3:=aY (HA.aX v3 w3 dS.bD);obtain⟨A3,c3,rfl⟩:=dS.slice;clear C2 dS;go_wp2_with fail
 refine C3.aX.mono ?_;rintro e w4⟨vl,vp,va,rfl,uo,k4⟩;rw[Ue.aX]at uo|-;have Vb:=aY uo;have Bn:=k3.tr k4;have k24:=aY Bn;have iq:=dC.bM Bn;have Bo:=aY (y9.aX.bM Bn);have HD4:=aY (P5.aX.st Bn);have JR:=aY (Bk.aX.st Bn);have lr:=iq.lt;have Hu:Hid (D (L w3)<=D (L w4)/\D (L w2)<=D (L w3)):=aY ⟨k4.size,k3.size⟩;have jS:=bn.new w4 61 oK;have T:=jS.cell;have z7:=jS.frozen;obtain⟨⟨H,cl,rfl⟩,⟨S,R,rfl⟩,C,O,rfl⟩:=uo.sl;clear C3 uo k3 k4 Bn;go_upto_region 5 with fail;clear T z7 jS;have Lv:=bn.new w4 61 (eO s (F H (Z s.bq) cl) (F S (Z s.bF) R) (F C (Z s.ab) O));have k5:=Lv.cG;generalize w4.alloc _=w5 at *;generalize yN:D (L w4)=g7 at Lv lr|-;have T:=Lv.cell;have z7:=Lv.frozen;have aby:bn (aV w5 ⟨g7,0,U⟩ (G E y)) g7 61 (eO ⟨y,s.bq,s.bF,s.ab⟩ (F H (Z s.bq) cl) (F S (Z s.bF) R) (F C (Z s.ab) O)):=Lv.cH 0 (G E y);have k6:K w4 (aV w5 ⟨g7,0,U⟩ (G E y)):=K.set k5 (r:=g7) aZ 0 _;go_upto_region 8 with fail;clear T z7 Lv hW k5;generalize ax w5 _ _=w6 at *;have T:=aby.cell;have AL:=k6.size;have HX:Hid (∀k,mK gl gd vh vr k->k<D (L w3)):=aY λk j=>by have h2:=Hu.aX.2;rcases j with rfl|j|j;have:=y9.aX.lt;omega;have:=(Bk.aX.blk k j).2;omega;have:=P5.aX.lt k j;omega
 have Vf:=aY (Vb.aX.k k6);have C4:=aY (auQ ⟨y,s.bq,s.bF,s.ab⟩ (av (eO ⟨y,s.bq,s.bF,s.ab⟩ (F H (Z s.bq) cl) (F S (Z s.bF) R) (F C (Z s.ab) O))) w6 ⟨_,_,_,rfl,Vf.aX.now.1,Vf.aX.now.2.1,Vf.aX.now.2.2⟩ bL HRO.aX);rw[Vd.aX]at C4;have Mk:=aY hlo;have HG7:=aY yN;clear hlo yN hlen;go_wp2_with fail
 refine C4.aX.mono ?_;rintro e w7⟨v7,rfl,ke,k7⟩;have hX7:∀k,mK gl gd vh vr k->k<D (L w6):=λk j=>by have:=HX.aX k j;have:=Hu.aX;omega
 have Hv:=k6.tr k7;have Hj:mJ gl gd vh vr (frames t) (Z (frames t)) d.room w7:=by obtain⟨bw,hr,hcl,hE⟩:=JR.aX.st Hv;exact⟨HD4.aX.st Hv,Bo.aX.bM Hv,_,_,RE t,pF (fw _) hr⟩
 have Vg:=(ke.wF.fx λk j=>j).less hX7;have C5:=aY (asH gl gd vh vr v7 (frames t) d.room A w7 Hj Vg aZ HBT.aX);have Ml:Hid (Bi (frames t) A d.room=if DL<=d.room then (frames A,0)else (frames t,90)):=aY (by unfold Bi Bf;rw[bV HOT.aX,Ht.aX]);have HX7:=aY hX7;have HF7:=aY (Vf.aX.k k7);have abz:=aby.bM k7;have Y:=iq.bM Hv;have HK7:=aY Hv;obtain⟨A7,c7,rfl⟩:=ke.wF.slice;clear T aby ke Hj Vg C4 k7 hX7 k6 AL;go_wp2_with fail
 refine C5.aX.mono ?_;rintro e w8⟨Q,Mm,rfl,EE,P8,B⟩;clear C5;have HU:=aY (by
  refine (Mh.aX.tr (bf.cz (k24.aX.tr HK7.aX) _)).ir B.up λk j hx=>?_
  rcases hx with rfl|hx|hx;omega;have:=(Bk.aX.blk k hx).1;have:=HZ1.aX;omega;exact hx)
 by_cases hfit:DL<=d.room
 .have iu:Hid (Bi (frames t) A d.room=(frames A,0)):=aY (by rw[Ml.aX,bV hfit]);rw[iu.aX]at EE P8|-;have Co:=aY hfit;have HL8:=aY (EE rfl);have nF:=abz.cF B.up λhx=>by have:=HX7.aX _ hx;have:=HX.aX _ hx;have:=HG7.aX;have:=Hu.aX;omega
  have wG:=Y.cF B.up λhx=>by exact S0
  have HF8:Hid (nC (λk=>k<D (L w1)\/mK gl gd Q Mm k) ⟨y,s.bq,s.bF,s.ab⟩ (F H (Z s.bq) cl) (F S (Z s.bF) R) (F C (Z s.ab) O) w8):=aY (HF7.aX.to (M:=λk=>k<D (L w3)) (N:=λk=>k<D (L w1)\/mK gl gd Q Mm k) B.up (λk j=>HX.aX k j) λk j hx=>by
   rcases hx with hx|hx;have:=Hu.aX;have:=P6.aX;omega;exact HX.aX k ((B.new k hx).resolve_right aZ))
  have T:=nF.cells;have Qa:Hid (∀k,mK gl gd Q Mm k->¬k=gp):=aY λk j e=>by rcases B.new k j with hx|hx;rw[e]at hx;exact S0;have:=Y.lt;omega
  have Hw:Hid (∀k,mK gl gd Q Mm k->nE gd vh k\/D (L w)<=k):=aY λk j=>by rcases B.new k j with hx|hx;exact akr;have:=Y.lt;have:=EC.aX;right;omega
  have Vh:Hid (D (L w)<=gl):=aY aZ;clear nF B EE P8 abz Y hfit iu Ml;go_upto_region 14 with fail;have qs:=T;refine fD 3 ?_;iterate 3 refine bB.i ?_
  clear qs;intro V W kW hA;simp only[bZ,cC,dF,bS,Nat.reduceAdd]at hA;have fF:=wG.bM kW;have q9:=fF.cell;have z9:=fF.frozen;refine bN.skip (ax (ax (ax (ax W ⟨gp,0,U⟩ (G E y)) ⟨gp,1,U⟩ (F H (Z s.bq) cl)) ⟨gp,2,U⟩ (F S (Z s.bF) R)) ⟨gp,3,U⟩ (F C (Z s.ab) O)) rfl (by simp[bR,aC,hA,cP,aL,bT,q9,z9,go_sem]) ?_;apply bN.pure;rfl;simp[bR,aC,cP,hA,aL,bT,go_sem];rfl;refine bN.h ?_;clear q9 z9 T;have ui:bn (ax (ax (ax (ax W _ _) _ _) _ _) _ _) gp 61 (eO ⟨y,s.bq,s.bF,s.ab⟩ (F H (Z s.bq) cl) (F S (Z s.bF) R) (F C (Z s.ab) O)):=(((fF.cH 0 (G E y)).cH 1 (F H (Z s.bq) cl)).cH 2 (F S (Z s.bF) R)).cH 3 (F C (Z s.ab) O);have u9:bf (λk=>k=gp) W _:=(((bf.dx (X:=λk=>k=gp) rfl 0 (G E y)).tr (bf.dx (X:=λk=>k=gp) rfl 1 (F H (Z s.bq) cl))).tr (bf.dx (X:=λk=>k=gp) rfl 2 (F S (Z s.bF) R))).tr (bf.dx (X:=λk=>k=gp) rfl 3 (F C (Z s.ab) O));generalize ax (ax (ax (ax W _ _) _ _) _ _) _ _=W9 at *;have e9:=ui.cell;have HPP:=zj.aX;clear fF zj uv;have JT:=aY (((bf.cz kW _).tr u9:bf (λk=>k=gp) w8 W9));clear u9 hA;go_wp2;try rw[jE]
  refine aM (v:=au #[aj (I ⟨gl,0,U⟩),av (eO ⟨y,s.bq,s.bF,s.ab⟩ (F H (Z s.bq) cl) (F S (Z s.bF) R) (F C (Z s.ab) O)),G J 0]) aks rfl ?_;refine HPP _ _ gl Q Mm (F H (Z s.bq) cl) (F S (Z s.bF) R) (F C (Z s.ab) O) Co.aX ⟨by rw[Ve.aX],?_,?_,?_,Hw.aX,Vh.aX⟩;show mJ gl gd Q Mm (ly _) (Z (ly _)) d.room W9;rw[HN.aX];exact HL8.aX.cF JT.aX Qa.aX;rw[Ve.aX];exact (HF8.aX.up JT.aX λk j=>aI (by have:=P7.aX;omega)).less λk j=>j.imp (λh=>aZ) id
  exact HU.aX.ir JT.aX λk j hx=>by have:=EC.aX;omega
 have iu:Hid (Bi (frames t) A d.room=(frames t,90)):=aY (by rw[Ml.aX,bQ hfit]);rw[iu.aX]at EE P8|-;have Co:=aY hfit;have wG:=Y.cF B.up λhx=>by exact S0
 have Qa:Hid (∀k,nE gd Q k->¬k=gp):=aY λk j e=>by rcases B.new k (aJ (aJ j))with hx|hx;rw[e]at hx;exact S0;have:=Y.lt;omega
 have Hw:Hid (∀k,nE gd Q k->nE gd vh k\/D (L w)<=k):=aY λk j=>by rcases B.new k (aJ (aJ j))with hx|hx;exact akr;have:=Y.lt;have:=EC.aX;right;omega
 have HD8:=aY P8;clear B EE P8 abz Y hfit iu Ml;have z:=wG.frozen;have qz:=wG.cell;go_wp2;have ui:bn (ax (ax (ax (ax w8 _ _) _ _) _ _) _ _) gp 61 oK:=(((wG.cH 0 (G E 0)).cH 1 (F U 0 0)).cH 2 (F U 0 0)).cH 3 (F U 0 0);have u9:bf (λk=>k=gp) w8 _:=(((bf.dx (X:=λk=>k=gp) rfl 0 (G E 0)).tr (bf.dx (X:=λk=>k=gp) rfl 1 (F U 0 0))).tr (bf.dx (X:=λk=>k=gp) rfl 2 (F U 0 0))).tr (bf.dx (X:=λk=>k=gp) rfl 3 (F U 0 0));clear z qz wG;generalize ax (ax (ax (ax w8 _ _) _ _) _ _) _ _=W9 at *;have e9:=ui.cell;try rw[jE]
 refine aM (v:=au #[aj U,av oK,G J 90]) aks rfl ?_;refine uv.aX _ _ Co.aX ⟨Q,rfl,?_,HU.aX.ir u9 λk j hx=>by have:=EC.aX;omega,Hw.aX⟩;show jl gd Q (ly d) (Z (ly d)) d.room W9;rw[HD.aX];exact HD8.aX.cF u9 Qa.aX
structure qu where
 g:Nat
 gl:Nat
 gd:Nat
 gr:Nat
 gt:Nat
 vd:aQ
 vr:aQ
 vp:aQ
 vh:aQ
 vl:aQ
 vq:aQ
 va:aQ
 vt:aQ
 vf:aQ
 vw:aQ
 kr:List (Int×aQ)
abbrev JU(p:qu)(B:cJ):Array aQ:=#[G J B.me,p.vp,p.vh,aj (I ⟨p.gl,0,U⟩),G E (B.st.life:Int),p.vl,p.vq,p.va,p.vt,G E (B.calls:Int),.map (I p.gr),p.vf,.map (I p.gt),p.vw]
def cY(p:qu)(k:Nat):Prop:=k=p.g\/k=p.gr\/k=p.gt\/mK p.gl p.gd p.vd p.vr k
def Fz(l:List (Int×ig))(bC:List (Int×aQ))(W:aP):Prop:=Z bC=Z l/\∀i (h:i<Z bC) (h':i<Z l),bC[i].1=l[i].1/\nU l[i].2 bC[i].2 W
def sw(l:List bY):List (bY×aQ):=l.zipIdx.map λp=>(p.1,G J (p.2:Int))
structure BrD(p:qu)(B:cJ)(W:aP):Prop where
 par:bD eH B.par p.vp W
 bj:bD eH B.bj p.vh W
 bq:bD cL B.st.bq p.vl W
 bF:bD cL B.st.bF p.vq W
 ab:bD dQ B.st.ab p.va W
 bI:bD fe B.bI p.vt W
 iy:bD dQ B.jn p.vf W
 dy:bD cL B.dy p.vw W
 dm:Fz B.dm p.kr W
structure df(M:Nat->Prop)(p:qu)(B:cJ)(w:aP):Prop where
 blk:bn w p.g 162 (JU p B)
 lg:Vc p.gl p.gd p.vd p.vr B.dk w
 rep:fP encI w p.gr p.kr
 zk:fP oy w p.gt (sw B.cA)
 dz:Fx M (BrD p B) w
 sub:∀k,cY p k->M k
 low:∀k,M k->k<D (L w)
 ne:p.gr≠p.gt
section
variable {M M' X:Nat->Prop}{p p':qu}{B B':cJ}{w w' w'':aP}
theorem df.st(h:df M p B w)(k:K w w'):df M p B w' :=
 ⟨h.blk.bM k,h.lg.st k,h.rep.st k,h.zk.st k,h.dz.k k,h.sub,λb j=>cZ (h.low b j) k.size,h.ne⟩
theorem fP.aor{gl gd vd vr d α}[DecidableEq α]{enc b}{bC:List (α×aQ)}(h:fP enc w b bC)(l:Vc gl gd vd vr d w):¬mK gl gd vd vr b:=λj=>by obtain⟨n,z,A,y⟩:=l.row;rcases j with rfl|j|rfl|j;exact h.cells l.blk;obtain⟨cur,t⟩:=pH y j;exact h.cells t;exact h.cells l.dk.blk;obtain⟨cur,t⟩:=pH l.dk.own j;exact h.cells t
theorem df.apart(h:df M p B w):p.g≠p.gr/\p.g≠p.gt/\¬mK p.gl p.gd p.vd p.vr p.g/\¬mK p.gl p.gd p.vd p.vr p.gr/\¬mK p.gl p.gd p.vd p.vr p.gt:=by refine⟨λe=>h.rep.cells (e▸h.blk),λe=>h.zk.cells (e▸h.blk),λj=>?_,h.rep.aor h.lg,h.zk.aor h.lg⟩;obtain⟨n,z,A,y⟩:=h.lg.row;rcases j with e|j|e|j;exact absurd (h.blk.jK (e▸h.lg.blk)) bG;obtain⟨cur,t⟩:=pH y j;exact absurd (h.blk.jK t) bG;exact absurd (h.blk.jK (e▸h.lg.dk.blk)) bG;obtain⟨cur,t⟩:=pH h.lg.dk.own j;exact absurd (h.blk.jK t) bG
theorem df.far(h:df M p B w)(u:bf X w w')(C:∀k,X k->M k)(hn:∀k,X k->¬cY p k)(z:∀k,k<D (L w)->M' k->M k)(A:∀k,cY p k->M' k)(y:∀k,M' k->k<D (L w')):df M' p B w' :=
 ⟨h.blk.cF u λj=>hn _ j (aI rfl),h.lg.cF u λk t j=>hn k j (aJ (aJ (aJ t))),h.rep.cF u λj=>hn _ j (aJ (aI rfl)),h.zk.cF u λj=>hn _ j (aJ (aJ (aI rfl))),h.dz.to u C z,A,y,h.ne⟩
theorem df.cell(h:df M p B w) i v(hb:bn (aV w ⟨p.g,i,U⟩ v) p.g 162 (JU p' B'))(S:p'.g=p.g/\p'.gl=p.gl/\p'.gd=p.gd/\p'.gr=p.gr/\p'.gt=p.gt/\p'.vd=p.vd/\p'.vr=p.vr/\p'.kr=p.kr)(hB:B'.dk=B.dk/\B'.cA=B.cA)(C:∀W,bf M w W->BrD p B W->BrD p' B' W):df M p' B' (aV w ⟨p.g,i,U⟩ v):=by
 obtain⟨e1,R,Y,A,z,N,H,T⟩:=S;obtain⟨O,V⟩:=hB;obtain⟨a1,a2,Q,a4,a5⟩:=h.apart;have u:bf (λk=>k=p.g) w (aV w ⟨p.g,i,U⟩ v):=bf.dx (X:=λk=>k=p.g) rfl i v;have y:=u.more λk j=>h.sub k (aI j)
 refine⟨bL,?_,?_,?_,λW t=>C W (y.tr t) (h.dz W (y.tr t)),λk j=>h.sub k ?_,λk j=>by simpa using h.low k j,by rw[A,z];exact h.ne⟩;rw[R,Y,N,H,O];exact h.lg.cF u λk j e=>Q (e▸j)
 rw[A,T];exact h.rep.cF u λe=>a1 e.symm
 rw[z,V];exact h.zk.cF u λe=>a2 e.symm
 grind [cY]
def qu.key(p:qu):Nat×Nat:=(p.g,p.gd)
theorem kg{p:qu}{a b}(h:p.key=(a,b)):p.g=a:=congrArg Prod.fst h
theorem EF{p p':qu}(h:p'.key=p.key):p'.g=p.g:=congrArg Prod.fst h
def fG(M:Nat->Prop)(p:qu)(B':cJ)(w w':aP):Prop :=
 ∃j,df (λk=>M k\/cY j k) j B' w'/\bf (cY p) w w'/\j.key=p.key/\∀k,cY j k->cY p k\/D (L w)<=k
theorem df.less(h:df M p B w)(y:∀k,cY p k->M' k)(j:∀k,M' k->M k):df M' p B w:=⟨h.blk,h.lg,h.rep,h.zk,h.dz.less j,y,λk t=>h.low k (j k t),h.ne⟩
theorem df.now(h:df M p B w)(hg:p'.key=p.key)(t:∀k,cY p k->cY p' k\/D (L w')<=k)(u:bf (cY p') w' w):fG M p' B w' w :=
 ⟨p,h.less (λk j=>aJ j) (λk j=>j.elim id (h.sub k)),u,hg.symm,t⟩
theorem df.n(h:df M p B w)(k:K w w'):fG M p B w w' :=
 (h.st k).now rfl (λ_ h=>aI h) (bf.cz k _)
theorem fG.tr{t p1}(u:bf (cY p) w w')(hg:p1.key=p.key)(N:∀k,cY p1 k->cY p k\/D (L w)<=k)(A:∀k,M k->t k)(h:fG t p1 B' w' w''):fG M p B' w w'':=by
 obtain⟨p2,B,y,C,z⟩:=h;refine⟨p2,B.less (λk j=>aJ j) (λk j=>j.imp (A k) id),u.ir y λk j H=>(N k H).resolve_right aZ,C.trans hg,λk j=>?_⟩;rcases z k j with a|a
 .grind
 exact aJ (cQ u.size a)
theorem fG.k(h:fG M p B' w w')(k:K w' w''):fG M p B' w w'':=by obtain⟨p2,j,t,z,y⟩:=h;exact⟨p2,j.st k,t.tr (bf.cz k _),z,y⟩
theorem fG.F6{w0}(h:fG M p B' w w')(k:K w0 w)(C:∀j,cY p j->j<D (L w0)):fG M p B' w0 w':=by obtain⟨p2,A,y,B,z⟩:=h;exact⟨p2,A,(bf.cz k _).tr y,B,λj t=>(z j t).imp id λa=>cQ k.size a⟩
end
theorem aAr W:Fz [] [] W:=⟨rfl,λi h=>zH⟩
theorem df.q{M p B w}(h:df M p B w):∀W,K w W->∀i,W.cell? ⟨p.g,i,U⟩=(JU p B)[i]?:=h.blk.cells
section
variable {P:Program}{a0:Act}
theorem ayf{t} ρ ty W:∃v j,(aL ρ (bT (.makeMap t U) ty)).run P W=.ok (.value v) j/\∀b,Em v=I b->D (L W)<=b/\b<D (L j) :=
 ⟨.map (I (D (L W))),W.alloc (.map #[] 0),by simp[aL,bT,Instr.makeMap,go_sem],λb y=>by cases y;simp⟩
theorem Ya l{s u y e z bytes}(T:gQ P y e z 1 bytes){w ρ ty}(hbytes:Z l*(bytes+1)<=140737488355328)(O:ρ s=F U 0 0)(C:bD eH l (ρ u) w) :∃v j,(aL ρ (bT (.call { callee:=.builtin .append,args:=#[s,u],argTypes:=#[y,y] }) ty)).run P w=.ok (.value v) j/\(∀b,Em v=I b->D (L w)<=b/\b<D (L j))/\bK (λk=>k<D (L w)) (D (L w)) e eH l v j/\K w j:=by
 obtain⟨A,c,C,⟨H,M,V⟩,-⟩:=C;have:=Rm M;obtain⟨B,j,Q,t,X,Y,R⟩:=GC (P:=P) w (D (L w)) y ty e z 1 bytes T (F U 0 0) 0 [] (oV _ _ _ _) _ A (Z l) c H.flatten V M.ones bL (bP _);simp only[mr,bZ]at t;refine⟨B,j,?_,λb N=>?_,⟨H,t,bL,λW u=>iF⟩,R⟩;simp only[aL,bT,resolve,invoke,builtin,Sem.run_bind,Sem.run_pure,Result.andThen_ok,List.map_toArray,mN,List.map_nil,O,C,Q];have S:aW B=I b:=by cases B <;> first|exact N|(rcases t.2 with ⟨h,-⟩|⟨_,_,_,h,-⟩ <;> cases h)
 exact t.lt b S
theorem bB.ints{R:aP->Prop}{C:aP->aP->Prop}{A:List Nat}{M:List Oper->List (List Nat×List (Nat×Nat))->List (aQ->aP->Prop)->Prop}{m:Nat}{o:Oper}{r:List Oper}{x:List Nat×List (Nat×Nat)}{xs:List (List Nat×List (Nat×Nat))}{t:List (aQ->aP->Prop)}(y:Nat)(l:List Int){s u:Operand}{B e:TypeId}{z:aQ}{bytes:Nat}(T:gQ P B e z 1 bytes)(hbytes:Z l*(bytes+1)<=140737488355328)(hR:∀W,R W->y<=D (L W))(h:∀(V:Nat->aQ) (w:aP),R w->(∀j∈x.1,tab t j (V j) w)->bR x.2 a0 V s=F U 0 0/\bD eH l (bR x.2 a0 V u) w)(k:bB P a0 R C A M m r xs (t++[λv W=>bK (λk=>k<y) y e eH l v W]))(Q:o.op=.call { callee:=.builtin .append,args:=#[s,u],argTypes:=#[B,B] }:=by rfl)(hg:o.guard=none:=by rfl)(hSt:∀v w w',bK (λk=>k<y) y e eH l v w->C w w'->bK (λk=>k<y) y e eH l v w':=by exact λ_ _ _ h k=>h.st k)(O:A.contains (Z t)=false:=by (simp only[fg,gH,List.length_nil,List.contains_nil];try rfl)):bB P a0 R C A M (m+1) (o :: r) (x :: xs) t:=by refine bB.op _ hSt (λV w H hp=>?_) k O;obtain⟨X,N⟩:=h V w H hp;obtain⟨v,w',hrun,-,⟨bw,h3,S,Y⟩,h6⟩:=Ya l T (ty:=o.type) hbytes X N;rw[hg,bV (show dI V U=aA from rfl),Q,hrun];exact⟨⟨bw,pF (hR w H) h3,S,λW u=>by rw[Rm (Y w' (bf.rf _ _))];exact IC _ _⟩,h6⟩
end
theorem af6 p n v g w(t:∃A c,v=F A (Z p) c)(hg:bn w g 23 #[v])(hn:Z p<=1000000) :aK aR 126 #[G J n,aj (I ⟨g,0,U⟩)] w λe j=>e=ak (ar (iW p n))/\K w j:=by obtain⟨A,c,rfl⟩:=t;have q:=hg.cell;have kk:=K.rf w;have HC:Hid (iW p n=(decide (0<=n)&&decide (n<(Z p:Int)))):=aY rfl;generalize iW p n=R at *;go_in;by_cases h0:0<=n;by_cases h1:n<(Z p:Int);have HR:Hid (R=aA):=aY Za;exact BV;have HR:Hid (R=az):=aY Za;exact BV;exact ajX
def xq(me:Int)(p bj:List Int)(d:rP)(s:eT):cJ:=⟨me,p,bj,s,[],0,[],[],[],[],d⟩
theorem aAs p bj me y v2 A w(h1:bD eH p y w)(h2:bD eH bj v2 w)(Y:Z p<=1000000)(nA:Z bj<=1000000)(hdv:A=aj U\/∃gd,A=aj (I ⟨gd,0,U⟩))(z:iH p=az\/iW p me=az\/A=aj U\/mU p bj=az) :aK aR 85 #[G J me,y,v2,A] w λe w'=>e=ak (au #[aj U,G J (if iH p then 1 else 120)])/\K w w':=by
 have HE:Hid ((if iH p then (1:Int)else 120)=if iH p then (1:Int)else 120):=aY rfl;have HT:Hid (zT p=if iH p then 0 else 120):=aY rfl;have C1:=aY λW (k:K w W)=>Nf p y W (cM h1 k) Y
 have t:=bn.new w 23 #[y];have k1:=t.cG;have hs:=bH h1;have S:=aY λn g W hg=>af6 p n y g W hs hg Y
 obtain⟨A1,c1,rfl⟩:=hs;obtain⟨A2,c2,rfl,gK,-⟩:=h2;have M:=aY gK;generalize hR:(if iH p then (1:Int)else 120)=R at HE|-;have HR:=aY hR;generalize zT p=T at *;go_in;go_upto_region 1 with fail;generalize w.alloc _=w1 at *;generalize D (L w)=g at t|-;have q:=t.cell;go_wp2_with fail
 apply bW (C1.aX w1 k1);intro w2 k2;replace t:=t.bM k2;replace k1:=k1.tr k2;cases ht:iH p;have HQ:Hid (R=120):=aY akt;obtain rfl:T=120:=by rw[HT.aX,ht];rfl
 exact Oh;have HQ:Hid (R=1):=aY akt;obtain rfl:T=0:=by rw[HT.aX,ht];rfl
 rw[ht]at z;replace z:=z.resolve_left bG;have B:=aY z;have O:=aY hdv;go_wp2_with fail
 apply bW (S.aX _ g w2 t);intro Q V;replace t:=t.bM V;replace k1:=k1.tr V;cases hm:iW p me;clear B O M;exact Oh;rcases O.aX with rfl|⟨gd,rfl⟩;clear B O M;exact Oh;have HH:=aY (by
  have:=B.aX;rw[hm]at this;exact (this.resolve_left bG).resolve_left bu)
 by_cases h3:Z bj<1;have h3':(Z bj:Int)<1:=aZ;exact Oh;have h3':¬(Z bj:Int)<1:=aZ;by_cases h4:32<Z bj;have h4':32<(Z bj:Int):=aZ;exact Oh;have h4':¬32<(Z bj:Int):=aZ;obtain⟨b,off,rfl,hcell⟩:=ints_at M.aX aZ;have yZ:=aY hcell;have hh:Hid (¬ ∀k (h:k<Z bj),iW p bj[k]=aA):=aY λh=>by
  have:=HH.aX;rw[show mU p bj=aA by
   simp only[mU,fI,decide_eq_true_eq,yq];exact⟨⟨aZ,aZ⟩,λx N=>by obtain⟨k,H,rfl⟩:=List.mem_iff_getElem.1 N;exact h k H⟩]at this
  cases this
 go_wp2_with fail
 have kk:=K.rf Q;go_loopw [13,43,44,45,46,47,48,49,50] (fun _ i _ _ _ _ _ _ _ W=>∃j:Nat,j<=Z bj/\i=G J j/\Hid (∀k (h:k<Z bj),k<j->iW p bj[k]=aA)/\K Q W) (fun _ i _ _ _ _ _ _ _ _=>Z bj-(aO i).toNat)
 case atStart=>exact⟨0,aZ,rfl,aY λk _ h=>aZ,kk⟩
 case round =>
  obtain⟨j,hj,rfl,C,kr⟩:=hrel;by_cases hlt:j<Z bj
  .have cE:(j:Int)<Z bj:=aZ;have cj:=yZ.aX wr (k1.tr kr) j hlt;have X:Hid (iW p bj[j]=aA->∀k (h:k<Z bj),k<j+1->iW p bj[k]=aA):=aY λh k H hkj=>by by_cases e:k=j;subst e;exact h;exact C.aX k H aZ
   generalize bj[j]=x at *;have qj:=t.bM kr;go_wp2_with fail
   apply bW (S.aX _ g wr qj);intro w4 k4;have kf:=k1.tr (kr.tr k4);cases N:iW p x
   .clear X C;go_wp2;go_ret2;exact⟨ru,kf⟩
   have y9:=aY (X.aX N);have iX:=kr.tr k4;go_wp2;go_roundw
   case rel=>exact⟨j+1,aZ,dh,y9,iX⟩
   case measure=>simp[aO];omega
  exact absurd (λk h=>C.aX k h aZ) hh.aX
theorem mI.F6{gd vh j w0 w w'}(h:mI gd vh j w w')(k:K w0 w)(_:∀b,nE gd vh b->b<D (L w0)):mI gd vh j w0 w':=⟨(bf.cz k _).tr h.up,λb t=>(h.new b t).imp id λa=>cQ k.size a⟩
structure abA(gd:Nat)(vh:aQ)(B:cJ)(w:aP)(e:Ending)(w':aP)(q:qu):Prop where
 ret:e=ak (au #[aj (I ⟨q.g,0,U⟩),G J 0])
 dd:q.gd=gd
 br:df (λk=>k<D (L w)\/cY q k) q B w'
 up:bf (nE gd vh) w w'
 new:∀k,cY q k->nE gd vh k\/D (L w)<=k
 g:D (L w)<=q.g
def aos(gd:Nat)(vh:aQ)(d:rP)(w:aP)(e:Ending)(w':aP):Prop:=∃j,e=ak (au #[aj U,G J 90])/\Mj gd j d w'/\mI gd vh j w w'
def GK(gd:Nat)(vh:aQ)(d:rP)(s:eT)(me:Int)(p bj:List Int)(w:aP)(e:Ending)(w':aP):Prop :=
 if jM (fA (eN s))<=d.room then ∃q,abA gd vh (xq me p bj ⟨fA (eN s),d.room⟩ (eN s)) w e w' q else aos gd vh d w e w'
theorem Oi{M e base l v w Y}(h:bK Y base e eH l v w)(y:∀b,aW v=I b->¬M b):Fx M (λW=>bD eH l v W) w:=λW u=>by obtain⟨B,t,A,j⟩:=h;have z:=Rm (j w (bf.rf _ _));exact Ry (kj t u y) (by rw[z];exact IC _ _)
theorem KC{P t kt y}(j:P.underlying t=some (.map kt y)) W:(Instr.makeMap t U).run P W=.ok (.map (I (D (L W)))) (aU W (.map #[] 0)):=by simp[Instr.makeMap,run_underlying j,go_sem]
theorem afw gd vh d s p bj me v1 v2 w(h:Mj gd vh d w)(hG:jr d s)(hA:Jm (d.ie.map dG))(hl:s.life+1<18446744073709551616)(T:Fx (nE gd vh) (λW=>bD eH p v1 W) w)(Y:Fx (nE gd vh) (λW=>bD eH bj v2 W) w)(ht:iH p=aA)(hm:iW p me=aA)(hh:mU p bj=aA) :aK aR 85 #[G J me,v1,v2,aj (I ⟨gd,0,U⟩)] w (GK gd vh d s me p bj w):=by
 have fR:Z p<=1000000:=Zk;obtain⟨⟨nA,xI⟩,hall⟩:(1<=Z bj/\Z bj<=32)/\∀x∈bj,iW p x=true:=by simpa only[mU,fI,decide_eq_true_eq,yq]using hh
 have zj:Hid (∀e H q,jM (fA (eN s))<=d.room->abA gd vh (xq me p bj ⟨fA (eN s),d.room⟩ (eN s)) w e H q->GK gd vh d s me p bj w e H):=aY λe H q c h=>by unfold GK;rw[bV c];exact⟨q,h⟩
 have uv:Hid (∀e H,¬jM (fA (eN s))<=d.room->aos gd vh d w e H->GK gd vh d s me p bj w e H):=aY λe H c h=>by unfold GK;rw[bQ c];exact h
 have HB:Hid (∀W e H,GJ gd vh d s W e H->if jM (fA (eN s))<=d.room then ∃gl Q vr vl vp va,abw gd vh ⟨fA (eN s),d.room⟩ (eN s) W e H gl Q vr vl vp va else abx gd vh d W e H):=aY λW e H h=>h
 have C3:=aY λW (k:K w W)=>as7 gd vh d s W (h.st k) hG hA hl
 generalize jM (fA (eN s))=DL at *;generalize hd':(⟨fA (eN s),d.room⟩:rP)=d' at *;generalize hs':eN s=z at *;generalize GK gd vh d s me p bj w=Post at *;generalize hBP:GJ gd vh d s=BP at *;have HDX:=aY h.lt;have H1:=aY T;have H2:=aY Y;clear hd' hs' hBP hG hl hh h;have HTT:zT p=0:=by unfold zT;rw[bV ht]
 have C1:=aY λW (k:K w W)=>Nf p v1 W (T.at k) fR
 rw[HTT]at C1;have B:=bn.new w 23 #[v1];have k1:=B.cG;have hs:=bH T.now;have C2:=aY λn g W hg=>af6 p n v1 g W hs hg fR
 obtain⟨A1,c1,rfl⟩:=hs;obtain⟨A2,c2,rfl,gK,-⟩:=Y.now;have Dc:=aY gK;clear T Y gK HTT ht;go_in;go_upto_region 1 with fail;generalize w.alloc _=w1 at *;generalize hg0:D (L w)=g at B|-;have Vi:=aY hg0;clear hg0;have q:=B.cell;go_wp2_with fail
 apply bW (C1.aX w1 k1);intro w2 k2;replace B:=B.bM k2;replace k1:=k1.tr k2;clear q k2 C1;go_wp2_with fail
 apply bW (C2.aX _ g w2 B);intro w3 k3;replace B:=B.bM k3;replace k1:=k1.tr k3;clear k3;rw[hm];have:¬(Z bj:Int)<1:=aZ;obtain⟨b,off,rfl,hcell⟩:=ints_at Dc.aX aZ;have yZ:=aY hcell;have Ue:Hid (∀k (h:k<Z bj),iW p bj[k]=aA):=aY λk t=>hall _ (dJ t)
 clear hcell Dc hall hm;go_wp2_with fail
 have kk:=K.rf w3;go_loopw [13,43,44,45,46,47,48,49,50] (fun _ i _ _ _ _ _ _ _ W=>∃j:Nat,j<=Z bj/\i=G J j/\K w3 W) (fun _ i _ _ _ _ _ _ _ _=>Z bj-(aO i).toNat)
 case atStart=>exact⟨0,aZ,rfl,kk⟩
 case round =>
  clear kk;obtain⟨j,hj,rfl,kr⟩:=hrel;by_cases hlt:j<Z bj
  .have cE:(j:Int)<Z bj:=aZ;have cj:=yZ.aX wr (k1.tr kr) j hlt;have y:=Ue.aX j hlt;generalize bj[j]=x at *;have qj:=B.bM kr;go_wp2_with fail
   apply bW (C2.aX _ g wr qj);intro w4 k4;rw[y];have iX:=kr.tr k4;clear y cj;go_wp2;go_roundw
   case rel=>exact⟨j+1,aZ,dh,iX⟩
   case measure=>simp[aO];omega
  have cE:¬(j:Int)<Z bj:=aZ;have kr:=k1.tr kr;have B:=B.bM aZ;clear hlt hj k1 Ue yZ C2;go_wp2_with fail
  refine (C3.aX wr kr).mono ?_;intro e w5 hP;replace hP:=HB.aX _ _ _ hP;have JV:=aY kr;have HBB:=aY B;clear HB C3 B kr;by_cases hfit:DL<=d.room
  .rw[bV hfit]at hP;obtain⟨gl,Q,vr,vl,vp,va,⟨rfl,hlg,O,JW,iR,jg⟩⟩:=hP;have Co:=aY hfit;have iU:=HBB.aX.cF JW λy=>by have:=HDX.aX _ y;have:=Vi.aX;omega
   obtain⟨⟨Al,cl,rfl⟩,⟨Ap,cp,rfl⟩,Aa,ca,rfl⟩:(∃A c,vl=F A (Z z.bq) c)/\(∃A c,vp=F A (Z z.bF) c)/\∃A c,va=F A (Z z.ab) c:=⟨bH O.now.1,bH O.now.2.1,bH O.now.2.2⟩;have C:=bn.new w5 61 oK;have q7:=C.cell;have z7:=C.frozen;have HLG:=aY hlg;have HST:=aY O;have F9:=aY JW;have Cp:=aY iR;clear hlg O JW iR jg hfit;go_upto_region 14 with fail;clear q7 z7 C;have C:=bn.new w5 61 (eO z (F Al (Z z.bq) cl) (F Ap (Z z.bF) cp) (F Aa (Z z.ab) ca));have R:=C.cG;generalize w5.alloc _=M at *;generalize D (L w5)=g7 at C|-;have ky:=iU.bM R;have q6:=ky.cells;have q7:=C.cells;have Mk:Hid (∀W,K M W->bD eH p (F A1 (Z p) c1) W):=aY λW k=>H1.aX W ((bf.cz JV.aX _).tr (F9.aX.tr (bf.cz (R.tr k) _)))
   have Dc:Hid (∀W,K M W->bD eH bj (F (I ⟨b,off,U⟩) (Z bj) c2) W):=aY λW k=>H2.aX W ((bf.cz JV.aX _).tr (F9.aX.tr (bf.cz (R.tr k) _)))
   clear iU ky C;go_upto_region 16 with fail;have qs:=aB q6 q7;refine aeH 9 [7,8] [([],[]),([],[]),([1],[(62,1)]),([],[]),([3],[(64,3)]),([],[]),([],[]),([],[]),([],[]),([0,2,4,5,6,7,8],[(61,0),(63,2),(65,4),(66,5),(67,6),(68,7),(69,8)]),([9],[(70,9)]),([0,1,2,3,4,5,6,7,8,9,10],[(71,10)]),([0,1,2,3,4,5,6,7,8,9,10,11],[])] 72 ?_;iterate 2 refine bB.i ?_
   refine bB.ints (D (L M)) p FZ aZ (λ_ k=>k.size) (λV W kW hp=>?_) ?_;exact aku;refine bB.i ?_;refine bB.ints (D (L M)) bj FZ aZ (λ_ k=>k.size) (λV W kW hp=>?_) ?_;exact akv;iterate 2 refine bB.i ?_
   refine bB.op (λv W=>∃b,v=.map (I b)/\D (L M)<=b/\fP encI W b []) (λ_ _ _ ⟨b,e,T,Y⟩ k=>⟨b,e,T,Y.st k⟩) (λV W kW hp=>?_) ?_
   .simp[dI,aL,bT,KC underlying159,fk];exact Zl
   refine bB.op (λv W=>∃b,v=.map (I b)/\D (L M)<=b/\fP oy W b []) (λ_ _ _ ⟨b,e,T,Y⟩ k=>⟨b,e,T,Y.st k⟩) (λV W kW hp=>?_) ?_
   .simp[dI,aL,bT,KC underlying160,fk];exact Zl
   clear qs;refine⟨λk t=>?_,λV W kW hne hA=>?_⟩;simp at t;rcases t with rfl|rfl;exact Zm;exact Zm;simp only[bZ,cC,dF,bS,Nat.reduceAdd]at hA;obtain⟨e0,e1,gG,e3,fq,e5,e6,⟨S,e7,UG,LU⟩,⟨b8,e8,sO,Vj⟩,-⟩:=hA;obtain⟨A5,c5,e2⟩:=gG.slice;obtain⟨A6,c6,e4⟩:=fq.slice;rw[e2]at gG;rw[e4]at fq;have aDO:S≠b8:=λe=>hne 7 bu 8 bu bG rfl rfl S Zn (by rw[e8,e];rfl)
   apply bN.pure;rfl;simp[bR,aC,cP,e0,e2,e4,e5,e6,e7,e8,aL,bT,go_sem];rfl;refine bN.val (aj (I ⟨D (L W),0,U⟩)) (aU W (aq #[G J me,F A5 (Z p) c5,F A6 (Z bj) c6,aj (I ⟨gl,0,U⟩),G E z.life,F Al (Z z.bq) cl,F Ap (Z z.bF) cp,F Aa (Z z.ab) ca,F U 0 0,G E 0,.map (I S),F U 0 0,.map (I b8),F U 0 0] 162)) rfl Zo ?_;apply bN.pure;rfl;simp[bR,aC,cP,aL,bT,go_sem];rfl;apply bN.pure;rfl;simp[bR,aC,cP,aL,bT,go_sem];rfl;refine bN.nil ?_;simp only[iO,Act.put,xm,vU,vT,Nat.reduceAdd,cP,e0,e1,e2,e3,e4,e5,e6,e7,e8];have hbk:=bn.new W 162 #[G J me,F A5 (Z p) c5,F A6 (Z bj) c6,aj (I ⟨gl,0,U⟩),G E z.life,F Al (Z z.bq) cl,F Ap (Z z.bF) cp,F Aa (Z z.ab) ca,F U 0 0,G E 0,.map (I S),F U 0 0,.map (I b8),F U 0 0];have ka:=hbk.cG;generalize hWa:W.alloc _=Wa at *;generalize dW:D (L W)=g9 at *;have HQ:Hid (Post (ak (au #[aj (I ⟨g9,0,U⟩),G J 0])) Wa):=aY (by
    have:=R.size;have:=F9.aX.size;have:=JV.aX.size;have k5:=R.tr (kW.tr ka);have aot:=HLG.aX.st k5;have aEB:=HLG.aX.lt;have:=LU.lt;have:=Vj.lt;have aou:=LU.st ka;have aov:=Vj.st ka;refine zj.aX _ _ ⟨g9,gl,gd,S,b8,Q,vr,F A5 (Z p) c5,F A6 (Z bj) c6,F Al (Z z.bq) cl,F Ap (Z z.bF) cp,F Aa (Z z.ab) ca,F U 0 0,F U 0 0,F U 0 0,[]⟩ Co.aX ⟨rfl,rfl,⟨hbk,aot,aou,aov,λW' u=>?_,λk t=>aJ t,λk t=>?_,aDO⟩,?_,λk t=>?_,?_⟩;have aDP:∀k,k<D (L w5)->(k<D (L w)\/k=g9\/k=S\/k=b8\/mK gl gd Q vr k)->(k<D (L wr)\/mK gl gd Q vr k):=λk t y=>by rcases y with y|y|y|y|y;exact aI aZ;omega;omega;omega;exact aJ y
    have O:=(HST.aX.to (X:=λ_=>False) (N:=λk=>k<D (L w)\/k=g9\/k=S\/k=b8\/mK gl gd Q vr k) (bf.cz k5 _) (λk t=>t.elim) aDP) W' u;have hno:∀(l:List Int) (A:Option Addr) (c:Nat),bK (λk=>k<D (L M)) (D (L M)) 3 eH l (F A (Z l) c) W->∀b,aW (F A (Z l) c)=I b->¬(b<D (L w)\/b=g9\/b=S\/b=b8\/mK gl gd Q vr b):=λl A c hO b B y=>by have:=hO.blk b B;obtain⟨bw,hr,-,-⟩:=hO;obtain⟨cur,aow⟩:=pH hr B;rcases y with y|y|y|y|y;omega;omega;subst y;exact LU.cells aow;subst y;exact Vj.cells aow;have:=aEB b y;omega
    have hi1:=(Oi gG (hno p A5 c5 gG)) W' ((bf.cz ka _).tr u);have hi2:=(Oi fq (hno bj A6 c6 fq)) W' ((bf.cz ka _).tr u);exact⟨hi1,hi2,O.1,O.2.1,O.2.2,iJ _ _,iJ _ _,iJ _ _,aAr _⟩;have h9:=hbk.lt;rcases t with t|t|t|t|t;omega;exact t▸h9;exact t▸aou.lt;exact t▸aov.lt;exact aot.lt k t;exact (bf.cz JV.aX _).tr (F9.aX.tr (bf.cz k5 _));rcases t with t|t|t|t;right;show _<=k;simp only at t;omega;right;simp only at t;omega;right;simp only at t;omega;exact (Cp.aX k t).imp id λh=>aZ
    show D (L w)<=g9;omega)
   clear LU Vj hbk ka gG fq zj uv;go_wp2;exact HQ.aX
  rw[bQ hfit]at hP;obtain⟨Q,rfl,hd,hu⟩:=hP;have C:=bn.new w5 61 oK;have q7:=C.cell;have z7:=C.frozen;have R:=C.cG;have HZ:=aY (uv.aX _ _ hfit ⟨Q,rfl,hd.st R,(hu.F6 JV.aX HDX.aX).k R⟩);clear hd hu hfit zj uv R;go_upto_region 14 with fail;generalize w5.alloc _=M at *;clear q7 z7 C;go_wp2;exact HZ.aX
structure dq(B:cJ):Prop where
 tr:iH B.par=aA
 me:iW B.par B.me=aA
 hm:mU B.par B.bj=aA
 dk:jr B.dk B.st
 tx:lH B.bI
 calls:B.calls<4611686018427387904
 dm:∀x∈B.dm,fT x.2=aA/\pU x.2
 cA:Z B.cA<=1000000
 iy:Z B.jn<=1000000
 dy:∀x∈B.dy,dE x=aA/\dZ x
 Cq:Z B.dy<=1000000
theorem NN{p bj}(h:mU p bj=aA):1<=Z bj/\Z bj<=32:=by grind [mU]
theorem afx{M p B w}(h:df M p B w)(T:dq B) c :aK aR 117 #[aj (I ⟨p.g,0,U⟩),G J c] w λe N=>e=ak (ar (Fg B c))/\K w N:=by
 have y:Hid (Fg B c=(decide (0<=c)&&decide (c<(Z B.bj:Int))&&decide (B.bj[c.toNat]?=I B.me))):=aY rfl;have q:=h.q;have z:=h.dz.now.bj;have:=NN T.hm;obtain⟨g,gl,gd,gr,gt,vd,vr,vp,vh,vl,vq,va,vt,vf,vw,kr⟩:=p;simp only at q z;obtain⟨A,c1,rfl,O,-⟩:=z;obtain⟨b,X,rfl,S⟩:=ints_at O aZ;generalize Fg B c=R at *;go_in;go_upto_region 1 with fail;rcases (show ¬0<=c\/(0<=c/\¬c<(Z B.bj:Int))\/(0<=c/\c<(Z B.bj:Int)) by omega)with j|⟨j,t⟩|⟨j,t⟩;have HR:Hid (R=az):=aY (by rw[y.aX];simp[j]);have qs:=aB q j;rotate_left;have HR:Hid (R=az):=aY (by rw[y.aX];simp[t]);have qs:=aB q (aB j t);rotate_left;obtain⟨n,rfl⟩:∃n:Nat,c=(n:Int):=⟨c.toNat,aZ⟩;have C:n<Z B.bj:=aZ;have Q:=λW k=>S W k n C
 have HR:Hid (R=decide (B.bj[n]=B.me)):=aY (by rw[y.aX];simp[t,C]);generalize B.bj[n]=x at *;have qs:=aB q (aB j (aB t Q));all_goals
  refine fD 26 ?_
  iterate 26 refine bB.i ?_
  intro V W H hA
  simp only[bZ,cC,dF,bS,Nat.reduceAdd]at hA
  refine bN.h ?_
  go_wp2
  go_ret
  exact⟨jB,H⟩
theorem anz:(prog.info? 178).map (λi=>(i.zero,i.size,i.bytes))=I (I (av (jz yE (F U 0 0) (F U 0 0))),9,104):=by rfl
theorem Mn:gQ aR 158 178 (av (jz yE (F U 0 0) (F U 0 0))) 9 104:=⟨underlying158,anz,rfl,bG⟩
def G3(g:Nat)(x:bU)(v:aQ)(W:aP):Prop:=∃vf j,v=av (cB x vf j)/\Fx (λk=>k<g) (λW=>cL.rel x (cB x vf j).toList W) W
def Qc(g:Nat)(t:eU)(v:aQ)(W:aP):Prop:=∃vf j,v=av (jz t vf j)/\Fx (λk=>k<g) (λW=>fe.rel t (jz t vf j).toList W) W
theorem akw{g x} v w w'(h:G3 g x v w)(k:K w w'):G3 g x v w':=h.imp λ_ h=>h.imp λ_ h=>⟨h.1,h.2.k k⟩
theorem anB{g x} v w w'(h:Qc g x v w)(k:K w w'):Qc g x v w':=h.imp λ_ h=>h.imp λ_ h=>⟨h.1,h.2.k k⟩
theorem aaX{B g}(hg:g<=B){x v w}(h:yF B x v w):G3 g x v w:=by obtain⟨vf,j,e,y⟩:=E5 h;exact⟨vf,j,e,y.less λk t=>cZ t hg⟩
theorem G3.tx{g t vf ve w}(h:Fx (λk=>k<g) (λW=>cL.rel t.e (cB t.e vf ve).toList W) w):Fx (λk=>k<g) (λW=>fe.rel t (jz t vf ve).toList W) w:=h.mono λW ⟨j,y,e,h1,h2⟩=>by exact YX
theorem M9 l v w(h:bD fe l v w)(hs:∀t∈l,gu t.e)(hn:Z l<=1000000) :aK aR 211 #[v] w λe O=>∃v',e=ak v'/\cW (D (L w)) (D (L w)) 178 fe l v' O/\K w O:=by
 obtain⟨A,c,rfl,hl,hc⟩:=h;have HS:=aY hs;have kk:=K.rf w;go_in;go_wp2_with fail
 go_loopw [3,5,8] (fun o _ i W=>∃j:Nat,j<=Z l/\i=G J j/\bK (fun k=>k<D (L w)) (D (L w)) 178 fe (l.take j) o W/\K w W) (fun _ _ i _=>Z l-(aO i).toNat)
 case atStart=>exact⟨0,aZ,rfl,by simpa using bK.nil _ _ _ _ _,kk⟩
 case round =>
  obtain⟨j,hj,rfl,M,kr⟩:=hrel;by_cases X:j<Z l
  .have cE:(j:Int)<Z l:=aZ;obtain⟨Y,off,cs,rfl,hcl,hrl,d0,d⟩:=fE hl j X bG;have HT:Hid (l.take (j+1)=l.take j++[l[j]]):=aY bu;have hst:=HS.aX _ (dJ X);generalize l[j]=t at *;obtain⟨vf,ve,rfl,hf,he⟩:=hrl w (K.rf w);obtain⟨B,z,rfl⟩:=dX hf;obtain⟨C,H,rfl⟩:=bH he;have HE:Hid (∀W,K w W->fM t.e (av (cB t.e (F B (Z t.e.f) z) (F C (Z t.e.es) H))) W):=aY λW k=>⟨_,_,rfl,fO _ _ _ _ hf k,cM he k⟩
   have d0:∀W,K w W->W.cell? ⟨Y,off+j*9,U⟩=I (G J t.e.bA):=d0;have d:∀W,K w W->∀i,i<9->W.cell? ⟨Y,off+j*9+i,U⟩=(jz t (F B (Z t.e.f) z) (F C (Z t.e.es) H))[i]?:=λW k i hi=>(d W k i hi).trans aD
   have:Z (l.take j)<=1000000:=cN;have AY:=M.blk;have R:=bn.new wr 178 (jz t (F B (Z t.e.f) z) (F C (Z t.e.es) H));have kA:=R.cG;have pY:D (L wr)<D (L (aU wr (aq (jz t (F B (Z t.e.f) z) (F C (Z t.e.es) H)) 178))):=bu;go_upto_region 5 with fail;have gL:=M.st kA;generalize wr.alloc _=T at *;have tB:=kr.size;generalize D (L wr)=g5 at R pY tB AY|-;generalize F B (Z t.e.f) z=vf at *;generalize F C (Z t.e.es) H=ve at *;have Q:=kr.tr kA;have qs:=R.cells;refine fD 8 ?_;iterate 3 refine bB.i ?_
   refine bB.c (G3 (D (L T)) t.e) akw (λW k=>(Nc t.e _ W (HE.aX _ (Q.tr k)) hst).mono λe O ⟨v,e1,ho,k1⟩=>⟨v,e1,aaX k.size ho,k1⟩) ?_;iterate 2 refine bB.i ?_
   refine bB.op (Qc (D (L T)) t) anB (λV W y hp=>?_) ?_;exact Zp;refine bB.row (S:=fe) (N:=λk=>k<D (L T)) _ _ 9 104 Mn rfl bG _ t rfl rfl (λV W y hp=>?_) ?_;exact akx;intro V W y hA;simp only[bZ,cC,dF,bS,Nat.reduceAdd]at hA;obtain⟨f0,-,-,-,-,-,-,f7,-⟩:=hA;have EG:=gL.st y;refine bN.push (.tmp 12) (.tmp 19) 158 _ 9 104 Mn rfl rfl rfl u3 (l.take j) t f0 EG (f7.less λk hk=>?_) aZ (cQ Q.size y.size) ?_
   .grind
   intro v9 w9 cX dW _ cV;rw[<- HT.aX]at cX;have kW9:=(Q.tr y).trans (cV.mono (bP _));have qs:=True.intro;have hA:=f0;refine bN.p ?_;refine bN.e ?_;generalize V 7=v7 at *;go_wp2;go_roundw
   case rel=>exact⟨j+1,aZ,dh,cX,kW9⟩
   case measure=>simp[aO];omega
  have cE:¬(j:Int)<Z l:=aZ;rw[jq aZ]at M;have HO:=aY M.toL;exact Zq
theorem ayg{l a k}(hk:k<Z l)(h:tg a l[k]=aA)(j:∀t∈l.take k,tg a t=az):lR l a=I k:=by grind [lR,List.findIdx?_eq_some_iff_getElem,List.mem_take_iff_getElem]
theorem awe{l a}(j:∀t∈l,tg a t=az):lR l a=none:=by grind [tg,lR]
theorem ayh{l a k}(h:lR l a=I k):uH l a=(k:Int):=by grind [uH]
theorem awf{l a}(h:lR l a=U):uH l a=-1:=by grind [uH]
theorem aAt a t:tg a t=(decide (t.e.br=a.1)&&decide (t.e.life=a.2.1)&&decide (t.e.eY=a.2.2)):=by grind [tg,o6]
theorem auR t a v g w(h:PR t v w)(hg:bn w g 42 #[G J a.1,G E a.2.1,G E a.2.2]) :aK aR 210 #[v,aj (I ⟨g,0,U⟩)] w λe z=>e=ak (ar (tg a t))/\K w z:=by
 obtain⟨vf,N,rfl,j,B⟩:=h;obtain⟨A,c,rfl⟩:=dX j;obtain⟨O,d,rfl⟩:=bH B;have HI:=aY (aAt a t);have q:=hg.cells;have:=λo=>(K.rf w).al o
 obtain⟨y,C,H⟩:=a;obtain⟨⟨k,b,l,s,cl,u,f,es⟩,eC⟩:=t;simp only at q HI|-;generalize tg (y,C,H) ⟨⟨k,b,l,s,cl,u,f,es⟩,eC⟩=R at *;exact Zr
theorem asp A c l a g w(h:yO fe l A w)(hlen:Z l<=1000000)(hg:bn w g 42 #[G J a.1,G E a.2.1,G E a.2.2]) :aK aR 209 #[F A (Z l) c,.func (Fn.func 210) #[] #[aj (I ⟨g,0,U⟩)]] w λe Q=>e=ak (G J (uH l a))/\K w Q:=by
 have R:=K.rf w;go_in;go_wp2_with fail
 go_loopw [5,8] (fun _ i wr=>∃k:Nat,k<=Z l/\i=G J k/\Hid (∀t∈l.take k,tg a t=az)/\K w wr) (fun _ i _=>Z l-(aO i).toNat)
 case atStart=>exact⟨0,aZ,rfl,aY bu,R⟩
 case round =>
  obtain⟨k,hk,rfl,B,kr⟩:=hrel;by_cases z:k<Z l
  .have O:(k:Int)<Z l:=aZ;obtain⟨C,M,cs,rfl,hcl,T,H,d⟩:=fE h k z bG;have HT:Hid (tg a l[k]=az->∀t∈l.take (k+1),tg a t=az):=by
    refine aY λh x y=>?_
    rw[iY z]at y;rcases List.mem_append.1 y with y|y;exact B.aX x y;simp at y;rw[y];exact h
   have V:=aY λh=>ayh (ayg z h B.aX)
   generalize l[k]=t at *;obtain⟨vf,N,rfl,S,Y⟩:=T wr kr;have H:∀W,K w W->W.cell? ⟨C,M+k*9,U⟩=I (G J t.e.bA):=H;have d:∀W,K w W->∀i,i<9->W.cell? ⟨C,M+k*9+i,U⟩=(jz t vf N)[i]?:=λW j hj=>λX=>(d W j hj X).trans aD
   go_wp2_with fail
   apply eu (auR t a _ g wr ⟨vf,N,rfl,S,Y⟩ (hg.bM kr)) kr;intro w2 k2 kW;cases y:tg a t;have rN:=aY (HT.aX y);exact K4;have HE:=aY (V.aX y);exact Zt
  have O:¬(k:Int)<Z l:=aZ;have HE:=aY (by
   have:=B.aX;rw[jq aZ]at this;exact awf (awe this))
  exact Oj
theorem RG l a v w(h:bD fe l v w)(C:Z l<=1000000) :aK aR 150 #[v,dD a] w λe z=>e=ak (G J (uH l a))/\K w z:=by
 obtain⟨A,c,rfl,B,-⟩:=h;have j:=bn.new w 42 #[G J a.1,G E a.2.1,G E a.2.2];have k1:=j.cG;have H:=aaT B k1;go_in;go_wp2_with fail
 generalize w.alloc _=t at *;apply bW (asp A c l a _ t H C j);intro M y;go_wp2;go_ret;exact⟨rfl,k1.tr y⟩
theorem aAu(l:List eU)(a:bY):DU l a=match lR l a with|none=>-1|some k=>if (l[k]?.map eU.eC)=I aA then -1 else (k:Int):=by
 unfold DU sf;cases lR l a with
 | none=>rfl
 | some k => grind
theorem Xj l a v w(h:bD fe l v w)(hlen:Z l<=1000000) :aK aR 251 #[v,dD a] w λe T=>e=ak (G J (DU l a))/\K w T:=by
 have Y:=h;obtain⟨A,c,rfl,hl,-⟩:=h;have hx:=bn.new w 42 #[G J a.1,G E a.2.1,G E a.2.2];have k1:=hx.cG;have C:=aY (aAu l a);have C1:=aY λW (j:K w W)=>RG l a _ W (cM Y j) hlen
 have M:Hid (uH l a=match lR l a with|none=>-1|some k=>(k:Int)):=aY (by unfold uH;cases lR l a <;> rfl);have HL:=aY λk h=>@Nt l a k h
 generalize DU l a=R at *;generalize uH l a=N at *;go_in;go_wp2_with fail
 generalize w.alloc _=Q at *;apply eu (C1.aX Q k1) k1;intro y k2 j;cases hs:lR l a with
 | none =>
  obtain rfl:N=-1:=by rw[M.aX,hs]
  obtain rfl:R=-1:=by rw[C.aX,hs]
  go_wp2;go_ret;exact⟨rfl,j⟩
 | some k =>
  obtain rfl:N=(k:Int):=by rw[M.aX,hs]
  obtain⟨t,z,-,-⟩:=HL.aX k hs;obtain⟨X,V⟩:=aF.1 z;have B:Hid (R=if t.eC=aA then -1 else (k:Int)):=aY (by rw[C.aX,hs];simp[z]);obtain⟨S,off,cs,rfl,hcl,H,d0,d⟩:=fE hl k X bG;rw[V]at H;obtain⟨vf,ve,rfl,-,-⟩:=H y j;have O:y.cell? ⟨S,off+k*9+8,U⟩=I (ar t.eC):=d y j 8 bG;have:(k:Int)<Z l:=aZ;have:(0:Int)<=(k:Int):=aZ;cases ha:t.eC
  .obtain rfl:R=(k:Int):=by rw[B.aX,ha];rfl
   rw[ha]at O;go_wp2;go_ret;exact⟨rfl,j⟩
  obtain rfl:R=-1:=by rw[B.aX,ha];rfl
  rw[ha]at O;go_wp2;go_ret;exact⟨rfl,j⟩
theorem agU x v w(h:fM x v w)(t:dZ x) :aK aR 212 #[v] w λe B=>e=ak (ar (uL x))/\K w B:=by
 have H:=aY λW (y:K w W)=>WG x v W (TG h y) t
 have HB:Hid (uL x=decide (3000<(Z (rW x):Int))):=aY (by
  unfold uL anN rW;rw[decide_eq_decide];omega)
 obtain⟨vf,C,rfl,-,-⟩:=h;have k1:=K.new w (aq (cB x vf C) 128);go_in;go_wp2_with fail
 generalize w.alloc _=j at *;refine (H.aX j k1).mono ?_;rintro e O⟨N,rfl,z,A⟩;obtain⟨M,c2,rfl,-⟩:=gS z;go_wp2;go_ret;exact⟨IQ,k1.tr A⟩
theorem agV l t v u w(h:bD fe l v w)(ht:PR t u w)(hfit:dZ t.e)(hs:gu t.e)(hl:∀s∈l,gu s.e)(hlen:Z l<=1000000) :aK aR 152 #[v,u] w λe H=>∃v',e=ak (au #[v',G J (uO l t).2])/\cW (D (L w)) (D (L w)) 178 fe (uO l t).1 v' H/\K w H:=by
 obtain⟨vf,ve,rfl,hf,he⟩:=ht;obtain⟨X,T,rfl⟩:=dX hf;obtain⟨Y,ce,rfl⟩:=bH he;have HE:Hid (∀W,K w W->fM t.e (av (cB t.e (F X (Z t.e.f) T) (F Y (Z t.e.es) ce))) W):=aY λW k=>⟨_,_,rfl,fO _ _ _ _ hf k,cM he k⟩
 have HV:=aY (anq h);obtain⟨A,c,rfl⟩:=bH h;have Q:Hid (uO l t=if uH l (o6 t.e)<0 then (if dE t.e=az then (l,110)else if 8<=Z l then (l,171)else if uL t.e then (l,172)else (l++[t],0))else (l,170)):=aY (by
  unfold uO uH;cases lR l (o6 t.e)with
  | none=>simp
  | some k =>
   simp only[Option.isSome_some,if_true];rw[bQ aZ])
 generalize uO l t=R at *;have HS:=aY hs;have HL:=aY hl;have HF:=aY hfit;have C:=bn.new w 178 (jz t (F X (Z t.e.f) T) (F Y (Z t.e.es) ce));have k1:=C.cG;go_in;go_wp2;go_step3;go_wp2_with fail
 generalize w.alloc _=w1 at *;generalize D (L w)=g3 at C|-;generalize F X (Z t.e.f) T=vf at *;generalize F Y (Z t.e.es) ce=ve at *;have:=C.cells;refine (M9 l _ w1 (HV.aX _ k1) HL.aX hlen).mono ?_;rintro e w2⟨u6,rfl,hO,k2⟩;have dt:=k1.tr k2;go_wp2_with fail
 go_step3;go_wp2_with fail
 refine (RG l (o6 t.e) _ w2 (HV.aX _ dt) hlen).mono ?_;rintro e w3⟨rfl,M⟩;have pr:=k1.size;replace hO:=hO.st M;replace dt:=dt.tr M;have j:=k2.tr M;have HW:=aY (cW.low (cW.floor hO pr) pr);generalize hI:uH l (o6 t.e)=ah at Q|-;by_cases hneg:ah<0;rotate_left;have HQ:Hid (R=(l,170)):=aY (by rw[Q.aX,bQ hneg]);exact K7;have kN:Hid (R=if dE t.e=az then (l,110)else if 8<=Z l then (l,171)else if uL t.e then (l,172)else (l++[t],0)):=aY (by rw[Q.aX,bV hneg]);go_wp2_with fail
 refine (Nb t.e _ w3 (HE.aX _ dt)).mono ?_;rintro e w4⟨rfl,k4⟩;replace hO:=hO.st k4;replace dt:=dt.tr k4;replace j:=j.tr k4;cases hok:dE t.e;have HQ:Hid (R=(l,110)):=aY (by rw[kN.aX,bV hok]);have HW:=aY (cW.low (cW.floor hO pr) pr);rw[ID hok];exact K7;rw[Ns hok];by_cases h8:8<=Z l;have AJ:(8:Int)<=(Z l:Int):=aZ;have HQ:Hid (R=(l,171)):=aY (by rw[kN.aX,bQ (by rw[hok];decide),bV h8]);exact aky;have AJ:¬(8:Int)<=(Z l:Int):=aZ;go_wp2_with fail
 refine (agU t.e _ w4 (HE.aX _ dt) HF.aX).mono ?_;rintro e B⟨rfl,O⟩;replace hO:=hO.st O;replace dt:=dt.tr O;replace j:=j.tr O;cases hb:uL t.e;rotate_left;have HQ:Hid (R=(l,172)):=aY akz;exact aky;have HQ:Hid (R=(l++[t],0)):=aY akz;go_upto_region 10 with fail;have gJ:=C.bM j;have AY:=hO.blk;have tB:=j.size;have fY:=cQ tB (bP (D (L B)));have qs:=gJ.cells;have hOY:=hO.wF;refine fD 8 ?_;iterate 3 refine bB.i ?_
 refine bB.c (G3 (D (L B)) t.e) akw (λW k=>(Nc t.e _ W (HE.aX _ (dt.tr k)) HS.aX).mono λe H ⟨v,e1,ho,k1⟩=>⟨v,e1,aaX k.size ho,k1⟩) ?_;iterate 2 refine bB.i ?_
 refine bB.op (Qc (D (L B)) t) anB (λV W y hp=>?_) ?_;exact Zp;refine bB.row (S:=fe) (N:=λk=>k<D (L B)) _ _ 9 104 Mn rfl bG _ t rfl rfl (λV W y hp=>?_) ?_;exact akx;intro V W y hA;simp only[bZ,cC,dF,bS,Nat.reduceAdd]at hA;obtain⟨f0,-,-,-,-,-,-,f7,-⟩:=hA;refine bN.push (.tmp 28) (.tmp 35) 158 _ 9 104 Mn rfl rfl rfl u6 l t f0 (hOY.st y) (f7.less λk z=>?_) aZ (cQ fY y.size) ?_;rcases z with z|z;omega;have:=AY k z;omega;intro v9 w9 cX dW _ cV;have kW9:=(dt.tr y).trans (cV.mono pr);have HW:=aY (cW.low (cW.floor cX.toL pr) pr);have qs:=True.intro;have hA:=f0;refine bN.p ?_;refine bN.e ?_;generalize V 7=v7 at *;go_wp2;try rw[jE]
 go_ret2;exact⟨_,ru,IX,kW9⟩
theorem akA t(y:t.e.f=[])(j:t.e.es=[]) w:PR t (av (jz t (F U 0 0) (F U 0 0))) w :=
 ⟨_,_,rfl,by rw[y];exact⟨U,0,rfl,Reads.nil _ _ _ _⟩,by rw[j];exact iJ _ _⟩
theorem aAv{a c}(j:ew a)(t:dA c):dZ (xD a c):=⟨by simp[xD,dA],j.1,t,j.2.1,j.2.2,K8,K8,K8⟩
theorem auS l a c v w(h:bD fe l v w)(y:ew a)(C:dA c)(B:∀s∈l,gu s.e)(H:Z l<=1000000) :aK aR 156 #[v,dD a,G J c] w λe j=>∃t,e=ak (au #[t,G J (zL l a c).2])/\cW (D (L w)) (D (L w)) 178 fe (zL l a c).1 t j/\K w j:=by
 have:=aY (anq h);have C1:=aY λW (z:K w W)=>agV l ⟨xD a c,az⟩ v _ W (cM h z) (akA ⟨xD a c,az⟩ rfl rfl W) (aAv y C) (by simp[gu,xD]) B H
 obtain⟨A,d,rfl⟩:=bH h;have k1:=K.new w (aq #[G J a.1,G E a.2.1,G E a.2.2] 42);unfold zL;generalize uO l ⟨xD a c,az⟩=R at *;exact akB
theorem agW l x v u w(h:bD fe l v w)(Q:fM x u w)(B:dZ x)(N:gu x)(H:∀s∈l,gu s.e)(O:Z l<=1000000) :aK aR 98 #[v,u] w λe y=>∃z,e=ak (au #[z,G J (qN l x).2])/\cW (D (L w)) (D (L w)) 178 fe (qN l x).1 z y/\K w y:=by
 obtain⟨vf,t,rfl,C,M⟩:=Q;have C1:=aY λW (j:K w W)=>agV l ⟨x,aA⟩ v (av (jz ⟨x,aA⟩ vf t)) W (cM h j) ⟨vf,t,rfl,fO _ _ _ _ C j,cM M j⟩ B N H O
 obtain⟨A,d,rfl⟩:=bH h;have k1:=K.new w (aq (cB x vf t) 128);unfold qN;generalize uO l ⟨x,aA⟩=R at *;exact akB
theorem Wy{α:Type} n:∀(bw:List (List α)),(∀j∈bw,Z j=n)->∀k,(bw.take k).flatten=bw.flatten.take (k*n)
 | [],_,k=>bu
 | c :: bw,h,0=>bu
 | c :: bw,h,k+1=>by have hc:=h c bu;have ih:=Wy n bw (λx hx=>h x K0) k;exact ajF
theorem Wz{α:Type} n:∀(bw:List (List α)),(∀t∈bw,Z t=n)->∀k,(bw.drop k).flatten=bw.flatten.drop (k*n)
 | [],_,k=>bu
 | c :: bw,h,0=>bu
 | c :: bw,h,k+1=>by have hc:=h c bu;have j:=Wz n bw (λx hx=>h x K0) k;rw[List.drop_succ_cons,List.flatten_cons,j,List.drop_append,show List.drop ((k+1)*n) c=[]from List.drop_eq_nil_of_le Sn,hc,show (k+1)*n-n=k*n by rw[Nat.succ_mul];omega,bZ]
theorem bn.anC:∀(vs:List aQ) {w:aP} {g o:Nat} {e:TypeId} {cur:Array aQ},bn w g e cur->bn (w.setCells g o vs) g e (Lib.lay cur o vs)
 | [],_,_,_,_,_,h=>h
 | v :: r,_,_,o,_,_,h=>bn.anC r (o:=o+1) (h.cH o v)
theorem afy g:∀(vs:List aQ) (o:Nat) (w:aP),w.grownBy (w.setCells g o vs) (I g)
 | [],_,w=>⟨rfl,rfl,rfl,bP _,λ_ _ _=>rfl⟩
 | v :: r,o,w=>by have h:=afy g r (o+1) (aV w ⟨g,o,U⟩ v);exact⟨h.os,h.tape,h.output,by have t:=h.size;rw[show D (L (aV w ⟨g,o,U⟩ v))=D (L w) by simp]at t;exact t,λk hk j=>(h.block k vP j).trans (Below.heap_setCell w ⟨g,o,U⟩ v k (by rintro rfl;exact j rfl))⟩
theorem as8{P w t e z cur}(N:P.underlying t=some (.slice e))(C:∀w,(zeroValue e).run P w=.ok z w) g o(hb:bn w g e cur)(Q:o+z.cells.size<=cur.size)(H:∀u∈z.cells.toList,u.oneCell'=aA) :∃j,(∀A c,(Builtin.clear_ #[t] A #[F (I ⟨g,o,U⟩) 1 c]).run P w=.ok (au #[]) j)/\bn j g e (cur.toList.take o++z.cells.toList++cur.toList.drop (o+z.cells.size)).toArray/\w.grownBy j (I g):=by
 have y:=run_storeCells_at P g o e z.cells.toList 0 cur w hb aZ H;simp only[Nat.add_zero,Array.length_toList]at y;have M:(Builtin.zeroCells z.cells 1).toList=z.cells.toList:=by simp[Builtin.zeroCells];apply List.ext_getElem;simp;grind [Nat.mod_eq_of_lt]
 refine⟨_,λA c=>?_,setRow_heap w g cur _ e _ hb,⟨rfl,rfl,rfl,bu,λk O B=>setRow_other w g k _ (λe=>B IW)⟩⟩;simp[Builtin.clear_,run_underlying N,C,M,y]
theorem aC0 W:(zeroValue 178).run aR W=.ok (av (jz yE (F U 0 0) (F U 0 0))) W:=by rfl
theorem atM l(base k j:Nat)(hj:j=k+1) v w(h:cW base base 178 fe l v w)(hk:k<Z l)(hlen:Z l<=1000000) :aK aR 294 #[v,G J k,G J j] w λe O=>∃v',e=ak v'/\cW base base 178 fe (l.eraseIdx k) v' O/\w.grownBy O (aW v):=by
 obtain⟨B,V,hcl,R⟩:=h;have S:∀Y∈B,Z Y=9:=(R w (cI.rf _ _ _)).lens;have anQ:=(R w (cI.rf _ _ _)).ones;rcases V.2 with ⟨h0,Cx⟩|⟨g,z,cur,rfl,g1,g2,g3,g4,g5,T⟩;omega;have g5:cur.size=z*9:=g5;have T:cur.toList.take (Z l*9)=B.flatten:=T;have N:bn w g 178 cur:=g2;have dU:Z B.flatten=Z l*9:=V.1;obtain⟨y,hnews⟩:∃y,y=B.flatten.drop (j*9):=⟨_,rfl⟩;obtain⟨m,hm⟩:∃m,m=Z l-j:=⟨_,rfl⟩;have hnl:Z y=m*9:=bL;have aba:∀t u,y[t]?=I u->cur[j*9+t]?=I u:=by grind
 obtain⟨A,hA,hsrc⟩:∃A:Addr,(if z=j then (I ⟨g,0,U⟩:Option Addr)else I ⟨g,j*9,U⟩)=I A/\Hid (∀t u,y[t]?=I u->w.drew.cell? (A.add t)=I u):=by by_cases h:z=j;refine⟨⟨g,0,U⟩,KZ,λt u hu=>?_⟩;have h0:Z y=0:=aZ;rw[List.length_eq_zero_iff.1 h0]at hu;simp at hu;refine⟨⟨g,j*9,U⟩,KZ,λt u hu=>?_⟩;rw[Addr.add_lit];exact (N.cell _).trans (aba t u hu)
 have s1:Hid (Z y=m*9):=hnl;have s2:Hid (∀u∈y,u.oneCell'=aA):=λu hu=>anQ u (List.mem_of_mem_drop (by rw[<- hnews];exact hu))
 have s3:Hid (∀t,t<Z y->(w.drew.cell? ⟨g,0+k*9+t,U⟩).isSome=aA/\w.drew.frozen? ⟨g,0+k*9+t,U⟩=az):=by intro t ht;refine⟨?_,N.frozen _⟩;show (w.cell? _).isSome=aA;rw[N.cell,Array.getElem?_eq_getElem aZ];rfl
 obtain⟨H,Q⟩:∃H,H=w.drew.setCells g (0+k*9) y:=⟨_,rfl⟩;have cK:bn H g 178 (Lib.lay cur (0+k*9) y):=by rw[Q];exact bn.anC y N.drew
 have C:w.drew.grownBy H (I g):=by rw[Q];exact afy g y _ _
 have W:(Lib.lay cur (0+k*9) y).size=z*9:=by rw[Lib.lay_size,g5]
 obtain⟨W2,aEs,hb2,M⟩:=as8 (P:=aR) (w:=H) (t:=158) (e:=178) underlying158 aC0 g ((Z l-1)*9) cK (by rw[W];show (Z l-1)*9+9<=_;omega) aBH;have HW:Hid (cW base base 178 fe (l.eraseIdx k) (F (I ⟨g,0,U⟩) (Z l-1) z) W2/\w.grownBy W2 (I g)):=by
  have ia:w.grownBy W2 (I g):=⟨M.os.trans C.os,M.tape.trans C.tape,M.output.trans C.output,cQ C.size M.size,λk hk hne=>(M.block k (cZ hk C.size) hne).trans (C.block k hk hne)⟩;have X:Z (l.eraseIdx k)=Z l-1:=bL;have Qd:Z (B.eraseIdx k)=Z l-1:=bL;refine⟨⟨B.eraseIdx k,⟨?_,aJ ⟨g,z,_,by rw[X],g1,hb2,aZ,g4,?_,?_⟩⟩,aZ,λO u=>?_⟩,ia⟩;rw[X,EX 9 _ (λY h=>S Y (List.mem_of_mem_eraseIdx h)),Qd];rfl;have h9:(av (jz yE (F U 0 0) (F U 0 0))).cells.size=9:=rfl;simp only[List.size_toArray,fg,sc,List.length_drop,Array.length_toList,W,h9];show _=z*9;omega
  .show List.take (Z (l.eraseIdx k)*9) _=_;rw[X,gA,List.take_append_of_le_length bL,List.take_take,Nat.min_self,List.eraseIdx_eq_take_drop_succ,List.flatten_append,Wy 9 B S,Wz 9 B S,<- hj,<- hnews];apply List.ext_getElem?;intro t;by_cases ht:t<(Z l-1)*9
   .rw[List.getElem?_take_of_lt ht,aD,Lib.lay_get? _ _ _ _ aZ];by_cases h1:t<k*9
    .grind
    grind
   grind
  have Qe:=R O (cI.tr (cI.gy ia base) u);rw[List.eraseIdx_eq_take_drop_succ,List.eraseIdx_eq_take_drop_succ];exact (Qe.take k).append (Qe.drop (k+1))
 have hW:Hid (H=w.drew.setCells g (0+k*9) y):=Q;obtain⟨i0,hi0,hz0⟩:=Option.map_eq_some_iff.1 anz;have hz1:i0.size=9:=bL;have:k+m=Z l-1:=aZ;have:k<=z:=aZ;have:k≠j:=aZ;have:k<=j:=aZ;have:j<=Z l:=aZ;have:=hm.symm;have:Z l-(Z l-1)=1:=aZ;have:¬(k:Int)=j:=aZ;clear hm hj;clear Q hcl R S anQ V T N dU hnews hnl aba cK C W hb2 M g2;go_in;go_wp2_with fail
 go_region_law (refine step_append_room rfl (.tmp 22) (.tmp 25) 158 rfl 178 i0 9 underlying158 hi0 hz1 g 0 k z dH A m (z-j) y dH s1.aX hsrc.aX s2.aX aZ s3.aX ?_;rw[<- hW.aX]);go_wp2;go_ret;exact⟨_,rfl,HW.aX.1,HW.aX.2⟩
theorem awg l a v w(h:bD fe l v w)(hl:∀s∈l,gu s.e)(hlen:Z l<=1000000) :aK aR 174 #[v,dD a] w λe z=>∃Y,e=ak (au #[Y,G J (iK l a).2])/\cW (D (L w)) (D (L w)) 178 fe (iK l a).1 Y z/\K w z:=by
 have C1:=aY λW (O:K w W)=>M9 l v W (cM h O) hl hlen
 have C2:=aY λW (O:K w W)=>Xj l a v W (cM h O) hlen
 obtain⟨A,d,rfl⟩:=bH h;have V:=bn.new w 42 #[G J a.1,G E a.2.1,G E a.2.2];have k1:=V.cG;have HI:Hid (DU l a=match sf l a with|some k=>(k:Int)|none=>-1):=aY rfl;have HC:Hid (iK l a=match sf l a with|none=>(l,170)|some k=>match l[k]? with|none=>(l,170)|some t=>(l.set k ⟨t.e,aA⟩,0)):=aY rfl;have HO:=aY λk h=>@IA l a k h
 generalize iK l a=R at *;generalize DU l a=ah at *;go_in;go_wp2_with fail
 generalize w.alloc _=M at *;have H:=k1.size;have N:Hid (D (L w)=D (L w)):=aY rfl;generalize ia:D (L w)=g at V H N|-;replace N:=aY ia;have:=V.cells;apply tY (C1.aX M k1) k1;intro v2 w2 B k2 C;go_wp2_with fail
 apply bW (C2.aX w2 C);intro j k3;replace C:=C.tr k3;replace B:=B.st k3;cases ho:sf l a with
 | none => obtain rfl:ah=-1:=DI;have HQ:Hid (R=(l,170)):=aY Ol;have X:=aY (cW.low (cW.floor B H) H);go_wp2;go_ret2;exact⟨_,ru,by rw[HQ.aX,N.aX];exact X.aX,C⟩
 | some k =>
  obtain rfl:ah=(k:Int):=DI;obtain⟨t,h1,-,-,-⟩:=HO.aX k ho;have HQ:Hid (R=(l.set k ⟨t.e,aA⟩,0)):=aY Zu;obtain⟨hk,xK⟩:=aF.1 h1;have:(k:Int)<Z l:=aZ;have:¬(k:Int)<0:=aZ;have hkb:=B.blk;obtain⟨y,Q,hcl,T⟩:=B;have yy:=(T j (cI.rf _ _ _)).lens;have hkc:k<Z y:=aZ;have dU:=(T j (cI.rf _ _ _)).D2;have S:k*9+8<Z y.flatten:=by rw[dU];show k*9+8<Z l*9;omega
  rcases Q.2 with ⟨h0,Cx⟩|⟨go,cap,cur,rfl,-⟩;omega;obtain⟨hcell,hfz⟩:=Dw Q;have d8:=hcell _ S;rw[aE S]at d8;have:=hfz (k*9+8);have aa0:=SB Q S (ar aA);have e9:y.flatten.set (k*9+8) (ar aA)=(y.set k ((y[k]).set 8 (ar aA))).flatten:=by rw[show k*9+8=k*fe.size+8 from rfl];exact Nh fe.size (ar aA) y yy k 8 hkc bG
  rw[e9]at aa0;have:=(hkb go rfl).1;have k4:K w (aV j ⟨go,k*9+8,U⟩ (ar aA)):=C.setCell (by have:=k1.size;simp;omega) _;have X:Hid (cW g g 178 fe (l.set k ⟨t.e,aA⟩) (F (I ⟨go,0,U⟩) (Z l) cap) (aV j ⟨go,k*9+8,U⟩ (ar aA))):=by refine aY (cW.low (cW.floor (base:=D (L M)) (lo:=D (L M)) (e:=178) ⟨y.set k ((y[k]).set 8 (ar aA)),bL,by simp[hcl],λz u=>?_⟩ H) H);have u3:cI (D (L M)) (I go) j z:=cI.tr (a:=j) (b:=j.setCell ⟨go,k*9+8,U⟩ (ar aA)) ⟨rfl,rfl,rfl,bu,λi _ _ h3=>Below.heap_setCell j ⟨go,k*9+8,U⟩ (ar aA) i (by rintro rfl;exact h3 rfl)⟩ u;have Qe:=T z u3;refine Qe.set k ?_;obtain⟨vf,ve,hcs,hf,he⟩:=Qe.2 k hk hkc;rw[xK]at hcs hf he;exact⟨vf,ve,by rw[hcs];rfl,hf,he⟩
  go_wp2;go_ret2;exact⟨_,ru,by rw[HQ.aX,N.aX];exact X.aX,k4⟩
theorem RH l a v w(h:bD fe l v w)(hl:∀s∈l,gu s.e)(B:Z l<=1000000) :aK aR 249 #[v,dD a] w λe M=>∃N,e=ak N/\cW (D (L w)) (D (L w)) 178 fe (gU l a) N M/\K w M:=by
 have C1:=aY λW (z:K w W)=>M9 l v W (cM h z) hl B
 have X:=aY λW (z:K w W)=>RG l a v W (cM h z) B
 obtain⟨A,d,rfl⟩:=bH h;have T:=bn.new w 42 #[G J a.1,G E a.2.1,G E a.2.2];have k1:=T.cG;have HI:Hid (uH l a=match lR l a with|some k=>(k:Int)|none=>-1):=aY rfl;have HC:Hid (gU l a=match lR l a with|none=>l|some k=>l.eraseIdx k):=aY rfl;have HO:=aY λk h=>@Nt l a k h
 generalize gU l a=R at *;go_in;go_wp2_with fail
 generalize w.alloc _=H at *;apply dP (C1.aX H k1);rintro u5 w2⟨j,k2⟩;have q:=T.cells;have y:=k1.tr k2;generalize uH l a=S at *;go_wp2_with fail
 apply bW (X.aX w2 y);intro V Q;replace y:=y.tr Q;replace j:=j.st Q;cases ho:lR l a with
 | none => obtain rfl:S=-1:=DI;have HQ:Hid (R=l):=aY Ol;have HW:=aY (cW.low (cW.floor j k1.size) k1.size);go_wp2;go_ret;exact⟨_,rfl,IX,y⟩
 | some k =>
  obtain rfl:S=(k:Int):=DI;have HQ:Hid (R=l.eraseIdx k):=aY Ol;obtain⟨t,h1,-⟩:=HO.aX k ho;obtain⟨hk,-⟩:=aF.1 h1;have O:=atM l (D (L H)) k (k+1) rfl u5 V j hk B;rw[show ((k+1:Nat):Int)=(k:Int)+1 by omega]at O;have HD:=aY O;have Y:=j.blk;have:¬(k:Int)<0:=aZ;have C:=k1.size;have HB:=aY λg h=>cQ C (Y g h).1
  have:(k:Int)<1000000:=aZ;go_wp2_with fail
  apply dP HD.aX;rintro v4 w4⟨fC,hg4⟩;have HW:=aY (cW.low (cW.floor fC C) C);have k4:=(cI.gy hg4 0).k y HB.aX;go_wp2;go_ret;exact⟨_,rfl,IX,k4⟩
theorem ayi l a v w(h:bD fe l v w)(B:∀s∈l,gu s.e)(t:Z l<=1000000) :aK aR 175 #[v,dD a] w λe y=>∃z,e=ak (au #[z,G J (jD l a).2])/\cW (D (L w)) (D (L w)) 178 fe (jD l a).1 z y/\K w y:=by
 have V:=aY λW (j:K w W)=>M9 l v W (cM h j) B t
 have S:=aY λW (j:K w W)=>Xj l a v W (cM h j) t
 have Q:=aY λW (j:K w W)=>RH l a v W (cM h j) B t
 obtain⟨A,d,rfl⟩:=bH h;have N:=bn.new w 42 #[G J a.1,G E a.2.1,G E a.2.2];have k1:=N.cG;have HI:Hid (DU l a=match sf l a with|some k=>(k:Int)|none=>-1):=aY rfl;have M:Hid (jD l a=if (sf l a).isSome then (gU l a,0)else (l,170)):=aY rfl;generalize jD l a=R at *;have q:=N.cells;go_in;go_wp2_with fail
 generalize w.alloc _=O at *;apply eu (S.aX O k1) k1;intro H X dt;generalize DU l a=C at *;cases ho:sf l a with
 | none =>
  obtain rfl:C=-1:=DI;have HQ:Hid (R=(l,170)):=aY (by rw[M.aX,ho];rfl);go_wp2_with fail
  apply dP (V.aX H dt);exact akC
 | some k =>
  obtain rfl:C=(k:Int):=DI;have HQ:Hid (R=(gU l a,0)):=aY (by rw[M.aX,ho];rfl);generalize gU l a=T at *;go_wp2_with fail
  apply dP (Q.aX H dt);exact akC
theorem Rw{M p B w}(h:df M p B w) :aK aR 161 #[aj (I ⟨p.g,0,U⟩)] w λe j=>e=ak (ar (ot B))/\K w j:=by have HR:Hid (ot B=decide (B.me=0)):=aY rfl;have q:=h.blk.cell;obtain⟨g,gl,gd,gr,gt,vd,vr,vp,vh,vl,vq,va,vt,vf,vw,kr⟩:=p;simp only at q;have kk:=K.rf w;generalize ot B=R at *;go_in;exact BV
theorem WX{M p B w}(h:df M p B w)(hG:dq B) :aK aR 165 #[aj (I ⟨p.g,0,U⟩)] w λe z=>∃C,e=ak C/\bK (λk=>k<D (L w)) (D (L w)) 3 eH (si B) C z/\K w z:=by
 have hn:Z B.par<=1000000:=by have:=rr hG.tr;omega
 have q:=h.q;have N:=aY λW (k:K w W)=>auK B.par B.me p.vp W (h.dz.at k).par hn
 have O:=bH h.dz.now.par;obtain⟨g,gl,gd,gr,gt,vd,vr,vp,vh,vl,vq,va,vt,vf,vw,kr⟩:=p;simp only at q N O;obtain⟨A,c,rfl⟩:=O;unfold si;generalize I6 B.par B.me=R at *;go_in;go_upto_region 1 with fail;have qs:=q;refine fD 9 ?_;iterate 8 refine bB.i ?_
 refine bB.op (λv W=>bK (λk=>k<D (L w)) (D (L w)) 3 eH R v W) (λ_ _ _ h k=>h.st k) (λV W j H=>?_) ?_
 ·(try simp only[dN,bZ,cC,dK,dL,bS]at H)
  simp[dI,bR,aC,H,fk,aL,bT,q,go_sem];apply dP (N.aX W j);rintro v4 w4⟨t,k4⟩;exact⟨_,rfl,(t.less λk X=>cZ X j.size).low j.size,k4⟩
 intro V W j hA;simp only[bZ,cC,dF,bS,Nat.reduceAdd]at hA;obtain⟨Q,e1,e2,e3,e4,S,Y,T,t,-⟩:=hA;obtain⟨A2,c2,y⟩:=t.slice;rw[y]at t;apply bN.pure;rfl;simp[bR,aC,cP,y,aL,bT,go_sem];rfl;refine bN.nil ?_;simp only[iO,Act.put,xm,vU,vT,Nat.reduceAdd,cP,Q,e1,e2,e3,e4,S,Y,T,y];go_wp2;go_ret;exact⟨_,rfl,t,j⟩
theorem af7 l a:(eX (sw l) a).isSome=fJ l a:=by
 have key:∀(l:List bY) (n i:Nat),(i6 a ((l.zipIdx n).map λp=>(p.1,G J p.2)) i).isSome=fJ l a:=by
  intro l;induction l with
  | nil=>intro n i;rfl
  | cons x l j => intro n i;simp only[List.zipIdx_cons,mN,i6,fJ,List.any_cons];by_cases h:x=a;simp[h];grind [eX,sw,fJ]
 unfold eX sw;grind
theorem Zv W:(zeroValue 3).run aR W=.ok (G J 0) W:=by rfl
theorem WA{M p B w}(h:df M p B w)(hG:dq B) a :aK aR 95 #[aj (I ⟨p.g,0,U⟩),dD a] w λe w'=>e=ak (ar (vO B a))/\K w w':=by
 have X:Hid (vO B a=(fJ B.cA a||fJ B.st.ab a)):=aY rfl;have C:=bn.new w 42 #[G J a.1,G E a.2.1,G E a.2.2];have k1:=C.cG;have:=aY h;have C1:=aY λW (k:K w W)=>KB B.st a (av (eO B.st p.vl p.vq p.va)) W ⟨_,_,_,rfl,(h.dz.at k).bq,(h.dz.at k).bF,(h.dz.at k).ab⟩ E7
 have N:=aY λW (k:K w W)=>(E0 T7 underlying160 (Zv W) (h.zk.st k) a).1
 simp only[af7]at N;have hs1:=bH h.dz.now.bq;have T:=bH h.dz.now.bF;have Q:=bH h.dz.now.ab;have q:=h.q;obtain⟨g,gl,gd,gr,gt,vd,vr,vp,vh,vl,vq,va,vt,vf,vw,kr⟩:=p;simp only at q C1 N hs1 T Q;obtain⟨Al,cl,rfl⟩:=hs1;obtain⟨Ap,cp,rfl⟩:=T;obtain⟨Aa,ca,rfl⟩:=Q;generalize (eX (sw B.cA) a).getD (G J 0)=vz at *;generalize vO B a=R at *;go_in;go_upto_region 1 with fail;generalize w.alloc _=O at *;generalize D (L w)=ga at C|-;have z:=C.cells;have S:=λW (k:K O W)=>q W (k1.tr k)
 have y:∀W,K O W->(Instr.lookup 160 (.map (I gt)) (av #[G J a.1,G E a.2.1,G E a.2.2]) aA).run aR W=.ok (au #[vz,ar (fJ B.cA a)]) W:=λW k=>N.aX W (k1.tr k)
 cases ht:fJ B.cA a
 .have HQ:Hid (R=fJ B.st.ab a):=aY (by rw[X.aX,ht];rfl);rw[ht]at y;have qs:=aB S (aB z y);refine fD 11 ?_;iterate 11 refine bB.i ?_
  intro V W kW hA;simp only[bZ,cC,dF,bS,Nat.reduceAdd]at hA;refine bN.h ?_;have A:=λj (k:K W j)=>q j (k1.tr (kW.tr k))
  have t:=λj (k:K W j)=>z j (kW.tr k)
  have k2:=k1.tr kW;generalize fJ B.st.ab a=aa at *;go_upto_region 2 with fail;have qs:=aB A t;refine fD 10 ?_;iterate 7 refine bB.i ?_
  refine bB.is (ar aa) (λV W kW Y=>?_) ?_
  ·(try simp only[dN,bZ,cC,dK,dL,bS]at Y)
   simp[dI,bR,aC,Y,fk,aL,bT,bS,A,t,go_sem];apply bW (C1.aX W (k2.tr kW));intro w4 k4;grind
  iterate 2 refine bB.i ?_
  exact akD
 have HQ:Hid (R=aA):=aY (by rw[X.aX,ht];rfl);rw[ht]at y;have qs:=aB S (aB z y);refine fD 11 ?_;iterate 11 refine bB.i ?_
 intro V W kW hA;simp only[bZ,cC,dF,bS,Nat.reduceAdd]at hA;refine bN.h ?_;have A:=λj (k:K W j)=>q j (k1.tr (kW.tr k))
 have t:=λj (k:K W j)=>z j (kW.tr k)
 have k2:=k1.tr kW;go_upto_region 2 with fail;have qs:=aB A t;refine fD 10 ?_;iterate 7 refine bB.i ?_
 refine bB.i ?_;iterate 2 refine bB.i ?_
 exact akD
section
open Go Go.RowKit Go.Sort
def sB(l:List bY)(a:bY):Nat:=(l.findIdx? λx=>decide (x=a)).getD 0
theorem agX(a:bY):∀(l:List bY) (n i:Nat),i6 a ((l.zipIdx n).map λp=>(p.1,G J p.2)) i=(l.findIdx? λx=>decide (x=a)).map λj=>(i+j,G J ((n+j:Nat):Int))
 | [],n,i=>rfl
 | x :: l,n,i=>by rw[List.zipIdx_cons,mN,List.findIdx?_cons];unfold i6;by_cases h:x=a;simp[h];simp only[h,if_false,decide_false,Bool.false_eq_true];rw[agX a l (n+1) (i+1),Option.map_map];congr 1;funext j;simp only[Function.comp_apply,Prod.mk.injEq,Value.int.injEq,true_and];constructor;omega;congr 1;omega
theorem ayj l a:(eX (sw l) a).getD (G J 0)=G J (sB l a:Int):=by unfold eX sw sB;rw[agX a l 0 0];cases l.findIdx? λx=>decide (x=a) <;> simp
theorem akE{l}(h:l.Nodup) i(j:i<Z l):sB l l[i]=i:=by
 unfold sB;have:(l.findIdx? λx=>decide (x=l[i]))=I i:=by grind [List.findIdx?_eq_some_iff_getElem,List.pairwise_iff_getElem]
 rw[this];rfl
def Jn(l:List bY)(x y:bY):Int:=Lib.compareInt (sB l x:Int) (sB l y:Int)
theorem Vk l x y:Go.Proofs.ltOf (Jn l) x y=decide (sB l x<sB l y):=by unfold ltOf Jn Lib.compareInt;grind
theorem aEC l:SWO (Go.Proofs.ltOf (Jn l)) where
 irrefl x:=by rw[Vk];simp
 trans x y z h1 h2:=by rw[Vk]at *;simp at *;omega
 ntrans x y z h1 h2:=by rw[Vk]at *;simp at *;omega
theorem auT{l}(h:l.Nodup){d t}(y:d.toList.Perm l)(C:PermIn 0 d.size d t)(A:SortedIn (Go.Proofs.ltOf (Jn l)) 0 d.size t):t.toList=l:=by
 obtain⟨N,-,Q⟩:=C;have z:t.toList.Perm d.toList:=by have M:(t.extract 0 d.size)=t:=bL;simp_all
 have H:=z.trans y;refine List.Perm.eq_of_pairwise (le:=λa b=>sB l a<=sB l b) ?_ ?_ ?_ H
 .grind [List.mem_iff_getElem,akE]
 .rw[List.pairwise_iff_getElem];intro i j R O B;have:=A i j (fw _) B bL;rw[Vk]at this;grind
 grind [List.pairwise_iff_getElem,akE]
theorem ayk a w:aK aR 256 #[G J a] w λe j=>e=ak (ar az)/\j=w:=Zb
theorem ayl a b w:aK aR 188 #[G J a,G J b] w λe t=>e=ak (G J (Lib.compareInt a b))/\t=w:=by
 have j:=aY λa W=>ayk a W
 have HR:Hid (Lib.compareInt a b=if a<b then -1 else if b<a then 1 else 0):=aY rfl;generalize Lib.compareInt a b=R at *;go_in;go_wp2_with fail
 apply bW (j.aX a w);rintro y rfl;go_wp2_with fail
 apply bW (j.aX b y);rintro z rfl;by_cases h1:a<b;have HE:Hid (R=-1):=aY akF;exact tP;by_cases h2:b<a;have HE:Hid (R=1):=aY akG;exact tP;have HE:Hid (R=0):=aY akH;exact tP
theorem fP.drewN{α enc w b}{bC:List (α×aQ)}(h:fP enc w b bC) n:fP enc (w.drewN n) b bC:=h
theorem as9 cA x y g gt gb A W(hg:bn W g 162 A)(hA:A[12]?=I (.map (I gt)))(hm:fP oy W gt (sw cA))(hb:bn W gb 114 #[aj (I ⟨g,0,U⟩)]) :aK aR 290 #[dD x,dD y,aj (I ⟨gb,0,U⟩)] W λe Q=>e=ak (G J (Jn cA x y))/\∃q V,Q=grow (W.drewN q) V:=by
 have N:=(bn.new W 42 (eI x)).alloc (aq (eI y) 42);have t:=bn.new (aU W (aq (eI x) 42)) 42 (eI y);have k1:=K.ou W (aq (eI x) 42) (aq (eI y) 42);have C:=(hg.bM k1).cell;have cK:=(hb.bM k1).cell 0;have H:=hm.st k1;have hw:∃os,(aU W (aq (eI x) 42)).alloc (aq (eI y) 42)=grow W os:=⟨_,by rw[alloc_eq_grow,alloc_eq_grow,grow_grow]⟩;have hz:D (L (aU W (aq (eI x) 42)))=D (L W)+1:=bu;rw[hz]at t;obtain⟨os,O⟩:=hw;have S:=aY O;have T:=aY λW=>ayl (sB cA x:Int) (sB cA y:Int) W
 have Y:Hid (Jn cA x y=Lib.compareInt (sB cA x:Int) (sB cA y:Int)):=aY rfl;have j:∀n (a:bY),(Instr.lookup 160 (.map (I gt)) (av #[G J a.1,G E a.2.1,G E a.2.2]) az).run aR (((aU W (aq (eI x) 42)).alloc (aq (eI y) 42)).drewN n)=.ok (G J (sB cA a:Int)) (((aU W (aq (eI x) 42)).alloc (aq (eI y) 42)).drewN n):=λn a=>by have:=(E0 T7 underlying160 (Zv _) (H.drewN n) a).2;rw[ayj]at this;exact this
 have q9:=(C 12).trans hA;clear hm H O hg hb C hz hA k1;have M:=N.cell;have qy:=t.cell;clear N t;go_in;go_upto_region 1 with fail;generalize ay (ay W _) _=w2 at *;generalize Lib.compareInt (sB cA x:Int) (sB cA y:Int)=R at *;generalize z:sB cA x=px at *;generalize B:sB cA y=py at *;have X:=λn=>j n x
 have Qf:=λn=>j n y
 rw[z]at X;rw[B]at Qf;clear j z B;have M:=λi=>M i
 go_quiet ((go_at_call 188;refine Calls.quiet_of_same (T.aX _)));go_wp2;go_ret;exact⟨by rw[Y.aX];rfl,_,os,by rw[S.aX];rfl⟩
end
section
open Go Go.RowKit Go.Shelf Go.Sort
shelf_lay_g SlLaysF0.n6 Slsf 6 at Tryz 314 as Tryz.akI
theorem aC1(l:List bY) i j(y:i<Z l)(t:j<3):(l.flatMap gF)[i*3+j]?=(gF l[i])[j]?:=by have e:l.flatMap gF=(l.map gF).flatten:=dH;have h:=zE 3 (l.map gF) (λz h=>bL) i j bL t;grind
theorem ahR d i j(y:i<d.size)(z:j<3):I (flatK gF 3 d)[i*3+j]! = (gF d[i])[j]?:=by have t:i*3+j<d.size*3:=aZ;rw[get_flatK gF 3 d _ t,show (i*3+j)/3=i by omega,show (i*3+j)%3=j by omega,getElem!_pos d i y];grind
theorem R3{w base g cap}{l:List bY}(h:w.ownsRow base 42 3 (F (I ⟨g,0,U⟩) (Z l) cap) (Z l) (l.flatMap gF))(O:base<=g):HoldsK gF 3 w g 0 l.toArray/\g<D (L w)/\base<=g/\Z l<=cap:=by rcases h.2 with ⟨e,-⟩|⟨S,R,cur,e,M,N,B,-,Q,H⟩;cases e;injection e with e1 e2 e3;injection e1 with e1;injection e1 with e1;subst e1 e3;have j:bn w g 42 cur:=N;refine⟨λt C=>⟨?_,j.frozen _⟩,j.lt,M,B⟩;rw[size_flatK,List.size_toArray]at C;have hi:t/3<Z l:=aZ;have A:t%3<3:=Nat.mod_lt _ bG;have z:t=t/3*3+t%3:=aZ;rw[j.cell];show cur[0+t]?=I _;rw[mr,show (flatK gF 3 l.toArray)[t]! = (flatK gF 3 l.toArray)[t/3*3+t%3]! by rw[<- z],id,ahR _ _ _ Sq A];have y:=aC1 l (t/3) (t%3) hi A;rw[<- z,<- H,List.getElem?_take_of_lt aZ]at y;rw[<- aD,y];simp
theorem aym{w g cap d}(h:HoldsK gF 3 w g 0 d)(hg:g<D (L w))(B:d.size<=cap):bD dQ d.toList (F (I ⟨g,0,U⟩) d.size cap) w:=by
 refine⟨_,cap,bu,⟨d.toList.map gF,Sa _ _,?_,λ_=>⟨g,0,rfl,hg,λt u A=>?_⟩⟩,aZ⟩;rw[EX 3 _ λz h=>bL];simp[dQ];have hl:t<d.size*3:=by have:=(aF.1 A).1;rw[EX 3 _ λz h=>bL]at this;simpa using this
 have hi:t/3<d.size:=aZ;have y:t%3<3:=Nat.mod_lt _ bG;have j:t=t/3*3+t%3:=aZ;rw[(h t YG).1,id,show (flatK gF 3 d)[t]! = (flatK gF 3 d)[t/3*3+t%3]! by rw[<- j],ahR _ _ _ hi y];have:=zE 3 (d.toList.map gF) (λz h=>by obtain⟨a,-,rfl⟩:=List.mem_map.1 h;rfl) (t/3) (t%3) Sq y;rw[<- j,A,List.getElem?_map,aE (show t/3<Z d.toList by simpa using hi)]at this;exact this.symm
theorem agY w g m d os:bf (λk=>k=g) w (sortWorldK gF 3 w g 0 m d os):=by refine⟨rfl,rfl,rfl,?_,λk t j=>?_⟩;simp[sortWorldK,grow,putRowK,putRow,mapBlock,Sort.ahead];simp only[sortWorldK,grow,putRowK,putRow,mapBlock,Sort.ahead];grind
theorem asI b y bC w(M:w.cell? ⟨y,0,U⟩=I (.map (I b)))(hm:fP oy w b bC)(N:Z bC<=1000000) :aK aR 313 #[.func (.func 315) #[] #[aj (I ⟨y,0,U⟩)]] w λe z=>∃(t:aQ) (j:List bY),e=ak t/\j.Perm (bC.map (·.1))/\z.ownsRow (D (L w)) 42 3 t (Z j) (j.flatMap gF)/\K w z:=by
 have C:=aY (asG b y bC w M hm N);go_in;go_wp2_with fail
 refine C.aX.mono ?_;rintro e Q⟨t,j,rfl,A,H,k⟩;have B:=aY A;have O:=aY H;go_wp2;go_ret;exact⟨_,j,rfl,B.aX,O.aX,k⟩
theorem ayn l:(sw l).map (·.1)=l:=by unfold sw;rw[List.map_map];exact List.zipIdx_map_fst 0 l
theorem asl{α}[Inhabited α] enc k w blk j(d dk:Array α) m os(t:HoldsK enc k w blk j d)(y:blk<D (L w))(z:dk.size=d.size):HoldsK enc k (sortWorldK enc k w blk j m dk os) blk j dk:=holdsK_sortWorldK_c enc k w blk j d dk m os t y z
theorem ata cA g gt gb Q A w(hg:bn w g 162 A)(hA:A[12]?=I (.map (I gt)))(hm:fP oy w gt (sw cA))(hb:bn w gb 114 #[aj (I ⟨g,0,U⟩)])(Y:w.cell? ⟨Q,0,U⟩=I (.map (I gt)))(hn:cA.Nodup)(hlen:Z cA<=1000000) :aK aR 288 #[.func (.func 315) #[] #[aj (I ⟨Q,0,U⟩)],.func (.func 290) #[] #[aj (I ⟨gb,0,U⟩)]] w λe S=>∃T,e=ak T/\bD dQ cA T S/\K w S:=by
 have C:=aY (asI gt Q (sw cA) w Y hm (by simpa [sw]using hlen));have hlt:=hm.lt;have C2:=aY λW (k:K w W) (l:List bY) (j cap:Nat) (t:W.ownsRow (D (L w)) 42 3 (F (I ⟨j,0,U⟩) (Z l) cap) (Z l) (l.flatMap gF)) (N:D (L w)<=j) (hl:Z l<=1000000) =>
  AnyQ.slices_SortFunc Tryz.akI 3 (λW=>Tryz.isAgg42 W) (λW=>Tryz.sizeOf42 W) gF (λ_=>rfl) (λx v hv=>by simp at hv;rcases hv with rfl|rfl|rfl <;> rfl) (Jn cA) (aEC cA) 290 #[aj (I ⟨gb,0,U⟩)] j 0 cap l.toArray W
   (enters_of func290 dH rfl)
   (λm os dk hs x y=>by
    have u:=agY W j m dk os;have B:=hg.lt;have dR:=hb.lt;exact as9 cA x y g gt gb A _ ((hg.below k B).cF u aZ) hA ((hm.st k).cF u aZ) ((hb.below k dR).cF u aZ))
   (R3 t N).1 (R3 t N).2.1 cN
 have C3:=aY λ(p:Option Addr) (cap:Nat) (fv:aQ) (W:aP)=>AnyF.slices_SortFunc_none Tryz.akI p cap fv W
 rw[ayn]at C;have HN:=aY hn;have HL:=aY hlen;go_in;go_wp2_with fail
 refine C.aX.mono ?_;rintro e M⟨v2,z,rfl,hp,t,R⟩;have JY:Z z<=1000000:=by rw[hp.length_eq];exact HL.aX
 have HP:=aY hp;have O:=aY t;rcases t.2 with ⟨rfl,N⟩|⟨j,cap,cur,rfl,hb,hc,Y,h2,h3,h4⟩
 .have ht:cA=[]:=by
   have:=HP.aX.length_eq;cases cA with
   | nil=>rfl
   | cons a l=>simp at this;omega
  go_wp2_with fail
  apply bW (C3.aX _ _ _ _);rintro V rfl;go_wp2;go_ret;exact⟨_,rfl,by rw[ht];exact iJ _ _,R⟩
 have H4:=aY (C2.aX M R z j cap O.aX hb JY);have B:=(R3 O.aX hb).2.1;have HH:=aY (R3 O.aX hb).1;go_wp2_with fail
 apply bW H4.aX;rintro V⟨H,n,os,X,hs',rfl⟩;have u:=agY M j n H os;have hd:=auT HN.aX (d:=z.toArray) iF X hs';have hsz:H.size=Z z:=by have:=X.1;simpa using this
 have HF:=aY (aym (cap:=cap) (asl gF 3 M j 0 z.toArray H n os HH.aX B aZ) (cZ B u.size) aZ);have kF:=u.k R λk hk=>aZ
 have HKF:=aY kF;generalize sortWorldK gF 3 M j 0 n H os=V at *;go_wp2;go_ret;exact⟨_,rfl,by rw[<- hd,<- hsz];exact HF.aX,HKF.aX⟩
end
theorem lH.small{l}(h:lH l):∀t∈l,gu t.e:=λt j=>wX (h.each t j).1
def Uf(lo:Nat)(t:TypeId)(cs:Array aQ)(v:aQ)(W:aP):Prop:=∃b,v=aj (I ⟨b,0,U⟩)/\lo<=b/\bn W b t cs
theorem aBI lo t cs:∀v w j,Uf lo t cs v w->aN (D (L w)) w j->Uf lo t cs v j:=by rintro v w j⟨b,e,y,h⟩ k;exact⟨b,e,y,h.bM k⟩
theorem aAw{lo} t cs(W:aP)(h:lo<=D (L W)):Uf lo t cs (aj (I ⟨D (L W),0,U⟩)) (aU W (aq cs t)):=⟨_,rfl,h,bn.new W t cs⟩
section
variable {M:Nat->Prop}{p:qu}{B:cJ}{w:aP}
theorem df.Pj(h:df M p B w){l v}(j:Fx M (λW=>bD fe l v W) w):df M { p with vt:=v } { B with bI:=l } (aV w ⟨p.g,8,U⟩ v) :=
 h.cell 8 v (h.blk.cH 8 v) ⟨rfl,rfl,rfl,rfl,rfl,rfl,rfl,rfl⟩ ⟨rfl,rfl⟩ λW u d=>⟨d.par,d.bj,d.bq,d.bF,d.ab,j W u,d.iy,d.dy,d.dm⟩
theorem df.aED(h:df M p B w) n:df M p { B with calls:=n } (aV w ⟨p.g,9,U⟩ (G E n)) :=
 h.cell 9 _ (h.blk.cH 9 _) ⟨rfl,rfl,rfl,rfl,rfl,rfl,rfl,rfl⟩ ⟨rfl,rfl⟩ λW u d=>⟨d.par,d.bj,d.bq,d.bF,d.ab,d.bI,d.iy,d.dy,d.dm⟩
theorem df.aEE(h:df M p B w){l v}(j:Fx M (λW=>bD cL l v W) w):df M { p with vw:=v } { B with dy:=l } (aV w ⟨p.g,13,U⟩ v) :=
 h.cell 13 v (h.blk.cH 13 v) ⟨rfl,rfl,rfl,rfl,rfl,rfl,rfl,rfl⟩ ⟨rfl,rfl⟩ λW u d=>⟨d.par,d.bj,d.bq,d.bF,d.ab,d.bI,d.iy,j W u,d.dm⟩
theorem df.aEF(h:df M p B w){l v}(j:Fx M (λW=>bD dQ l v W) w):df M { p with vf:=v } { B with jn:=l } (aV w ⟨p.g,11,U⟩ v) :=
 h.cell 11 v (h.blk.cH 11 v) ⟨rfl,rfl,rfl,rfl,rfl,rfl,rfl,rfl⟩ ⟨rfl,rfl⟩ λW u d=>⟨d.par,d.bj,d.bq,d.bF,d.ab,d.bI,j W u,d.dy,d.dm⟩
theorem df.aox{p' B' w'}(h:df M p B w)(hg:p'.g=p.g/\p'.gl=p.gl/\p'.gd=p.gd/\p'.gr=p.gr/\p'.gt=p.gt/\p'.vd=p.vd/\p'.vr=p.vr)(z:df M p' B' w')(u:bf (cY p) w w'):fG M p B' w w':=by
 have t:∀k,cY p' k↔cY p k:=λk=>by grind [cY]
 exact⟨p',z.less (λk j=>aJ j) (λk j=>j.elim id λy=>h.sub k ((t k).1 y)),u,(by grind [qu.key]),λk j=>aI ((t k).1 j)⟩
theorem cW.Qg{e α S}{l:List α}{v w'}(h:cW (D (L w)) (D (L w)) e S l v w')(j:∀k,M k->k<D (L w)):Fx M (λW=>Go.Proofs.YtcjlnlcpodcldaaGreat.bD S l v W) w':=(h.wF.fx λ_ h=>h).less j
end
theorem WY{M p B w}(h:df M p B w){l v} c(y:Fx M (λW=>bD fe l v W) w) :aK aR 172 #[aj (I ⟨p.g,0,U⟩),v,G J c] w λe C=>e=ak (G J (gg B (l,c)).2)/\fG M p (gg B (l,c)).1 w C:=by
 have H:Hid (gg B (l,c)=if c=0 then ({ B with bI:=l },0)else (B,c)):=aY rfl;generalize gg B (l,c)=R at *;have t:=aY (h.aox (p':={ p with vt:=v }) ⟨rfl,rfl,rfl,rfl,rfl,rfl,rfl⟩ (h.Pj y) (bf.dx (X:=cY p) (aI rfl) 8 v));have j:=aY (h.n (K.rf w));have q:=h.blk.cell;have z:=h.blk.frozen;obtain⟨A,N,rfl⟩:=bH y.now;obtain⟨g,gl,gd,gr,gt,vd,vr,vp,vh,vl,vq,va,vt,vf,vw,kr⟩:=p;simp only at q z t j;go_in;by_cases hc:c=0
 .subst hc;have HR:Hid (R=({ B with bI:=l },0)):=aY iF;go_wp2;go_ret;exact⟨jB,by rw[HR.aX];exact t.aX⟩
 have HR:Hid (R=(B,c)):=aY (by rw[H.aX,bQ hc]);have:(c==0)=false:=GH;go_wp2;go_ret;exact⟨jB,by rw[HR.aX];exact j.aX⟩
theorem WZ{M p B w}(h:df M p B w)(hG:dq B) c(f:Nat) cs lay(hf:∀args W,(callFunc f args).run aR W=.ok (.enter f args) W)(aoy:∀W,K w W->aK aR f (#[dD (mT B)]++cs) W λe w'=>∃v',e=ak (au #[v',G J lay.2])/\cW (D (L W)) (D (L W)) 178 fe lay.1 v' w'/\K W w') :aK aR 96 #[aj (I ⟨p.g,0,U⟩),G J c,.func (.func f) #[] cs] w λe w'=>e=ak (au #[dD (jF B c lay).2.1,G J (jF B c lay).2.2])/\fG M p (jF B c lay).1 w w':=by
 have HK:Hid (jF B c lay=if Fg B c then (if lay.2=0 then ({ B with bI:=lay.1,calls:=B.calls+1 },mT B,0)else (B,(0,0,0),lay.2))else (B,(0,0,0),200)):=aY rfl;generalize jF B c lay=R at *;have H:=aY h;have HX:=aY λk j=>h.low k (h.sub k j)
 have HM:=aY h.low;have hcl:=hG.calls;have C1:=aY λW (k:K w W)=>afx (h.st k) hG c
 have C2:=aY aoy;have q:=h.q;have hr:=bn.new w 42 #[G J 0,G E 0,G E 0];have k0:=hr.cG;generalize Fg B c=HB at *;generalize iR:mT B=t at *;obtain⟨z,fR⟩:∃n,n=B.calls+1:=⟨_,rfl⟩;have Cp:Hid (t=(B.me,B.st.life,z)):=aY (by rw[fR];exact iR.symm);have hw:E.wrap ((B.calls:Int)+1)=(z:Int):=by rw[IntWalk.u64_in _ (by omega),fR];omega
 have De:=aY fR;clear fR hcl;clear h hG aoy iR;go_in;go_upto_region 1 with fail;generalize w.alloc _=w1 at *;generalize ia:D (L w)=y at hr|-;have JX:=aY ia;clear ia;go_wp2_with fail
 refine (C1.aX w1 k0).mono ?_;rintro e w2⟨rfl,k2⟩;have O:=hr.bM k2;have dt:=k0.tr k2;clear C1 hr;cases Vm:HB
 .have HR:Hid (R=(B,(0,0,0),200)):=aY (by rw[HK.aX,Vm];rfl);have qr:=O.cell;have zr:=O.frozen;clear HK C2 q;go_wp2;have ui:bn (ax (ax (ax w2 _ _) _ _) _ _) y 42 #[G J 0,G E 0,G E 0]:=((O.cH 0 (G J 0)).cH 1 (G E 0)).cH 2 (G E 0);have kS:=K.set (K.set (K.set dt (r:=y) Zw 0 (G J 0)) (r:=y) Zw 1 (G E 0)) (r:=y) Zw 2 (G E 0);clear qr zr O;generalize ax (ax (ax w2 _ _) _ _) _ _=W9 at *;have e9:=ui.cell;try rw[jE]
  refine aM (v:=au #[dD (0,0,0),G J 200]) Zx rfl ?_;exact⟨Om,by rw[HR.aX];exact H.aX.n kS⟩
 have JK:Hid (R=if lay.2=0 then ({ B with bI:=lay.1,calls:=B.calls+1 },t,0)else (B,(0,0,0),lay.2)):=aY (by rw[HK.aX,Vm,bV rfl]);have q2:=λW (k:K w2 W)=>q W (dt.tr k)
 subst Vm;clear HK q;obtain⟨g,gl,gd,gr,gt,vd,vr,vp,vh,vl,vq,va,vt,vf,vw,kr⟩:=p;simp only at q2;go_upto_region 5 with fail;have qs:=aB q2 hw;refine fD 16 ?_;iterate 15 refine bB.i ?_
 refine bB.op (Uf (D (L w2)) 42 #[G J 0,G E 0,G E 0]) (aBI _ _ _) (λV W kW hp=>?_) ?_
 .simp[dI,bR,aC,fk,aL,bT,go_sem];exact⟨aAw _ _ _ kW.size,(K.rf W).al _⟩
 clear qs;intro V W kW hA;simp only[bZ,cC,dF,bS,Nat.reduceAdd]at hA;obtain⟨e0,e1,e2,e3,e4,e5,e6,e7,e8,e9,iV,sP,JZ,Ga,Mp,⟨b8,vG,nF,vH⟩,-⟩:=hA;have Q:=vH.cell;have z8:=vH.frozen;obtain⟨T,Vn⟩:∃T,T=ax (ax (ax W ⟨b8,0,U⟩ (G J B.me)) ⟨b8,1,U⟩ (G E B.st.life)) ⟨b8,2,U⟩ (G E z):=⟨_,rfl⟩;refine bN.skip T rfl (by rw[Vn];simp[bR,aC,Mp,vG,cP,aL,bT,Q,z8,go_sem]) ?_;refine bN.nil ?_;simp only[iO,Act.put,xm,vU,vT,Nat.reduceAdd,cP,e0,e1,e2,e3,e4,e5,e6,e7,e8,e9,iV,sP,JZ,Ga,Mp,vG];have Mq:bn T b8 42 #[G J t.1,G E t.2.1,G E t.2.2]:=by rw[Vn,Cp.aX];exact ((vH.cH 0 (G J B.me)).cH 1 (G E B.st.life)).cH 2 (G E z)
 have k8:K w2 T:=by rw[Vn];exact K.set (K.set (K.set kW nF 0 _) nF 1 _) nF 2 _
 have wG:=O.bM k8;have Y:=dt.tr k8;have Vo:=aY nF;have C3:=aY (C2.aX T Y);have HW:=aY hw;clear Q z8 vH O nF Vn e0 e1 e2 e3 e4 e5 e6 e7 e8 e9 iV sP JZ Ga Mp vG kW q2 hw C2 k8;have Q:=Mq.cell;go_wp2_with fail
 refine C3.aX.mono ?_;rintro e A⟨v4,rfl,fC,C⟩;have:=JX.aX;have lr:=(Y.tr C).size;have:=cZ wG.lt C.size;have hB4:df (λk=>M k\/k=y) _ B A:=H.aX.far (X:=λ_=>False) (bf.cz (Y.tr C) _) (λk j=>j.elim) (λk j=>j.elim) (λk j N=>N.resolve_right aZ) (λk j=>aI (H.aX.sub k j)) (λk j=>j.elim (λh=>cZ (HM.aX k h) lr) λe=>aZ);have lO:Fx (λk=>M k\/k=y) (λW=>bD fe lay.1 v4 W) A:=fC.Qg λk j=>j.elim (λh=>cZ (HM.aX k h) Y.size) λe=>e▸wG.lt
 have Qh:=Mq.bM C;have S:=wG.bM C;have Br:=Y.tr C;obtain⟨A4,c4,rfl⟩:=bH lO.now;clear C3 fC C Q Mq wG Y;by_cases hc:lay.2=0;rotate_left
 .have HR:Hid (R=(B,(0,0,0),lay.2)):=aY (by rw[JK.aX,bQ hc]);have:(lay.2 != 0)=true:=GH;have qr:=S.cell;have zr:=S.frozen;clear hB4 lO Qh JK;go_wp2;have ui:bn (ax (ax (ax A _ _) _ _) _ _) y 42 #[G J 0,G E 0,G E 0]:=((S.cH 0 (G J 0)).cH 1 (G E 0)).cH 2 (G E 0);have kS:=K.set (K.set (K.set Br (r:=y) aZ 0 (G J 0)) (r:=y) aZ 1 (G E 0)) (r:=y) aZ 2 (G E 0);clear qr zr S;generalize ax (ax (ax A _ _) _ _) _ _=W9 at *;have e9:=ui.cell;try rw[jE]
  refine aM (v:=au #[dD (0,0,0),G J lay.2]) Zx rfl ?_;exact⟨Om,by rw[HR.aX];exact H.aX.n kS⟩
 have HR:Hid (R=({ B with bI:=lay.1,calls:=B.calls+1 },t,0)):=aY (by rw[JK.aX,bV hc]);have q4:=hB4.blk.cell;have z4:=hB4.blk.frozen;have Hy:df (λk=>M k\/k=y) ⟨g,gl,gd,gr,gt,vd,vr,vp,vh,vl,vq,va,F A4 (Z lay.1) c4,vf,vw,kr⟩ { B with bI:=lay.1,calls:=z } ((aV A ⟨g,8,U⟩ (F A4 (Z lay.1) c4)).setCell ⟨g,9,U⟩ (G E z)):=(hB4.Pj lO).aED z;have u5:bf (λk=>k=g) A ((aV A ⟨g,8,U⟩ (F A4 (Z lay.1) c4)).setCell ⟨g,9,U⟩ (G E z)):=(bf.dx (X:=λk=>k=g) rfl 8 _).tr (bf.dx (X:=λk=>k=g) rfl 9 _);have:=HX.aX g (aI rfl);have:=Vo.aX;have:=dt.size;have hy5:=Qh.cF u5 aZ;have lG:=S.cF u5 aZ;have hw:=HW.aX;rw[hc];clear hB4 lO hc JK Qh S;simp only at q4 z4;go_upto_region 11 with fail;generalize (aV A ⟨g,8,U⟩ _).setCell ⟨g,9,U⟩ _=w5 at *;clear q4 z4 hw;have Q:=hy5.cell;have qr:=lG.cell;have zr:=lG.frozen;go_wp2;have ui:bn (ax (ax (ax w5 _ _) _ _) _ _) y 42 #[G J t.1,G E t.2.1,G E t.2.2]:=((lG.cH 0 (G J t.1)).cH 1 (G E t.2.1)).cH 2 (G E t.2.2);have u9:bf (λk=>k=y) w5 _:=((bf.dx (X:=λk=>k=y) rfl 0 (G J t.1)).tr (bf.dx (X:=λk=>k=y) rfl 1 (G E t.2.1))).tr (bf.dx (X:=λk=>k=y) rfl 2 (G E t.2.2));clear qr zr lG Q;generalize ax (ax (ax w5 _ _) _ _) _ _=W9 at *;have e9:=ui.cell;have:=u5.size;have:=u9.size;have xP:=Hy.far (M':=M) u9 (λk j=>aJ j) (λk j N=>by have:=HX.aX k N;omega) (λk j N=>aI N) (λk j=>H.aX.sub k j) (λk j=>by have:=HM.aX k j;omega);have hU:bf (cY ⟨g,gl,gd,gr,gt,vd,vr,vp,vh,vl,vq,va,vt,vf,vw,kr⟩) w W9:=((bf.cz Br _).tr (u5.more λk j=>aI j)).ir u9 λk j N=>aZ
 have Df:=aY (H.aX.aox (p':=⟨g,gl,gd,gr,gt,vd,vr,vp,vh,vl,vq,va,F A4 (Z lay.1) c4,vf,vw,kr⟩) ⟨rfl,rfl,rfl,rfl,rfl,rfl,rfl⟩ xP hU);try rw[jE]
 refine aM (v:=au #[dD t,G J 0]) Zx rfl ?_;exact⟨Om,by rw[HR.aX,<- De.aX];exact Df.aX⟩
theorem aAx{Y base v l W}(h:W.ownsRow base 42 3 v (Z l) (l.flatMap gF)):bK Y base 42 dQ l v W :=
 ⟨l.map gF,by rw[<- List.flatMap_def];exact h,bu,λj _=>Sa l j⟩
theorem af8{v l W}(h:bD dQ l v W):∃A c,v=F A (Z l) c/\Reads W (D (L W)) 3 A (Z l) (l.flatMap gF):=by
 obtain⟨A,c,rfl,⟨z,t,j⟩,-⟩:=h;have e:z=l.map gF:=by apply List.ext_getElem (by simpa using t.1);intro i y B;rw[List.getElem_map];exact t.2 i bL y
 rw[e,<- List.flatMap_def]at j;exact⟨A,c,rfl,j⟩
theorem atO{M p B w}(h:df M p B w)(T:dq B)(hn:B.cA.Nodup) :aK aR 237 #[aj (I ⟨p.g,0,U⟩)] w λe Y=>∃v',e=ak v'/\bK (λk=>k<D (L w)) (D (L w)) 42 dQ (DN B) v' Y/\K w Y:=by
 have HR:Hid (DN B=B.st.ab++B.cA):=aY rfl;have:=T.dk.len;have gT:=T.cA;have q:=h.q;have j:=bn.new w 114 #[aj (I ⟨p.g,0,U⟩)];have k1:=j.cG;have O:=aY λW=>auL p.gt W
 have A:=aY λW (k:K w W) gb B1 (j:bn W gb 114 #[aj (I ⟨p.g,0,U⟩)]) (h1:W.cell? ⟨B1,0,U⟩=I (.map (I p.gt)))=>ata B.cA p.g p.gt gb B1 _ W (h.blk.bM k) rfl (h.zk.st k) j h1 hn gT
 have z:=aY λW (k:K w W)=>af8 (h.dz.at k).ab
 generalize DN B=R at *;obtain⟨g,gl,gd,gr,gt,vd,vr,vp,vh,vl,vq,va,vt,vf,vw,kr⟩:=p;simp only at q j k1 O A z;obtain⟨Aa,ca,rfl,-⟩:=z.aX w (K.rf w);clear h T hn;go_in;go_upto_region 1 with fail;generalize w.alloc _=t at *;generalize hgb:D (L w)=gb at j|-;clear hgb;have C:=j.cells t (K.rf _) 0;go_wp2_with fail
 apply bW (O.aX t);rintro w2 rfl;have S:=bn.new t 160 #[.map (I gt)];have V:=S.cG;have Q:=j.bM V;have pq:=k1.tr V;generalize ay t _=w2 at *;have C4:=aY (A.aX w2 pq gb (D (L t)) Q (S.cell 0));clear O A j C S V;go_wp2_with fail
 apply tY C4.aX pq;intro v3 y hv3 k3 N;have dB:=Q.bM k3;have C:=dB.cells y (K.rf _) 0;obtain⟨At,ct,rfl,Hs⟩:=af8 hv3;obtain⟨Aa2,ca2,H,hra⟩:=z.aX y N;injection H with H _ e3;subst H e3;have C5:=aY (ae7 Aa (Z B.st.ab) ca _ y hra (SQ _) aZ);have Vd:=aY λW (k:K y W)=>(Hs.below k (bP _)).more k.size
 clear C4 z hra Hs hv3 Q;go_wp2_with fail
 apply dP C5.aX;rintro v4 w4⟨iA,k4⟩;have iq:=Vd.aX w4 k4;have X:=N.tr k4;have hz:=N.size;have lr:=X.size;clear C5 Vd C;go_wp2_with (at_builtin;refine nZ rfl _ _ 53 rfl (D (L w)) 42 _ 3 24 sK _ (Z B.st.ab) _ rfl (pF hz iA) _ At (Z B.cA) ct _ rfl iq (SQ _) ?p1 lr ?_)
 case p1=>omega
 intro v9 w9 pn _ _ cV;have HF:=aY (show bK (λk=>k<D (L w)) (D (L w)) 42 dQ R v9 w9 by
  rw[HR.aX];refine aAx ?_;rw[fg,List.flatMap_append];exact pn)
 have kF:K w w9:=X.trans cV;clear pn cV iA iq;exact Zy
theorem ayo(l:List eU)(t:eU):lI (l++[t])=if t.eC=aA/\Z (lI l)<4 then lI l++[t.e]else lI l:=by
 unfold lI;rw[List.filter_append,List.map_append,List.take_append];generalize ((l.filter eU.eC).map eU.e)=X;rcases t with ⟨e,b⟩;cases b;simp;simp only[sc,true_and,List.filter_cons,if_true,List.filter_nil,mN,List.map_nil];split
 .rename_i h;rw[jq (l:=[e]) cN]
 rename_i h;rw[show 4-Z X=0 by omega,TU,List.append_nil]
theorem aBJ:(prog.info? 128).map (λi=>(i.zero,i.size,i.bytes))=I (I (av jx),8,96):=by rfl
theorem aEG:gQ aR 59 128 (av jx) 8 96:=⟨underlying59,aBJ,rfl,bG⟩
theorem awh l v w(h:bD fe l v w)(hs:∀t∈l,gu t.e)(hn:Z l<=1000000) :aK aR 231 #[v] w λe z=>∃v',e=ak v'/\cW (D (L w)) (D (L w)) 128 cL (lI l) v' z/\K w z:=by
 obtain⟨A,c,rfl,hl,hc⟩:=h;have HS:=aY hs;have kk:=K.rf w;go_in;go_wp2_with fail
 go_loopw [3,5,8] (fun o _ i W=>∃j:Nat,j<=Z l/\i=G J j/\cW (D (L w)) (D (L w)) 128 cL (lI (l.take j)) o W/\K w W) (fun _ _ i _=>Z l-(aO i).toNat)
 case atStart=>exact⟨0,aZ,rfl,by simpa [lI]using cW.nil _ _ _ _ _,kk⟩
 case round =>
  obtain⟨j,hj,rfl,hO,kr⟩:=hrel;by_cases X:j<Z l
  .have cE:(j:Int)<Z l:=aZ;obtain⟨b1,off,cs,rfl,hcl,hrl,d0,d⟩:=fE hl j X bG;have HT:Hid (lI (l.take (j+1))=if l[j].eC=aA/\Z (lI (l.take j))<4 then lI (l.take j)++[l[j].e]else lI (l.take j)):=aY (by rw[iY X,ayo]);have hst:=HS.aX _ (dJ X);generalize l[j]=t at *;obtain⟨vf,ve,rfl,hf,he⟩:=hrl w (K.rf w);obtain⟨Q,O,rfl⟩:=dX hf;obtain⟨R,S,rfl⟩:=bH he;have HE:Hid (∀W,K w W->fM t.e (av (cB t.e (F Q (Z t.e.f) O) (F R (Z t.e.es) S))) W):=aY λW k=>⟨_,_,rfl,fO _ _ _ _ hf k,cM he k⟩
   have d0:∀W,K w W->W.cell? ⟨b1,off+j*9,U⟩=I (G J t.e.bA):=d0;have d:∀W,K w W->∀i,i<9->W.cell? ⟨b1,off+j*9+i,U⟩=(jz t (F Q (Z t.e.f) O) (F R (Z t.e.es) S))[i]?:=λW k i hi=>(d W k i hi).trans aD
   have gT:Z (lI (l.take j))<=4:=by unfold lI;rw[sc];omega
   generalize lI (l.take j)=B at *;obtain⟨Ao,co,rfl,-⟩:=hO.slice;have hx:=bn.new wr 178 (jz t (F Q (Z t.e.f) O) (F R (Z t.e.es) S));have kA:=hx.cG;go_upto_region 5 with fail;have gL:=hO.st kA;generalize wr.alloc _=w5 at *;generalize D (L wr)=g5 at hx|-;generalize F Q (Z t.e.f) O=vf at *;generalize F R (Z t.e.es) S=ve at *;have k5:=kr.tr kA;have q:=hx.cell;have AY:=gL.blk;rcases t with ⟨y,ta⟩;cases ta;have HQ:Hid (lI (l.take (j+1))=B):=aY (by rw[HT.aX];simp);exact akJ;by_cases h4:Z B<4;rotate_left;have h4i:¬(Z B:Int)<4:=aZ;have HQ:Hid (lI (l.take (j+1))=B):=aY (by rw[HT.aX,bQ (λh=>h4 h.2)]);exact akJ;have h4i:(Z B:Int)<4:=aZ;have HQ:Hid (lI (l.take (j+1))=B++[y]):=aY (by rw[HT.aX,bV ⟨rfl,h4⟩]);go_wp2_with fail
   apply dP (Nc y _ w5 (HE.aX _ k5) hst);rintro v6 C⟨ho,Y⟩;have nW:=gL.st Y;obtain⟨qA,pw,rfl,hF,hV⟩:=ho;have qU:=k5.tr Y;obtain⟨bw,hown,hcl,xM⟩:=nW;have AL:=Y.size;have tB:=k5.size;have HF:Hid (∀z,cI (D (L w5)) U C z->fZ y.f qA z/\bD eB y.es pw z):=aY λz u=>⟨BQ (hF.up u),(hV.up (bP _) u).bD⟩
   obtain⟨M,H,rfl⟩:=dX (BQ hF);obtain⟨N,T,rfl⟩:=bH hV.bD;have V:=K.new C (aq (cB y (F M (Z y.f) H) (F N (Z y.es) T)) 128);have hbase:D (L w)<=D (L (aU C (aq (cB y (F M (Z y.f) H) (F N (Z y.es) T)) 128))):=by have:=V.size;omega
   have PM:(Z B+1)*97<=140737488355328:=aZ;go_wp2_with (at_builtin;refine nZ rfl _ _ 59 rfl (D (L w)) 128 _ 8 96 aEG _ _ _ rfl (xj hown _) (D (L C)+1) _ 1 1 (abg y (F M (Z y.f) H) (F N (Z y.es) T)) rfl ?c1 ?c2 ?c3 hbase ?_)
   case c1=>exact Reads.new C (abg y (F M (Z y.f) H) (F N (Z y.es) T)) 128 8 1 rfl
   case c2=>have h0:=HF.aX C (cI.rf _ _ _);exact cL.one (x:=y) (w:=C) ⟨_,_,rfl,h0.1,h0.2⟩
   case c3=>omega
   intro v9 w9 mw dW gD cV;have k9:=(qU.tr V).trans cV;have cX:Hid (cW (D (L w)) (D (L w)) 128 cL (lI (l.take (j+1))) v9 w9):=by
    rw[HQ.aX];exact cW.snoc hcl (λz u=>xM z (cI.tr (cI.cz V _ _) u)) mw dW BS (λz u=>by
     have:=HF.aX z ((cI.tr (cI.cz V _ _) u).more aZ (λk hk _ e=>bL));exact⟨_,_,rfl,this.1,this.2⟩)
   go_wp2;go_roundw
   case rel=>exact⟨j+1,aZ,dh,cX.aX,k9⟩
   case measure=>simp[aO];omega
  have cE:¬(j:Int)<Z l:=aZ;exact akK
theorem af9{P ρ w} s x T ty t g o cur cells(hs:ρ s=aj (I ⟨g,o,U⟩))(hx:ρ x=av cells)(hb:bn w g t cur)(hi:(P.info? T).map (·.size)=I cells.size)(y:o+cells.size<=cur.size)(h1:∀u∈cells.toList,u.oneCell'=aA) :∃j,(aL ρ (bT (.store T s x) ty)).run P w=.ok .skip j/\bn j g t (cur.toList.take o++cells.toList++cur.toList.drop (o+cells.size)).toArray/\w.grownBy j (I g):=akL
theorem ayp(l:List eU)(a:bY):zQ l a=match lR l a with|none=>(yE,az)|some k=>match l[k]? with|some t=>(t,aA)|none=>(yE,az):=by
 cases h:lR l a with
 | none=>exact av4 (af0 h)
 | some k => grind [Nt,aF,tg,List.find?_eq_some_iff_getElem,aE,zQ]
abbrev Hz:Array aQ:=#[G J 0,G J 0,G E 0,G E 0,G J 0,G E 0,F U 0 0,F U 0 0,ar az]
theorem auU l a v w(h:bD fe l v w)(hs:∀s∈l,gu s.e)(hlen:Z l<=1000000) :aK aR 94 #[v,dD a] w λe H=>∃u,e=ak (au #[u,ar (zQ l a).2])/\PR (zQ l a).1 u H/\K w H:=by
 have C2:=aY λW (B:K w W)=>RG l a v W (cM h B) hlen
 obtain⟨A,c,rfl,hl,hc⟩:=h;have hx:=(bn.new w 42 #[G J a.1,G E a.2.1,G E a.2.2]).alloc (aq Hz 178);have hr:=bn.new (aU w (aq #[G J a.1,G E a.2.1,G E a.2.2] 42)) 178 Hz;have k1:=K.ou w (aq #[G J a.1,G E a.2.1,G E a.2.2] 42) (aq Hz 178);have hz:D (L (aU w (aq #[G J a.1,G E a.2.1,G E a.2.2] 42)))=D (L w)+1:=bu;rw[hz]at hr;have HI:Hid (uH l a=match lR l a with|some k=>(k:Int)|none=>-1):=aY rfl;have HC:=aY (ayp l a);have HO:=aY λk h=>@Nt l a k h
 generalize zQ l a=R at *;go_in;go_upto_region 1 with fail;generalize ay (ay w _) _=w1 at *;have q:=hx.cell;go_wp2_with fail
 apply eu (C2.aX w1 k1) k1;intro Y k2 dt;have M:=hr.bM k2;have hrg:D (L w)<=D (L w)+1:=aZ;generalize D (L w)+1=y at *;generalize uH l a=ah at *;cases ho:lR l a with
 | none => obtain rfl:ah=-1:=DI;have HQ:Hid (R=(yE,az)):=aY Ol;have q:=M.cell;have:=M.frozen;go_wp2;have fF:=((((((((M.cH 0 (G J 0)).cH 1 (G J 0)).cH 2 (G E 0)).cH 3 (G E 0)).cH 4 (G J 0)).cH 5 (G E 0)).cH 6 (F U 0 0)).cH 7 (F U 0 0)).cH 8 (ar az);have e9:=fF.cell;refine aM (v:=au #[av Hz,ar az]) akM rfl ?_;refine⟨av Hz,by rw[HQ.aX],by rw[HQ.aX];exact akA yE rfl rfl _,?_⟩;exact ((((((((dt.setCell E8 _).setCell E8 _).setCell E8 _).setCell E8 _).setCell E8 _).setCell E8 _).setCell E8 _).setCell E8 _).setCell E8 _
 | some k =>
  obtain rfl:ah=(k:Int):=DI;obtain⟨t,h1,-⟩:=HO.aX k ho;have HQ:Hid (R=(t,aA)):=aY Zu;obtain⟨hk,xK⟩:=aF.1 h1;have gW:(k:Int)<Z l:=aZ;obtain⟨b1,off,C,rfl,hcl,hrl,T,d⟩:=fE hl k hk bG;have hst:=hs _ (dJ hk);rw[xK]at hrl hst;obtain⟨vf,j,rfl,hf,he⟩:=hrl w (K.rf w);have HE:Hid (∀W,K w W->fM t.e (av (cB t.e vf j)) W):=aY λW k=>⟨_,_,rfl,fO _ _ _ _ hf k,cM he k⟩
  have T:∀W,K w W->W.cell? ⟨b1,off+k*9,U⟩=I (G J t.e.bA):=T;have d:∀W,K w W->∀i,i<9->W.cell? ⟨b1,off+k*9+i,U⟩=(jz t vf j)[i]?:=λW kk i hi=>(d W kk i hi).trans aD
  go_upto_region 4 with fail;obtain⟨gb,hgb⟩:∃gb,gb=D (L Y):=⟨_,rfl⟩;have O:y<gb:=by rw[hgb];exact M.lt
  have N:∀W,bf (λk=>k=y) Y W->K w W:=λW u=>u.k dt λk e=>e▸hrg
  have qs:=aB (λW u=>T W (N W u)) (aB (λW u=>d W (N W u)) gW);refine Kz 14 [12] (λW=>bf (λk=>k=y) Y W) (λW W'=>W.grownBy W' (I y)) (λk _ W=>∃C,bn W y 178 C/\(k=0/\C=Hz\/k≠0/\∃vf j,C=jz t vf j/\Fx (λk=>k<gb) (λW=>fe.rel t (jz t vf j).toList W) W)) [([],[]),([],[]),([0,1],[(13,0),(14,1)]),([2],[(15,2)]),([3],[(16,3)]),([4],[(17,4)]),([],[]),([],[]),([6,7],[(19,6),(20,7)]),([8],[(21,8)]),([9],[(22,9)]),([5,10],[(18,5),(23,10)]),([11],[(24,11)]),([],[])] 25
   (λ_ _ h k=>h.tr (bf.cz k _)) (λ_ _ h=>zC h _) (λk vs W W' ⟨C,h1,h3⟩ B=>⟨C,h1.bM B,h3.imp id λ⟨h,vf,j,e,f⟩=>⟨h,vf,j,e,f.k B⟩⟩) (bf.rf _ _) (λ_=>⟨Hz,M,aI ⟨rfl,rfl⟩⟩) ?_
  iterate 5 refine bB.i ?_
  refine bB.c (G3 gb t.e) (λv w H ⟨vf,j,e,h⟩ k=>⟨vf,j,e,h.up (bf.gy (X:=λb=>b=y) k λ_ e=>by cases e;rfl) λk e=>e▸O⟩) (λW u=>(Nc t.e _ W (HE.aX _ (N W u)) hst).mono λe H ⟨v,e1,ho,k1⟩=>⟨v,e1,aaX (by rw[hgb];exact u.size) ho,k1⟩) ?_;iterate 5 refine bB.i ?_
  refine bB.op (Qc gb t) (λv w H ⟨vf,j,e,h⟩ k=>⟨vf,j,e,h.up (bf.gy (X:=λb=>b=y) k λ_ e=>by cases e;rfl) λk e=>e▸O⟩) (λV W B hp=>?_) ?_;exact Zp;refine bB.s ?_;refine bB.i ?_;refine⟨⟨⟨_,_,rfl,rfl,rfl,λV W S Q hp=>?_⟩,trivial⟩,λV W S Q hA=>?_⟩;simp only[dN,bZ,cC,dK,dL,bS]at hp;obtain⟨⟨Mr,Ms,e3,hF⟩,-⟩:=hp;obtain⟨_,hb,⟨-,rfl⟩|⟨h,-⟩⟩:=Q;change lZ _ _ ((aL (bR [(24,11)] _ V) (bT (.store 178 (.tmp 4) (.tmp 24)) 0)).run _ _);generalize hA:bR [(24,11)] _ V=ρ;obtain⟨w'',hrun,hb2,gh⟩:=af9 (P:=aR) (ρ:=ρ) (.tmp 4) (.tmp 24) 178 0 178 y 0 Hz (jz t Mr Ms) (by rw[<- hA];rfl) (by rw[<- hA];exact e3) hb gP bu (fe.one (x:=t) (w:=W) hF.now);have u2:bf (λk=>k=y) W w'':=bf.gy gh λ_ e=>by cases e;rfl
  rw[hrun];exact⟨S.tr u2,gh,⟨_,hb2,aJ ⟨bG,Mr,Ms,rfl,hF.up u2 λk e=>e▸O⟩⟩,trivial⟩;exact absurd rfl h;simp only[bZ,cC,dF,bS,Nat.reduceAdd]at hA;obtain⟨_,cV,⟨h,-⟩|⟨-,Mt,Mu,rfl,hF⟩⟩:=Q;cases h;refine bN.h ?_;have B:=N W S;have HW:Hid (PR t (av (jz t Mt Mu)) W):=aY (by
   obtain⟨vf,j,e,h1,h2⟩:=hF.now;simp at e;obtain⟨rfl,rfl⟩:=e;exact⟨_,_,rfl,h1,h2⟩)
  have e9:=cV.cell;go_wp2;refine aM (v:=au #[av (jz t Mt Mu),ar aA]) akM rfl ?_;exact⟨_,by rw[HQ.aX],IX,B⟩
theorem auV l a j v u w(h:bD fe l v w)(hu:iI j u w)(hl:∀s∈l,gu s.e)(hlf:∀s∈l,dZ s.e)(jH:Z j<=1000000)(Ug:∀x∈j,nv x)(hlen:Z l<=1000000) :aK aR 173 #[v,dD a,u] w λe w'=>∃v',e=ak (au #[v',G J (ij l a j).2])/\(∀W,cI (D (L w)) U w' W->bD fe (ij l a j).1 v' W)/\K w w':=by
 have C1:=aY λW (kW:K w W)=>M9 l v W (cM h kW) hl hlen
 have C2:=aY λW (kW:K w W)=>Xj l a v W (cM h kW) hlen
 have C3:=aY λW (kW:K w W)=>afY (mq _ _ _ _ hu kW)
 obtain⟨A,d,rfl,wK,-⟩:=h;have HU:Hid (∀W,K w W->iI j u W):=aY λW k=>mq _ _ _ _ hu k
 obtain⟨Ae,ce,rfl⟩:=tN hu;clear hu;have hx:=bn.new w 42 #[G J a.1,G E a.2.1,G E a.2.2];have k1:=hx.cG;have HI:Hid (DU l a=match sf l a with|some k=>(k:Int)|none=>-1):=aY rfl;have HC:Hid (ij l a j=match sf l a with|none=>(l,170)|some k=>match l[k]? with|none=>(l,170)|some t=>if iM j=az then (l,40)else if 8<=Z t.e.es then (l,171)else if uL (oY t.e j)then (l,172)else (l.set k ⟨oY t.e j,t.eC⟩,0)):=aY rfl;have HO:=aY λk h=>@IA l a k h
 have Mv:=aY Ug;clear Ug;generalize ij l a j=R at *;have q:=hx.cells;go_in;go_wp2;go_step3;go_wp2_with fail
 generalize w.alloc _=w1 at *;apply tY (C1.aX w1 k1) k1;intro u8 w2 z k2 dt;generalize DU l a=ah at *;replace q:=hx.bM k2;replace q:=bn.cell q;go_wp2_with fail
 apply bW (C2.aX w2 dt);intro w3 k3;replace dt:=dt.tr k3;replace z:=z.st k3;have pr:=k1.size;have F9:=aY λ(W C:aP) (h:cW (D (L w1)) (D (L w1)) 178 fe l u8 W) (u:cI (D (L w)) U W C)=>(h.up (bP _) (u.more pr (λk _ h=>h))).bD
 clear C1 C2 k3 k2 hx q;cases ho:sf l a with
 | none =>
  obtain rfl:ah=-1:=DI;have HQ:Hid (R=(l,170)):=aY Ol;have HW:=aY λW u=>F9.aX _ W z u
  clear z ho HI HC HO;go_wp2;go_step3;exact K7
 | some k =>
  obtain rfl:ah=(k:Int):=DI;obtain⟨t,h1,-⟩:=HO.aX k ho;have HR:Hid (R=if iM j=az then (l,40)else if 8<=Z t.e.es then (l,171)else if uL (oY t.e j)then (l,172)else (l.set k ⟨oY t.e j,t.eC⟩,0)):=aY Zu;obtain⟨y,xK⟩:=aF.1 h1;have:(k:Int)<Z l:=aZ;have:(0:Int)<=(k:Int):=aZ;clear ho HI HC HO h1;go_wp2;go_step3;go_wp2_with fail
  apply bW (C3.aX w3 dt);intro Y k4;replace z:=z.st k4;replace dt:=dt.tr k4;cases hok:iM j;have HQ:Hid (R=(l,40)):=aY (by rw[HR.aX,bV hok]);have HW:=aY λW u=>F9.aX _ W z u
  have aEH:mP j=40:=by unfold mP;rw[hok];rfl
  rw[aEH];clear z HR;exact K7;have hc0:mP j=0:=by unfold mP;rw[hok];rfl
  rw[hc0];have kN:Hid (R=if 8<=Z t.e.es then (l,171)else if uL (oY t.e j)then (l,172)else (l.set k ⟨oY t.e j,t.eC⟩,0)):=aY (by rw[HR.aX,bQ (by rw[hok];decide)]);clear HR;obtain⟨b1,off,cs,rfl,hcl,hrl,d0,d⟩:=fE wK k y bG;have hst:=hl _ (dJ y);have M:=hlf _ (dJ y);rw[xK]at hrl hst M;obtain⟨vf,ve,rfl,hf,he⟩:=hrl w (K.rf w);have HE:Hid (∀W,K w W->fM t.e (av (cB t.e vf ve)) W):=aY λW k=>⟨_,_,rfl,fO _ _ _ _ hf k,cM he k⟩
  have d0:∀W,K w W->W.cell? ⟨b1,off+k*9,U⟩=I (G J t.e.bA):=d0;have d:∀W,K w W->∀i,i<9->W.cell? ⟨b1,off+k*9+i,U⟩=(jz t vf ve)[i]?:=λW kk i hi=>(d W kk i hi).trans aD
  clear hrl hcl hf he;have q:=d _ dt;go_wp2_with fail
  apply dP (Nc t.e _ Y (HE.aX _ dt) hst);rintro v5 w5⟨tF,k5⟩;obtain⟨Vp,Qi,rfl,Qj,Mw⟩:=tF;obtain⟨A5,c5,rfl,-⟩:=Qj.slice;obtain⟨D5,d5,rfl,-⟩:=Mw.slice;have gJ:=bn.new w5 128 (cB t.e (F A5 (Z t.e.f) c5) (F D5 (Z t.e.es) d5));have k6:=gJ.cG;go_upto_region 8 with fail;generalize w5.alloc _=w6 at *;have k46:=k5.tr k6;have Br:=dt;replace dt:=dt.tr k46;have q6:=gJ.cell;clear q;by_cases h8:8<=Z t.e.es;have AJ:(8:Int)<=(Z t.e.es:Int):=aZ;have HQ:Hid (R=(l,171)):=aY (by rw[kN.aX,bV h8]);have HW:=aY λW u=>F9.aX _ W (z.st k46) u
  clear z kN Qj Mw;exact K7;have AJ:¬(8:Int)<=(Z t.e.es:Int):=aZ;have Bs:Hid (R=if uL (oY t.e j)then (l,172)else (l.set k ⟨oY t.e j,t.eC⟩,0)):=aY (by rw[kN.aX,bQ h8]);clear kN;go_upto_region 10 with fail;have:=k5.size;have:=k6.size;obtain⟨B,pY⟩:∃B,B=D (L w5):=⟨_,rfl⟩;rw[<- pY]at gJ q6|-;have:=gJ.lt;have Mx:=Mw.blk;obtain⟨N,H⟩:∃N:Nat->Prop,N=λk=>(k<D (L Y)\/k=B)\/aW (F D5 (Z t.e.es) d5)=I k:=⟨_,rfl⟩
  have hNl:∀k,N k->k<D (L w6):=λk h=>bL
  have hoY:bK (λk=>k<D (L Y)\/k=B) (D (L Y)) 35 eB t.e.es (F D5 (Z t.e.es) d5) w6:=(Mw.wF.to (bf.rf (λ_=>False) _) (λ_ h=>h.elim) (λ_ _ h=>h) λk y h=>aI aZ).st k6;have HX:=aY (show Fx N (λW=>fZ t.e.f (F A5 (Z t.e.f) c5) W) w6 from λC u=>BQ (KS Qj λg h1 h2 h3=>(u.block g aZ (λy=>by
   rw[H]at y;rcases y with (y|y)|y;omega;omega;obtain⟨cur,h4⟩:=pH Qj h3;exact absurd ((Mw.wF.own y).2.2.elim λ_ h=>h4.jK h) bG)).trans (k6.block g h2)))
  have hne:aW (F D5 (Z t.e.es) d5)≠I B:=λe=>by have:=Mx B e;omega
  generalize hve:F D5 (Z t.e.es) d5=Qi at *;generalize J0:F A5 (Z t.e.f) c5=Vp at *;have aoz:Hid (∀W,K Y W->K w W):=aY λW k=>Br.tr k
  have kR:∀W,o8 Qi w6 W->K Y W:=λW u=>u.k k46 λk e=>(Mx k e).1
  have qs:=λW (u:o8 Qi w6 W)=>(gJ.cF u hne).cell
  refine Gq 7 5 t.e.es Qi j 43 FT [([],[]),([0],[(34,0)]),([],[]),([2],[(36,2)]),([3],[(37,3)]),([1,4],[(35,1),(38,4)]),([5],[]),([6,5],[(40,6),(39,5)])] 50 hoY aZ aZ ?_;iterate 3 refine bB.i ?_
  refine bB.op (λv W=>(∃A n c,v=F A n c)/\Fx N (λW=>iI j v W) W) (λv w w' ⟨e,h⟩ k=>⟨e,h.up (bf.gy (X:=λb=>aW Qi=I b) k λ_ h=>h) λb h=>by rw[H];exact aJ h⟩) (λV W hW O=>?_) ?_;simp only[dN,bZ,cC,dK,dL,bS]at O;obtain⟨zm,zn,e2,dC⟩:=HU.aX W (aoz.aX _ (kR W hW));rw[e2]at O;obtain⟨v',w'',hrun,h1,h5,h3⟩:=axB (P:=aR) (ρ:=bR [(36,2)] _ V) (.const (F U 0 0)) (.tmp 36) 35 35 88 (D (L W)) _ 4 48 TE (F U 0 0) 0 [] rfl (oV _ _ _ _) (D (L W)) zm (Z j) zn (j.flatMap nu) O.1 dC (XR j) aZ (bP _);change fk _ _ _ ((aL (bR [(36,2)] _ V) (bT (.call { callee:=.builtin .append,args:=#[.const (F U 0 0),.tmp 36],argTypes:=#[35,35] }) 35)).run _ _);rw[hrun];have ho:s8 w'' (D (L W)) v' j:=E4;have hr:Fx N (λW=>iI j v' W) w'':=λC u=>by obtain⟨v2,e3,h9⟩:=s8.rel ho C (u.vu λk h1 _ _ hx=>by have:=hNl k hx;have:=hW.size;omega);injection e3 with e3;rw[e3];exact h9
  obtain⟨A3,c3,e3⟩:=tN hr.now;exact⟨⟨⟨_,_,_,e3⟩,hr⟩,h5⟩;refine bB.GZ (S:=eB) (N:=N) (D (L w6)) FT j (λ_ h=>h.size) (λb hb=>⟨by rw[H];exact aJ hb,hNl b (by rw[H];exact aJ hb)⟩) (λV W hW O=>?_) ?_;simp only[dN,bZ,cC,dK,dL,bS]at O;obtain⟨⟨⟨A,n,c,e⟩,hF⟩,-⟩:=O;show tD _ _ _ (V 3) _;rw[e]at hF|-;exact⟨rfl,hF.mono λW h=>⟨_,rfl,h⟩⟩;refine bB.s ?_;refine bB.i ?_;refine⟨λ_ _=>trivial,λV W hW O=>?_,λV W hW hP hv hA=>?_⟩;simp only[dN,bZ,cC,dK,dL,bS]at O;exact⟨O.1,O.2.1.less λ_ h=>by rw[H];exact h⟩;simp only[bZ,cC,dF,bS,Nat.reduceAdd]at hA;obtain⟨T,Q,e9⟩:=hP.slice;rw[fg,List.length_singleton]at e9;rw[e9]at hP;have hA:=aB e9 hA;have qi:=gJ.cF hW hne;have qs:=aB qi.cell qi.frozen;refine bN.s ?_;refine bN.h ?_;have us:bf (λk=>k=B) W (aV W ⟨B,7,U⟩ (F T (Z t.e.es+1) Q)):=bf.dx (X:=λk=>k=B) rfl 7 _;have cV:bn (aV W ⟨B,7,U⟩ (F T (Z t.e.es+1) Q)) B 128 (cB (oY t.e j) Vp (F T (Z t.e.es+1) Q)):=qi.cH 7 _;have kW4:=us.k (kR W hW) λk e=>aZ
  have H:∀C,bf (λk=>k<D (L Y)\/k=B) (aV W ⟨B,7,U⟩ (F T (Z t.e.es+1) Q)) C->fZ t.e.f Vp C/\bD eB (t.e.es++[j]) (F T (Z t.e.es+1) Q) C:=λC u=>by have u2:bf (λk=>k<D (L Y)\/k=B) W C:=(us.more λ_ h=>aJ h).tr u;refine⟨HX.aX C ((hW.more λk h=>by rw[H];exact aJ h).tr (u2.more λk h=>by rw[H];exact aI h)),(hP.to u2 (λ_ h=>h) (λk e h=>?_) λ_ _ h=>aI h).bD⟩;have h1:=hP.own e;rcases h with h|h;omega;subst h;exact absurd (h1.2.2.elim λ_ h=>h.jK qi) bG
  clear hA qs us hP hv;generalize ax W _ _=W at *;have kW:=aoz.aX _ kW4;have q:=cV.cell;have Qk:dZ (oY t.e j):=⟨M.1,M.2.1,M.2.2.1,M.2.2.2.1,M.2.2.2.2.1,M.2.2.2.2.2.1,M.2.2.2.2.2.2.1,λe he=>by
   rcases List.mem_append.1 he with h1|h1;exact M.2.2.2.2.2.2.2 e h1;simp at h1;subst h1;exact Mv.aX⟩
  have C4:=aY (agU (oY t.e j) (av (cB (oY t.e j) Vp (F T (Z t.e.es+1) Q))) W ⟨_,_,rfl,(H W (bf.rf _ _)).1,(H W (bf.rf _ _)).2⟩ Qk);have HN:=aY H;have HOW:=aY (z.st kW4);have aDQ:=aY λg h=>(z.blk g h).2
  clear HX z H Qj Mw hoY M hst Qk pY;subst J0;go_wp2_with fail
  apply bW C4.aX;intro w8 k8;have Vq:=aY (HOW.aX.st k8);have kw8:=kW.tr k8;have nF:=cV.bM k8;clear q cV;cases abB:uL (oY t.e j);rotate_left
  .have HQ:Hid (R=(l,172)):=aY akN;have HW:=aY λW u=>F9.aX _ W Vq.aX u
   clear abB Bs Vq HOW;go_wp2;try rw[jE]
   go_ret2;exact⟨_,ru,IX,kw8⟩
  have HQ:Hid (R=(l.set k ⟨oY t.e j,t.eC⟩,0)):=aY akN;have z:=Vq.aX;have hkb:=z.blk;obtain⟨Uh,TX,aEI,hEO⟩:=z;have Vr:=hEO w8 (cI.rf _ _ _);have yy:=Vr.lens;have hkc:k<Z Uh:=aZ;have dU:=Vr.D2;obtain⟨vfo,veo,hcs,-,-⟩:=Vr.2 k y hkc;rw[xK]at hcs;rcases TX.2 with ⟨h0,Cx⟩|⟨go,cap,cur,rfl,-⟩;omega;have:=(hkb go rfl).1;have aEJ:=aDQ.aX go rfl;have hqO:k*9+9<=Z Uh.flatten:=by rw[dU];show k*9+9<=Z l*9;omega
  obtain⟨hcell,hfz⟩:=Dw TX;have dO:∀i,i<9->w8.cell? ⟨go,k*9+i,U⟩=(jz t vfo veo)[i]?:=λi hi=>by rw[hcell _ aZ,show k*9+i=k*fe.size+i from rfl,zE fe.size Uh yy k i hkc hi,aE hkc,Option.getD_some,hcs];exact aD
  have:w8.cell? ⟨go,k*9,U⟩=I (G J t.e.bA):=dO 0 aZ;have:=λi=>hfz (k*9+i)
  have:=hfz (k*9);have q:=nF.cell;obtain⟨zX,TY⟩:∃zX:List aQ,zX=(cB (oY t.e j) (F A5 (Z t.e.f) c5) (F T (Z t.e.es+1) Q)).toList:=⟨_,rfl⟩;have EI:Z zX=8:=by rw[TY];rfl
  have mw:=R8 zX _ (k*9) w8 TX (by rw[EI];omega);have e9:=Rl fe.size zX Uh yy k 0 hkc (by rw[EI];decide);rw[show k*fe.size+0=k*9 from rfl]at e9;rw[e9,hcs]at mw;have iV:ry (jz t vfo veo).toList 0 zX=(jz ⟨oY t.e j,t.eC⟩ (F A5 (Z t.e.f) c5) (F T (Z t.e.es+1) Q)).toList:=by rw[TY];rfl
  rw[iV]at mw;have uG:=bf.sets (X:=λk=>k=go) (g:=go) rfl zX (k*9) w8;have uX:=bf.sets (X:=λk=>k<D (L Y)\/k=B) (g:=go) (aI aEJ) zX (k*9) w8;have HK:=aY (cI.k (uG.vu (lo:=0) (row:=I go) (λk _ _ h e=>h Oa)) kw8 (by rintro b e;cases e;omega));have HW:Hid (∀C,cI (D (L w)) U (ei w8 go (k*9) zX) C->bD fe (l.set k ⟨oY t.e j,t.eC⟩) (F (I ⟨go,0,U⟩) (Z l) cap) C):=aY λC u=>by have h9:=HN.aX _ (((bf.cz k8 _).tr uX).tr (cI.upN u (λk y=>by rcases y with y|y;exact aI (by omega);cases y)));have hE9:=(hEO _ ((uG.vu (λk _ _ h e=>h E9)).tr (u.more pr (λk _ _=>bu)))).set k (x:=⟨oY t.e j,t.eC⟩) (cs:=(jz ⟨oY t.e j,t.eC⟩ (F A5 (Z t.e.f) c5) (F T (Z t.e.es+1) Q)).toList) ⟨_,_,rfl,h9.1,h9.2⟩;exact Ry (S:=fe) (KS (by rw[List.length_set];exact mw) λg h1 h2 _=>u.block g aZ h2 bu) hE9
  rw[TY]at HW HK;clear hcell hfz TX mw hEO yy dU hkb HN uG uX e9 iV EI TY Vr hcs aEI hqO Vq HOW Bs abB xK HU;go_wp2;try rw[jE]
  go_ret2;exact⟨_,ru,IX,HK.aX⟩
theorem bN.call{P j t k o r x xs V w} f args(hg:o.guard=U)(hx:(aL (bR x.2 j V) (bT o.op o.type)).run P w=.ok (.enter f args) w)(h:aK P f args w λe y=>∃v,e=ak v/\bN P j t (k+1) r xs (cP V k v) y):bN P j t k (o :: r) (x :: xs) V w:=SE
theorem lH.AA{l}(h:lH l):Z l<=1000000:=by have:=h.len;omega
theorem atb{M p B w}(h:df M p B w)(t:dq B) a :aK aR 115 #[aj (I ⟨p.g,0,U⟩),dD a] w λe y=>e=ak (G J (gg B (iK B.bI a)).2)/\fG M p (gg B (iK B.bI a)).1 w y:=by
 have C1:=aY λW (k:K w W)=>awg B.bI a p.vt W (h.dz.at k).bI t.tx.small t.tx.AA
 have:=aY h;have hz:=λk hk=>h.low k hk
 have HX:=aY λk hk=>h.low k (h.sub k hk)
 have C2:=aY λW (k:K w W) v z=>WY (h.st k) (l:=(iK B.bI a).1) (v:=v) (iK B.bI a).2 z
 have q:=h.q;have hb:=bn.new w 42 #[G J a.1,G E a.2.1,G E a.2.2];have k1:=hb.cG;have j:=bH h.dz.now.bI;obtain⟨g,gl,gd,gr,gt,vd,vr,vp,vh,vl,vq,va,vt,vf,vw,kr⟩:=p;simp only at q C1 j;obtain⟨A,N,rfl⟩:=j;generalize C:iK B.bI a=R at *;exact akO
theorem atP{M p B w}(h:df M p B w)(t:dq B) a :aK aR 116 #[aj (I ⟨p.g,0,U⟩),dD a] w λe y=>e=ak (G J (gg B (jD B.bI a)).2)/\fG M p (gg B (jD B.bI a)).1 w y:=by
 have C1:=aY λW (k:K w W)=>ayi B.bI a p.vt W (h.dz.at k).bI t.tx.small t.tx.AA
 have:=aY h;have hz:=λk hk=>h.low k hk
 have HX:=aY λk hk=>h.low k (h.sub k hk)
 have C2:=aY λW (k:K w W) v z=>WY (h.st k) (l:=(jD B.bI a).1) (v:=v) (jD B.bI a).2 z
 have q:=h.q;have hb:=bn.new w 42 #[G J a.1,G E a.2.1,G E a.2.2];have k1:=hb.cG;have j:=bH h.dz.now.bI;obtain⟨g,gl,gd,gr,gt,vd,vr,vp,vh,vl,vq,va,vt,vf,vw,kr⟩:=p;simp only at q C1 j;obtain⟨A,N,rfl⟩:=j;generalize C:jD B.bI a=R at *;exact akO
def Bt(lo:Nat){α:Type}(S:fy α)(l:List α)(v:aQ)(w:aP):Prop:=∀W,cI lo U w W->bD S l v W
theorem Bt.st{lo α S}{l:List α}{v w w'}(h:Bt lo S l v w)(k:K w w'):Bt lo S l v w':=λW u=>h W ((cI.cz k _ _).tr u)
theorem Bt.low{lo j α S}{l:List α}{v w}(h:Bt lo S l v w)(k:j<=lo):Bt j S l v w:=λW u=>h W (u.more k λ_ _ h=>h)
theorem Bt.fx{lo α S}{l:List α}{v w M}(h:Bt lo S l v w)(j:∀k,M k->k<lo):Fx M (λW=>bD S l v W) w:=Fx.fresh h j
theorem asJ{M p B w}(h:df M p B w)(C:dq B) a j u(Q:iI j u w)(jH:Z j<=1000000)(Ug:∀x∈j,nv x) :aK aR 114 #[aj (I ⟨p.g,0,U⟩),dD a,u] w λe Y=>e=ak (G J (gg B (ij B.bI a j)).2)/\fG M p (gg B (ij B.bI a j)).1 w Y:=by
 have S:=aY λW (k:K w W)=>auV B.bI a j p.vt u W (h.dz.at k).bI (mq _ _ _ _ Q k) C.tx.small (λs hs=>(C.tx.each s hs).2.1) jH Ug C.tx.AA
 have:=aY h;have hz:=λk y=>h.low k y
 have HX:=aY λk y=>h.low k (h.sub k y)
 have C2:=aY λW (k:K w W) v hv=>WY (h.st k) (l:=(ij B.bI a j).1) (v:=v) (ij B.bI a j).2 hv
 have q:=h.q;have A:=bn.new w 42 #[G J a.1,G E a.2.1,G E a.2.2];have k1:=A.cG;have O:=bH h.dz.now.bI;obtain⟨g,gl,gd,gr,gt,vd,vr,vp,vh,vl,vq,va,vt,vf,vw,kr⟩:=p;simp only at q S O;obtain⟨At,ct,rfl⟩:=O;obtain⟨Au,cu,rfl⟩:=tN Q;generalize hR:ij B.bI a j=R at *;obtain⟨T,rc⟩:=R;have HZ:=aY hz;go_in;go_upto_region 1 with fail;generalize w.alloc _=z at *;generalize D (L w)=ga at A|-;have X:=A.cells;have N:=λW (k:K z W)=>q W (k1.tr k)
 go_upto_region 3 with fail;have qs:=aB N X;refine fD 10 ?_;iterate 7 refine bB.i ?_
 refine bB.op (λv W=>∃v',v=au #[v',G J rc]/\Bt (D (L z)) fe T v' W) (λ_ _ _ ⟨v',e,h⟩ k=>⟨v',e,h.st k⟩) (λV W t hp=>?_) ?_
 ·(try simp only[dN,bZ,cC,dK,dL,bS]at hp)
  simp[dI,bR,aC,hp,fk,aL,bT,N,X,go_sem];refine (S.aX W (k1.tr t)).mono ?_;rintro e w4⟨v4,rfl,hO,k4⟩;exact⟨_,rfl,⟨_,rfl,Bt.low hO t.size⟩,k4⟩
 refine bB.op (λv W=>Bt (D (L z)) fe T v W) (λ_ _ _ h k=>h.st k) (λV W t hp=>?_) ?_;exact Oo;refine bB.is (G J rc) (λV W t hp=>?_) ?_;exact Oq;intro V W t hA;simp only[bZ,cC,dF,bS,Nat.reduceAdd]at hA;obtain⟨e0,e1,e2,e3,e4,e5,e6,⟨v',e7,gG⟩,hO,e9,-⟩:=hA;have kF:=k1.tr t;have lO:=Bt.fx hO λk y=>cZ (HZ.aX k y) k1.size
 refine bN.call _ _ rfl akP ?_;refine (C2.aX W kF (V 8) lO).mono ?_;exact Zz
theorem dq.new{B}(j:dq B):ew (mT B):=by
 have t:=j.me;have:=j.calls;have y:=j.dk.inv.life;have:=rr j.tr;simp only[iW,fI,decide_eq_true_eq]at t;refine⟨?_,y,?_⟩
 .grind [ew,mT,dA]
 grind [ew,mT]
theorem atc{M p B w}(h:df M p B w)(t:dq B) c(hc:dA c) gb Y(hgb:bn w gb 114 #[aj (I ⟨p.g,0,U⟩)])(S:bn w Y 3 #[G J c]) :aK aR 155 #[dD (mT B),aj (I ⟨gb,0,U⟩),aj (I ⟨Y,0,U⟩)] w λe O=>∃v',e=ak (au #[v',G J (zL B.bI (mT B) c).2])/\cW (D (L w)) (D (L w)) 178 fe (zL B.bI (mT B) c).1 v' O/\K w O:=by
 have C1:=aY λW (k:K w W)=>auS B.bI (mT B) c p.vt W (h.dz.at k).bI t.new hc t.tx.small t.tx.AA
 have q:=h.q;have C:=hgb.cells;have T:=S.cells;have X:=bH h.dz.now.bI;generalize mT B=a at *;have j:=bn.new w 42 #[G J a.1,G E a.2.1,G E a.2.2];have k1:=j.cG;obtain⟨g,gl,gd,gr,gt,vd,vr,vp,vh,vl,vq,va,vt,vf,vw,kr⟩:=p;simp only at q C1 X C;obtain⟨At,ct,rfl⟩:=X;generalize zL B.bI a c=R at *;obtain⟨rl,rc⟩:=R;clear h t hgb S;go_in;go_upto_region 1 with fail;generalize w.alloc _=y at *;obtain⟨lo,hlo⟩:∃lo,Hid (lo=D (L w)):=⟨_,aY rfl⟩;generalize D (L w)=ga at j|-;have N:=j.cells;have H:=λW (k:K y W)=>q W (k1.tr k)
 have A:=λW (k:K y W)=>C W (k1.tr k)
 have z:=λW (k:K y W)=>T W (k1.tr k)
 clear q C T j;have qs:=aB H (aB N (aB A z));refine fD 9 ?_;iterate 6 refine bB.i ?_
 refine bB.op (λv W=>∃v',v=au #[v',G J rc]/\cW lo lo 178 fe rl v' W) (λ_ _ _ ⟨v',e,h⟩ k=>⟨v',e,h.st k⟩) (λV W kW hp=>?_) ?_
 ·(try simp only[dN,bZ,cC,dK,dL,bS]at hp)
  simp[dI,bR,aC,hp,fk,aL,bT,H,N,A,z,go_sem];exact ZA
 refine bB.op (λv W=>cW lo lo 178 fe rl v W) (λ_ _ _ h k=>h.st k) (λV W kW hp=>?_) ?_;exact Oo;refine bB.is (G J rc) (λV W kW hp=>?_) ?_;exact Oq;clear qs;intro V W kW hA;simp only[bZ,cC,dF,bS,Nat.reduceAdd]at hA;obtain⟨e0,e1,e2,e3,e4,e5,⟨v',e6,gG⟩,hO,e8,-⟩:=hA;have kF:=k1.tr kW;generalize Q:V 7=v7 at *;have mF:=bH hO.bD;obtain⟨A7,c7,rfl⟩:=mF;apply bN.pure;rfl;simp[bR,aC,cP,Q,aL,bT,go_sem];rfl;apply bN.pure;rfl;simp[bR,aC,cP,e8,aL,bT,go_sem];rfl;refine bN.e ?_;have HO:=aY hO;clear hO gG C1 H N A z Q e0 e1 e2 e3 e4 e5 e6 e8;exact akQ
theorem auW{M p B w}(h:df M p B w)(z:dq B) c(hc:dA c)(n:Nat)(hn:n<18446744073709551616) f My(T:fZ f My w)(TZ:∀t∈f,jN t)(dU:Z f<=1000000) gb gc gn gf(hgb:bn w gb 114 #[aj (I ⟨p.g,0,U⟩)])(vB:bn w gc 3 #[G J c])(H7:bn w gn 40 #[G E n])(J1:bn w gf 37 #[My]) :aK aR 97 #[dD (mT B),aj (I ⟨gb,0,U⟩),aj (I ⟨gc,0,U⟩),aj (I ⟨gn,0,U⟩),aj (I ⟨gf,0,U⟩)] w λe w'=>∃v',e=ak (au #[v',G J (qN B.bI (jP B 2 c n f)).2])/\cW (D (L w)) (D (L w)) 178 fe (qN B.bI (jP B 2 c n f)).1 v' w'/\K w w':=by
 have S:=z.new;have hfit:dZ (jP B 2 c n f):=⟨by simp[jP,dA],S.1,hc,S.2.1,S.2.2,hn,TZ,by simp[jP]⟩;have C1:=aY λW (k:K w W)=>agW B.bI (jP B 2 c n f) p.vt (av (cB (jP B 2 c n f) My (F U 0 0))) W (h.dz.at k).bI ⟨_,_,rfl,fO _ _ _ _ T k,iJ _ _⟩ hfit (by simp[gu,jP];exact dU) z.tx.small z.tx.AA
 have q:=h.q;have N:=hgb.cells;have qc:=vB.cells;have qn:=H7.cells;have qf:=J1.cells;obtain⟨Af,cf,rfl⟩:=dX T;have hs1:=bH h.dz.now.bI;simp only[jP]at C1;have Y:Hid (mT B=(B.me,B.st.life,B.calls+1)):=aY rfl;obtain⟨n1,O⟩:∃n,n=B.calls+1:=⟨_,rfl⟩;rw[<- O]at C1 Y;rw[Y.aX];generalize A:qN B.bI (jP B 2 c n f)=R at *;simp only[jP]at A;rw[<- O]at A;rw[A]at C1;clear O A Y;have y:=bn.new w 42 #[G J B.me,G E B.st.life,G E n1];have k1:=y.cG;obtain⟨g,gl,gd,gr,gt,vd,vr,vp,vh,vl,vq,va,vt,vf,vw,kr⟩:=p;simp only at q C1 hs1 N;obtain⟨At,ct,rfl⟩:=hs1;obtain⟨rl,rc⟩:=R;clear h z hgb vB H7 hfit J1 T TZ;go_in;go_upto_region 1 with fail;generalize w.alloc _=j at *;obtain⟨lo,hlo⟩:∃lo,Hid (lo=D (L w)):=⟨_,aY rfl⟩;generalize D (L w)=ga at y|-;have qa:=y.cells;have Q:=λW (k:K j W)=>q W (k1.tr k)
 have H:=λW (k:K j W)=>N W (k1.tr k)
 have C:=λW (k:K j W)=>qc W (k1.tr k)
 have X:=λW (k:K j W)=>qn W (k1.tr k)
 have qf1:=λW (k:K j W)=>qf W (k1.tr k)
 clear qf;clear q N qc qn y;have qs:=aB Q (aB qa (aB H (aB C (aB X qf1))));refine fD 12 ?_;iterate 9 refine bB.i ?_
 refine bB.op (λv W=>∃v',v=au #[v',G J rc]/\cW lo lo 178 fe rl v' W) (λ_ _ _ ⟨v',e,h⟩ k=>⟨v',e,h.st k⟩) (λV W kW hp=>?_) ?_
 ·(try simp only[dN,bZ,cC,dK,dL,bS]at hp)
  simp[dI,bR,aC,hp,fk,aL,bT,Q,qa,H,C,X,qf1,go_sem];exact ZA
 refine bB.op (λv W=>cW lo lo 178 fe rl v W) (λ_ _ _ h k=>h.st k) (λV W kW hp=>?_) ?_;exact Oo;refine bB.is (G J rc) (λV W kW hp=>?_) ?_;exact Oq;clear qs;intro V W kW hA;simp only[bZ,cC,dF,bS,Nat.reduceAdd]at hA;obtain⟨e0,e1,e2,e3,e4,e5,e6,e7,e8,⟨v',ev,gG⟩,hO,ec,-⟩:=hA;have kF:=k1.tr kW;generalize H5:V 10=v7 at *;have mF:=bH hO.bD;obtain⟨A7,c7,rfl⟩:=mF;apply bN.pure;rfl;simp[bR,aC,cP,H5,aL,bT,go_sem];rfl;apply bN.pure;rfl;simp[bR,aC,cP,ec,aL,bT,go_sem];rfl;refine bN.e ?_;have HO:=aY hO;clear hO gG C1 Q qa H C X qf1 H5 e0 e1 e2 e3 e4 e5 e6 e7 e8 ev ec;exact akQ
theorem atd{M p B w}(h:df M p B w)(y:dq B) c(hc:dA c)(n:Nat)(hn:n<18446744073709551616) gb gc gn(hgb:bn w gb 114 #[aj (I ⟨p.g,0,U⟩)])(vB:bn w gc 3 #[G J c])(H7:bn w gn 40 #[G E n]) :
 aK aR 157 #[dD (mT B),aj (I ⟨gb,0,U⟩),aj (I ⟨gc,0,U⟩),aj (I ⟨gn,0,U⟩)] w λe w'=>∃v',e=ak (au #[v',G J (qN B.bI (jP B 3 c n [])).2])/\cW (D (L w)) (D (L w)) 178 fe (qN B.bI (jP B 3 c n [])).1 v' w'/\K w w':=by
 have Q:=y.new
 have hfit:dZ (jP B 3 c n []):=⟨by simp[jP,dA],Q.1,hc,Q.2.1,Q.2.2,hn,by simp[jP],by simp[jP]⟩
 have C1:=aY λW (k:K w W)=>agW B.bI (jP B 3 c n []) p.vt (av (cB (jP B 3 c n []) (F U 0 0) (F U 0 0))) W (h.dz.at k).bI ⟨_,_,rfl,⟨U,0,rfl,Reads.nil _ _ _ _⟩,iJ _ _⟩ hfit (by simp[gu,jP]) y.tx.small y.tx.AA
 have q:=h.q
 have H:=hgb.cells
 have qc:=vB.cells
 have Y:=H7.cells
 skip
 have hs1:=bH h.dz.now.bI
 simp only[jP]at C1
 have T:Hid (mT B=(B.me,B.st.life,B.calls+1)):=aY rfl
 obtain⟨n1,N⟩:∃n,n=B.calls+1:=⟨_,rfl⟩
 rw[<- N]at C1 T
 rw[T.aX]
 generalize z:qN B.bI (jP B 3 c n [])=R at *
 simp only[jP]at z
 rw[<- N]at z
 rw[z]at C1
 clear N z T
 have t:=bn.new w 42 #[G J B.me,G E B.st.life,G E n1]
 have k1:=t.cG
 obtain⟨g,gl,gd,gr,gt,vd,vr,vp,vh,vl,vq,va,vt,vf,vw,kr⟩:=p
 simp only at q C1 hs1 H
 obtain⟨At,ct,rfl⟩:=hs1
 obtain⟨rl,rc⟩:=R
 clear h y hgb vB H7 hfit
 go_in
 go_upto_region 1 with fail
 generalize w.alloc _=j at *
 obtain⟨lo,hlo⟩:∃lo,Hid (lo=D (L w)):=⟨_,aY rfl⟩
 generalize D (L w)=ga at t|-
 have X:=t.cells
 have O:=λW (k:K j W)=>q W (k1.tr k)
 have C:=λW (k:K j W)=>H W (k1.tr k)
 have A:=λW (k:K j W)=>qc W (k1.tr k)
 have S:=λW (k:K j W)=>Y W (k1.tr k)
 skip
 clear q H qc Y t
 have qs:=aB O (aB X (aB C (aB A S)))
 refine fD 11 ?_
 iterate 8 refine bB.i ?_
 refine bB.op (λv W=>∃v',v=au #[v',G J rc]/\cW lo lo 178 fe rl v' W) (λ_ _ _ ⟨v',e,h⟩ k=>⟨v',e,h.st k⟩) (λV W kW hp=>?_) ?_
 ·(try simp only[dN,bZ,cC,dK,dL,bS]at hp)
  simp[dI,bR,aC,hp,fk,aL,bT,O,X,C,A,S,go_sem];exact ZA
 refine bB.op (λv W=>cW lo lo 178 fe rl v W) (λ_ _ _ h k=>h.st k) (λV W kW hp=>?_) ?_
 .exact Oo
 refine bB.is (G J rc) (λV W kW hp=>?_) ?_
 .exact Oq
 clear qs
 intro V W kW hA
 simp only[bZ,cC,dF,bS,Nat.reduceAdd]at hA
 obtain⟨e0,e1,e2,e3,e4,e5,e6,e7,⟨v',ev,gG⟩,hO,ec,-⟩:=hA
 have kF:=k1.tr kW
 generalize H5:V 9=v7 at *
 have mF:=bH hO.bD
 obtain⟨A7,c7,rfl⟩:=mF
 apply bN.pure
 rfl
 simp[bR,aC,cP,H5,aL,bT,go_sem]
 rfl
 apply bN.pure
 rfl
 simp[bR,aC,cP,ec,aL,bT,go_sem]
 rfl
 refine bN.e ?_
 have HO:=aY hO
 clear hO gG C1 O X C A S H5 e0 e1 e2 e3 e4 e5 e6 e7 ev ec
 go_wp2
 go_ret2
 exact⟨_,rfl,by rw[<- hlo.aX];exact HO.aX,kF⟩
section
variable {M:Nat->Prop}{p:qu}{B B':cJ}{w w1 w2 w3:aP}{g9:Nat}
theorem df.EJ(h:df M p B w)(k:K w w1)(C:D (L w)<=g9)(t:g9<D (L w1)):df (λk=>M k\/k=g9) p B w1 :=
 h.far (X:=λ_=>False) (bf.cz k _) (λ_ h=>h.elim) (λ_ h=>h.elim) (λk j A=>A.resolve_right aZ) (λk j=>aI (h.sub k j)) λb z=>z.elim (λy=>cZ (h.low b y) k.size) λe=>e▸t
theorem fG.scratch(h:fG (λk=>M k\/k=g9) p B' w1 w2)(u:bf (λk=>k=g9) w2 w3)(k:K w w1)(S:D (L w)<=g9)(Q:g9<D (L w1))(T:∀k,cY p k->k<D (L w))(R:∀k,M k->k<D (L w)):fG M p B' w w3:=by
 obtain⟨y,A,z,N,B⟩:=h;have C:¬cY y g9:=λt=>(B g9 t).elim (λh=>bL) λh=>aZ
 have:=z.size;have H:=u.size;refine⟨y,A.far u (λk j=>aI (aJ j)) (λk j t=>C (j▸t)) (λk _ t=>t.imp aI id) (λk j=>aJ j) (λk j=>j.elim (λh=>bL) λh=>cZ (A.low k (aJ h)) H),((bf.cz k _).tr z).ir u λk j e=>aZ,N,λk j=>(B k j).imp id λh=>aZ⟩
theorem fG.keeps{t cs}(h:fG M p B' w1 w2)(hb:bn w1 g9 t cs)(hg:¬cY p g9):bn w2 g9 t cs:=by obtain⟨y,z,j,-⟩:=h;exact hb.cF j hg
end
theorem atQ{M p B w}(h:df M p B w)(T:dq B) c(hc:dA c) :aK aR 101 #[aj (I ⟨p.g,0,U⟩),G J c] w λe Y=>e=ak (au #[dD (zM B c).2.1,G J (zM B c).2.2])/\fG M p (zM B c).1 w Y:=by
 have HX:=aY λk hk=>h.low k (h.sub k hk)
 have HM:=aY h.low;have Q:=((bn.new w 114 #[aj (I ⟨p.g,0,U⟩)]).alloc (aq #[G J c] 3)).alloc (aq #[G J 0,G E 0,G E 0] 42);have H:=(bn.new (aU w (aq #[aj (I ⟨p.g,0,U⟩)] 114)) 3 #[G J c]).alloc (aq #[G J 0,G E 0,G E 0] 42);have A:=bn.new ((aU w (aq #[aj (I ⟨p.g,0,U⟩)] 114)).alloc (aq #[G J c] 3)) 42 #[G J 0,G E 0,G E 0];have k1:=K.T6 w (aq #[aj (I ⟨p.g,0,U⟩)] 114) (aq #[G J c] 3) (aq #[G J 0,G E 0,G E 0] 42);simp only[World.size_alloc]at H A;generalize dW:D (L w)+1+1=t at A;have V:D (L w)<=t:=aZ;have S:=h.EJ k1 V A.lt;have C1:=aY (WZ S T c 155 #[aj (I ⟨D (L w),0,U⟩),aj (I ⟨D (L w)+1,0,U⟩)] (zL B.bI (mT B) c) (λargs W=>dH) (λW C=>atc (S.st C) T c hc _ _ (Q.bM C) (H.bM C)));have Vs:Hid (zM B c=jF B c (zL B.bI (mT B) c)):=aY rfl;generalize zM B c=R at *;generalize jF B c (zL B.bI (mT B) c)=RR at *;obtain⟨O,j,ec⟩:=RR;have HS:=aY λy w3 (z:fG (λk=>M k\/k=t) p O _ y) (u:bf (λk=>k=t) y w3)=>z.scratch u k1 V A.lt HX.aX HM.aX
 have HR:=aY λy (z:fG (λk=>M k\/k=t) p O _ y)=>z.keeps A λhx=>S4
 have:=Q.cell;have:=H.cell;go_in;go_upto_region 1 with fail;generalize ay (ay (ay w _) _) _=w1 at *;go_wp2_with fail
 apply bW C1.aX;intro y z;have N:=HR.aX _ z;have FY:=aY (HS.aX _ · z);have:=N.cell;have:=N.frozen;go_wp2;have ui:bn (ax (ax (ax y _ _) _ _) _ _) t 42 #[G J j.1,G E j.2.1,G E j.2.2]:=((N.cH 0 (G J j.1)).cH 1 (G E j.2.1)).cH 2 (G E j.2.2);have HF:=aY (FY.aX _ (((bf.dx (X:=λk=>k=t) rfl 0 (G J j.1)).tr (bf.dx (X:=λk=>k=t) rfl 1 (G E j.2.1))).tr (bf.dx (X:=λk=>k=t) rfl 2 (G E j.2.2))));generalize ax (ax (ax y _ _) _ _) _ _=W9 at *;have e9:=ui.cell;try rw[jE]
 refine aM (v:=au #[dD j,G J ec]) (by simp[results,results101,go_sem,e9]) rfl ?_;exact ZB
theorem awi{M p B w}(h:df M p B w)(hG:dq B) c(hc:dA c)(n:Nat)(hn:n<18446744073709551616) f My(Y:fZ f My w)(TZ:∀t∈f,jN t)(dU:Z f<=1000000) :aK aR 54 #[aj (I ⟨p.g,0,U⟩),G J c,G E n,My] w λe w'=>e=ak (au #[dD (Cm B c n f).2.1,G J (Cm B c n f).2.2])/\fG M p (Cm B c n f).1 w w':=by
 obtain⟨A,z,e0⟩:=dX Y;subst e0;have HX:=aY λk hk=>h.low k (h.sub k hk)
 have HM:=aY h.low;have V:=(((((bn.new w 114 #[aj (I ⟨p.g,0,U⟩)]).alloc (aq #[G J c] 3)).alloc (aq #[G E n] 40)).alloc (aq #[(F A (Z f) z)] 37)).alloc (aq #[G J 0,G E 0,G E 0] 42));have Q:=((((bn.new (aU w (aq #[aj (I ⟨p.g,0,U⟩)] 114)) 3 #[G J c]).alloc (aq #[G E n] 40)).alloc (aq #[(F A (Z f) z)] 37)).alloc (aq #[G J 0,G E 0,G E 0] 42));have dB:=(((bn.new ((aU w (aq #[aj (I ⟨p.g,0,U⟩)] 114)).alloc (aq #[G J c] 3)) 40 #[G E n]).alloc (aq #[(F A (Z f) z)] 37)).alloc (aq #[G J 0,G E 0,G E 0] 42));have hb4:=((bn.new (((aU w (aq #[aj (I ⟨p.g,0,U⟩)] 114)).alloc (aq #[G J c] 3)).alloc (aq #[G E n] 40)) 37 #[(F A (Z f) z)]).alloc (aq #[G J 0,G E 0,G E 0] 42));have O:=bn.new ((((aU w (aq #[aj (I ⟨p.g,0,U⟩)] 114)).alloc (aq #[G J c] 3)).alloc (aq #[G E n] 40)).alloc (aq #[(F A (Z f) z)] 37)) 42 #[G J 0,G E 0,G E 0];have k1:=K.aEe w (aq #[aj (I ⟨p.g,0,U⟩)] 114) (aq #[G J c] 3) (aq #[G E n] 40) (aq #[(F A (Z f) z)] 37) (aq #[G J 0,G E 0,G E 0] 42);simp only[World.size_alloc]at Q dB hb4 O;generalize dW:D (L w)+1+1+1+1=y at O;have h9:D (L w)<=y:=aZ;have H9:=h.EJ k1 h9 O.lt;have C1:=aY (WZ H9 hG c 97 #[aj (I ⟨D (L w),0,U⟩),aj (I ⟨D (L w)+1,0,U⟩),aj (I ⟨D (L w)+1+1,0,U⟩),aj (I ⟨D (L w)+1+1+1,0,U⟩)] (qN B.bI (jP B 2 c n f)) (λargs W=>dH) (λW H=>auW (H9.st H) hG c hc n hn f (F A (Z f) z) (fO _ _ _ _ Y (k1.tr H)) TZ dU _ _ _ _ (V.bM H) (Q.bM H) (dB.bM H) (hb4.bM H)));have Vs:Hid (Cm B c n f=jF B c (qN B.bI (jP B 2 c n f))):=aY rfl;generalize Cm B c n f=R at *;generalize jF B c (qN B.bI (jP B 2 c n f))=RR at *;obtain⟨T,j,ec⟩:=RR;have HS:=aY λC w3 (N:fG (λk=>M k\/k=y) p T _ C) (u:bf (λk=>k=y) C w3)=>N.scratch u k1 h9 O.lt HX.aX HM.aX
 have HR:=aY λC (N:fG (λk=>M k\/k=y) p T _ C)=>N.keeps O λhx=>S4
 have:=V.cell;have:=Q.cell;go_in;go_upto_region 1 with fail;generalize ay (ay (ay (ay (ay w _) _) _) _) _=w1 at *;go_wp2_with fail
 apply bW C1.aX;intro C N;have S:=HR.aX _ N;have FY:=aY (HS.aX _ · N);have:=S.cell;have:=S.frozen;go_wp2;have ui:bn (ax (ax (ax C _ _) _ _) _ _) y 42 #[G J j.1,G E j.2.1,G E j.2.2]:=((S.cH 0 (G J j.1)).cH 1 (G E j.2.1)).cH 2 (G E j.2.2);have HF:=aY (FY.aX _ (((bf.dx (X:=λk=>k=y) rfl 0 (G J j.1)).tr (bf.dx (X:=λk=>k=y) rfl 1 (G E j.2.1))).tr (bf.dx (X:=λk=>k=y) rfl 2 (G E j.2.2))));generalize ax (ax (ax C _ _) _ _) _ _=W9 at *;have e9:=ui.cell;try rw[jE]
 refine aM (v:=au #[dD j,G J ec]) (by simp[results,results54,go_sem,e9]) rfl ?_;exact ZB
theorem atS{M p B w}(h:df M p B w)(T:dq B) c(hc:dA c)(n:Nat)(hn:n<18446744073709551616) :aK aR 102 #[aj (I ⟨p.g,0,U⟩),G J c,G E n] w λe w'=>e=ak (au #[dD (B7 B c n).2.1,G J (B7 B c n).2.2])/\fG M p (B7 B c n).1 w w':=by
 have HX:=aY λk hk=>h.low k (h.sub k hk)
 have HM:=aY h.low;have Q:=((((bn.new w 114 #[aj (I ⟨p.g,0,U⟩)]).alloc (aq #[G J c] 3)).alloc (aq #[G E n] 40)).alloc (aq #[G J 0,G E 0,G E 0] 42));have H:=(((bn.new (aU w (aq #[aj (I ⟨p.g,0,U⟩)] 114)) 3 #[G J c]).alloc (aq #[G E n] 40)).alloc (aq #[G J 0,G E 0,G E 0] 42));have Y:=((bn.new ((aU w (aq #[aj (I ⟨p.g,0,U⟩)] 114)).alloc (aq #[G J c] 3)) 40 #[G E n]).alloc (aq #[G J 0,G E 0,G E 0] 42));have A:=bn.new (((aU w (aq #[aj (I ⟨p.g,0,U⟩)] 114)).alloc (aq #[G J c] 3)).alloc (aq #[G E n] 40)) 42 #[G J 0,G E 0,G E 0];have k1:=K.aod w (aq #[aj (I ⟨p.g,0,U⟩)] 114) (aq #[G J c] 3) (aq #[G E n] 40) (aq #[G J 0,G E 0,G E 0] 42);simp only[World.size_alloc]at H Y A;generalize dW:D (L w)+1+1+1=t at A;have V:D (L w)<=t:=aZ;have S:=h.EJ k1 V A.lt;have C1:=aY (WZ S T c 157 #[aj (I ⟨D (L w),0,U⟩),aj (I ⟨D (L w)+1,0,U⟩),aj (I ⟨D (L w)+1+1,0,U⟩)] (qN B.bI (jP B 3 c n [])) (λargs W=>dH) (λW C=>atd (S.st C) T c hc n hn _ _ _ (Q.bM C) (H.bM C) (Y.bM C)));have Vs:Hid (B7 B c n=jF B c (qN B.bI (jP B 3 c n []))):=aY rfl;generalize B7 B c n=R at *;generalize jF B c (qN B.bI (jP B 3 c n []))=RR at *;obtain⟨O,j,ec⟩:=RR;have HS:=aY λy w3 (z:fG (λk=>M k\/k=t) p O _ y) (u:bf (λk=>k=t) y w3)=>z.scratch u k1 V A.lt HX.aX HM.aX
 have HR:=aY λy (z:fG (λk=>M k\/k=t) p O _ y)=>z.keeps A λhx=>S4
 have:=Q.cell;have:=H.cell;go_in;go_upto_region 1 with fail;generalize ay (ay (ay (ay w _) _) _) _=w1 at *;go_wp2_with fail
 apply bW C1.aX;intro y z;have N:=HR.aX _ z;have FY:=aY (HS.aX _ · z);have:=N.cell;have:=N.frozen;go_wp2;have ui:bn (ax (ax (ax y _ _) _ _) _ _) t 42 #[G J j.1,G E j.2.1,G E j.2.2]:=((N.cH 0 (G J j.1)).cH 1 (G E j.2.1)).cH 2 (G E j.2.2);have HF:=aY (FY.aX _ (((bf.dx (X:=λk=>k=t) rfl 0 (G J j.1)).tr (bf.dx (X:=λk=>k=t) rfl 1 (G E j.2.1))).tr (bf.dx (X:=λk=>k=t) rfl 2 (G E j.2.2))));generalize ax (ax (ax y _ _) _ _) _ _=W9 at *;have e9:=ui.cell;try rw[jE]
 refine aM (v:=au #[dD j,G J ec]) (by simp[results,results102,go_sem,e9]) rfl ?_;exact ZB
theorem afb x v w(h:fM x v w)(hs:gu x) :aK aR 128 #[v] w λe w'=>∃t,e=ak t/\yF (D (L w)) x t w'/\K w w':=by have zF:=aY func128;have zN:=aY ntmps128;have zR:=aY results128;exact Od
theorem Rp x v w(h:fM x v w)(hs:gu x) :aK aR 269 #[v] w λe w'=>∃t,e=ak t/\yF (D (L w)) x t w'/\K w w':=by have zF:=aY func269;have zN:=aY ntmps269;have zR:=aY results269;exact Od
theorem atT x v w(h:fM x v w)(hs:gu x) :aK aR 321 #[v] w λe w'=>∃t,e=ak t/\yF (D (L w)) x t w'/\K w w':=by have zF:=aY func321;have zN:=aY ntmps321;have zR:=aY results321;exact Od
theorem WK l v w(h:bD cL l v w)(Y:∀x∈l,gu x)(hn:Z l<=1000000) :aK aR 86 #[v] w λe z=>∃B,e=ak B/\bK (λk=>k<D (L w)) (D (L w)) 128 cL l B z/\K w z:=by
 obtain⟨A,c,rfl,T,hc⟩:=h;have X:=aY Y;have Q:=K.rf w;have hO:=bK.nil (λk=>k<D (L w)) (D (L w)) 128 cL w;go_in;go_wp2_with fail
 go_loopw [3,5,8] (fun o _ i W=>∃j:Nat,j<=Z l/\i=G J j/\bK (fun k=>k<D (L w)) (D (L w)) 128 cL (l.take j) o W/\K w W) (fun _ _ i _=>Z l-(aO i).toNat)
 case atStart=>exact⟨0,aZ,rfl,iF,Q⟩
 case round =>
  obtain⟨j,hj,rfl,hO,kr⟩:=hrel;by_cases hlt:j<Z l
  .have cE:(j:Int)<Z l:=aZ;obtain⟨y,H,cs,rfl,hcl,V,R,d⟩:=fE T j hlt bG;have HT:Hid (l.take (j+1)=l.take j++[l[j]]):=aY Ot;have qC:=X.aX _ (dJ hlt);generalize l[j]=x at *;obtain⟨vf,t,rfl,C,N⟩:=V w (K.rf w);have HE:Hid (∀W,K w W->fM x (av (cB x vf t)) W):=aY λW k=>⟨_,_,rfl,fO _ _ _ _ C k,cM N k⟩
   have q:∀i,i<8->wr.cell? ⟨y,H+j*8+i,U⟩=(cB x vf t)[i]?:=λi hi=>(d wr kr i hi).trans aD
   have:wr.cell? ⟨y,H+j*8,U⟩=I (G J x.bA):=R wr kr;have M:=bn.new wr 128 (cB x vf t);have k1:=M.cG;obtain⟨Af,cf,rfl⟩:=dX C;obtain⟨Ae,ce,rfl⟩:=bH N;go_upto_region 5 with fail;generalize wr.alloc _=O at *;replace hO:=hO.st k1;have lA:=kr.tr k1;have q:=M.cell;go_wp2_with fail
   apply dP (afb x _ O (HE.aX _ lA) qC);exact akR
  exact Ou
theorem aeT l v w(h:bD cL l v w)(Y:∀x∈l,gu x)(hn:Z l<=1000000) :aK aR 267 #[v] w λe z=>∃B,e=ak B/\bK (λk=>k<D (L w)) (D (L w)) 128 cL l B z/\K w z:=by
 obtain⟨A,c,rfl,T,hc⟩:=h;have X:=aY Y;have Q:=K.rf w;have hO:=bK.nil (λk=>k<D (L w)) (D (L w)) 128 cL w;go_in;go_wp2_with fail
 go_loopw [3,5,8] (fun o _ i W=>∃j:Nat,j<=Z l/\i=G J j/\bK (fun k=>k<D (L w)) (D (L w)) 128 cL (l.take j) o W/\K w W) (fun _ _ i _=>Z l-(aO i).toNat)
 case atStart=>exact⟨0,aZ,rfl,iF,Q⟩
 case round =>
  obtain⟨j,hj,rfl,hO,kr⟩:=hrel;by_cases hlt:j<Z l
  .have cE:(j:Int)<Z l:=aZ;obtain⟨y,H,cs,rfl,hcl,V,R,d⟩:=fE T j hlt bG;have HT:Hid (l.take (j+1)=l.take j++[l[j]]):=aY Ot;have qC:=X.aX _ (dJ hlt);generalize l[j]=x at *;obtain⟨vf,t,rfl,C,N⟩:=V w (K.rf w);have HE:Hid (∀W,K w W->fM x (av (cB x vf t)) W):=aY λW k=>⟨_,_,rfl,fO _ _ _ _ C k,cM N k⟩
   have q:∀i,i<8->wr.cell? ⟨y,H+j*8+i,U⟩=(cB x vf t)[i]?:=λi hi=>(d wr kr i hi).trans aD
   have:wr.cell? ⟨y,H+j*8,U⟩=I (G J x.bA):=R wr kr;have M:=bn.new wr 128 (cB x vf t);have k1:=M.cG;obtain⟨Af,cf,rfl⟩:=dX C;obtain⟨Ae,ce,rfl⟩:=bH N;go_upto_region 5 with fail;generalize wr.alloc _=O at *;replace hO:=hO.st k1;have lA:=kr.tr k1;have q:=M.cell;go_wp2_with fail
   apply dP (Rp x _ O (HE.aX _ lA) qC);exact akR
  exact Ou
theorem atU l v w(h:bD dQ l v w)(hn:Z l<=1000000000) :aK aR 87 #[v] w λe t=>∃j,e=ak j/\bK (λk=>k<D (L w)) (D (L w)) 42 dQ l j t/\K w t:=by obtain⟨A,c,rfl,y,-⟩:=h;apply dP (ae7 A (Z l) c _ w (agP y) (SQ l) hn);rintro j t⟨z,k⟩;exact⟨j,rfl,⟨l.map gF,iF,bu,λW _=>Sa l W⟩,k⟩
theorem dq.GL{B}(t:dq B):(∀x∈B.st.bq,gu x)/\(∀x∈B.st.bF,gu x)/\(∀x∈B.dy,gu x) :=
 ⟨λx j=>wX (t.dk.inv.Bd x j).1,λx j=>wX (t.dk.inv.CZ x j).1,λx j=>wX (t.dy x j).1⟩
theorem atV{M p B w}(h:df M p B w)(hG:dq B) :aK aR 43 #[aj (I ⟨p.g,0,U⟩)] w λe w'=>∃vl vp va,e=ak (av (eO B.st vl vp va))/\nC (λk=>k<D (L w)) B.st vl vp va w'/\K w w':=by
 have ja:=hG.GL;have:=hG.dk.len;have C1:=aY λW (k:K w W)=>WK B.st.bq p.vl W (h.dz.at k).bq ja.1 aZ
 have C2:=aY λW (k:K w W)=>WK B.st.bF p.vq W (h.dz.at k).bF ja.2.1 aZ
 have C3:=aY λW (k:K w W)=>atU B.st.ab p.va W (h.dz.at k).ab aZ
 have q:=h.q;have hs1:=bH h.dz.now.bq;have jI:=bH h.dz.now.bF;have jY:=bH h.dz.now.ab;have T:=bn.new w 61 oK;have k1:=T.cG;obtain⟨g,gl,gd,gr,gt,vd,vr,vp,vh,vl,vq,va,vt,vf,vw,kr⟩:=p;simp only at q C1 C2 C3 hs1 jI jY;obtain⟨Al,cl,rfl⟩:=hs1;obtain⟨Aq,cq,rfl⟩:=jI;obtain⟨Aa,ca,rfl⟩:=jY;generalize hS:B.st=s at *;have HS:=aY hS;go_in;go_upto_region 1 with fail;generalize w.alloc _=y at *;generalize gh:D (L w)=t at T|-;have:=aY gh;have q1:=λW (k:K y W)=>q W (k1.tr k)
 simp only[JU,HS.aX]at q1;go_upto_region 3 with fail;have qs:=q1;refine fD 23 ?_;iterate 10 refine bB.i ?_
 refine bB.c (λv W=>bK (λk=>k<D (L y)) (D (L y)) 128 cL s.bq v W) (λ_ _ _ h k=>h.st k) (λW j=>(C1.aX W (k1.tr j)).mono λe w4 ⟨R,N,Q,S⟩=>⟨R,N,(Q.less λk z=>cZ z j.size).low j.size,S⟩) ?_;iterate 5 refine bB.i ?_
 refine bB.c (λv W=>bK (λk=>k<D (L y)) (D (L y)) 128 cL s.bF v W) (λ_ _ _ h k=>h.st k) (λW j=>(C2.aX W (k1.tr j)).mono λe w4 ⟨R,N,Q,S⟩=>⟨R,N,(Q.less λk z=>cZ z j.size).low j.size,S⟩) ?_;iterate 5 refine bB.i ?_
 refine bB.c (λv W=>bK (λk=>k<D (L y)) (D (L y)) 42 dQ s.ab v W) (λ_ _ _ h k=>h.st k) (λW j=>(C3.aX W (k1.tr j)).mono λe w4 ⟨R,N,Q,S⟩=>⟨R,N,(Q.less λk z=>cZ z j.size).low j.size,S⟩) ?_;intro V W j;conv=>lhs;simp only[bZ,cC,dF,bS,Nat.reduceAdd]
 intro hA;obtain⟨e0,N,e2,e3,e4,e5,e6,e7,e8,e9,gG,sP,JZ,Ga,Mp,vG,fq,e17,e18,e19,e20,e21,dS,-⟩:=hA;obtain⟨A,c1,iV⟩:=gG.slice;obtain⟨O,c2,Mz⟩:=fq.slice;obtain⟨H,c3,e22⟩:=dS.slice;rw[iV]at gG;rw[Mz]at fq;rw[e22]at dS;apply bN.pure;rfl;simp[bR,aC,cP,e4,iV,Mz,e22,aL,bT,go_sem];try rfl
 have fF:=T.bM j;have q9:=fF.cell;have z9:=fF.frozen;obtain⟨C,MA⟩:∃C,C=ax (ax (ax (ax W ⟨t,0,U⟩ (G E s.life)) ⟨t,1,U⟩ (F A (Z s.bq) c1)) ⟨t,2,U⟩ (F O (Z s.bF) c2)) ⟨t,3,U⟩ (F H (Z s.ab) c3):=⟨_,rfl⟩;refine bN.skip C rfl (by rw[MA];simp[bR,aC,cP,aL,bT,q9,z9,go_sem]) ?_;refine bN.nil ?_;simp only[iO,Act.put,xm,vU,vT,Nat.reduceAdd,cP];have ui:bn C t 61 (eO s (F A (Z s.bq) c1) (F O (Z s.bF) c2) (F H (Z s.ab) c3)):=by rw[MA];exact (((fF.cH 0 (G E s.life)).cH 1 (F A (Z s.bq) c1)).cH 2 (F O (Z s.bF) c2)).cH 3 (F H (Z s.ab) c3)
 have u9:bf (λk=>k=t) W C:=by rw[MA];exact (((bf.dx (X:=λk=>k=t) rfl 0 (G E s.life)).tr (bf.dx (X:=λk=>k=t) rfl 1 (F A (Z s.bq) c1))).tr (bf.dx (X:=λk=>k=t) rfl 2 (F O (Z s.bF) c2))).tr (bf.dx (X:=λk=>k=t) rfl 3 (F H (Z s.ab) c3))
 have:=T.lt;have hlt:∀k,k<D (L w)->k<D (L y):=λk z=>aZ
 have HF:Hid (nC (λk=>k<D (L w)) s (F A (Z s.bq) c1) (F O (Z s.bF) c2) (F H (Z s.ab) c3) C):=aY λY u =>
  have uu:bf (λk=>k<D (L y)) W Y:=(u9.more λk z=>aZ).tr (u.more hlt)
  ⟨gG.fx (λ_ h=>h) Y uu,fq.fx (λ_ h=>h) Y uu,dS.fx (λ_ h=>h) Y uu⟩
 have hK:=u9.k (k1.tr j) λk z=>aZ
 have e9:=ui.cell;go_wp2;try rw[jE]
 refine aM (v:=av (eO s (F A (Z s.bq) c1) (F O (Z s.bF) c2) (F H (Z s.ab) c3))) (by simp[results,results43,go_sem,e9]) rfl ?_;exact⟨_,_,_,rfl,HF.aX,hK⟩
theorem asK{M p B w}(h:df M p B w)(C:dq B) :aK aR 193 #[aj (I ⟨p.g,0,U⟩)] w λe t=>∃y,e=ak y/\bK (λk=>k<D (L w)) (D (L w)) 128 cL B.dy y t/\K w t:=by
 have H:=C.GL;have N:=C.Cq;have z:=aY (WK B.dy p.vw w h.dz.now.dy H.2.2 N);have q:=h.blk.cell;have j:=bH h.dz.now.dy;obtain⟨g,gl,gd,gr,gt,vd,vr,vp,vh,vl,vq,va,vt,vf,vw,kr⟩:=p;simp only at q z j;obtain⟨Q,cl,rfl⟩:=j;go_in;go_wp2_with fail
 apply dP z.aX;rintro R S⟨A,k2⟩;have HO:=aY A;obtain⟨O,c2,rfl⟩:=A.slice;exact Zf
def Ui(lo:Nat)(x:bU)(v:aQ)(W:aP):Prop:=∃vf j,v=av (cB x vf j)/\Fx (λk=>k<lo) (λW=>cL.rel x (cB x vf j).toList W) W
theorem akS lo x:∀v w j,Ui lo x v w->aN (D (L w)) w j->Ui lo x v j:=by rintro v w j⟨vf,t,e,h⟩ k;exact⟨vf,t,e,h.k k⟩
def txN(lo:Nat)(t:eU)(v:aQ)(W:aP):Prop:=∃vf j,v=av (jz t vf j)/\Fx (λk=>k<lo) (λW=>fe.rel t (jz t vf j).toList W) W
theorem aC2 lo x:∀v w j,txN lo x v w->aN (D (L w)) w j->txN lo x v j:=by rintro v w j⟨vf,t,e,h⟩ k;exact⟨vf,t,e,h.k k⟩
theorem atW{M p B w}(h:df M p B w)(hG:dq B) :aK aR 192 #[aj (I ⟨p.g,0,U⟩)] w λe T=>∃X,e=ak X/\bK (λk=>k<D (L w)) (D (L w)) 178 fe B.bI X T/\K w T:=by
 have HS:=aY hG.tx.small;have:=hG.tx.AA;have q:=h.blk.cell;have t:=h.dz.now.bI;obtain⟨g,gl,gd,gr,gt,vd,vr,vp,vh,vl,vq,va,vt,vf,vw,kr⟩:=p;simp only at q t;obtain⟨A,c,rfl,t,hc⟩:=t;generalize B.bI=l at *;have kk:=K.rf w;have hO:=bK.nil (λk=>k<D (L w)) (D (L w)) 178 fe w;go_in;go_upto_block 0 with fail;go_wp2_with fail
 go_loopw [3,5,13] (fun o _ i W=>∃j:Nat,j<=Z l/\i=G J j/\bK (fun k=>k<D (L w)) (D (L w)) 178 fe (l.take j) o W/\K w W) (fun _ _ i _=>Z l-(aO i).toNat)
 case atStart=>exact⟨0,aZ,rfl,iF,kk⟩
 case round =>
  obtain⟨j,hj,rfl,hO,kr⟩:=hrel;by_cases hlt:j<Z l
  .have cE:(j:Int)<Z l:=aZ;obtain⟨R,off,cs,rfl,hcl,hrl,d0,d⟩:=fE t j hlt bG;have HT:Hid (l.take (j+1)=l.take j++[l[j]]):=aY Ot;have qC:=HS.aX _ (dJ hlt);generalize l[j]=x at *;obtain⟨vf,O,rfl,Y,he⟩:=hrl w (K.rf w);have HE:Hid (∀W,K w W->fM x.e (av (cB x.e vf O)) W):=aY λW k=>⟨_,_,rfl,fO _ _ _ _ Y k,cM he k⟩
   have q:∀i,i<9->wr.cell? ⟨R,off+j*9+i,U⟩=(jz x vf O)[i]?:=λi hi=>(d wr kr i hi).trans aD
   have:wr.cell? ⟨R,off+j*9,U⟩=I (G J x.e.bA):=d0 wr kr;have H:=bn.new wr 178 (jz x vf O);have k1:=H.cG;obtain⟨Af,cf,rfl⟩:=dX Y;obtain⟨Ae,ce,rfl⟩:=bH he;go_upto_region 7 with fail;generalize wr.alloc _=z at *;generalize D (L wr)=g5 at H|-;replace hO:=hO.st k1;have y:=kr.tr k1;have q:=H.cells;have dR:=hO.blk;obtain⟨Ao,co,rfl⟩:=hO.slice;have:Z (l.take j)<=1000000:=cN;generalize l.take j=lj at *;have qs:=q;refine fD 8 ?_;iterate 3 refine bB.i ?_
   refine bB.op (Ui (D (L z)) x.e) (akS _ _) (λV W kW hp=>?_) ?_
   ·(try simp only[dN,bZ,cC,dK,dL,bS]at hp)
    simp[dI,bR,aC,hp,fk,aL,bT,q,go_sem];apply dP (afb x.e _ W (HE.aX _ (y.tr kW)) qC);exact akT
   iterate 2 refine bB.i ?_
   refine bB.op (txN (D (L z)) x) (aC2 _ _) (λV W kW hp=>?_) ?_
   .simp only[dN,bZ,cC,dK,dL,bS]at hp;obtain⟨⟨qA,pw,e3,hF⟩,Q,-⟩:=hp;simp[dI,bR,aC,e3,Q,fk,aL,bT,eP,go_sem];exact⟨qA,pw,rfl,hF.mono λW h=>by
     obtain⟨nc,JJ,e,h1,h2⟩:=h;simp at e;obtain⟨rfl,rfl⟩:=e;exact⟨_,_,rfl,h1,h2⟩⟩
   refine bB.row (N:=λk=>k<D (L z)) (S:=fe) 158 _ 9 104 Mn rfl bG _ x rfl rfl (λV W kW hp=>?_) ?_;exact akU;intro V W kW hA;simp only[bZ,cC,dF,bS,Nat.reduceAdd]at hA;obtain⟨e0,e1,e2,h3,e4,Q,h6,h7,-⟩:=hA;have EG:=hO.st kW;refine bN.push _ _ 158 _ 9 104 Mn rfl rfl rfl _ lj x (by simp[bR,aC,e0]) EG ?_ aZ (cQ y.size kW.size) ?_;simp only[bR,aC];exact h7.less λk hk=>by rcases hk with hk|hk;have:=y.size;omega;have:=dR k hk;omega
   intro v9 w9 C dW _ cV;rw[<- HT.aX]at C;have kL:=(y.tr kW).trans cV;obtain⟨A9,c9,rfl⟩:=C.slice;apply bN.pure;rfl;simp[bR,aC,cP,aL,bT,go_sem];rfl;refine bN.e ?_;go_wp2;go_roundw
   case rel=>exact⟨j+1,aZ,dh,by simpa only[sc]using C,kL⟩
   case measure=>simp[aO];omega
  exact Ou
structure uT(w:aP)(T:TypeId)(z:Array aQ)(cs:Nat->aQ)(Φ:Nat->Array aQ->aQ->aP->Prop)(aT:Nat->Bool)(V:Nat->aQ)(W:aP):Prop where
 k:K w W
 pre:∀j,j<5->aT j=aA->V j=cs j
 al:aT 9=aA->∃b,V 9=aj (I ⟨b,0,U⟩)/\D (L w)<=b/\(aT 5=az->bn W b T z)
 got:aT 5=aA->∃xs c lo W1,V 5=au #[av xs,c]/\D (L w)<=lo/\D (L W1)<=D (L W)/\Φ lo xs c W/\(aT 10=az->K W1 W/\Φ lo xs c W1) /\
  (aT 6=aA->V 6=au #[av xs,c])/\(aT 7=aA->V 7=av xs)/\(aT 8=aA->V 8=c)/\(aT 11=aA->V 11=c) /\
  (aT 9=aA->∃b,V 9=aj (I ⟨b,0,U⟩)/\D (L w)<=b/\(b<lo\/D (L W1)<=b)/\bn W b T (cond (aT 10) xs z))
section
variable {P:Program}{Q:Exit->Act->aP->Prop}
theorem xh{t i j}(h:j≠i):upd t i j=t j:=by grind [upd]
theorem BW{V i j v}(h:j≠i):cP V i v j=V j:=by grind [cP]
theorem ZC{V i v}:cP V i v i=v:=by grind [cP]
variable {w:aP}{T:TypeId}{z:Array aQ}{cs:Nat->aQ}{Φ:Nat->Array aQ->aQ->aP->Prop}{aT:Nat->Bool}{V:Nat->aQ}{W:aP}
theorem uT.early(h:uT w T z cs Φ aT V W) i(B:i<5):uT w T z cs Φ (upd aT i) (cP V i (cs i)) W:=by
 refine⟨h.k,λj t hL=>?_,λhL=>?_,λhL=>?_⟩;by_cases e:j=i
 .grind [upd,cP]
 rw[BW e];exact h.pre j t ZE;exact akV;rw[xh aZ]at hL;obtain⟨y,c,lo,A,a⟩:=h.got hL;refine⟨y,c,lo,A,?_⟩;simp only[xh (show 10≠i by omega),xh (show 6≠i by omega),xh (show 7≠i by omega),xh (show 8≠i by omega),xh (show 11≠i by omega),xh (show 9≠i by omega),BW (show 5≠i by omega),BW (show 6≠i by omega),BW (show 7≠i by omega),BW (show 8≠i by omega),BW (show 11≠i by omega),BW (show 9≠i by omega)];exact a
theorem uT.call(h:uT w T z cs Φ aT V W){W' xs c}(k:K W W')(C:Φ (D (L W)) xs c W')(H:aT 5=az)(h6:aT 6=az)(h7:aT 7=az)(h8:aT 8=az)(lL:aT 10=az)(tz:aT 11=az):uT w T z cs Φ (upd aT 5) (cP V 5 (au #[av xs,c])) W':=by
 refine⟨h.k.tr k,λj hj t=>?_,λt=>?_,λ_=>⟨xs,c,D (L W),W',ZC,h.k.size,bP _,C,λ_=>⟨K.rf _,C⟩,λt=>?_,λt=>?_,λt=>?_,λt=>?_,λt=>?_⟩⟩;exact S5
 .rw[xh aZ]at t;obtain⟨b,e,A,y⟩:=h.al t;grind [upd,cP]
 .grind [upd,cP]
 .grind [upd,cP]
 .grind [upd,cP]
 .grind [upd,cP]
 rw[xh aZ]at t;obtain⟨b,e,A,y⟩:=h.al t;rw[BW aZ];have B:=y H;refine⟨b,e,A,aI B.lt,?_⟩;rw[xh aZ,lL];exact B.bM k
theorem uT.late(h:uT w T z cs Φ aT V W) i v(hi:i=6\/i=7\/i=8\/i=11)(N:aT 5=aA)(B:∀xs c,V 5=au #[av xs,c]->v=if i=6 then au #[av xs,c]else if i=7 then av xs else c):uT w T z cs Φ (upd aT i) (cP V i v) W:=by
 refine⟨h.k,λj hj hL=>?_,λhL=>?_,λhL=>?_⟩;exact S5;exact akV;obtain⟨xs,c,lo,M,A,C,H,O,y,a6,S,Q,Y,X⟩:=h.got N;have:=B xs c A;refine⟨xs,c,lo,M,by grind [BW],C,H,O,λt=>y ZE,λt=>?_,λt=>?_,λt=>?_,λt=>?_,λt=>?_⟩
 .grind [upd,cP]
 .grind [upd,cP]
 .grind [upd,cP]
 .grind [upd,cP]
 grind [upd,cP]
theorem uT.made(h:uT w T z cs Φ aT V W)(M:∀lo xs c W W',Φ lo xs c W->K W W'->Φ lo xs c W')(lL:aT 10=az):uT w T z cs Φ (upd aT 9) (cP V 9 (aj (I ⟨D (L W),0,U⟩))) (aU W (aq z T)):=by
 have k:=K.new W (aq z T);have N:=bn.new W T z;refine⟨h.k.tr k,λj hj y=>?_,λ_=>⟨_,ZC,h.k.size,λ_=>N⟩,λy=>?_⟩;exact S5;rw[xh aZ]at y;obtain⟨xs,c,lo,H,R,C,B,O,A,a6,S,Q,Y,X⟩:=h.got y;refine⟨xs,c,lo,H,iF,C,cQ B k.size,M _ _ _ _ _ O k,λt=>⟨(A lL).1.tr k,(A lL).2⟩,λt=>?_,λt=>?_,λt=>?_,λt=>?_,λ_=>⟨_,ZC,h.k.size,aJ B,?_⟩⟩
 .grind [upd,cP]
 .grind [upd,cP]
 .grind [upd,cP]
 .grind [upd,cP]
 grind [upd,cP]
theorem uT.kept(h:uT w T z cs Φ aT V W)(M:∀lo xs c W W',Φ lo xs c W->K W W'->Φ lo xs c W')(hlow:∀lo xs c W W' b,Φ lo xs c W->b<lo->bf (λk=>k=b) W W'->Φ lo xs c W')(N:aT 5=aA)(h9:aT 9=aA)(lL:aT 10=az){W' b xs c}(C:V 5=au #[av xs,c])(H:V 9=aj (I ⟨b,0,U⟩))(hb:bn W' b T xs)(hg:W.grownBy W' (I b)):uT w T z cs Φ (upd aT 10) (cP V 10 undef) W':=by
 have u:bf (λk=>k=b) W W':=bf.gy hg λk e=>bL
 obtain⟨X,Y,lo,W1,y,a1,a2,a3,O,a6,a7,S,Ql,R⟩:=h.got N;rw[C]at y;injection y with y;simp at y;obtain⟨rfl,rfl⟩:=y;obtain⟨b',t,cK,A,-⟩:=R h9;rw[H]at t;injection t with t;injection t with t;injection t with t _;subst t;obtain⟨k1,Q⟩:=O lL;have:Φ lo xs c W':=by
  rcases A with A|A
  .grind
  exact M _ _ _ _ _ Q (u.k k1 λk e=>aZ)
 refine⟨u.k h.k λk e=>aZ,λj hj B=>?_,λB=>?_,λB=>?_⟩;exact S5
 .grind [upd,cP]
 grind [upd,cP]
def Fp:List (List Nat):=[[],[0],[1],[2],[],[3,4],[5],[6],[6],[],[7,9],[8]]
def nS(P:Program)(j:Act)(ops:Array Oper)(t:List (List Nat×List (Nat×Nat)))(i:Nat)(V:Nat->aQ)(W:aP):Result Next :=
 match ops[i]?,t[i]? with
 | some o,I x=>(aL (bR x.2 j V) (bT o.op o.type)).run P W
 | _,_=>.halt (.stuck "") W
theorem aeU{id ops C w} T z(cs:Nat->aQ)(Φ:Nat->Array aQ->aQ->aP->Prop) B f args n(hn:C.tmps.size=n)(hm:P.follows .mixedOrders=aA)(hok:rV ops n=aA)(hpl:tR ops B=aA)(hsz:ops.size=12)(kM:B.map (·.1)=Fp)(hgd:∀o∈ops.toList,o.guard=U)(Az:∀i,i<5->∀V W,K w W->(∀j∈(B.getD i ([],[])).1,V j=cs j)->nS P C ops B i V W=.ok (.value (cs i)) W)(hcall:∀V W,K w W->V 3=cs 3->V 4=cs 4->nS P C ops B 5 V W=.ok (.enter f args) W)(hC:∀W,K w W->aK P f args W λe W'=>∃xs c,e=ak (au #[av xs,c])/\Φ (D (L W)) xs c W'/\K W W')(h6:∀V W v,V 5=v->nS P C ops B 6 V W=.ok (.value v) W)(h7:∀V W xs c,V 6=au #[av xs,c]->nS P C ops B 7 V W=.ok (.value (av xs)) W)(h8:∀V W xs c,V 6=au #[av xs,c]->nS P C ops B 8 V W=.ok (.value c) W)(h9:∀V W,nS P C ops B 9 V W=.ok (.value (aj (I ⟨D (L W),0,U⟩))) (aU W (aq z T)))(lL:∀V W b lo xs c W0,V 9=aj (I ⟨b,0,U⟩)->V 7=av xs->bn W b T z->Φ lo xs c W0->∃W',nS P C ops B 10 V W=.ok .skip W'/\bn W' b T xs/\W.grownBy W' (I b))(tz:∀V W c,V 8=c->nS P C ops B 11 V W=.ok (.value c) W)(hK:∀lo xs c W W',Φ lo xs c W->K W W'->Φ lo xs c W')(hlow:∀lo xs c W W' b,Φ lo xs c W->b<lo->bf (λk=>k=b) W W'->Φ lo xs c W')(fin:∀V W b xs c lo,K w W->(∀j,j<5->V j=cs j)->V 5=au #[av xs,c]->V 6=au #[av xs,c]->V 7=av xs->V 8=c->V 9=aj (I ⟨b,0,U⟩)->V 11=c->D (L w)<=b->bn W b T xs->D (L w)<=lo->Φ lo xs c W->Q .normal (iO V ops.toList 0 C) W) :(Code.region id ops aA).wp P Q C w:=by
 have Pb:∀(i:Nat) (o:Oper),ops[i]?=I o->∃x:List Nat×List (Nat×Nat),B[i]?=I x/\∀j∈x.1,j∈ahead o:=by
  intro i o ho;have h3:=List.all_eq_true.1 hpl (o,i) (List.mem_zipIdx_iff_getElem?.2 bL);cases hx:B[i]? with
  | none=>simp only[hx]at h3;cases h3
  | some x => grind
 refine WE (uT w T z cs Φ) n hn hm hok ⟨(K.rf w).drew,λ_ _ hj=>SH,λhj=>SH,λhj=>SH⟩ ?_ ?_;intro i o ho S V W FP hcl hal A;have hlt:i<12:=bL;obtain⟨x,hx,JD⟩:=Pb i o ho;have hgo:=hgd o bL;have hex:aL (Cy ops C V o) o=aL (bR x.2 C V) (bT o.op o.type):=by
  have h1:=List.all_eq_true.1 hpl (o,i) (List.mem_zipIdx_iff_getElem?.2 bL);simp only[hx,fI]at h1;rw[<- WT];refine execOp_congr o (λcs b e=>bL) λy hy=>?_
  exact ajq
 have Vt:(aL (Cy ops C V o) o).run P W=nS P C ops B i V W:=by rw[hex];unfold nS;rw[ho,hx]
 have hw:wants V o=true:=by unfold wants;rw[hgo]
 rw[bV hw,Vt];have hx1:x.1=Fp.getD i []:=by grind
 have H:=λj hj=>hal j (JD j (by rw[hx1];exact hj))
 have hall:∀k o',ops[k]?=I o'->S k=aA->∀j∈Fp.getD k [],S j=true:=λk o' rJ hk j hj=>by
  obtain⟨y,hy,hya⟩:=Pb k o' rJ;have FF:y.1=Fp.getD k []:=by grind
  exact hcl.1 k o' rJ hk j (hya j (by rw[FF];exact hj))
 have hb:∀k,k<12->∀j∈Fp.getD k [],S j=az->S k=false:=λk hk j hj hjL=>by
  cases tG:S k with
  | false=>rfl
  | true => grind
 have Qn:∀k,k=6\/k=7\/k=8\/k=11\/k=10->(∀j∈Fp.getD k [],S j=aA)->S 5=true:=λk hk hj=>by
  have N:=λh=>hall 6 _ (show ops[6]?=I ops[6] by simp) h 5 pJ
  have Y:=λh=>hall 7 _ (show ops[7]?=I ops[7] by simp) h 6 pJ
  have X:=λh=>hall 8 _ (show ops[8]?=I ops[8] by simp) h 6 pJ
  rcases hk with rfl|rfl|rfl|rfl|rfl;exact hj 5 pJ;exact N (hj 6 pJ);exact N (hj 6 pJ);exact N (X (hj 8 pJ));exact N (Y (hj 7 pJ))
 have abC:∀ {xs xs':Array aQ} {c c':aQ},V 5=au #[av xs,c]->V 5=au #[av xs',c']->xs=xs'/\c=c':=λe e'=>by grind
 by_cases Qo:i<5;have hpx:(B.getD i ([],[])).1=Fp.getD i []:=by rw[List.getD_eq_getElem?_getD,hx];exact hx1
 rw[Az i Qo V W A.k λj hj=>by
  rw[hpx]at hj;refine A.pre j ?_ (H j hj);have:i=0\/i=1\/i=2\/i=3\/i=4:=aZ;rcases this with rfl|rfl|rfl|rfl|rfl <;> simp[Fp]at hj <;> omega]
 exact A.early i Qo;have hi:i=5\/i=6\/i=7\/i=8\/i=9\/i=10\/i=11:=aZ;rcases hi with rfl|rfl|rfl|rfl|rfl|rfl|rfl;have l6:=hb 6 aZ 5 pJ FP;have l7:=hb 7 aZ 6 pJ l6;have l8:=hb 8 aZ 6 pJ l6;have l10:=hb 10 aZ 7 pJ l7;have l11:=hb 11 aZ 8 pJ l8;rw[hcall V W A.k (A.pre 3 aZ (H 3 pJ)) (A.pre 4 aZ (H 4 pJ))];refine (hC W A.k).mono ?_;rintro e W'⟨xs,c,rfl,Gb,k⟩;exact⟨_,rfl,A.call k Gb FP l6 l7 l8 l10 l11⟩;have M:=Qn 6 bu H;rw[h6 V W _ rfl];exact A.late 6 _ bu M λxs c e=>E9
 have M:=Qn 7 bu H;obtain⟨xs,c,lo,W1,O,-,-,-,-,N,-⟩:=A.got M;rw[h7 V W xs c (N (H 6 pJ))];exact A.late 7 _ bu M λxs' c' e=>by rw[(abC O e).1];rfl
 have M:=Qn 8 bu H;obtain⟨xs,c,lo,W1,O,-,-,-,-,N,-⟩:=A.got M;rw[h8 V W xs c (N (H 6 pJ))];exact A.late 8 _ bu M λxs' c' e=>by rw[(abC O e).2];rfl
 have l10:=hb 10 aZ 9 pJ FP;rw[h9 V W];exact A.made hK l10;have M:=Qn 10 bu H;obtain⟨xs,c,lo,W1,O,a1,a2,a3,a4,N,Y,X,Ql,a9⟩:=A.got M;obtain⟨b,e9,cK,hb2,hbk⟩:=a9 (H 9 pJ);rw[FP]at hbk;obtain⟨W',hrun,hb',hg'⟩:=lL V W b lo xs c W e9 (Y (H 7 pJ)) hbk a3;rw[hrun];exact A.kept hK hlow M (H 9 pJ) FP O e9 hb' hg';have M:=Qn 11 bu H;obtain⟨xs,c,lo,W1,O,-,-,-,-,N,Y,X,-⟩:=A.got M;rw[tz V W c (X (H 8 pJ))];exact A.late 11 _ bu M λxs' c' e=>by rw[(abC O e).2];rfl
 intro V W A;have R:∀j,j<12->decide (j<ops.size)=true:=λj hj=>by rw[hsz];simpa using hj
 obtain⟨xs,c,lo,W1,O,a1,a2,a3,a4,N,Y,X,Ql,a9⟩:=A.got (R 5 aZ);obtain⟨b,e9,cK,hb2,hbk⟩:=a9 (R 9 aZ);rw[R 10 aZ]at hbk;exact fin V W b xs c lo A.k (λj hj=>A.pre j hj (R j aZ)) O (N (R 6 aZ)) (Y (R 7 aZ)) (X (R 8 aZ)) e9 (Ql (R 11 aZ)) cK hbk a1 a3
end
section
variable {M:Nat->Prop}{p:qu}{B:cJ}{w w':aP}
theorem df.log(h:df M p B w){vd vr d}(y:Vc p.gl p.gd vd vr d w')(u:qY p.gl p.gd p.vd p.vr vd vr w w') :df (λk=>M k\/cY { p with vd:=vd,vr:=vr } k) { p with vd:=vd,vr:=vr } { B with dk:=d } w'/\bf (cY p) w w'/\∀k,cY { p with vd:=vd,vr:=vr } k->cY p k\/D (L w)<=k:=by
 obtain⟨Q,R,H,A,O⟩:=h.apart;have z:∀k,cY { p with vd:=vd,vr:=vr } k->cY p k\/D (L w)<=k:=λk j=>by rcases j with j|j|j|j;exact aI (aI j);exact aI (aJ (aI j));exact aI (aJ (aJ (aI j)));exact (u.new k j).imp (λh=>aJ (aJ (aJ h))) id
 have hz:=u.up.size;refine⟨⟨h.blk.cF u.up H,y,h.rep.cF u.up A,h.zk.cF u.up O,?_,λk j=>aJ j,λk j=>?_,h.ne⟩,u.up.more λk j=>aJ (aJ (aJ j)),z⟩;have C:=h.dz.to (N:=λk=>M k\/cY { p with vd:=vd,vr:=vr } k) u.up (λk j=>h.sub k (aJ (aJ (aJ j)))) λk j t=>t.elim id λt=>h.sub k ((z k t).resolve_right aZ)
 exact C.mono λW d=>⟨d.par,d.bj,d.bq,d.bF,d.ab,d.bI,d.iy,d.dy,d.dm⟩
 rcases j with j|j;exact cZ (h.low k j) hz;rcases j with j|j|j|j;exact cZ (h.low k (h.sub k (aI j))) hz;exact cZ (h.low k (h.sub k (aJ (aI j)))) hz;exact cZ (h.low k (h.sub k (aJ (aJ (aI j))))) hz;exact y.lt k j
theorem df.aEK(h:df M p B w){s vl vq va}(H:nC M s vl vq va w) :df M { p with vl:=vl,vq:=vq,va:=va } { B with st:=s } (ax (ax (ax (ax w ⟨p.g,4,U⟩ (G E s.life)) ⟨p.g,5,U⟩ vl) ⟨p.g,6,U⟩ vq) ⟨p.g,7,U⟩ va):=by
 have g:=h.sub p.g (aI rfl);have y:=h.cell (p':=p) (B':={ B with st:=⟨s.life,B.st.bq,B.st.bF,B.st.ab⟩ }) 4 (G E s.life) (h.blk.cH 4 _) ⟨rfl,rfl,rfl,rfl,rfl,rfl,rfl,rfl⟩ ⟨rfl,rfl⟩ λW u d=>⟨d.par,d.bj,d.bq,d.bF,d.ab,d.bI,d.iy,d.dy,d.dm⟩
 have z:nC M s vl vq va _:=H.up (bf.dx (X:=M) g 4 (G E s.life)) λ_ h=>h
 have t:=y.cell (p':={ p with vl:=vl }) (B':={ B with st:=⟨s.life,s.bq,B.st.bF,B.st.ab⟩ }) 5 vl (y.blk.cH 5 _) ⟨rfl,rfl,rfl,rfl,rfl,rfl,rfl,rfl⟩ ⟨rfl,rfl⟩ λW u d=>⟨d.par,d.bj,(z W u).1,d.bF,d.ab,d.bI,d.iy,d.dy,d.dm⟩
 have j:nC M s vl vq va _:=z.up (bf.dx (X:=M) g 5 vl) λ_ h=>h
 have A:=t.cell (p':={ p with vl:=vl,vq:=vq }) (B':={ B with st:=⟨s.life,s.bq,s.bF,B.st.ab⟩ }) 6 vq (t.blk.cH 6 _) ⟨rfl,rfl,rfl,rfl,rfl,rfl,rfl,rfl⟩ ⟨rfl,rfl⟩ λW u d=>⟨d.par,d.bj,d.bq,(j W u).2.1,d.ab,d.bI,d.iy,d.dy,d.dm⟩
 have C:nC M s vl vq va _:=j.up (bf.dx (X:=M) g 6 vq) λ_ h=>h
 exact A.cell (p':={ p with vl:=vl,vq:=vq,va:=va }) (B':={ B with st:=s }) 7 va (A.blk.cH 7 _) ⟨rfl,rfl,rfl,rfl,rfl,rfl,rfl,rfl⟩ ⟨rfl,rfl⟩ λW u d=>⟨d.par,d.bj,d.bq,d.bF,(C W u).2.2,d.bI,d.iy,d.dy,d.dm⟩
end
theorem aAy{d r}(j:xp d r=aA):qZ (ly d) [dG r] d.room=(ly ⟨d.ie++[r],d.room⟩,0):=by
 simp only[xp,fI,decide_eq_true_eq]at j;have:=XZ j.1;have:Z (ly d)+Z (frames [dG r])<=d.room:=by grind [ly,Rv,frames,E1]
 unfold qZ wJ;grind [xp,qZ,ly,dG,frames]
theorem aAz{d r}(t:xp d r=az):(qZ (ly d) [dG r] d.room).1=ly d/\(qZ (ly d) [dG r] d.room).2≠0:=by
 have:¬(Z (dG r)<=4000/\jM d.ie+Be (dG r)<=d.room):=by grind [xp]
 unfold qZ;grind [dG,jG,wJ,ly,Rv,frames,E1]
theorem awj{s r}(j:fV r=aA)(h:fX s r=U):oX s r=(s,160):=by grind [oX]
theorem aga{s t r}(j:fV r=aA)(h:fX s r=I t):oX s r=(t,0):=by grind [oX]
theorem ayq{x}(h:fV x=aA)(j:lP x):Z (dG x)<=30000:=by
 have:=fu (cO x.bA) (jm _);have:=fu x.n j.2.1;have:=fu (cO x.br) (jm _);have:=fu x.life j.2.2.2.2.1;have:=fu x.eY j.2.2.2.2.2;rcases EY h with ⟨t,-⟩|⟨t,y,-⟩|⟨t,-⟩
 .grind [fV,lP,dG]
 have:=Nz y j.2.2.1;have:=fu (Z (gB x.e)) aZ;rw[agN aZ];simp only[fg,jL];omega;grind [fV,lP,dG,iG]
def aDR(s:eT)(j:Int)(lo:Nat)(xs:Array aQ)(c:aQ)(W:aP):Prop:=∃vl vp va,xs=eO s vl vp va/\c=G J j/\nC (λk=>k<lo) s vl vp va W
theorem Nj{M p B w}(h:df M p B w)(hG:dq B) r u(hr:tC r u w)(hfit:lP r)(ja:gu r.e) :aK aR 247 #[aj (I ⟨p.g,0,U⟩),u] w λe w'=>e=ak (ar (eQ B r).2)/\fG M p (eQ B r).1 w w':=by
 have HN:Hid (eQ B r=if fV r&&xp B.dk r then (match fX B.st r with
  | none=>(B,az)
  | some t=>({ B with st:=t,dk:=⟨B.dk.ie++[r],B.dk.room⟩,bI:=if r.bA=2 then gU B.bI (bE r.e)else B.bI },aA))
  else (B,az)):=aY rfl
 have H:=aY h;have HX:=aY λk z=>h.low k (h.sub k z)
 have HM:=aY h.low;have C1:=aY λW (k:K w W)=>XT r u W (TH hr k) hfit
 have abD:=hG.GL;have lu:=hG.dk.len;have C2:=aY λW (k:K w W)=>az0 B.st r (av (eO B.st p.vl p.vq p.va)) u W ⟨_,_,_,rfl,(h.dz.at k).bq,(h.dz.at k).bF,(h.dz.at k).ab⟩ (TH hr k) hfit ja abD.1 abD.2.1 ⟨aZ,aZ,aZ⟩
 have q:=h.q;have hs1:=bH h.dz.now.bq;have jI:=bH h.dz.now.bF;have jY:=bH h.dz.now.ab;have hs4:=bH h.dz.now.bI;obtain⟨vf,ve,rfl,hf,he⟩:=hr;obtain⟨Af,cf,rfl⟩:=dX hf;obtain⟨Ae,ce,rfl⟩:=bH he;have A:=bn.new w 171 (jf r (F Af (Z r.e.f) cf) (F Ae (Z r.e.es) ce));have k1:=A.cG;have HGO:=aY hG;clear hf he abD lu h hG;generalize eQ B r=R at *;go_in;go_upto_region 1 with fail;generalize w.alloc _=w1 at *;generalize pz:D (L w)=ga at A|-;have pA:=aY pz;clear pz;have qa:=A.cell;go_wp2_with fail
 refine (C1.aX w1 k1).mono ?_;rintro e w2⟨v2,rfl,gV,k2⟩;have dt:=k1.tr k2;have hb2:=A.bM k2;clear C1 qa;have HC:Hid (uD r=if fV r then 0 else 110):=aY rfl;have HE:Hid (zI r=if fV r then dG r else []):=aY rfl;generalize uD r=cc at *;generalize zI r=eb at *;cases hok:fV r;have HR:Hid (R=(B,az)):=aY (by rw[HN.aX,hok];rfl);obtain rfl:cc=110:=by rw[HC.aX,hok];rfl
 have HF:=aY (H.aX.n dt);obtain⟨A2,c2,rfl,-⟩:=gV.slice;clear q A hb2 gV;exact IY;obtain rfl:cc=0:=by rw[HC.aX,hok];rfl
 obtain rfl:eb=dG r:=YK;obtain⟨A2,c2,rfl,-⟩:=gV.slice;have Bk:=aY gV;have nT:=aY hok;clear gV HC HE hok;go_upto_region 4 with fail;have q2:=λW (k:K w2 W)=>q W (dt.tr k)
 have qb:=hb2.cells;have C3:=aY λW (k:K w2 W)=>C2.aX W (dt.tr k)
 obtain⟨y,hs'⟩:∃y,y=(oX B.st r).1:=⟨_,rfl⟩;obtain⟨code,I8⟩:∃c,c=(oX B.st r).2:=⟨_,rfl⟩;simp only[<- hs',<- I8]at C3;have HST:=aY hs';have HCD:=aY I8;obtain⟨g,gl,gd,gr,gt,vd,vr,vp,vh,vl,vq,va,vt,nc,vw,kr⟩:=p;simp only at q2 hs1 jI jY hs4 C3;obtain⟨Al,cl,rfl⟩:=hs1;obtain⟨Aq,cq,rfl⟩:=jI;obtain⟨T,ca,rfl⟩:=jY;obtain⟨At,ct,rfl⟩:=hs4;have y9:=aY hb2;clear q A hb2 C2 hs' I8;refine aeU 61 oK (λi=>[aj (I ⟨g,0,U⟩),aj (I ⟨g,0,U⟩),aj (I ⟨g,4,U⟩),av (eO B.st (F Al (Z B.st.bq) cl) (F Aq (Z B.st.bF) cq) (F T (Z B.st.ab) ca)),av (jf r (F Af (Z r.e.f) cf) (F Ae (Z r.e.es) ce))].getD i undef) (aDR y code)
  [([],[]),([0],[(16,0)]),([1],[(17,1)]),([2],[(18,2)]),([],[]),([3,4],[(19,3),(20,4)]),([5],[(21,5)]),([6],[(15,6)]),([6],[(15,6)]),([],[]),([7,9],[(7,9),(22,7)]),([8],[(23,8)])] 292 #[av (eO B.st (F Al (Z B.st.bq) cl) (F Aq (Z B.st.bF) cq) (F T (Z B.st.ab) ca)),av (jf r (F Af (Z r.e.f) cf) (F Ae (Z r.e.es) ce))] 52 rfl dH dH dH rfl rfl ?gd ?pre ?call ?cc ?h6 ?h7 ?h8 ?h9 ?lL ?tz ?z ?hlow ?_
 case gd=>simp
 case pre => intro i hi V W kW hp;have:i=0\/i=1\/i=2\/i=3\/i=4:=aZ;rcases this with rfl|rfl|rfl|rfl|rfl <;> simp at hp <;> simp[nS,bR,aC,hp,aL,bT,q2,qb,kW,go_sem]
 case call=>intro V W kW h3 h4;simp at h3 h4;simp[nS,bR,aC,h3,h4,aL,bT,go_sem]
 case cc => intro W kW;refine (C3.aX W kW).mono ?_;rintro e w3⟨J3,J4,J5,rfl,N,k3⟩;exact⟨_,_,rfl,⟨J3,J4,J5,rfl,rfl,N⟩,k3⟩
 case h6=>intro V W v h5;simp[nS,bR,aC,h5,aL,bT,go_sem]
 case h7=>intro V W xs c h5;simp[nS,bR,aC,h5,aL,bT,go_sem]
 case h8=>intro V W xs c h5;simp[nS,bR,aC,h5,aL,bT,go_sem]
 case h9=>intro V W;simp[nS,aL,bT,go_sem]
 case lL => rintro V W b lo xs c W0 e9 e7 A⟨J3,J4,J5,rfl,-,N⟩;obtain⟨⟨El,fl,rfl⟩,⟨S,fp,rfl⟩,Ea,fa,rfl⟩:=N.sl;have qz:=A.cell;have zz:=A.frozen;have u:=bf.sets (X:=λk=>k=b) rfl [G E y.life,F El (Z y.bq) fl,F S (Z y.bF) fp,F Ea (Z y.ab) fa] 0 W;exact⟨_,by simp[nS,bR,aC,e9,e7,aL,bT,qz,zz,go_sem];rfl,DD (us:=[G E y.life,F El (Z y.bq) fl,F S (Z y.bF) fp,F Ea (Z y.ab) fa]) A rfl,⟨u.os,u.tape,u.output,u.size,λk z hne=>u.block k z λe=>hne Oa⟩⟩
 case tz=>intro V W c h5;simp[nS,bR,aC,h5,aL,bT,go_sem]
 case z=>rintro lo xs c W Q⟨J3,J4,J5,a2,a3,N⟩ k;exact⟨J3,J4,J5,a2,a3,N.k k⟩
 case hlow=>rintro lo xs c W Q b⟨J3,J4,J5,a2,a3,N⟩ A u;exact⟨J3,J4,J5,a2,a3,N.up u λk e=>e▸A⟩
 intro V W b xs c lo kW hcs e5 e6 e7 e8 e9 sP dR hbk hlo Gb;obtain⟨J3,J4,J5,rfl,rfl,N⟩:=Gb;obtain⟨⟨El,fl,rfl⟩,⟨S,fp,rfl⟩,Ea,fa,rfl⟩:=N.sl;simp only[iO,Act.put,xm,vU,vT,e5,e6,e7,e8,e9,sP];have Dj:=dt.tr kW;cases Bu:fX B.st r with
 | none =>
  have HR:Hid (R=(B,az)):=aY (by rw[HN.aX,nT.aX,Bu];split <;> rfl);obtain rfl:code=160:=by rw[HCD.aX,awj nT.aX Bu]
  have HF:=aY (H.aX.n Dj);clear hcs e5 e6 e7 e8 e9 sP hbk N q2 qb C3 Bu;exact IY
 | some t =>
  obtain rfl:code=0:=by rw[HCD.aX,aga nT.aX Bu]
  obtain rfl:y=t:=by rw[HST.aX,aga nT.aX Bu]
  have HR:Hid (R=if xp B.dk r then ({ B with st:=y,dk:=⟨B.dk.ie++[r],B.dk.room⟩,bI:=if r.bA=2 then gU B.bI (bE r.e)else B.bI },aA)else (B,az)):=aY (by rw[HN.aX,nT.aX,Bu];rfl);have JL:=H.aX.st Dj;have O:=K.new W (aq #[F A2 (Z (dG r)) c2] 118);have aEL:∀k,mK gl gd vd vr k->k<D (L w):=λk z=>HX.aX k (aJ (aJ (aJ z)))
  have pr:=Dj.size;have hz1:=k1.size;have oN:Fx (mK gl gd vd vr) (λQ=>bD ng [dG r] (F (I ⟨D (L W),0,U⟩) 1 1) Q) (aU W (aq #[F A2 (Z (dG r)) c2] 118)):=λQ u=>by
   have hown:=kj (sU Bk.aX (kW.tr O)) u λk z C=>by have:=(Bk.aX.lt k z).1;have:=aEL k C;omega
   have aoA:=(bn.new W 118 #[F A2 (Z (dG r)) c2]).cF u λC=>bL
   refine⟨I ⟨D (L W),0,U⟩,1,rfl,⟨[[F A2 (Z (dG r)) c2]],Each.one ⟨_,rfl,gS hown⟩,rfl,λ_=>⟨D (L W),0,rfl,aoA.lt,λj u hu=>?_⟩⟩,bu⟩;rw[mr,aoA.cell j];simpa using hu
  have dR:∀b∈[dG r],Z b<=1000000000:=λb A=>by simp at A;subst A;exact cQ (ayq nT.aX hfit) aZ
  have C4:=aY (atL gl gd vd vr (F (I ⟨D (L W),0,U⟩) 1 1) (ly B.dk) B.dk.room [dG r] _ (JL.lg.st O) oN bu dR);have qW:=q2 W kW;have rG:=hbk.bM O;have HB5:=aY (H.aX.st (Dj.tr O));have Qp:=aY (Dj.tr O);have hne:Hid (xp B.dk r=az->(qZ (ly B.dk) [dG r] B.dk.room).1=ly B.dk/\(qZ (ly B.dk) [dG r] B.dk.room).2≠0):=aY aAz;have hye:Hid (xp B.dk r=aA->qZ (ly B.dk) [dG r] B.dk.room=(ly ⟨B.dk.ie++[r],B.dk.room⟩,0)):=aY aAy;generalize qZ (ly B.dk) [dG r] B.dk.room=AP at *;obtain⟨al,ac⟩:=AP;have HSS:=aY N;clear JL oN dR N q2 qb C3 hcs e5 e6 e7 e8 e9 sP Bu hbk;go_upto_region 7 with fail;go_wp2_with fail
  refine C4.aX.mono ?_;rintro e w6⟨vh6,vr6,rfl,Mg,J6⟩;cases pk:xp B.dk r
  .have iu:Hid (R=(B,az)):=aY akW;obtain⟨e1,e2⟩:=hne.aX pk;subst e1;obtain⟨Y,b2,b3⟩:=HB5.aX.log (d:=B.dk) Mg J6;have HF:Hid (fG M ⟨g,gl,gd,gr,gt,vd,vr,vp,vh,F Al (Z B.st.bq) cl,F Aq (Z B.st.bF) cq,F T (Z B.st.ab) ca,F At (Z B.bI) ct,nc,vw,kr⟩ B w w6):=aY (fG.F6 ⟨_,Y,b2,rfl,b3⟩ Qp.aX HX.aX);have e3:(ac != 0)=true:=by simpa using e2
   clear Y b2 b3 Mg J6 C4 qW rG O pk e2;go_wp2;go_ret;exact⟨Og,by rw[iu.aX];exact HF.aX⟩
  have iu:Hid (R=({ B with st:=y,dk:=⟨B.dk.ie++[r],B.dk.room⟩,bI:=if r.bA=2 then gU B.bI (bE r.e)else B.bI },aA)):=aY akW;obtain⟨rfl,rfl⟩:=Prod.mk.inj (hye.aX pk);obtain⟨Y,b2,b3⟩:=HB5.aX.log (d:=⟨B.dk.ie++[r],B.dk.room⟩) Mg J6;have hz2:=dt.size;have pz:=pA.aX;have hs6:nC (λk=>M k\/cY ⟨g,gl,gd,gr,gt,vh6,vr6,vp,vh,F Al (Z B.st.bq) cl,F Aq (Z B.st.bF) cq,F T (Z B.st.ab) ca,F At (Z B.bI) ct,nc,vw,kr⟩ k) y (F El (Z y.bq) fl) (F S (Z y.bF) fp) (F Ea (Z y.ab) fa) w6:=by
   have h0:=HSS.aX.less λk (z:k<D (L w2))=>cZ z hlo
   refine h0.to (X:=mK gl gd vd vr) ((bf.cz O _).tr J6.up) (λk z=>bL) λk z C=>?_
   rcases C with C|C;have:=HM.aX k C;omega;rcases b3 k C with C|C;have:=HX.aX k C;omega;have:=O.size;omega
  have aoB:=rG.cF J6.up λC=>bL
  have ky:=(y9.aX.bM (kW.tr O)).cF J6.up λC=>bL
  have hP:=Y.aEK hs6;simp only at hP;have HU6:=aY ((bf.cz Qp.aX _).tr b2);have HN6:=aY b3;have q6:=Y.blk.cell;have z6:=Y.blk.frozen;have qs6:=aoB.cell;clear b2 b3 hs6 Y Mg J6 C4 qW rG O hne hye pk;go_upto_region 10 with fail;have u7:=(((bf.dx (X:=λk=>k=g) (W:=w6) rfl 4 (G E y.life)).tr (bf.dx (X:=λk=>k=g) rfl 5 (F El (Z y.bq) fl))).tr (bf.dx (X:=λk=>k=g) rfl 6 (F S (Z y.bF) fp))).tr (bf.dx (X:=λk=>k=g) rfl 7 (F Ea (Z y.ab) fa));have ia:=HX.aX g (aI rfl);have jS:=ky.cF u7 aZ;generalize ax (ax (ax (ax w6 _ _) _ _) _ _) _ _=w7 at *;have MC:=aY (HU6.aX.tr (u7.more λk z=>aI z));have Qq:=aY Qp.aX.size;have q7:=jS.cells;clear q6 z6 qs6 aoB ky u7 jS;by_cases hk2:r.bA=2;rotate_left;have HRF:Hid (R=({ B with st:=y,dk:=⟨B.dk.ie++[r],B.dk.room⟩ },aA)):=aY (by rw[iu.aX,bQ hk2]);have lY:(r.bA==2)=false:=by simpa using hk2
  have HF:Hid (fG M ⟨g,gl,gd,gr,gt,vd,vr,vp,vh,F Al (Z B.st.bq) cl,F Aq (Z B.st.bF) cq,F T (Z B.st.ab) ca,F At (Z B.bI) ct,nc,vw,kr⟩ { B with st:=y,dk:=⟨B.dk.ie++[r],B.dk.room⟩ } w w7):=aY ⟨⟨g,gl,gd,gr,gt,vh6,vr6,vp,vh,F El (Z y.bq) fl,F S (Z y.bF) fp,F Ea (Z y.ab) fa,F At (Z B.bI) ct,nc,vw,kr⟩,hP,MC.aX,rfl,λk z=>(HN6.aX k z).imp id λh=>by have:=Qq.aX;omega⟩;have qk:=q7 w7 (K.rf _);clear hP q7 hk2;exact akX;have HRF:Hid (R=({ B with st:=y,dk:=⟨B.dk.ie++[r],B.dk.room⟩,bI:=gU B.bI (bE r.e) },aA)):=aY (by rw[iu.aX,bV hk2]);have qk:=q7 w7 (K.rf _);have C5:=aY λQ (k:K w7 Q)=>RH B.bI (bE r.e) (F At (Z B.bI) ct) Q (hP.dz.at k).bI HGO.aX.tx.small HGO.aX.tx.AA
  have qg:=hP.blk.cells;simp only at qg;have HP:=aY hP;clear hP;go_upto_region 11 with fail;clear qk;have qs:=aB q7 qg;refine fD 9 ?_;iterate 8 refine bB.i ?_
  refine bB.op (λv Q=>cW (D (L w7)) (D (L w7)) 178 fe (gU B.bI (bE r.e)) v Q) (λ_ _ _ h k=>h.st k) (λV W kW hp=>?_) ?_
  ·(try simp only[dN,bZ,cC,dK,dL,bS]at hp)
   simp[dI,bR,aC,hp,fk,aL,bT,q7,qg,go_sem];exact akY
  clear qs;intro V W kW hA;simp only[bZ,cC,dF,bS,Nat.reduceAdd]at hA;obtain⟨d0,d1,d2,d3,d4,d5,d6,d7,kH,-⟩:=hA;generalize J7:V 8=v8 at *;have wN:=HP.aX.st kW;have lO:=kH.Qg HP.aX.low;obtain⟨A8,c8,rfl⟩:=bH kH.bD;have q8:=wN.blk.cell;have z8:=wN.blk.frozen;simp only at q8 z8;iterate 2 (apply bN.pure;rfl;(simp[bR,aC,cP,d0,J7,aL,bT,go_sem];rfl))
  refine bN.skip (aV W ⟨g,8,U⟩ (F A8 (Z (gU B.bI (bE r.e))) c8)) rfl ZF ?_;refine bN.e ?_;have Ia:=wN.Pj lO;have Vu:=MC.aX.tr (((bf.cz kW _).tr (bf.dx (X:=cY ⟨g,gl,gd,gr,gt,vd,vr,vp,vh,F Al (Z B.st.bq) cl,F Aq (Z B.st.bF) cq,F T (Z B.st.ab) ca,F At (Z B.bI) ct,nc,vw,kr⟩) (aI rfl) 8 (F A8 (Z (gU B.bI (bE r.e))) c8))));have HF:Hid (fG M ⟨g,gl,gd,gr,gt,vd,vr,vp,vh,F Al (Z B.st.bq) cl,F Aq (Z B.st.bF) cq,F T (Z B.st.ab) ca,F At (Z B.bI) ct,nc,vw,kr⟩ { B with st:=y,dk:=⟨B.dk.ie++[r],B.dk.room⟩,bI:=gU B.bI (bE r.e) } w (aV W ⟨g,8,U⟩ (F A8 (Z (gU B.bI (bE r.e))) c8))):=aY ⟨⟨g,gl,gd,gr,gt,vh6,vr6,vp,vh,F El (Z y.bq) fl,F S (Z y.bF) fp,F Ea (Z y.ab) fa,F A8 (Z (gU B.bI (bE r.e))) c8,nc,vw,kr⟩,Ia,Vu,rfl,λk z=>(HN6.aX k z).imp id λh=>by have:=Qq.aX;omega⟩;clear Ia Vu wN lO kH q8 z8 q7 qg C5 d0 d1 d2 d3 d4 d5 d6 d7 J7;exact akX
theorem afz{M p B w}(h:df M p B w)(z:dq B) x u(y:fM x u w)(hfit:dZ x)(N:gu x) :aK aR 213 #[aj (I ⟨p.g,0,U⟩),u] w λe H=>e=ak (ar (nM B x).2)/\fG M p (nM B x).1 w H:=by
 have HX:=aY λk O=>h.low k (h.sub k O)
 have:=z.dk.len;have C1:=aY λW (k:K w W) v (hv:tC (pc (Z B.st.bq) x) v W)=>Nj (h.st k) z (pc (Z B.st.bq) x) v hv ⟨S6,by simp only[pc];omega,hfit,S6,yh,yh⟩ N
 have HXE:=aY λW (k:K w W)=>TG y k
 have q:=h.q;have t:=bH h.dz.now.bq;obtain⟨vf,ve,rfl,T,he⟩:=y;obtain⟨Y,X,rfl⟩:=dX T;obtain⟨Ae,ce,rfl⟩:=bH he;have j:=bn.new w 128 (cB x (F Y (Z x.f) X) (F Ae (Z x.es) ce));have k1:=j.cG;obtain⟨g,gl,gd,gr,gt,vd,vr,vp,vh,vl,vq,va,vt,nc,vw,kr⟩:=p;simp only at q t;obtain⟨Al,cl,rfl⟩:=t;have S:E.wrap ((Z B.st.bq:Int))=(Z B.st.bq:Int):=by rw[IntWalk.u64_in _ (by omega)]
 unfold nM;generalize eQ B (pc (Z B.st.bq) x)=R at *;go_in;go_upto_region 1 with fail;generalize w.alloc _=A at *;generalize D (L w)=ga at j|-;have qa:=j.cells;have Q:=λW (k:K A W)=>q W (k1.tr k)
 have qs:=aB Q (aB qa S);refine fD 10 ?_;iterate 10 refine bB.i ?_
 intro V W C hA;simp only[bZ,cC,dF,bS,Nat.reduceAdd]at hA;obtain⟨e0,e1,e2,e3,e4,e5,e6,e7,e8,e9,-⟩:=hA;have kF:=k1.tr C;refine bN.call _ _ rfl akP ?_;refine (C1.aX W kF _ ?_).mono ?_;obtain⟨Ev,Ew,e,h1,h2⟩:=HXE.aX W kF;exact YX;exact Zz
theorem ahS{B r}(h:(eQ B r).2=az):(eQ B r).1=B:=by grind [eQ]
theorem aAA{B r}(h:r.bA≠2):(eQ B r).1.bI=B.bI:=by grind [eQ]
theorem ate{M p B w}(h:df M p B w)(hG:dq B) a(C:ew a) :aK aR 214 #[aj (I ⟨p.g,0,U⟩),dD a] w λe w'=>e=ak (ar (oU B a).2)/\fG M p (oU B a).1 w w':=by
 have HA:Hid (oU B a=if (eQ B (lE 4 a)).2 then ({ (eQ B (lE 4 a)).1 with bI:=gU (eQ B (lE 4 a)).1.bI a },aA)else (B,az)):=aY rfl;have HX:=aY λk H=>h.low k (h.sub k H)
 have vF:=aY (@ahS B (lE 4 a));have Y:Hid ((eQ B (lE 4 a)).1.bI=B.bI):=aY (aAA yi);have Db:∀W,tC (lE 4 a) (av (jf (lE 4 a) (F U 0 0) (F U 0 0))) W:=λW=>⟨_,_,rfl,⟨U,0,rfl,Reads.nil _ _ _ _⟩,iJ _ _⟩
 have C1:=aY λW (k:K w W)=>Nj (h.st k) hG (lE 4 a) _ (Db W) ⟨by simp[lE,dA],yi,II,C.1,C.2.1,C.2.2⟩ (by simp[lE,gu,fS])
 have HG:=aY hG.tx;have y:=bn.new w 42 #[G J a.1,G E a.2.1,G E a.2.2];have k1:=y.cG;generalize oU B a=R at *;generalize eQ B (lE 4 a)=NB at *;obtain⟨j,ok⟩:=NB;simp only[lE,jf,fS]at C1;go_in;go_upto_region 1 with fail;generalize w.alloc _=w1 at *;generalize Gc:D (L w)=ga at y|-;have Qa:=aY Gc;have qa:=y.cell;go_wp2_with fail
 refine (C1.aX w1 k1).mono ?_;rintro e O⟨rfl,Q⟩;cases ok;have HR:Hid (R=(B,az)):=aY (by rw[HA.aX];rfl);obtain rfl:j=B:=vF.aX rfl;have HF:=aY (Q.F6 k1 HX.aX);exact IY;have HR:Hid (R=({ j with bI:=gU j.bI a },aA)):=aY (by rw[HA.aX];rfl);have Gc:=Qa.aX;have hb2:=Q.keeps y λhx=>S4
 obtain⟨p1,z,hu,hg,hn⟩:=Q;have C5:=aY λW (k:K O W)=>RH j.bI a p1.vt W (z.dz.at k).bI (by rw[Y.aX];exact HG.aX.small) (by rw[Y.aX];exact HG.aX.AA)
 have hs4:=bH z.dz.now.bI;have S:=z.q;have J8:=aY z;have HU:=aY hu;have Hw:=aY hn;rw[<- EF hg];have J9:=aY hg;have qb:=hb2.cells;obtain⟨N,gl,gd,gr,gt,vd,vr,vp,vh,vl,vq,va,vt,nc,vw,kr⟩:=p1;simp only at S C5 hs4;obtain⟨At,ct,rfl⟩:=hs4;go_upto_region 3 with fail;have qs:=aB S qb;refine fD 7 ?_;iterate 6 refine bB.i ?_
 refine bB.op (λv W'=>cW (D (L O)) (D (L O)) 178 fe (gU j.bI a) v W') (λ_ _ _ h k=>h.st k) (λV W kW hp=>?_) ?_
 ·(try simp only[dN,bZ,cC,dK,dL,bS]at hp)
  simp[dI,bR,aC,hp,fk,aL,bT,S,qb,go_sem];exact akY
 intro V W kW hA;simp only[bZ,cC,dF,bS,Nat.reduceAdd]at hA;obtain⟨d0,d1,d2,d3,d4,d5,kH,-⟩:=hA;generalize J7:V 6=v8 at *;have T:=J8.aX.st kW;have lO:=kH.Qg J8.aX.low;obtain⟨A,t,rfl⟩:=bH kH.bD;have q8:=T.blk.cell;have z8:=T.blk.frozen;simp only at q8 z8;iterate 2 (apply bN.pure;rfl;(simp[bR,aC,cP,d0,J7,aL,bT,go_sem];rfl))
 refine bN.skip (aV W ⟨N,8,U⟩ (F A (Z (gU j.bI a)) t)) rfl ZF ?_;refine bN.e ?_;have Ia:=T.Pj lO;have Vu:=(bf.cz k1 _).tr (HU.aX.tr (((bf.cz kW _).tr (bf.dx (X:=cY p) (aI (by have:=EF J9.aX;exact this)) 8 (F A (Z (gU j.bI a)) t)))));have HF:Hid (fG M p { j with bI:=gU j.bI a } w (aV W ⟨N,8,U⟩ (F A (Z (gU j.bI a)) t))):=aY ⟨⟨N,gl,gd,gr,gt,vd,vr,vp,vh,vl,vq,va,F A (Z (gU j.bI a)) t,nc,vw,kr⟩,Ia,Vu,J9.aX,λk H=>(Hw.aX k H).imp id λh=>cQ k1.size h⟩;exact IY
