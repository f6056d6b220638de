/-
  The walk of script.Run (layer 22). Conditions: ops that cost at most 40000, of loads of at most a million.
-/
import Derived.Test.YtcjlnlcpodcldaaGreatMs05
import Derived.Test.YtcjlnlcpodcldaaGreatMsz
set_option maxRecDepth 100000
set_option maxHeartbeats 16000000
set_option linter.all false
namespace Go.Proofs.YtcjlnlcpodcldaaGreat
open Go Go.RowKit _root_.Go.Proofs.Tryz
open List renaming length→Z
open _root_.Array renaming size→D
open Go.World renaming heap→L,alloc→aU,setCell→aV
open Go.Value renaming ownBlock→aW
open Go.Value renaming int→G,slice→F,pointer→aj,bool→ar,tuple→au,agg→av,string→aw
open Go.IntKind renaming i64→J,u64→E
open Option renaming none→U,some→I
open Go.Ending renaming returned→ak
open Go.Obj renaming cells→aq
open Go.World renaming setCell→ax,alloc→ay
open Bool renaming false→az,true→aA
open And renaming intro→aB
open List renaming lookup→aC,getElem?_eq_getElem→aE,getElem?_eq_some_iff→aF
open _root_.Array renaming getElem?_toList→aD,getElem?_eq_some_iff→aG
open Nat renaming le_succ→aH
open Or renaming inl→aI,inr→aJ
open Go renaming Calls→aK,execOp→aL,bodyPost_ret→aM,World→aP,Value→aQ
open Go.RowKit renaming Below→aN,intOf→aO
open _root_.Go.Proofs.Tryz renaming prog→aR
theorem TAn:gQ aR 28 45 (av EV) 9 88:=⟨underlying28,gP,rfl,bG⟩
theorem ay7{ops:List nG}{j}(t:j<Z ops) s:uJ s (ops.take (j+1))=uJ s (ops.take j)++[(xB (AG s (ops.take j)) ops[j]).2]/\AG s (ops.take (j+1))=(xB (AG s (ops.take j)) ops[j]).1/\zV (ops.take (j+1))=zV (ops.take j)+DY ops[j]:=by rw[iY t,ahw,aib,ahx];exact⟨rfl,rfl,rfl⟩
theorem aCm W:(zeroValue 96).run aR W=.ok .nilFunc W:=by rfl
structure UD(par bj:List Int)(room:Nat)(w w5:aP)(gp lo:Nat)(ops:List nG)(j:Nat)(vo:aQ)(W:aP):Prop where
 EW:∃s k aa,iT (λb=>aW vo=I b) par bj gp s k aa W/\bK (λb=>¬aa b) 0 45 Iq (uJ (mC par bj room,[]) (ops.take j)) vo W/\s=AG (mC par bj room,[]) (ops.take j)/\k=zV (ops.take j) /\
  ∀b,b<D (L w)\/lo<=b/\b<D (L w5)->aa b
 sm:∀x∈uJ (mC par bj room,[]) (ops.take j),Ra x
 k:K w W
 u:bf (λb=>b<lo) w5 W
 row:∀b,aW vo=I b->D (L w5)<=b
structure LL(par bj:List Int)(w w5:aP)(gp lo:Nat)(l:List xH)(vo:aQ)(ga:Nat)(s:qE)(k:Nat)(x:xH)(vb:aQ)(aa:Nat->Prop)(W:aP):Prop where
 EW:iT (λb=>aW vo=I b\/b=ga) par bj gp s k aa W
 lay:bK (λb=>¬aa b) 0 45 Iq l vo W
 fx:Fx (λb=>¬aa b\/aW vo=I b) (λW=>bD eB x.batch vb W) W
 sub:∀b,b<D (L w)\/lo<=b/\b<D (L w5)->aa b
 sm:Ra x
 k:K w W
 u:bf (λb=>b<lo) w5 W
 blk:bn W ga 45 (oP x vb)
 row:∀b,aW vo=I b->D (L w5)<=b
theorem LL.call{par bj w C N lo l B t s T k k' x y W W3}(hP:iT (λb=>aW B=I b\/b=t) par bj N s k y W)(Y:bK (λb=>¬y b) 0 45 Iq l B W)(S:∀b,b<D (L w)\/lo<=b/\b<D (L C)->y b)(hk:K w W)(hu:bf (λb=>b<lo) C W){Q}(ha:bn W t 45 Q)(hac:Q.size=9)(hrow:∀b,aW B=I b->D (L C)<=b/\b≠t)(h5:D (L C)<=t)(hw:D (L w)<=D (L C)){e}(h:LK (λb=>aW B=I b\/b=t) par bj N T k' x y W e W3):∃A n z Z',e=ak (av (oP x (F A n z)))/\LL par bj w C N lo l B t T k' x (F A n z) Z' (ei W3 t 0 (oP x (F A n z)).toList)/\bn W3 t 45 Q:=by
 obtain⟨va,M,R,rfl,g1,g2,g3,hF,ja,V,H⟩:=h;obtain⟨vb,rfl,j⟩:=hF.now;obtain⟨A,z,rfl,-⟩:=j;have pz:=ha.lt;have hrl:=λb j=>(Y.blk b j).2
 have hap:=hP.lt;have hZg:¬y t:=λhz=>by obtain⟨-,gw,vi,-,-,hV,-⟩:=hP;exact hV.apart t hz (aI (aJ rfl))
 have M4:=ha.cF H λh=>h.2 (aJ rfl)
 have u9:=bf.sets (X:=λb=>b=t) rfl (oP x (F A (Z x.batch) z)).toList 0 W3;have dS:=Y.to H (λb h=>h.1) (λb j h=>h.2 (aI j)) (Y':=λb=>¬(y b\/M<=b/\b<R)) λb _ h=>aI λhz=>h (aI hz)
 have Ka:Fx (λb=>¬(y b\/M<=b/\b<R)\/aW B=I b) (λW=>bD eB x.batch (F A (Z x.batch) z) W) W3:=(hF.mono λW h=>by
  obtain⟨vb,e,h⟩:=h;injection e with e;have:=congrArg (·[5]?) e;simp at this;rw[this];exact h).less λb j=>by
   rcases j with j|j;by_cases O:b<M;exact aI O;exact aJ (Nat.not_lt.1 λh2=>j (aJ ⟨aZ,h2⟩));have:=hrl b j;exact aI aZ
 refine⟨A,Z x.batch,z,λb=>y b\/M<=b/\b<R,rfl,⟨V.to (u9.more λ_ h=>aJ h) (λ_ h=>aI h) (λ_ h=>aI h) λb j hz=>absurd (V.lt b (aI hz)) aZ,dS.to u9 (λb j h=>?_) (λb j e=>(hrow b j).2 e) λb _ h=>aI h,
  Ka.up u9 λb e=>aI λhz=>?_,λb j=>aI (S b j),ja,?_,?_,DD M4 (by rw[hac];rfl),λb j=>(hrow b j).1⟩,M4⟩
 subst j;exact h.elim hZg λh=>aZ
 subst e;exact hz.elim hZg λh=>aZ
 exact K.sets aZ _ 0 _ (H.k hk λb j=>Nat.le_of_not_lt λh=>j.1 (S b (aI h)));exact (hu.ir H λb j h=>Nat.lt_of_not_le λO=>h.1 (S b (aJ ⟨O,j⟩))).ir u9 λb j e=>absurd j aZ
theorem LL.push{par bj room w N R lo ops j l z A Y s k x vb M W B C}(h:LL par bj w N R lo l z Y s k x vb M W)(O:K W B)(S:bK (λb=>¬M b) 0 45 Iq (l++[x]) A C)(hg:B.grownBy C (aW z))(Q:aW A=aW z\/aW A=I (D (L B)))(hw:D (L w)<=D (L N))(V:uJ (mC par bj room,[]) (ops.take (j+1))=l++[x])(e2:AG (mC par bj room,[]) (ops.take (j+1))=s)(e3:zV (ops.take (j+1))=k)(ja:∀y∈l,Ra y):UD par bj room w N R lo ops (j+1) A C:=by
 have ug:=bf.gy (X:=λb=>aW z=I b) hg λ_ h=>h
 have H:=(bf.cz O (λb=>aW z=I b)).tr ug;have hz:=O.size;have:=h.u.size;have dR:=λb t=>(S.blk b t).2
 refine⟨⟨s,k,M,h.EW.to (H.more λ_ h=>aI h) (λ_ h=>aI h) (λb t=>?_) (λb t hz=>absurd (h.EW.lt b (aI hz)) aZ),V▸S,e2.symm,e3.symm,h.sub⟩,by
  rw[V];intro y T;rw[r7,List.mem_singleton]at T;exact T.elim (ja y) λe=>e▸h.sm,H.k h.k λb t=>cQ hw (h.row b t),h.u.ir H λb t e=>absurd (h.row b e) aZ,λb t=>?_⟩
 rcases Q with e|e;exact aI (aI (e▸t));rw[e]at t;injection t with t;have:=dR b (by rw[e,t]);exact aJ ⟨aZ,aZ⟩;rcases Q with e|e;exact h.row b (e▸t);rw[e]at t;injection t with t;omega
theorem axd n w:aK aR 32 #[G J n] w λe A=>e=ak (av #[G J 1,G J n,aw ⟨#[]⟩])/\K w A:=by have j:=bn.new w 83 #[G J 0,G J 0,aw ⟨#[]⟩];have k1:=j.cG;go_in;go_upto_region 1 with fail;generalize w.alloc _=t at *;generalize C:D (L w)=g at j|-;have HG:=aY C;have q:=j.cell;have:=j.frozen;go_wp2;have B:bn (ax (ax (ax t _ _) _ _) _ _) g 83 #[G J 1,G J n,aw ⟨#[]⟩]:=((j.cH 0 (G J 1)).cH 1 (G J n)).cH 2 (aw ⟨#[]⟩);have y:=K.set (K.set (K.set k1 (r:=g) Tc 0 (G J 1)) (r:=g) Tc 1 (G J n)) (r:=g) Tc 2 (aw ⟨#[]⟩);generalize ax (ax (ax t _ _) _ _) _ _=M at *;have H:=B.cell;refine aM (v:=av #[G J 1,G J n,aw ⟨#[]⟩]) (by simp[results,results32,go_sem,H]) rfl ?_;exact⟨rfl,y⟩
theorem aic{w:aP} l T{M}(z:∀k,M k->k<D (L w)):Fx M (λW=>bD eH l (F (I ⟨D (L w),0,U⟩) (Z l) (Z l)) W) (aU w (aq (l.map λn=>G J n).toArray T)):=by
 intro W u;have y:=(bn.new w T (l.map λn=>G J n).toArray).cF u λh=>bL
 refine⟨_,_,rfl,⟨l.map D4,IC _ _,by grind [XA,eH],λ_=>⟨_,0,rfl,y.lt,λj u t=>?_⟩⟩,bP _⟩;rw[XA]at t;rw[mr,y.cell j,List.getElem?_toArray];exact t
theorem aCn(w:aP) t T:iI [t] (F (I ⟨D (L w),0,U⟩) 1 1) (aU w (aq (nu t).toArray T)) :=
 ⟨_,_,rfl,by simpa using (Reads.new w (nu t) T 4 1 rfl).more (by simp)⟩
theorem Each.new{α}{S:fy α}{T:TypeId}{W:aP}{g:Nat}{l:List α}{t}(y:Each S l t W)(hb:bn W g T t.flatten.toArray):bD S l (F (I ⟨g,0,U⟩) (Z l) (Z l)) W :=
 ⟨_,_,rfl,⟨t,y,y.D2,λ_=>⟨g,0,rfl,hb.lt,λj u z=>by rw[mr,hb.cell j];simpa using z⟩⟩,bP _⟩
theorem aCo{α}{S:fy α}{l:List α}{A w}(h:yO S l A w)(y:0<S.size)(H:0<Z l):∃b o,A=I ⟨b,o,U⟩/\∀i (z:i<Z l),∃t,(∀W,K w W->S.rel l[i] t W)/\∀W,K w W->∀j,j<S.size->W.cell? ⟨b,o+i*S.size+j,U⟩=t[j]?:=by obtain⟨b,o,_,rfl,-⟩:=fE h 0 H y;refine⟨b,o,rfl,λi z=>?_⟩;obtain⟨N,M,t,e,-,C,-,B⟩:=fE h i z y;injection e with e;injection e with e1 e2;subst e1 e2;exact⟨t,C,B⟩
theorem ay8{l:List xH}{A w}(h:yO Iq l A w)(N:0<Z l):∃b o,A=I ⟨b,o,U⟩/\∀i (y:i<Z l),∃A n c,n=Z l[i].batch/\(∀W,K w W->bD eB l[i].batch (F A n c) W)/\∀W,K w W->∀j,j<9->W.cell? ⟨b,o+(i*9+j),U⟩=(oP l[i] (F A n c))[j]?:=by obtain⟨b,o,e,H⟩:=aCo h bG N;refine⟨b,o,e,λi y=>?_⟩;obtain⟨Q,M,C⟩:=H i y;obtain⟨O,rfl,t⟩:=M w (K.rf w);obtain⟨z,c3,rfl⟩:=bH t;exact⟨z,_,c3,rfl,λW k=>cM t k,λW k j B=>by rw[<- Nat.add_assoc];exact (C W k j B).trans aD⟩
section
variable {C aa:Nat->Prop}{par bj:List Int}{gp k gm b1 b2 b3 b4 b5 b6 b7:Nat}{s:qE}{W:aP}
def aa9(n:Int):Prop:=n=8\/n=6\/n=9\/n=13\/n=16\/n=17\/n=10\/n=11
theorem aD5(h:iT C par bj gp s k aa W)(hm:apb gm b1 b2 b3 b4 b5 b6 b7 W)(X:Z par<=6)(c:nG)(V:aa9 c.bA)(hc:UC c)(hk:k+DY c<=40000)(S:c.bA=10->Z c.e<=1000000)(dU:c.bA=13->Z c.f<=1000000){y A}(he:iI c.e (F y (Z c.e) A) W){t j}(Y:fZ c.f (F t (Z c.f) j) W) :∃f H,eX (abZ b1 b2 b3 b4 b5 b6 b7) c.bA=I (.func (.func f) #[] H)/\(∀O W,(callFunc f O).run aR W=.ok (.enter f O) W) /\aK aR f (#[aj (I ⟨gp,0,U⟩),av (oO c (F y (Z c.e) A) (F t (Z c.f) j))]++H) W (LK C par bj gp (xB s c).1 (k+DY c) (xB s c).2 aa W):=by
 obtain⟨f1,Q,R,f4,f5,f6⟩:=hc;have B:∀ {f H s' x},aK aR f H W (Cv C par bj gp s' (k+1) x aa W)->aK aR f H W (LK C par bj gp s' (k+1) x aa W):=λh=>h.mono λe N h=>h.q
 have k1:1<=DY c:=by grind [DY]
 have M:k<=40000:=aZ;rcases V with z|z|z|z|z|z|z|z;have e8:DY c=588:=bV z;rw[e8]at hk|-;refine⟨_,_,by rw[z];rfl,λ_ _=>rfl,?_⟩;simp only[xB,z];exact (aus h X hk c y A t j).mono λe N h=>h.q
 all_goals
  rw[show DY c=1 from bQ aZ]
  refine⟨_,_,by rw[z];rfl,λ_ _=>rfl,?_⟩
  simp only[xB,z]
 exact B (axc h c y A t j hm.c7 gP (λ_ _=>rfl) (aH k) λaS gw aa W hV=>(hV.Ln c.a c.b R).mono λe N ⟨e1,T⟩=>⟨e1,T.mono (aH k)⟩);exact B (aur h M c Q y A t j);exact B (axb h M c Q R f6 (dU z) y A Y);exact avJ h M c y A t j;exact B (avI h c y A t j);exact B (asW h c (S z) f5 he t j);exact B (atB h c y A t j)
end
theorem axe par bj(room:Nat)(ops:List nG) v1 v2 v3 w(h1:bD eH par v1 w)(h2:bD eH bj v2 w)(h3:bD Wp ops v3 w)(hfit:∀c∈ops,UC c)(hp:Z par<=6)(ht:iH par=aA)(hh:mU par bj=aA)(fU:jM (fA (eN eZ))<=room)(hr:room<=1048576)(hlen:Z ops<=500)(an6:zV ops<=40000)(hK:∀c∈ops,aa9 c.bA)(hel:∀c∈ops,(c.bA=10->Z c.e<=1000000)/\(c.bA=13->Z c.f<=1000000)) :aK aR 12 #[v1,v2,G J room,v3] w λe w'=>∃v,e=ak (au #[v,G J 0])/\bD Iq (uJ (mC par bj room,[]) ops) v w'/\K w w':=by
 have C2:=aY (amU par bj room v1 v2 w h1 h2 ht hh fU hr (λb=>b<D (L w)) λb t=>t);obtain⟨A1,c1,rfl⟩:=bH h1;obtain⟨A2,c2,rfl⟩:=bH h2;obtain⟨A3,c3,rfl,hl,-⟩:=h3;have HL:=aY hl;have Rb:=aY hfit;have HKK:=aY hK;have HEL:=aY hel;have HC:=aY an6;have hi:¬(500:Int)<Z ops:=aZ;clear h1 h2 hl hfit hK hel an6 hlen;go_in;go_wp2_with fail
 refine C2.aX.mono ?_;rintro e B⟨gw,rfl,hV,k3⟩;have X:=bn.new B 93 #[aj (I ⟨gw,0,U⟩),F U 0 0];have QM:iT (λ_=>False) par bj (D (L B)) (mC par bj room,[]) 0 (λb=>b<D (L w)) (aU B (aq #[aj (I ⟨gw,0,U⟩),F U 0 0] 93)) :=⟨⟨bP _,λi hi=>by cases hi⟩,gw,_,X,bK.nil _ _ _ _ _,hV.to (bf.cz X.cG _) (λ_ h=>aI h) (λb t=>aJ (by
  rcases t with t|t|t;exact t.elim;exact⟨aZ,t▸X.lt⟩;cases t)) λb t hz=>absurd (hV.lt b (aI hz)) aZ,λh=>h,λb t=>by cases t⟩
 have JH:=aY QM;have k4:=k3.tr X.cG;have CC:=aY λW=>aCl W
 clear X hV QM;go_upto_region 7 with fail;generalize B.alloc _=R at *;generalize D (L B)=gp at *;go_wp2_with fail
 refine (CC.aX R).mono ?_;rintro e H⟨gm,b1,b2,b3,b4,b5,b6,b7,rfl,hF,k5⟩;have HF:=aY hF;have HKW:=aY (show D (L w)<=D (L H)from (k4.tr k5).size);have h0:Hid (UD par bj room w H gp (D (L R)) ops 0 (F U 0 0) H):=aY ⟨⟨_,_,λb=>b<D (L w)\/D (L R)<=b/\b<D (L H),JH.aX.to (bf.cz k5 _) (λb h=>h) (λb h=>kP) (λb _ _ h=>kP),bK.nil _ _ _ _ _,rfl,rfl,λ_ h=>h⟩,λx hx=>(by cases hx),k4.tr k5,bf.rf _ _,λb t=>(by cases t)⟩;clear hF;go_wp2_with fail
 go_loopw [14,16,17,18,19,39] (fun o _ _ _ _ i W=>∃j:Nat,j<=Z ops/\i=G J j/\Hid (UD par bj room w H gp (D (L R)) ops j o W)) (fun _ _ _ _ _ i _=>Z ops-(aO i).toNat)
 case atStart=>exact⟨0,fw _,rfl,h0⟩
 case round =>
  obtain⟨j,hj,rfl,A⟩:=hrel;clear h0;by_cases Y:j<Z ops
  case neg => have cE:¬(j:Int)<Z ops:=aZ;obtain⟨⟨s,k,aa,-,y,-⟩,O,hk,-⟩:=A.aX;rw[jq aZ]at y O;obtain⟨A9,c9,rfl⟩:=y.slice;have HO:=aY y.bD;have C:=aY O;clear y O A;go_wp2;go_ret2;exact⟨_,rfl,HO.aX,hk⟩
  have cE:(j:Int)<Z ops:=aZ;obtain⟨b3,o3,cc,rfl,-,hrl,d0,d⟩:=fE HL.aX j Y bG;obtain⟨hel,dU⟩:=HEL.aX _ (dJ Y);have hfc:=Rb.aX _ (dJ Y);have hKc:=HKK.aX _ (dJ Y);have PT:=aY (ay7 Y (mC par bj room,[]));have Ee:zV (ops.take (j+1))<=40000:=cQ (axa ops _) HC.aX;obtain⟨⟨s,k,aa,hP,y,hs,hk,hZ⟩,O,V,hu,hrow⟩:=A.aX;rw[PT.aX.2.2,<- hk]at Ee;generalize ops[j]=c at *;obtain⟨ve,vf,rfl,he,hf⟩:=hrl w (K.rf w);obtain⟨Ae,ce,rfl⟩:=tN he;obtain⟨Af,cf,rfl⟩:=dX hf;have q9:∀i,i<6->wr.cell? ⟨b3,o3+j*6+i,U⟩=(oO c (F Ae (Z c.e) ce) (F Af (Z c.f) cf))[i]?:=λi hi=>(d wr V i hi).trans aD
  have q0:wr.cell? ⟨b3,o3+j*6,U⟩=I (G J c.bA):=d0 wr V;have hz1:D (L (aU wr (aq (oO c (F Ae (Z c.e) ce) (F Af (Z c.f) cf)) 39)))=D (L wr)+1:=bu;have bo:=(bn.new wr 39 (oO c (F Ae (Z c.e) ce) (F Af (Z c.f) cf))).alloc (aq #[G J 1,G J 0,G E 0,G E 0,G J 0,F U 0 0,G J 0,G J 0,ar az] 45);have ba:=bn.new (aU wr (aq (oO c (F Ae (Z c.e) ce) (F Af (Z c.f) cf)) 39)) 45 #[G J 1,G J 0,G E 0,G E 0,G J 0,F U 0 0,G J 0,G J 0,ar az];have z:=K.ou wr (aq (oO c (F Ae (Z c.e) ce) (F Af (Z c.f) cf)) 39) (aq #[G J 1,G J 0,G E 0,G E 0,G J 0,F U 0 0,G J 0,G J 0,ar az] 45);rw[hz1]at ba;clear d d0 hrl hz1;go_upto_region 13 with fail;generalize ay (ay wr _) _=w2 at *;have wS:=hP.to (C':=λb=>aW u14=I b\/b=D (L wr)+1) (Z':=aa) (bf.cz z _) (λ_ h=>aI h) (λb t=>t.imp id λe=>⟨aZ,by rw[e];exact ba.lt⟩) (λb t hz=>absurd (hP.lt b (aI hz)) aZ);have zo:=HF.aX w2 (hu.tr (bf.cz z _));have hOP:=aD5 wS zo hp c hKc hfc Ee hel dU (mq _ _ _ _ he (V.tr z)) (fO _ _ _ _ hf (V.tr z));have QL:=(E0 (D3 (P:=aR) (kt:=3) underlying3) underlying94 (aCm w2) zo.map c.bA).1;generalize abZ b1 b2 b3 b4 b5 b6 b7=FL at *;have q2:=bo.cell;clear q9 q0 zo;have fq:=y.st z;have h5z:=hu.size;have QV:=HKW.aX;have M:=aY (aB PT.aX.1 (aB PT.aX.2.1 PT.aX.2.2));rw[<- hs,<- hk]at M;have tI:=aY O;generalize uJ (mC par bj room,[]) (ops.take j)=l at *;have key:∀x vb Z9 Q,Hid ((xB s c).2=x)->Hid (LL par bj w H gp (D (L R)) l u14 (D (L wr)+1) (xB s c).1 (k+DY c) x vb Z9 Q)->Hid (∀W7 W9 T,K Q W7->bK (λb=>¬Z9 b) 0 45 Iq (l++[x]) T W9->W7.grownBy W9 (aW u14)->(aW T=aW u14\/aW T=I (D (L W7)))->UD par bj room w H gp (D (L R)) ops (j+1) T W9) :=
   λx vb Z9 Q hx hS=>aY λW7 W9 T k7 cX dW gD=>hS.aX.push k7 cX dW gD QV (by rw[<- hx.aX];exact M.aX.1) M.aX.2.1 M.aX.2.2 tI.aX
  have HKY:=aY key;have Dl:Z l<=500:=by have:=M.aX.1;have h9:=congrArg Z this;rw[ahv,sc,fg]at h9;simp at h9;omega
  clear key M tI O PT hs hk A;obtain⟨f,cs,hlk,rI,hC⟩:=hOP;rw[hlk]at QL;simp only[Option.getD_some,Option.isSome_some,encI]at QL;have HC:=aY hC;have HRS:=aY λe W3 (hQ:LK (λb=>aW u14=I b\/b=D (L wr)+1) par bj gp (xB s c).1 (k+DY c) (xB s c).2 aa w2 e W3)=>LL.call wS fq hZ (V.tr z) (hu.tr (bf.cz z _)) ba rfl (λb t=>⟨hrow b t,λe=>by have:=(y.blk b t).2;omega⟩) aZ QV (e:=e) (W3:=W3) hQ
  clear hC hP wS y fq hZ hu V z ba hlk;go_wp2_with fail
  refine HC.aX.mono ?_;rintro e B hQ;obtain⟨A9,n9,c9,Z9,rfl,hS,M4⟩:=HRS.aX e B hQ;have C:=aY hS;have A:=HKY.aX _ _ _ _ (aY rfl) C;have q3:=M4.cell;have z3:=M4.frozen;generalize (xB s c).2=x at *;simp only[ei,Nat.reduceAdd,mr]at C A;clear hQ HRS HC hS M4 HKY;go_upto_region 16 with fail;generalize ax (ax (ax (ax (ax (ax (ax (ax (ax _ _ _) _ _) _ _) _ _) _ _) _ _) _ _) _ _) _ _=Q at *;have nW:=C.aX.lay;have q6:=C.aX.blk.cell;obtain⟨Ao,co,hvo⟩:=nW.slice;subst hvo;have kA:=K.new Q (aq (oP x (F A9 n9 c9)) 45);have ke:=nW.st kA;have hr:=fL.new (S:=Iq) (e:=45) (x:=x) (v:=av (oP x (F A9 n9 c9))) (w:=Q) (N:=λb=>¬Z9 b\/aW (F Ao (Z l) co)=I b) (C.aX.fx.mono λW h=>⟨_,rfl,h⟩) 0 (fw _);go_wp2_with (at_builtin;refine j0 rfl _ _ 28 rfl _ 9 88 TAn rfl rfl ke _ rfl x ?p1 ?p2 ?p3 ?_)
  case p1=>exact hr
  case p2=>omega
  case p3=>exact fw _
  intro T w9 cX dW gD cV;have HF9:=aY (A.aX _ _ _ kA cX dW BS);clear nW q6 kA ke hr cX dW gD cV C A;go_wp2;go_roundw
  case rel=>exact⟨j+1,aZ,dh,HF9⟩
  case measure=>simp[aO];omega
def Ir:List nG:=[⟨13,0,1,0,[],[]⟩,⟨9,0,0,0,[],[]⟩,⟨10,0,0,1,[(pS,1,5,⟨#[]⟩)],[]⟩,⟨11,0,0,1,[],[]⟩,⟨8,0,0,0,[],[]⟩,⟨8,0,0,0,[],[]⟩,⟨8,0,0,0,[],[]⟩,⟨16,0,0,0,[],[]⟩,⟨6,0,0,0,[],[]⟩,⟨17,0,0,0,[],[]⟩]
def apc:Bool:=match uJ (mC [-1,0] [1] 10000,[]) Ir with
 | [_,_,_,_,_,_,_,a7,a8,a9]=>decide (Z a7.batch=1/\a8.err=0/\a9.long=2/\a9.up=az)
 | _=>az
theorem aA5:apc=true:=by decide +kernel
abbrev apd(ge:Nat):Array aQ:=#[G J 13,G J 0,G J 1,G J 0,F U 0 0,F U 0 0,G J 9,G J 0,G J 0,G J 0,F U 0 0,F U 0 0,G J 10,G J 0,G J 0,G J 1,F (I ⟨ge,0,U⟩) 1 1,F U 0 0,G J 11,G J 0,G J 0,G J 1,F U 0 0,F U 0 0,G J 8,G J 0,G J 0,G J 0,F U 0 0,F U 0 0,G J 8,G J 0,G J 0,G J 0,F U 0 0,F U 0 0,G J 8,G J 0,G J 0,G J 0,F U 0 0,F U 0 0,G J 16,G J 0,G J 0,G J 0,F U 0 0,F U 0 0,G J 6,G J 0,G J 0,G J 0,F U 0 0,F U 0 0,G J 17,G J 0,G J 0,G J 0,F U 0 0,F U 0 0]
theorem aCp{W:aP}{g A:Nat}(hb:bn W g 39 (apd A))(B:iI [(pS,1,5,⟨#[]⟩)] (F (I ⟨A,0,U⟩) 1 1) W):bD Wp Ir (F (I ⟨g,0,U⟩) 10 10) W:=by
 have t:iI [] (F U 0 0) W:=⟨U,0,rfl,Reads.nil _ _ _ _⟩;have H:fZ [] (F U 0 0) W:=⟨U,0,rfl,Reads.nil _ _ _ _⟩;have h:∀z a b n e y,iI e y W->Wp.rel ⟨z,a,b,n,e,[]⟩ (oO ⟨z,a,b,n,e,[]⟩ y (F U 0 0)).toList W:=λz a b n e y C=>⟨y,_,rfl,C,H⟩
 have j:=Each.nil Wp W;replace j:=j.snoc (h 13 0 1 0 _ _ t);replace j:=j.snoc (h 9 0 0 0 _ _ t);replace j:=j.snoc (h 10 0 0 1 _ _ B);replace j:=j.snoc (h 11 0 0 1 _ _ t);replace j:=j.snoc (h 8 0 0 0 _ _ t);replace j:=j.snoc (h 8 0 0 0 _ _ t);replace j:=j.snoc (h 8 0 0 0 _ _ t);replace j:=j.snoc (h 16 0 0 0 _ _ t);replace j:=j.snoc (h 6 0 0 0 _ _ t);replace j:=j.snoc (h 17 0 0 0 _ _ t);exact Each.new (l:=Ir) j hb
theorem aCq:∀c∈Ir,UC c:=by simp_all [Ir,UC,dA,nv,jN]
theorem aut W:aK aR 14 #[] W λe X=>e=ak (ar aA)/\K W X:=by
 have C5:=aY (axd 5 W);have B:=aA5;unfold apc at B;have CR:=aY λv1 v2 v3 w C z h3=>axe [-1,0] [1] 10000 Ir v1 v2 v3 w C z h3 aCq bG bG bG aCr bG bG bG (by simp[Ir,aa9]) bG
 generalize uJ (mC [-1,0] [1] 10000,[]) Ir=R at *;split at B;rotate_left;cases B;next a0 a1 a2 a3 a4 a5 a6 a7 a8 a9 =>
 have HR:=aY (of_decide_eq_true B);go_in;go_wp2_with fail
 refine C5.aX.mono ?_;rintro e j⟨rfl,kB⟩;have he:iI [(pS,1,5,⟨#[]⟩)] (F (I ⟨D (L j),0,U⟩) 1 1) (aU j (aq #[aw ⟨#[112]⟩,G J 1,G J 5,aw ⟨#[]⟩] 88)):=aCn j (pS,1,5,⟨#[]⟩) _;have Y:D (L (aU j (aq #[aw ⟨#[112]⟩,G J 1,G J 5,aw ⟨#[]⟩] 88)))=D (L j)+1:=bu;have k0C:=kB.tr (K.new j (aq #[aw ⟨#[112]⟩,G J 1,G J 5,aw ⟨#[]⟩] 88));go_upto_region 2 with fail;generalize j.alloc _=Q at *;have N:=bn.new Q 39 (apd (D (L j)));have O:=aCp N (mq _ _ _ _ he N.cG);have V:=k0C.tr N.cG;rw[Y]at O;generalize Q.alloc _=y at *;have S:=K.ou y (aq #[G J (-1),G J 0] 3) (aq #[G J 1] 3);have C:=((aic (w:=y) [-1,0] 3 (M:=λ_=>False) (λ_ h=>h.elim)).k ((K.rf _).al (aq #[G J 1] 3))).now;have hz1:D (L (aU y (aq #[G J (-1),G J 0] 3)))=D (L y)+1:=bu;have z:=(aic (w:=y.alloc (aq #[G J (-1),G J 0] 3)) [1] 3 (M:=λ_=>False) (λ_ h=>h.elim)).now;rw[hz1]at z;have C1:=aY (CR.aX _ _ _ _ C z (cM O S));have k0E:=V.tr S;go_wp2_with fail
 refine C1.aX.mono ?_;rintro e t⟨v,rfl,hl,k1⟩;obtain⟨Av,cv,rfl,wK,-⟩:=hl;have MY:=k0E.tr k1;go_upto_region 5 with fail;obtain⟨b,o,rfl,H⟩:=ay8 wK bu;have d:=λi hi=>(H i hi).imp λA h=>h.imp λn h=>h.imp λc h=>aB h.1 (h.2.2 t (K.rf _))
 obtain⟨A7,n7,c7,FN,d7⟩:=d 7 bu;obtain⟨_,_,_,-,d8⟩:=d 8 bu;obtain⟨_,_,_,-,T⟩:=d 9 bu;obtain⟨g1,g2,g3,g4⟩:=HR.aX;have:t.cell? ⟨b,o+68,U⟩=I (F A7 1 c7):=(d7 5 bG).trans (by simp[FN,g1]);have:t.cell? ⟨b,o+72,U⟩=I (G J 0):=(d8 0 bG).trans (by simp[g2]);have:t.cell? ⟨b,o+87,U⟩=I (G J 2):=(T 6 bG).trans (by simp[g3]);have:t.cell? ⟨b,o+89,U⟩=I (ar az):=(T 8 bG).trans (by simp[g4]);go_wp2;go_ret;exact⟨rfl,MY⟩
section
open Go Go.RowKit Go.ChangeShapes Go.WideShapes Go.ChangeAt
def aaP(w:aP)(v:aQ):Prop:=∃l:List Int,bD eH l v w/\∀n∈l,dA n
section
variable {H:Type}{enc:TypeId×aQ->H}{w:aP}{base:Nat}{r:Reach}{b0:Nat}{spare:Nat->Bool}{held:Bool}{v:aQ}{d:DataW H}{p:List MemPlace}
theorem agx(C:Value.okWide aR w r b0 23 v)(h:DataW.Trod enc aR w base spare held 23 v d p):aaP w v:=by
 obtain⟨A,n,c,S,rfl,M,y,T,H,O⟩:=asD underlying23 1 gP (λt=>∃n:Int,t=[G J n]/\dA n) (λ_ _ _ _ Q=>RX Q) C h;obtain⟨l,z,N,B⟩:=Ri (λn:Int=>[G J n]) dA S λt R=>(H t R).2
 have j:=O bG;subst M;rw[<- z]at j y|-;exact⟨l,⟨A,c,rfl,⟨l.map D4,IC _ _,by rw[N]at j;exact j⟩,y⟩,B⟩
end
end
theorem cU.r0g{O par bj k}(h:cU par bj O k):∃d,jr d (r0 O):=by
 have:=(rr h.iE.tr).1;have A:0<Z O.eV:=aaB;have t:=aE A;have j:=h.eV 0 _ t;rw[Lo t];generalize O.eV[0]=y at j|-;unfold mW;cases e:y.up with
 | none => obtain⟨s,z,-⟩:=j.down e;exact⟨y.dk,by rw[DQ z];exact z⟩
 | some B=>exact⟨B.dk,(j.up B e).2.1.dk⟩
structure wW(par bj:List Int)(gw:Nat)(W0:aP)(O:cT)(k:Nat)(aa:Nat->Prop)(l:List il)(ids dead:List bY)(vl vi vd:aQ)(W:aP):Prop where
 ov:dY (λb=>aW vd=I b) par bj gw O k aa W
 ls:Q7 aa l ids vl vi W
 dd:bK (λb=>¬aa b) 0 42 dQ dead vd W
 jo:JO l O
 ab:∀a∈dead,gM (r0 O) a
 z0:∀b,b<D (L W0)->aa b
 k:K W0 W
structure Rf(j:Nat)(k:Nat)(l:List il)(ids dead:List bY):Prop where
 kb:k<=588*j
 lb:Z l<=j
 ib:Z ids<=j
 db:Z dead<=50*j
 eb:∀d∈l,Z d.es<=j
 fb:∀a∈ids,ew a
def Kv(par bj:List Int)(gw:Nat)(y:aP)(j:Nat)(vl z vd:aQ)(W:aP):Prop:=∃O k aa l t dead,wW par bj gw y O k aa l t dead vl z vd W/\Rf j k l t dead
theorem wW.st{par bj gw j O k y l ids dead vl t vd W W'}(h:wW par bj gw j O k y l ids dead vl t vd W)(u:K W W'):wW par bj gw j O k y l ids dead vl t vd W' :=
 ⟨h.ov.st u,⟨h.ls.dl.st u,h.ls.is.st u⟩,h.dd.st u,h.jo,h.ab,h.z0,h.k.tr u⟩
theorem Kv.st{par bj gw t j vl y vd W W'}(h:Kv par bj gw t j vl y vd W)(u:K W W'):Kv par bj gw t j vl y vd W':=by obtain⟨O,k,aa,l,A,dead,B,z⟩:=h;exact⟨O,k,aa,l,A,dead,B.st u,z⟩
theorem wW.more{par bj gw y O k A Z' l ids dead vl z vd W W'}(h:wW par bj gw y O k A l ids dead vl z vd W)(u:K W W')(t:∀b,Z' b↔A b\/D (L W)<=b/\b<D (L W')):wW par bj gw y O k Z' l ids dead vl z vd W' :=
 ⟨h.ov.more u λb j=>(t b).1 j,⟨(h.ls.dl.st u).less λb j hz=>j ((t b).2 (aI hz)),(h.ls.is.st u).less λb j hz=>j ((t b).2 (aI hz))⟩,(h.dd.st u).less λb j hz=>j ((t b).2 (aI hz)),h.jo,h.ab,λb j=>(t b).2 (aI (h.z0 b j)),h.k.tr u⟩
theorem bN.aD6{P:Program}{j:Act}{t:(Nat->aQ)->aP->Prop}{k:Nat}{o:Oper}{r:List Oper}{x:List Nat×List (Nat×Nat)}{xs:List (List Nat×List (Nat×Nat))}{V:Nat->aQ}{w:aP}(f:FuncId)(args:Array aQ)(hg:dI V o.guard=aA)(z:(aL (bR x.2 j V) (bT o.op o.type)).run P w=.ok (.enter f args) w)(h:aK P f args w λe y=>∃v,e=ak v/\bN P j t (k+1) r xs (cP V k v) y):bN P j t k (o :: r) (x :: xs) V w:=by unfold bN;rw[bV hg,z];exact h
theorem bN.aD7{P:Program}{j:Act}{t:(Nat->aQ)->aP->Prop}{k:Nat}{o:Oper}{r:List Oper}{x:List Nat×List (Nat×Nat)}{xs:List (List Nat×List (Nat×Nat))}{V:Nat->aQ}{w:aP}(v:aQ)(hg:dI V o.guard=aA)(y:(aL (bR x.2 j V) (bT o.op o.type)).run P w=.ok (.value v) w)(h:bN P j t (k+1) r xs (cP V k v) w):bN P j t k (o :: r) (x :: xs) V w:=by unfold bN;rw[bV hg,y];exact h
theorem wW.push{par bj gw B O k t l ids dead vl C vd W y z a}(h:wW par bj gw B O k t l ids dead vl C vd W)(H:bK (λb=>¬t b) 0 42 dQ (dead++[a]) y z)(hg:W.grownBy z (aW vd))(N:aW y=aW vd\/aW y=I (D (L W)))(M:gM (r0 O) a) :wW par bj gw B O k t l ids (dead++[a]) vl C y z/\bf (λb=>¬t b) W z:=by
 have u:=bf.gy (X:=λb=>aW vd=I b) hg λ_ h=>h
 have hz:∀b,aW vd=I b->¬t b:=λb j hz=>h.ov.apart b hz j
 refine⟨⟨h.ov.to u (λ_ h=>aI h) (λb j=>?_) λb j A=>absurd (h.ov.lt b (aI A)) aZ,⟨h.ls.dl.to u hz (λ_ _ h=>h) bG,h.ls.is.to u hz (λ_ _ h=>h) bG⟩,H,h.jo,λb j=>?_,h.z0,u.k h.k λb j=>Nat.le_of_not_lt λA=>hz b j (h.z0 b A)⟩,u.more hz⟩;rcases N with e|e;exact aI (e▸j);rw[e]at j;injection j with j;exact aJ ⟨aZ,(H.blk b (by rw[e,j])).2⟩;rw[r7,List.mem_singleton]at j;exact j.elim (h.ab b) λe=>e▸M
theorem axf{O par bj k}(h:cU par bj O k) z a b f:ew (tT O z a b f).2.1:=by unfold tT;split;exact h.OT a _;split;exact h.OT a _;exact h.OT a _
theorem ay9 l n z e:Z (yz l n z e)=Z l/\∀j:Nat,(∀d∈l,Z d.es<=j)->∀d∈yz l n z e,Z d.es<=j+1:=by
 have key:∀(f:il->il),(∀d,Z (f d).es<=Z d.es+1)->Z (l.modify n f)=Z l/\∀j:Nat,(∀d∈l,Z d.es<=j)->∀d∈l.modify n f,Z d.es<=j+1:=λf A=>by
  refine⟨List.length_modify ..,λj h d y=>?_⟩;obtain⟨i,t⟩:=List.mem_iff_getElem?.1 y;rw[List.getElem?_modify]at t;cases he:l[i]? with
  | none=>rw[he]at t;cases t
  | some x => have B:=h x (List.mem_of_getElem? he);rw[he]at t;injection t with t;rw[<- t];split;have:=A x;show Z (f x).es<=j+1;omega;exact Nat.le_succ_of_le B
 unfold yz;split;exact key _ λd=>bu
 split;exact key _ λd=>aH _
 split;exact key _ λd=>aH _
 exact⟨rfl,λj h d y=>by have:=h d y;omega⟩
theorem Rf.abX{O par bj k}(C:cU par bj O k){j l ids dead}(h:Rf j k l ids dead)(c:vR):Rf (j+1) (k+588) (yA O l ids c).2.1 (yA O l ids c).2.2 dead:=by obtain⟨N,H,R,M,z,A⟩:=h;unfold yA;split;refine⟨aZ,?_,cN,aZ,?_,λa y=>?_⟩;dsimp only;split;simp;omega;omega;dsimp only;split;intro d t;rw[r7,List.mem_singleton]at t;rcases t with t|rfl;have:=z d t;omega;simp;intro d t;have:=z d t;omega;rw[r7,List.mem_singleton]at y;rcases y with y|rfl;exact A a y;exact axf C _ _ _ _;obtain⟨Q,B⟩:=ay9 l (findD l (nN ids c.b)) c.bA c.e;refine⟨aZ,?_,by dsimp only;omega,aZ,?_,A⟩;dsimp only;split;omega;omega;dsimp only;split;exact B j z;intro d t;have:=z d t;omega
theorem aza par bj(cs:List vR) v1 v2 v3 w(h1:bD eH par v1 w)(h2:bD eH bj v2 w)(h3:bD UI cs v3 w)(hfit:∀c∈cs,Jh c) :aK aR 7 #[v1,v2,v3] w λe w'=>e=ak (ar aA)/\aN (D (L w)) w w':=by
 have C1:=aY λW=>aut W
 have C2:=aY λW (k:K w W)=>auq par bj v1 v2 W (cM h1 k) (cM h2 k)
 have C3:=aY λW (k:K w W) ht hh=>amU par bj 60000 v1 v2 W (cM h1 k) (cM h2 k) ht hh an5 aZ (λb=>b<D (L W)) λb Q=>Q
 obtain⟨A1,c1,rfl⟩:=bH h1;obtain⟨A2,c2,rfl⟩:=bH h2;obtain⟨A3,c3,rfl,mf,-⟩:=h3;have HL:=aY mf;have HF:=aY hfit;go_in;go_wp2_with fail
 refine (C1.aX w).mono ?_;rintro e w2⟨rfl,kA⟩;go_wp2_with fail
 refine (C2.aX w2 kA).mono ?_;rintro e w3⟨rfl,k3⟩;replace kA:=kA.tr k3;by_cases hg:Ce par bj=aA
 case neg =>
  have hg:Ce par bj=false:=by simpa using hg
  rw[hg];go_wp2;go_ret;exact⟨rfl,kA⟩
 rw[hg];obtain⟨⟨⟨h6,h8⟩,ht⟩,hh⟩:((Z par<=6/\Z bj<=8)/\iH par=aA)/\mU par bj=true:=by simpa [Ce]using hg
 have C4:=aY (C3.aX w3 kA ht hh);go_wp2_with fail
 refine C4.aX.mono ?_;rintro e w4⟨gw,rfl,hO,Bn⟩;have HW:Hid (Kv par bj gw w3 0 (F U 0 0) (F U 0 0) (F U 0 0) w4):=aY ⟨_,_,_,[],[],[],⟨hO.to (bf.rf _ _) (λ_ h=>aI h) (λb h=>kP) λb Q hz=>absurd (hO.lt b (aI hz)) aZ,⟨iw.nil _ _ _,iw.nil _ _ _⟩,bK.nil _ _ _ _ _,JO.new,λa h=>kP,λb h=>h,Bn⟩,⟨bP _,bP _,bP _,bP _,λd h=>kP,λd h=>kP⟩⟩;go_wp2_with fail
 go_loopw [10,11,12,13,14,15,16,17,18,19,20,53,75] (fun vl vi vd i _ _ _ _ _ _ _ _ _ W=>∃j:Nat,j<=Z cs/\j<=50/\i=G J j/\Hid (Kv par bj gw w3 j vl vi vd W)) (fun _ _ _ i _ _ _ _ _ _ _ _ _ _=>Z cs-(aO i).toNat)
 case atStart=>exact⟨0,fw _,aZ,rfl,HW⟩
 case round =>
  obtain⟨j,hj,hj5,rfl,HJ⟩:=hrel;by_cases hlt:j<Z cs/\j<50
  case neg =>
   obtain⟨_,_,_,_,_,_,H,-⟩:=HJ.aX;have kE:=kA.tr H.k;clear H HJ;by_cases cE:(j:Int)<Z cs
   case' pos=>have aFG:¬(j:Int)<50:=aZ
   all_goals
    clear hlt
    go_wp2
    go_ret
    exact⟨rfl,kE⟩
  obtain⟨hlt,rL⟩:=hlt;have cE:(j:Int)<Z cs:=aZ;have aFG:(j:Int)<50:=aZ;have hfc:=HF.aX _ (dJ hlt);obtain⟨b3,o3,cc,rfl,-,hrl,d0,d⟩:=fE HL.aX j hlt bG;generalize cs[j]=c at *;obtain⟨ve,vf,rfl,he,hf⟩:=hrl w (K.rf w);obtain⟨Ae,ce,rfl⟩:=tN he;obtain⟨Af,cf,rfl⟩:=dX hf;obtain⟨O,k,M,l,ids,dead,H,hB⟩:=HJ.aX;have kr:=kA.tr H.k;have q9:∀i,i<5->wr.cell? ⟨b3,o3+j*5+i,U⟩=(Ei c (F Ae (Z c.e) ce) (F Af (Z c.f) cf))[i]?:=λi hi=>(d wr kr i hi).trans aD
  have q0:wr.cell? ⟨b3,o3+j*5,U⟩=I (G J c.bA):=d0 wr kr;have A:=bn.new wr 55 (Ei c (F Ae (Z c.e) ce) (F Af (Z c.f) cf));have kB:=A.cG;have HE:=aY λW (u:K w W)=>mq _ _ _ _ he u
  have Ht:=aY λW (u:K w W)=>fO _ _ _ _ hf u
  have C:=aY (H.st kB);have HB:=aY hB;have HW:Hid (Kv par bj gw w3 (j+1) u10 u11 u12 wr):=aY ⟨O,k,M,l,ids,dead,H,⟨by have:=hB.kb;omega,by have:=hB.lb;omega,by have:=hB.ib;omega,by have:=hB.db;omega,λd hd=>Nat.le_succ_of_le (hB.eb d hd),hB.fb⟩⟩;clear H hB HJ he hf d d0 hrl;go_upto_region 16 with fail;generalize wr.alloc _=w5 at *;generalize D (L wr)=gc at A|-;have q:=A.cell;have CS:=aY (as0 c _ _ w5 (HE.aX w5 (kr.tr kB)) (Ht.aX w5 (kr.tr kB)));clear q9 q0;go_wp2_with fail
  refine CS.aX.mono ?_;rintro e w7⟨rfl,k7⟩;replace A:=A.bM k7;cases ja:N8 c
  case false =>
   replace HW:=aY ((HW.aX.st kB).st k7);go_wp2;go_roundw
   case rel=>exact⟨j+1,aZ,aZ,dh,HW⟩
   case measure=>simp[aO];omega
  replace C:=aY (C.aX.st k7);replace kB:=(kr.tr kB).tr k7;have hel:Z c.e<=1000000/\Z c.f<=1000000:=by simp only[N8,Ah,zZ,fI,decide_eq_true_eq]at ja;omega
  have QV:=kA.size;have CP:=aY (aup C.aX.ov h6 anf c _ _ hfc (λW u=>HE.aX W (u.k kB λb Q=>Nat.le_of_not_lt λh=>Q (C.aX.z0 b (cZ h QV)))) (Ht.aX w7 kB) hel.1 hel.2 C.aX.ls HB.aX.fb (by have:=HB.aX.lb;omega) (by have:=HB.aX.ib;omega) (λd hd=>by have:=HB.aX.eb d hd;omega));have:=HB.aX.db;have Vo:=aY (HB.aX.abX C.aX.ov.1 c);have HP:=aY (C.aX.jo.abX (ids:=ids) C.aX.ov.1 h6 anf c);have q:=A.cell;obtain⟨A4,c4,rfl⟩:=C.aX.ls.dl.slice;obtain⟨A5,c5,rfl⟩:=C.aX.ls.is.slice;obtain⟨A6,c6,rfl⟩:=C.aX.dd.slice;generalize yA O l ids c=R at *;obtain⟨O8,z,T⟩:=R;go_wp2_with fail
  refine CP.aX.mono ?_;rintro e w8⟨vl,vi,Z8,rfl,kH,hU8,hZ8,EE⟩;have Du:wW par bj gw w3 O8 (k+588) Z8 z T dead vl vi (F A6 (Z dead) c6) w8:=⟨kH,EE,C.aX.dd.to hU8 (λ_ h=>h.1) (λb Q h=>h.2 Q) (λb Q h=>aI λhz=>h (hZ8 b hz)),HP.aX.1,λa ha=>HP.aX.2 a (C.aX.ab a ha),λb Q=>hZ8 b (C.aX.z0 b Q),hU8.k C.aX.k λb Q=>Nat.le_of_not_lt λh=>Q.1 (C.aX.z0 b h)⟩;have Df:Hid (Rf (j+1) (k+588) z T dead):=Vo;clear Vo HP CP kH hU8 hZ8 C HB HW HE Ht A q;obtain⟨A4,c4,rfl⟩:=EE.dl.slice;obtain⟨A5,c5,rfl⟩:=EE.is.slice;have C5:=Du.ov.state 0;rw[aA2 Du.ov.1.iE]at C5;replace C5:=aY C5;have hJ:=λx (A:x∈(r0 O8).bq) hk=>Du.jo.just Du.ov.1.iE A hk
  have hST:=λc i h=>Du.jo.status (i:=i) Du.ov.1 c h
  have hDE:=λa ha=>Du.ov.1.dead (a:=a) ha
  obtain⟨dk,Wq⟩:=Du.ov.1.r0g;have HT8:=aY Du;have hs1:=Wq.inv.nl;have:=Wq.len.1;have jY:=λx A=>wX (Wq.inv.Bd x A).1
  have hab:=Du.ab;clear Wq Du EE;generalize hs0:r0 O8=s at *;have HJ:=aY hJ;have HST:=aY hST;have HDE:=aY hDE;have Qr:=aY jY;have Kc:=aY hs1;have Mc:=aY hs0;clear hJ hST hDE jY hs1 hab hs0;go_wp2_with fail
  refine C5.aX.mono ?_;rintro e w9⟨sl,sp,sa,rfl,hS,k9⟩;obtain⟨⟨Al,cl,rfl⟩,⟨Aq,cq,rfl⟩,⟨Aa,ca,rfl⟩⟩:=hS.sl;have A:=bn.new w9 61 #[G E (s.life:Int),F Al (Z s.bq) cl,F Aq (Z s.bF) cq,F Aa (Z s.ab) ca];have kx:=A.cG;go_upto_region 19 with fail;generalize w9.alloc _=wA at *;obtain⟨M,hZ⟩:∃M:Nat->Prop,∀b,M b↔Z8 b\/D (L w8)<=b/\b<D (L wA):=⟨_,λ_=>Iff.rfl⟩;have hTA:=HT8.aX.more (k9.tr kx) hZ;have hSA:nC (λb=>¬M b) s (F Al (Z s.bq) cl) (F Aq (Z s.bF) cq) (F Aa (Z s.ab) ca) wA:=hS.to (bf.cz kx (λk=>k<D (L w8))) (λ_ h=>h) λb Q hn=>Nat.lt_of_not_le λh=>hn ((hZ b).2 (aJ ⟨h,cZ Q kx.size⟩))
  have mh:M (D (L w9)):=(hZ _).2 (aJ ⟨k9.size,A.lt⟩);clear hZ hS HT8 k9 kx;generalize D (L w9)=gs at *;have CJ:=aY (aw9 s.bq z _ _ wA hSA.now.1 hTA.ls.dl.bD Kc.aX HJ.aX Qr.aX aZ aaQ);have HTA:=aY hTA;have HSA:=aY hSA;have q:=A.cell;clear hTA hSA HJ;go_wp2_with fail
  apply eu CJ.aX (K.rf _);intro wB Ws kB3;have HR:Hid (wW par bj gw w3 O8 (k+588) M z T dead (F A4 (Z z) c4) (F A5 (Z T) c5) (F A6 (Z dead) c6) wB/\Z dead<=Z dead+0/\bf (λb=>¬M b) wB wB):=aY ⟨HTA.aX.st Ws,bP _,bf.rf _ _⟩;have HSB:=aY (HSA.aX.k Ws);have Kw:=A.bM Ws;clear CJ HTA HSA A q kB3 Ws;go_wp2_with fail
  go_loopw [12,17,18,19,75] (fun vd n _ _ _ W=>∃(t:Nat) (dd:List bY),t<=Z z/\n=G J t/\Hid (wW par bj gw w3 O8 (k+588) M z T dd (F A4 (Z z) c4) (F A5 (Z T) c5) vd W/\Z dd<=Z dead+t/\bf (fun b=>¬M b) wB W)) (fun _ n _ _ _ _=>Z z-(aO n).toNat)
  case atStart=>exact⟨0,dead,fw _,rfl,HR⟩
  case round =>
   obtain⟨t,dd,ht,rfl,HJ⟩:=hrel;obtain⟨H,ER,hu⟩:=HJ.aX;have:Z z<=51:=aaQ;by_cases gT:t<Z z
   case neg =>
    have yM:¬(t:Int)<Z z:=aZ;have hdd:Z dd<=50*(j+1):=aaQ;obtain⟨A8,c8,rfl⟩:=H.dd.slice;have HD:=aY λa (ha:a∈dd)=>HDE.aX a (Mc.aX▸H.ab a ha)
    have zi:=aY H.dd.bD;have Kx:=aY λX (kX:K wr X)=>(HSB.aX.up (hu.tr (bf.cz kX _)) λ_ h=>h).now
    have hx1:=Kw.cF hu λh=>h mh
    have HWJ:=aY λX (kX:K wr X)=>show Kv par bj gw w3 (j+1) (F A4 (Z z) c4) (F A5 (Z T) c5) (F A8 (Z dd) c8) X from ⟨O8,k+588,M,z,T,dd,H.st kX,Df.aX.kb,Df.aX.lb,Df.aX.ib,hdd,Df.aX.eb,Df.aX.fb⟩
    clear H hu HJ HSB HST gT ht;go_wp2_with fail
    generalize wr=w1 at *;go_loopw [20] (fun n W=>∃y:Nat,y<=Z dd/\n=G J y/\K w1 W) (fun n _=>Z dd-(aO n).toNat)
    case atStart=>exact⟨0,fw _,rfl,K.rf _⟩
    case round =>
     obtain⟨y,hy,rfl,ni⟩:=hrel;by_cases JY:y<Z dd
     case neg =>
      have hyi:¬(y:Int)<Z dd:=aZ;have HWR:=aY (HWJ.aX wr ni);go_wp2;go_roundw
      case rel=>exact⟨j+1,aZ,aZ,dh,HWR⟩
      case measure=>simp[aO];omega
     have hyi:(y:Int)<Z dd:=aZ;have hdy:=HD.aX _ (dJ JY);obtain⟨Ad,cd,ed,ape,-⟩:=zi.aX;injection ed with ed1 ed2 ed3;subst ed1 ed3;clear ed2;obtain⟨b,o,VX,rfl,-,apf,d09,d9⟩:=fE ape y JY bG;obtain rfl:VX=gF dd[y]:=apf w1 (K.rf _);generalize dd[y]=x at *;have CH:=aY λX (kX:K wr X)=>Dx s x (av #[G E (s.life:Int),F Al (Z s.bq) cl,F Aq (Z s.bF) cq,F Aa (Z s.ab) ca]) X ⟨_,_,_,rfl,Kx.aX X (ni.tr kX)⟩ aZ
     rw[hdy]at CH;have q1:∀X,K wr X->∀n,n<3->X.cell? ⟨b,o+y*3+n,U⟩=(gF x)[n]?:=λX kX n hn=>d9 X (ni.tr kX) n hn
     have tK:∀X,K wr X->X.cell? ⟨b,o+y*3,U⟩=I (G J x.1):=λX kX=>d09 X (ni.tr kX)
     have q9:=λX (kX:K wr X)=>(hx1.bM (ni.tr kX)).cell
     clear apf d09 d9 ape;go_upto_region 33 with fail;have qs:=aB q1 (aB tK (aB q9 (aB hyi JY)));refine fD 5 ?_;iterate 5 refine bB.i ?_
     refine λV X kX hA=>?_
     simp only[bZ,cC,dF,bS,Nat.reduceAdd]at hA;refine bN.call 22 _ rfl Tz ?_;apply eu (CH.aX X kX) (ni.tr kX);intro X2 k2 eA;refine⟨_,rfl,?_⟩;refine bN.h ?_;clear hA qs;go_wp2;go_roundw
     case rel=>exact⟨y+1,aZ,dh,eA⟩
     case measure=>simp[aO];omega
   have yM:(t:Int)<Z z:=aZ;obtain⟨b,o,c9,VX,e9,-,-,hrel,d⟩:=H.ls.dl.at t gT bG;injection e9 with e9 iV sP;subst e9 sP;clear iV;generalize z[t]=x at *;obtain⟨ve,rfl,hve⟩:=hrel.now;obtain⟨A7,c7,rfl⟩:=bH hve;have q1:∀X,K wr X->∀n,n<7->X.cell? ⟨b,o+t*7+n,U⟩=(Kt x (F A7 (Z x.es) c7))[n]?:=λX kX n hn=>(d X (bf.cz kX _) n hn).trans aD
   have tK:∀X,K wr X->X.cell? ⟨b,o+t*7,U⟩=I (G J x.id.1):=λX kX=>d X (bf.cz kX _) 0 bG
   have hS:=aY (HST.aX x.cl x.id);have CS:=aY λX (kX:K wr X)=>(H.st kX).ov.status x.cl x.id
   have Kx:=aY λX (kX:K wr X)=>(HSB.aX.up (hu.tr (bf.cz kX _)) λ_ h=>h).now
   clear hrel d hve H hu;generalize yj O8 x.cl x.id=R at *;obtain⟨n,er⟩:=R;simp only at hS CS;go_upto_region 25 with fail;have qs:=aB q1 (aB tK (aB yM gT));refine fD 16 ?_;iterate 11 refine bB.i ?_
   refine bB.v CS.aX ?_;iterate 4 refine bB.i ?_
   refine λV X kX hA=>?_
   simp only[bZ,cC,dF,bS,Nat.reduceAdd]at hA;clear CS qs;have qs:=True.intro;refine bN.p ?_;refine bN.h ?_;clear hA qs;have p1:=q1 X kX;have Q6:=tK X kX;have HN:=aY λY (B:K wr Y)=>show wW par bj gw w3 O8 (k+588) M z T dd (F (I ⟨b,o,U⟩) (Z z) c4) (F A5 (Z T) c5) u12 Y/\Z dd<=Z dead+t/\bf (λb=>¬M b) wB Y from ⟨HJ.aX.1.st B,HJ.aX.2.1,HJ.aX.2.2.tr (bf.cz B _)⟩
   have hn4:er≠0\/er=0/\n=4\/er=0/\n=3\/er=0/\n≠4/\n≠3:=aZ;rcases hn4 with h|⟨rfl,rfl⟩|⟨rfl,rfl⟩|⟨rfl,h4,h3⟩;have:(er==0)=false:=Dz;clear h hS q1 tK Kx;exact ang
   .have hin:=hS.aX rfl |>.1 rfl
    obtain⟨Av,cv,rfl⟩:=HJ.aX.1.dd.slice;have B:=K.new X (aq #[G J x.id.1,G E (x.id.2.1:Int),G E (x.id.2.2:Int)] 42);have gG:=(HJ.aX.1.dd.st kX).st B;have hr:=fL.new (S:=dQ) (e:=42) (x:=x.id) (v:=av #[G J x.id.1,G E (x.id.2.1:Int),G E (x.id.2.2:Int)]) (w:=X) (N:=λb=>¬M b\/aW (F Av (Z dd) cv)=I b) (λ_ _=>rfl) 0 (fw _);have De:=aY (HN.aX _ (kX.tr B));clear hS q1 tK Kx;go_upto_region 27 with fail;go_wp2_with (at_builtin;refine j0 rfl _ _ 53 rfl _ 3 24 sK rfl rfl gG _ rfl x.id ?p1 ?p2 ?p3 ?_)
    case p1=>exact hr
    case p2=>omega
    case p3=>exact fw _
    intro v9 w9 cX dW gD cV;have hP:=De.aX.1.push cX dW BS (Mc.aX▸hin);have Da:=aY (show wW par bj gw w3 O8 (k+588) M z T (dd++[x.id]) (F (I ⟨b,o,U⟩) (Z z) c4) (F A5 (Z T) c5) v9 w9/\Z (dd++[x.id])<=Z dead+(t+1)/\bf (λb=>¬M b) wB w9 from ⟨hP.1,cN,De.aX.2.2.tr hP.2⟩);clear cX dW gD cV hP gG hr De HN HJ hin p1 Q6 B;go_upto_region 28 with fail;go_quiet (fail);go_wp2;go_roundw
    case rel=>exact⟨t+1,_,gT,dh,aY ⟨Da.aX.1.st (below_drewN (K.rf _) _),Da.aX.2.1,Da.aX.2.2.tr (bf.cz (below_drewN (K.rf _) _) _)⟩⟩
    case measure=>simp[aO];omega
   .have hin:dM s.bq x.id=true:=hS.aX rfl |>.2 rfl
    have CH:=aY λY (B:K wr Y)=>Dx s x.id (av #[G E (s.life:Int),F Al (Z s.bq) cl,F Aq (Z s.bF) cq,F Aa (Z s.ab) ca]) Y ⟨_,_,_,rfl,Kx.aX Y B⟩ aZ
    rw[hin]at CH;have hx1:=Kw.cF HJ.aX.2.2 λh=>h mh
    have q9:=λY (B:K X Y)=>(hx1.bM (kX.tr B)).cell
    have q2:=λY (B:K X Y)=>q1 Y (kX.tr B)
    have q20:=λY (B:K X Y)=>tK Y (kX.tr B)
    clear hS Kx hin q1 tK p1 Q6;go_upto_region 28 with fail;have qs:=aB q2 (aB q20 (aB q9 (aB yM gT)));refine fD 13 ?_;iterate 13 refine bB.i ?_
    refine λV Y B hA=>?_
    simp only[bZ,cC,dF,bS,Nat.reduceAdd]at hA;refine bN.aD6 22 _ (by simp[dI,hA]) Tz ?_;apply eu (CH.aX Y (kX.tr B)) (kX.tr B);intro X2 k2 eA;refine⟨_,rfl,?_⟩;refine bN.aD7 (ar az) (by simp[dI,cP,hA]) Zo ?_;have Da:=aY (HN.aX _ eA);have qs:=True.intro;refine bN.p ?_;refine bN.h ?_;clear hA qs HN HJ CH;go_wp2;go_roundw
    case rel=>exact⟨t+1,_,gT,dh,aY ⟨Da.aX.1,aZ,Da.aX.2.2⟩⟩
    case measure=>simp[aO];omega
   have:(n==4)=false:=IM;have:(n==3)=false:=K1;clear h4 h3 hS q1 tK Kx;exact ang
theorem auu(y t j:aQ)(w:aP)(r0:aaP w y)(H:aaP w t)(z:agH w j) :aK aR 7 #[y,t,j] w λe A=>e=ak (ar aA)/\aN (D (L w)) w A:=by obtain⟨par,N,-⟩:=r0;obtain⟨bj,B,-⟩:=H;obtain⟨M,O,C⟩:=z;exact aza par bj M y t j w N B O C
