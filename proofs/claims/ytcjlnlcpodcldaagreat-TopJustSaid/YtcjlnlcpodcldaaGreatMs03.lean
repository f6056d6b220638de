/-
  Messages in lists; what a broker's reports hold (layer 20). Conditions: none.
-/
import Derived.Test.YtcjlnlcpodcldaaGreatMs02
import Derived.Test.YtcjlnlcpodcldaaGreatMsz
set_option maxRecDepth 100000
set_option maxHeartbeats 16000000
set_option linter.all false
namespace Go.Proofs.YtcjlnlcpodcldaaGreat
open Go Go.RowKit _root_.Go.Proofs.Tryz
open List renaming length→Z
open _root_.Array renaming size→D
open Go.World renaming heap→L,alloc→aU,setCell→aV
open Go.Value renaming ownBlock→aW
open Go.Value renaming int→G,slice→F,pointer→aj,bool→ar,tuple→au,agg→av,string→aw
open Go.IntKind renaming i64→J,u64→E
open Option renaming none→U,some→I
open Go.Ending renaming returned→ak
open Go.Obj renaming cells→aq
open Go.World renaming setCell→ax,alloc→ay
open Bool renaming false→az,true→aA
open And renaming intro→aB
open List renaming lookup→aC,getElem?_eq_getElem→aE,getElem?_eq_some_iff→aF
open _root_.Array renaming getElem?_toList→aD,getElem?_eq_some_iff→aG
open Nat renaming le_succ→aH
open Or renaming inl→aI,inr→aJ
open Go renaming Calls→aK,execOp→aL,bodyPost_ret→aM,World→aP,Value→aQ
open Go.RowKit renaming Below→aN,intOf→aO
open _root_.Go.Proofs.Tryz renaming prog→aR
def Bv:fy ig where
 size:=8
 rel m cs w:=∃z t j A B y,cs=(nh m z t j A B y).toList/\bD qV m.eE z w/\bD cL m.cR t w/\bD cL m.eM j w/\bD cL m.gq A w/\bD dQ m.fc B w/\bD dQ m.fQ y w
 len:=by rintro _ _ _⟨z,t,j,A,B,y,rfl,_⟩;rfl
 one:=by rintro x _ _⟨z,t,j,A,B,y,rfl,N,H,Q,M,O,C⟩ u hu;obtain⟨_,_,rfl⟩:=bH N;obtain⟨_,_,rfl⟩:=bH H;obtain⟨_,_,rfl⟩:=bH Q;obtain⟨_,_,rfl⟩:=bH M;obtain⟨_,_,rfl⟩:=bH O;obtain⟨_,_,rfl⟩:=bH C;exact aiZ
 st:=by rintro _ _ _ _⟨z,t,j,A,B,y,rfl,N,H,Q,M,O,C⟩ k;exact⟨_,_,_,_,_,_,rfl,cM N k,cM H k,cM Q k,cM M k,cM O k,cM C k⟩
abbrev Gd:Array aQ:=#[G J 0,G E 0,F U 0 0,F U 0 0,F U 0 0,F U 0 0,F U 0 0,F U 0 0]
theorem aDS W:nU Ck (av Gd) W:=⟨_,_,_,_,_,_,rfl,iJ _ _,iJ _ _,iJ _ _,iJ _ _,iJ _ _,iJ _ _⟩
theorem Fz.look{l bC W}(h:Fz l bC W) k:nU (((l.find? λp=>decide (p.1=k)).map (·.2)).getD Ck) ((eX bC k).getD (av Gd)) W:=by
 have key:∀(l:List (Int×ig)) (bC:List (Int×aQ)) (i:Nat),Fz l bC W->nU (((l.find? λp=>decide (p.1=k)).map (·.2)).getD Ck) (((i6 k bC i).map (·.2)).getD (av Gd)) W:=by
  intro l;induction l with
  | nil => intro bC i h;have:bC=[]:=List.eq_nil_of_length_eq_zero h.1;subst this;exact aDS W
  | cons q l y =>
   intro bC i h;cases bC with
   | nil=>have:=h.1;simp at this
   | cons p bC =>
    have t:=h.2 0 bu bu;simp only[List.getElem_cons_zero]at t;have z:Fz l bC W:=⟨by have:=h.1;simpa using this,λj C B=>by
     have:=h.2 (j+1) bL bL;simpa using this⟩
    unfold i6;by_cases e:q.1=k;rw[List.find?_cons_of_pos Oc,bV (t.1.trans e)];exact t.2;rw[List.find?_cons_of_neg Oc,bQ (λA=>e (t.1.symm.trans A))];exact y bC (i+1) z
 exact key l bC 0 h
theorem anD W:(zeroValue 239).run aR W=.ok (av Gd) W:=by rfl
theorem aC3:(prog.info? 239).map (λi=>(i.zero,i.size,i.bytes))=I (I (av Gd),8,160):=by rfl
theorem TMs:gQ aR 243 239 (av Gd) 8 160:=⟨underlying243,aC3,rfl,bG⟩
section
variable {α:Type}{S:fy α}{M N X Y:Nat->Prop}{base:Nat}{e:TypeId}{l:List α}{v:aQ}{w w':aP}
def iw(M:Nat->Prop)(S:fy α)(l:List α)(v:aQ)(w:aP):Prop :=
 ∃A c j,v=F A (Z l) c/\Z l<=c/\Reads w (D (L w)) S.size A (Z l) j.flatten/\Z j=Z l/\(l≠[]->0<S.size->∀b t,A=I ⟨b,t,U⟩->¬M b)/\∀W,bf M w W->Each S l j W
theorem iw.bD(h:iw M S l v w):Go.Proofs.YtcjlnlcpodcldaaGreat.bD S l v w:=by obtain⟨A,c,z,rfl,y,t,B,-,j⟩:=h;exact⟨A,c,rfl,⟨z,j w (bf.rf _ _),t⟩,y⟩
theorem iw.slice(h:iw M S l v w):∃A c,v=F A (Z l) c:=bH h.bD
theorem iw.st(h:iw M S l v w)(k:K w w'):iw M S l v w':=by obtain⟨A,c,B,rfl,z,y,t,C,j⟩:=h;exact⟨A,c,B,rfl,z,(y.below k (bP _)).more k.size,t,C,λW u=>j W ((bf.cz k _).tr u)⟩
theorem iw.less(h:iw M S l v w)(j:∀k,N k->M k):iw N S l v w:=by obtain⟨A,c,R,rfl,Q,C,z,T,t⟩:=h;exact⟨A,c,R,rfl,Q,C,z,λO B b y P H=>T O B b y P (j b H),λW u=>t W (u.more j)⟩
theorem iw.to(h:iw M S l v w)(u:bf X w w')(R:∀k,X k->M k)(Y:∀k,k<D (L w)->N k->M k)(hs:0<S.size):iw N S l v w':=by
 obtain⟨A,c,O,rfl,hc,t,hl,V,hE⟩:=h;have hR':Reads w' (D (L w')) S.size A (Z l) O.flatten:=by
  refine⟨t.1,λH=>?_⟩;obtain⟨b,C,e,y,hcell⟩:=t.2 H;refine⟨b,C,e,cZ y u.size,λj x P=>?_⟩;have hne:l≠[]:=by intro e;have:=t.1;rw[e]at this;simp only[List.length_nil,Nat.zero_mul]at this;omega
  have z:=V hne hs b C e;rw[<- hcell j x P];exact World.cell?_of_block (u.block b y λP=>z (R b P))
 exact⟨A,c,O,rfl,hc,hR',hl,λz Q b C T h4=>by
  have H:0<Z O.flatten:=by rw[t.1];exact Nat.mul_pos (List.length_pos_iff.2 z) Q
  obtain⟨b',off',B,y,-⟩:=t.2 H;rw[T]at B;injection B with B;injection B with e1 e2;subst e1;exact V z Q b C T (Y b y h4),λW u'=>hE W ((u.more R).ir u' Y)⟩
theorem iw.fx(h:iw M S l v w)(j:0<S.size):Fx M (λW=>Go.Proofs.YtcjlnlcpodcldaaGreat.bD S l v W) w:=λ_ u=>(h.to u (λ_ h=>h) (λ_ _ h=>h) j).bD
theorem iw.nil M(S:fy α) w:iw M S [] (F U 0 0) w:=⟨U,0,[],rfl,bP _,Reads.nil _ _ _ _,rfl,λh=>absurd rfl h,λ_ _=>Each.nil _ _⟩
theorem iw.at(h:iw M S l v w) i(C:i<Z l)(V:0<S.size):∃b y c t,v=F (I ⟨b,y,U⟩) (Z l) c/\¬M b/\Z t=S.size/\Fx M (λW=>S.rel l[i] t W) w/\∀W,bf M w W->∀j,j<S.size->W.cell? ⟨b,y+i*S.size+j,U⟩=t[j]?:=by
 obtain⟨A,c,T,rfl,hc,hR,hl,X,B⟩:=h;obtain⟨t,h1,H,h3,Q⟩:=(B w (bf.rf _ _)).get i C;have N:0<Z T.flatten:=by grind
 obtain⟨b,y,rfl,O,R⟩:=hR.2 N;have z:=X bL V b y rfl;refine⟨b,y,c,t,rfl,z,H,λW u=>?_,λW u j Y=>?_⟩
 .obtain⟨cs',g1,g2,g3,g4⟩:=(B W u).get i C;grind
 have:=Q j Y;rw[aE (show j<Z t by omega)]at this|-;rw[Nat.add_assoc,<- R _ _ this];exact World.cell?_of_block (u.block b O z)
theorem bK.Dk(h:bK Y base e S l v w)(A:∀k,N k->Y k\/aW v=I k)(hb:∀k,aW v=I k->¬N k):iw N S l v w:=by
 obtain⟨B,j,t,y⟩:=h;have z:=j;rcases j.2 with ⟨rfl,O⟩|⟨g,M,cur,rfl,_,_,C,_⟩
 .grind [List.eq_nil_of_length_eq_zero,iw.nil]
 refine⟨_,_,B,rfl,C,Reads.B4 z,t,λ_ _ b H e=>?_,λW u=>y W (u.more A)⟩;injection e with e;injection e with e1 e2;subst e1;exact hb g rfl
theorem atf{b i u x}(h:w.cell? ⟨b,i,U⟩=I u):(aV w ⟨b,i,U⟩ x).cell? ⟨b,i,U⟩=I x:=by
 unfold World.cell? at h|-;revert h;cases hb:w.heap[b]? with
 | none=>simp
 | some o =>
  cases o <;> simp[ax,Array.getElem?_modify,hb]
  grind
theorem Fx.fix(h:Fx M (λW=>bD S l v W) w)(hs:0<S.size)(hS:∀x cs W,S.rel x cs W->cs[0]?≠I (ar aA)):iw M S l v w:=by
 obtain⟨A,c,rfl,⟨C,hE,N⟩,hc⟩:=h.now;have aoC:l≠[]->0<S.size->∀b H,A=I ⟨b,H,U⟩->¬M b:=by rintro y-b H rfl hM;have hp:=List.length_pos_iff.2 y;obtain⟨cs,g1,g2,g3,g4⟩:=hE.get 0 hp;have Q:0<Z C.flatten:=bL;obtain⟨b',off',e,hb,hcell⟩:=N.2 Q;injection e with e;injection e with e1 e2;subst e1 e2;have hc0:=hcell 0 _ (aE Q);obtain⟨A',c',t,⟨B,z,hR'⟩,-⟩:=h (aV w ⟨b,H+0,U⟩ (ar aA)) (bf.dx hM _ _);injection t with t _ _;subst t;have V:0<Z B.flatten:=akZ;obtain⟨b'',aJ9,Y,-,aaY⟩:=hR'.2 V;injection Y with Y;injection Y with e1 e2;subst e1 e2;have aEM:=aaY 0 _ (aE V);rw[atf hc0]at aEM;obtain⟨cs',f1,f2,f3,f4⟩:=z.get 0 hp;grind
 refine⟨A,c,C,rfl,hc,N,hE.1,aoC,λW u=>?_⟩;obtain⟨A',c',t,⟨B,z,hR'⟩,-⟩:=h W u;injection t with t _ _;subst t;by_cases y:l=[];subst y;have:=hE.1;simp at this;subst this;exact Each.nil _ _;have hp:=List.length_pos_iff.2 y;have Q:0<Z C.flatten:=by rw[N.1];exact Nat.mul_pos hp hs
 have V:0<Z B.flatten:=akZ;obtain⟨b,H,rfl,hb,hcell⟩:=N.2 Q;obtain⟨b',off',e,hb',aaY⟩:=hR'.2 V;injection e with e;injection e with e1 e2;subst e1 e2;have heq:C.flatten=B.flatten:=by
  refine List.ext_getElem (by rw[N.1,hR'.1]) λj h1 X=>?_
  have g1:=hcell j _ (aE h1);have g2:=aaY j _ (aE X);rw[World.cell?_of_block (u.block b hb (aoC y hs b H rfl)),g1]at g2;injection g2
 have:C=B:=by
  refine List.ext_getElem (by rw[hE.1,z.1]) λi h1 X=>?_
  obtain⟨cs,T,a2,a3,a4⟩:=hE.get i ak0;obtain⟨cs',O,b2,b3,b4⟩:=z.get i ak0;rw[aE h1]at T;rw[aE X]at O;injection T with T;injection O with O;rw[T,O];refine List.ext_getElem aZ λj h3 h4=>?_
  have R:=a4 j aZ;have q2:=b4 j aZ;rw[heq,q2,aE h3,aE h4]at R;injection R with R;exact R.symm
 rw[this];exact z
end
abbrev abE(x:nQ)(vf:aQ):List aQ:=[G J x.cl,G E (x.sub:Int),vf]
abbrev qO(x:nQ)(vf:aQ):Array aQ:=#[G J x.cl,G E (x.sub:Int),vf]
def jZ:fy nQ where
 size:=3
 rel x cs w:=∃vf,cs=abE x vf/\fZ x.f vf w
 len:=by rintro _ _ _⟨vf,rfl,_⟩;rfl
 one:=by rintro x _ _⟨vf,rfl,A,c,rfl,_⟩ u j;simp at j;rcases j with rfl|rfl|rfl <;> rfl
 st:=by rintro _ _ _ _⟨vf,rfl,h⟩ k;exact⟨vf,rfl,fO _ _ _ _ h k⟩
def sub(x:nQ)(v:aQ)(w:aP):Prop:=∃vf,v=av (qO x vf)/\fZ x.f vf w
theorem aC4{x v w w'}(h:sub x v w)(k:K w w'):sub x v w':=by obtain⟨vf,rfl,h⟩:=h;exact⟨vf,rfl,fO _ _ _ _ h k⟩
theorem aC5:(prog.info? 260).map (λi=>(i.zero,i.size,i.bytes))=I (I (av #[G J 0,G E 0,F U 0 0]),3,40):=by rfl
theorem Vv:gQ aR 205 260 (av #[G J 0,G E 0,F U 0 0]) 3 40:=⟨underlying205,aC5,rfl,bG⟩
theorem Nk{α:Type}(q:α->Bool)(l:List α)(j:Nat)(h:j<Z l):(l.take (j+1)).filter q=(l.take j).filter q++(if q l[j]then [l[j]]else []):=by rw[iY h,List.filter_append];by_cases t:q l[j] <;> simp[t]
theorem Iz M l v q(f:Nat) cs w(h:iw M jZ l v w)(hlen:Z l<=1000000)(hf:∀args W,(callFunc f args).run aR W=.ok (.enter f args) W)(hC:∀W,K w W->∀x∈l,∀u,sub x u W->aK aR f (#[u]++cs) W λe W'=>e=ak (ar (q x))/\K W W') :aK aR 176 #[v,.func (.func f) #[] cs] w λe Q=>∃R,e=ak R/\bK M (D (L w)) 260 jZ (l.filter q) R Q/\K w Q:=by
 have H:=aY h;have HC:=aY hC;have kk:=K.rf w;have hO:=bK.nil M (D (L w)) 260 jZ w;obtain⟨A,c,rfl⟩:=h.slice;go_in;go_wp2_with fail
 go_loopw [5,7,10] (fun o _ i W=>∃j:Nat,j<=Z l/\i=G J j/\bK M (D (L w)) 260 jZ ((l.take j).filter q) o W/\K w W) (fun _ _ i _=>Z l-(aO i).toNat)
 case atStart=>exact⟨0,aZ,rfl,iF,kk⟩
 case round =>
  obtain⟨j,hj,rfl,hO,kr⟩:=hrel;by_cases B:j<Z l
  .have cE:(j:Int)<Z l:=aZ;obtain⟨b,V,c',cs1,O,wy,hcl,T,d⟩:=H.aX.at j B bG;injection O with O _ e2;subst O e2;have HT:=aY (Nk q l j B);have hm:=dJ B;generalize l[j]=x at *;obtain⟨vf,rfl,C⟩:=T.now;have zo:Fx (λk=>M k\/D (L w)<=k) (λW=>jZ.rel x (av (qO x vf)).cells.toList W) wr:=T.to (X:=λ_=>False) (bf.cz kr _) (λ_ h=>h.elim) λk hk t=>t.resolve_right aZ
   have dd:∀i,i<3->wr.cell? ⟨b,V+j*3+i,U⟩=(qO x vf)[i]?:=λi hi=>(d wr (bf.cz kr _) i hi).trans aD
   have:wr.cell? ⟨b,V+j*3,U⟩=I (G J x.cl):=dd 0 bG;have t:=bn.new wr 260 (qO x vf);have k1:=t.cG;obtain⟨z,y,rfl⟩:=dX C;have Y:=kr.tr k1;have gG:=hO.st k1;have Ka:=zo.k k1;have C1:=aY (HC.aX _ Y x hm (av (qO x (F z (Z x.f) y))) ⟨_,rfl,fO _ _ _ _ C (kr.tr k1)⟩);go_upto_region 5 with fail;generalize wr.alloc _=w1 at *;have:=t.cell;go_wp2_with fail
   apply eu C1.aX Y;intro w2 N ni;have fq:=gG.st N;have MD:=Ka.k N;have:=(t.bM N).cell;cases hq:q x;exact ak1;have qh:Hid ((l.take (j+1)).filter q=(l.take j).filter q++[x]):=aY ZG;have dR:=fq.blk;have hr:=fL.new (S:=jZ) (e:=260) (v:=av (qO x (F z (Z x.f) y))) MD 0 (fw _);have dS:=fq.st ((K.rf w2).al (aq (qO x (F z (Z x.f) y)) 260));have eA:=ni.tr ((K.rf w2).al (aq (qO x (F z (Z x.f) y)) 260));have C:=oo q (l.take j);have:Z (l.take j)<=1000000:=cN;go_wp2_with (at_builtin;refine j0 rfl _ _ 205 rfl _ 3 40 Vv rfl rfl dS _ rfl x ?p1 ?p2 ?p3 ?_)
   case p1=>exact hr.less λk hk=>ak2
   case p2=>omega
   case p3=>exact eA.size
   exact ak3
  exact Ou
theorem afA M l v q(f:Nat) cs w(h:iw M eB l v w)(hlen:Z l<=1000000)(hf:∀args W,(callFunc f args).run aR W=.ok (.enter f args) W)(hC:∀W,K w W->∀x∈l,∀u,iI x u W->aK aR f (#[u]++cs) W λe W'=>e=ak (ar (q x))/\K W W') :aK aR 179 #[v,.func (.func f) #[] cs] w λe C=>∃N,e=ak N/\bK M (D (L w)) 35 eB (l.filter q) N C/\K w C:=by
 have H:=aY h;have HC:=aY hC;have kk:=K.rf w;have hO:=bK.nil M (D (L w)) 35 eB w;obtain⟨A,c,rfl⟩:=h.slice;go_in;go_wp2_with fail
 go_loopw [5,7,10] (fun o _ i W=>∃j:Nat,j<=Z l/\i=G J j/\bK M (D (L w)) 35 eB ((l.take j).filter q) o W/\K w W) (fun _ _ i _=>Z l-(aO i).toNat)
 case atStart=>exact⟨0,aZ,rfl,iF,kk⟩
 case round =>
  obtain⟨j,hj,rfl,hO,kr⟩:=hrel;by_cases t:j<Z l
  .have cE:(j:Int)<Z l:=aZ;obtain⟨b,off,c',cs1,z,wy,hcl,O,d⟩:=H.aX.at j t bG;injection z with z _ e2;subst z e2;have HT:=aY (Nk q l j t);have hm:=dJ t;generalize l[j]=x at *;obtain⟨R,rfl,T⟩:=O.now;have Y:Fx (λk=>M k\/D (L w)<=k) (λW=>eB.rel x [R] W) wr:=O.to (X:=λ_=>False) (bf.cz kr _) (λ_ h=>h.elim) λk hk hx=>hx.resolve_right aZ
   have:wr.cell? ⟨b,off+j,U⟩=I R:=by simpa [eB]using d wr (bf.cz kr _) 0 (by decide)
   obtain⟨y,B,rfl⟩:=tN T;have C1:=aY (HC.aX _ kr x hm _ (mq _ _ _ _ T kr));go_wp2_with fail
   apply eu C1.aX kr;intro V Q ni;have fq:=hO.st Q;have MD:=Y.k Q;cases hq:q x;exact ak1;have qh:Hid ((l.take (j+1)).filter q=(l.take j).filter q++[x]):=aY ZG;have dR:=fq.blk;have hr:=fL.new (S:=eB) (e:=35) (v:=F y (Z x) B) MD 0 (fw _);have dS:=fq.st ((K.rf V).al (aq #[F y (Z x) B] 35));have eA:=ni.tr ((K.rf V).al (aq #[F y (Z x) B] 35));have:=oo q (l.take j);have:Z (l.take j)<=1000000:=cN;go_wp2_with (at_builtin;refine j0 rfl _ _ 43 rfl _ 1 24 FT rfl rfl dS _ rfl x ?p1 ?p2 ?p3 ?_)
   case p1=>exact hr.less λk hk=>ak2
   case p2=>omega
   case p3=>exact eA.size
   exact ak3
  exact Ou
theorem afB f v w(h:fZ f v w)(O:Z f<=1000000) :aK aR 255 #[v] w λe j=>∃t,e=ak t/\lV j (D (L w)) t f/\K w j:=by
 obtain⟨A,c,rfl,M⟩:=h;go_in;go_wp2_with (at_builtin;refine nZ rfl _ _ 37 rfl (D (L w)) 85 _ 5 56 TF _ 0 [] rfl (oV _ _ _ _) _ A (Z f) c (f.flatMap je) rfl M (agI f) ?p1 (bP _) ?_)
 case p1=>omega
 intro z B y _ _ H;have C:=aY (show lV B (D (L w)) z f from y);obtain⟨N,c1,rfl,-⟩:=(show lV B (D (L w)) z f from y).slice;go_wp2;go_ret;exact⟨_,rfl,C.aX,H⟩
structure Lw(base lo:Nat)(l:List nQ)(v:aQ)(bw:List (List aQ))(j:Nat)(W:aP):Prop where
 row:W.ownsRow base 260 3 v (Z l) bw.flatten
 len:Z bw=Z l
 a:∀i (h:i<Z l) (h':i<Z bw),i<j->∀W',bf (λk=>k<lo\/aW v=I k) W W'->jZ.rel l[i] bw[i] W'
 b:∀i (h:i<Z l) (h':i<Z bw),j<=i->∀W',bf (λk=>aW v=I k) W W'->jZ.rel l[i] bw[i] W'
theorem Lw.st{base lo l v B j W W'}(h:Lw base lo l v B j W)(k:K W W'):Lw base lo l v B j W' :=
 ⟨sU h.row k,h.len,λi y t z A u=>h.a i y t z A ((bf.cz k _).tr u),λi y t z A u=>h.b i y t z A ((bf.cz k _).tr u)⟩
theorem agb Y base l v w(h:bK Y base 260 jZ l v w)(hlen:Z l<=1000000)(hs:∀x∈l,Z x.f<=1000000) :aK aR 184 #[v] w λe w'=>e=ak v/\bK (λk=>k<D (L w)) base 260 jZ l v w'/\bf (λk=>aW v=I k) w w':=by
 have hblk:=h.blk;obtain⟨bw,V,h2,h3⟩:=h;have T:Lw base (D (L w)) l v bw 0 w:=⟨V,h2,λi h C M=>absurd M aZ,λi h C _ t u=>(h3 t (u.more λk N=>aJ N)).2 i h C⟩;have HS:=aY hs;have uu:bf (λk=>aW v=I k) w w:=bf.rf _ _;obtain⟨A,c,hv⟩:∃A c,v=F A (Z l) c:=by
  rcases V.2 with ⟨rfl,h0⟩|⟨g,cap,cur,rfl,_⟩
  .grind
  simp
 subst hv;go_in;go_wp2_with fail
 go_loopw [3,6] (fun _ i W=>∃j:Nat,j<=Z l/\i=G J j/\(∃bw,Lw base (D (L w)) l (F A (Z l) c) bw j W)/\bf (fun k=>aW (F A (Z l) c)=I k) w W) (fun _ i _=>Z l-(aO i).toNat)
 case atStart=>exact⟨0,aZ,rfl,⟨_,T⟩,uu⟩
 case round =>
  obtain⟨j,hj,rfl,⟨B,y⟩,u⟩:=hrel;by_cases hlt:j<Z l
  .have cE:(j:Int)<Z l:=aZ;have hcl:=y.len;have hrel:=y.b j hlt aZ (bP _) wr (bf.rf _ _);have hxl:=HS.aX _ (dJ hlt);obtain⟨vf,ecs,dU⟩:=hrel;obtain⟨g,hA⟩:∃g,A=I ⟨g,0,U⟩:=by rcases y.row.2 with ⟨_,h0⟩|⟨g,cap,cur,e,_⟩;omega;grind
   subst hA;have:=(hblk g rfl).2;have hz:=u.size;obtain⟨q,z⟩:=Dw y.row;have yy:∀c∈B,Z c=3:=by intro c hc;obtain⟨i,M,rfl⟩:=List.mem_iff_getElem.1 hc;by_cases hij:i<j;exact jZ.len (y.a i aZ M hij wr (bf.rf _ _));exact jZ.len (y.b i aZ M aZ wr (bf.rf _ _))
   have O6:=y.row.1;have hcj:B[j]=abE l[j] vf:=ecs;have q2:wr.cell? ⟨g,j*3+2,U⟩=I vf:=by rw[q _ aZ,zE 3 B yy j 2 aZ bG,aE (show j<Z B by omega),hcj];rfl
   have T:=aY y;have HCJ:=aY hcj;have HL:=aY yy;have PK:=aY O6;have:Hid (∀t,fZ l[j].f vf t->jZ.rel l[j] (abE l[j] vf) t):=aY λt h=>⟨vf,rfl,h⟩
   have Hn:=dU;obtain⟨Af,cf,rfl⟩:=dX Hn;have C1:=aY (afB l[j].f _ wr dU hxl);go_wp2_with fail
   apply dP C1.aX;rintro v2 O⟨fq,k2⟩;have Q:=T.aX.st k2;have:=(Dw Q.row).2;have:O.cell? ⟨g,j*3+2,U⟩=I (F Af (Z l[j].f) cf):=by rw[k2.cell (by simp;omega)];exact q2
   have Bk:=aY fq.rel;obtain⟨S,c2,rfl,-⟩:=fq.slice;go_upto_region 5 with fail;have hrow:=SB Q.row (q:=j*3+2) (by rw[PK.aX];omega) (F S (Z l[j].f) c2);rw[Nh 3 _ B HL.aX j 2 aZ bG]at hrow;have R:bf (λk=>aW (F (I ⟨g,0,U⟩) (Z l) c)=I k) O (aV O ⟨g,j*3+2,U⟩ (F S (Z l[j].f) c2)):=bf.dx (X:=λk=>aW (F (I ⟨g,0,U⟩) (Z l) c)=I k) rfl _ _;have u9:=(u.tr (bf.cz k2 _)).tr R;have hJ9:Lw base (D (L w)) l (F (I ⟨g,0,U⟩) (Z l) c) (B.set j ((B[j]).set 2 (F S (Z l[j].f) c2))) (j+1) (aV O ⟨g,j*3+2,U⟩ (F S (Z l[j].f) c2)):=by
    refine⟨hrow,by simp[hcl],λi h C M t H=>?_,λi h C M t H=>?_⟩;by_cases e:i=j;subst e;rw[List.getElem_set_self,HCJ.aX];refine⟨_,rfl,Bk.aX t ?_⟩;have u4:=(R.more λk N=>aJ N).tr H;exact u4.vu λk V _ _ h4=>by grind
    rw[List.getElem_set_ne aZ];exact Q.a i h aZ aZ t ((R.more λk N=>aJ N).tr H);rw[List.getElem_set_ne aZ];exact Q.b i h aZ aZ t (R.tr H)
   generalize O.setCell _ _=w3 at *;go_wp2;go_roundw
   case rel=>exact⟨j+1,aZ,dh,⟨_,hJ9⟩,u9⟩
   case measure=>simp[aO];omega
  have cE:¬(j:Int)<Z l:=aZ;obtain rfl:j=Z l:=aZ;have HF:Hid (bK (λk=>k<D (L w)) base 260 jZ l (F A (Z l) c) wr):=aY ⟨B,y.row,y.len,λt H=>⟨y.len,λi h C=>y.a i h C h t H⟩⟩;go_wp2;go_ret;exact⟨rfl,HF.aX,u⟩
theorem afc es v w(h:bD eB es v w)(T:Z es<=1000000)(H:∀e∈es,Z e<=1000000) :aK aR 178 #[v] w λe w'=>∃t,e=ak t/\cW (D (L w)) (D (L w)) 35 eB es t w'/\K w w':=by
 obtain⟨X,d,rfl,M,O⟩:=h;have C:=aY H;have z:=K.rf w;go_in;go_wp2_with fail
 go_loopw [3,5,8] (fun o _ i W=>∃j:Nat,j<=Z es/\i=G J j/\cW (D (L w)) (D (L w)) 35 eB (es.take j) o W/\K w W) (fun _ _ i _=>Z es-(aO i).toNat)
 case atStart=>exact⟨0,aZ,rfl,ZH,z⟩
 case round => obtain⟨j,hj,rfl,hO,kr⟩:=hrel;by_cases hlt:j<Z es;have A:(j:Int)<Z es:=aZ;obtain⟨y,B,S,rfl,Q,hcl,⟨N,rfl,jH⟩,hcell⟩:=Lg M j hlt bG;have V:wr.cell? ⟨y,B+j,U⟩=I N:=YM;have HT:Hid (es.take (j+1)=es.take j++[es[j]]):=aY Ot;have R:=C.aX _ (dJ hlt);exact ak4;have A:¬(j:Int)<Z es:=aZ;rw[jq aZ]at hO;have HO:=aY hO;obtain⟨Ao,Y,rfl,-⟩:=hO.slice;exact Zq
theorem awk a w:aK aR 256 #[G J a] w λe j=>e=ak (ar az)/\K w j:=ak5
theorem awl a b w:aK aR 188 #[G J a,G J b] w λe j=>e=ak (G J (kU a b))/\K w j:=by
 have C1:=aY λa W=>awk a W
 exact ak6
theorem awm a w:aK aR 257 #[G E a] w λe j=>e=ak (ar az)/\K w j:=ak5
theorem awn a b w:aK aR 189 #[G E a,G E b] w λe j=>e=ak (G J (kU a b))/\K w j:=by
 have C1:=aY λa W=>awm a W
 exact ak6
def Kb(l:List Int):Int:=(l.find? λn=>decide (n≠0)).getD 0
theorem aDT a b:Kb [a,b]=if a != 0 then a else b:=by grind [Kb]
theorem asL{α:Type}(p:α->Bool)(l:List α)(j:Nat)(y:j<Z l)(h:(l.take j).find? p=U):(l.take (j+1)).find? p=if p l[j]then I l[j]else none:=by rw[iY y,List.find?_append,h];by_cases t:p l[j] <;> simp[t]
theorem atX{α:Type}(p:α->Bool)(l:List α)(j:Nat)(x:α)(h:(l.take j).find? p=I x):l.find? p=I x:=by rw[<- List.take_append_drop j l,List.find?_append,h];rfl
theorem ayr l v w(h:bD eH l v w)(V:Z l<=1000000):aK aR 187 #[v] w λe N=>e=ak (G J (Kb l))/\K w N:=by
 obtain⟨A,c,rfl,C,-⟩:=h;have y:=K.rf w;have B:Hid (Kb l=(l.find? λn=>decide (n≠0)).getD 0):=aY rfl;generalize Kb l=R at *;go_in;go_wp2_with fail
 go_loopw [5,8] (fun _ i W=>∃j:Nat,j<=Z l/\i=G J j/\Hid ((l.take j).find? (fun n=>decide (n≠0))=U)/\K w W) (fun _ i _=>Z l-(aO i).toNat)
 case atStart=>exact⟨0,aZ,rfl,aY bu,y⟩
 case round =>
  clear y;obtain⟨j,Y,rfl,M,kr⟩:=hrel;by_cases t:j<Z l
  .have Q:(j:Int)<Z l:=aZ;obtain⟨b,X,rfl,z⟩:=Go.Proofs.YtcjlnlcpodcldaaGreat.ints_at C aZ;have T:=z wr kr j t;have H:=aY (asL (λn=>decide (n≠0)) l j t M.aX);have O:=aY (atX (λn=>decide (n≠0)) l (j+1));generalize l[j]=x at *;clear z C;by_cases hx:x=0
   .have qh:Hid ((l.take (j+1)).find? (λn=>decide (n≠0))=U):=aY (by rw[H.aX,hx];simp);subst hx;go_wp2;go_roundw
    case rel=>exact⟨j+1,aZ,dh,qh,kr⟩
    case measure=>simp[aO];omega
   have HE:Hid (R=x):=aY (by rw[B.aX,O.aX x (by rw[H.aX];simp[hx])];rfl);have S:(x != 0)=true:=Sl;exact Oj
  have Q:¬(j:Int)<Z l:=aZ;have HE:Hid (R=0):=aY (by
   have:=M.aX;rw[jq aZ]at this;rw[B.aX,this];rfl)
  exact Oj
theorem awo s x v vf ve g w(h:sub s v w)(hg:bn w g 128 (cB x vf ve)) :aK aR 186 #[v,aj (I ⟨g,0,U⟩)] w λe S=>e=ak (G J (lS s x))/\K w S:=by
 have HR:Hid (lS s x=Kb [kU s.cl x.cl,kU (s.sub:Int) (x.sub:Int)]):=aY (by rw[aDT];rfl);obtain⟨vs,rfl,hf⟩:=h;obtain⟨A,c,rfl⟩:=dX hf;have B:=bn.new w 260 (qO s (F A (Z s.f) c));have k1:=B.cG;have X:=hg.cells;generalize lS s x=R at *;go_in;go_upto_region 1 with fail;generalize w.alloc _=Q at *;generalize D (L w)=ga at B|-;have M:=B.cells;have H:=λW (k:K Q W)=>X W (k1.tr k)
 have C1:=aY λW=>awl s.cl x.cl W
 have T:=aY λW=>awn (s.sub:Int) (x.sub:Int) W
 have C3:=aY λv W (h:bD eH [kU s.cl x.cl,kU (s.sub:Int) (x.sub:Int)] v W)=>ayr _ v W h bu
 generalize kU s.cl x.cl=z at *;generalize kU (s.sub:Int) (x.sub:Int)=y at *;generalize Kb [z,y]=o3 at *;have qs:=aB M H;refine Ro 13 [([],[]),([0],[(4,0)]),([],[]),([2],[(6,2)]),([1,3],[(5,1),(7,3)]),([],[]),([5],[(9,5)]),([],[]),([7],[(11,7)]),([6,8],[(10,6),(12,8)]),([4,9],[(8,4),(13,9)]),([10],[(14,10)]),([11],[(15,11)])] 16 ?_;iterate 4 refine bB.i ?_
 refine bB.is (G J z) (λV W t j=>?_) ?_
 ·(try simp only[dN,bZ,cC,dK,dL,bS]at j)
  simp[dI,bR,aC,j,fk,aL,bT,bS,M,H,go_sem];apply bW (C1.aX W);intro N O;grind
 iterate 4 refine bB.i ?_
 refine bB.is (G J y) (λV W t j=>?_) ?_
 ·(try simp only[dN,bZ,cC,dK,dL,bS]at j)
  simp[dI,bR,aC,j,fk,aL,bT,bS,M,H,go_sem];apply bW (T.aX W);intro N O;grind
 refine bB.op (λv W=>bD eH [z,y] v W) (λ_ _ _ h k=>cM h k) (λV W t j=>?_) ?_
 .simp only[dN,bZ,cC,dK,dL,bS]at j;simp[dI,bR,aC,j,fk,aL,bT,go_sem];exact⟨⟨_,_,rfl,⟨[z,y].map D4,IC _ _,(Reads.new W [G J z,G J y] 3 1 2 rfl).more bu⟩,bu⟩,(K.rf W).al _⟩
 refine bB.is (G J o3) (λV W t j=>?_) ?_
 .simp only[dN,bZ,cC,dK,dL,bS]at j;obtain⟨C,-⟩:=j;obtain⟨A9,c9,e9⟩:=bH C;simp[dI,bR,aC,C,fk,aL,bT,bS,go_sem];apply bW (C3.aX _ W C);intro N O;grind
 refine bB.i ?_;intro V W t hA;simp only[bZ,cC,dF,bS,Nat.reduceAdd]at hA;refine bN.h ?_;have Y:=k1.tr t;go_wp2;go_ret;exact⟨jB,Y⟩
section
variable {α:Type}{S:fy α}{Y:Nat->Prop}{base:Nat}{e:TypeId}{l l2:List α}{v:aQ}{w w':aP}{P:Program}
theorem aAB t ty z size bytes(T:gQ P t e z size bytes)(hsz:S.size=size)(hO:bK Y base e S l v w) u(hu:iw (λk=>Y k\/aW v=I k) S l2 u w)(hbytes:(Z l+Z l2)*(bytes+1)<=140737488355328)(V:base<=D (L w)) :∃y j,(Builtin.append_ #[t,t] ty #[v,u]).run P w=.ok y j/\bK Y base e S (l++l2) y j/\w.grownBy j (aW v)/\(aW y=aW v\/aW y=I (D (L w)))/\aN base w j:=by
 subst hsz;obtain⟨A,c,C,rfl,hc,hR,gK,hn,M⟩:=hu;obtain⟨H,Q,hcl,hE⟩:=hO;obtain⟨y,j,hrun,h2,N,W,h5⟩:=GC w base t ty e z S.size bytes T v (Z l) H.flatten Q (D (L w)) A (Z l2) c C.flatten hR (M w (bf.rf _ _)).ones hbytes V;refine⟨y,j,hrun,⟨H++C,bL,bL,λO u=>?_⟩,N,W,h5⟩;have B:=(bf.gy (X:=λk=>Y k\/aW v=I k) N (λg R=>aJ R)).ir u λk hk h=>by grind
 exact (hE O B).append (M O B)
theorem W6{ops rest o a Q}(j:o.guard=U) s x t(ho:o.op=.call { callee:=.builtin .append,args:=#[s,x],argTypes:=#[t,t] }) z size bytes(T:gQ P t e z size bytes)(H:S.size=size)(hs:a.eval s=v)(C:bK Y base e S l v w) u(hx:a.eval x=u)(B:iw (λk=>Y k\/aW v=I k) S l2 u w)(A:(Z l+Z l2)*(bytes+1)<=140737488355328)(y:base<=D (L w))(h:∀v' w',bK Y base e S (l++l2) v' w'->w.grownBy w' (aW v)->(aW v'=aW v\/aW v'=I (D (L w)))->aN base w w'->wpList P ops Q rest (a.put o.dst v') w') :wpList P ops Q (o :: rest) a w:=by
 refine wpList_plain j λK hK=>?_
 obtain⟨v',w',hrun,h1,h2,h3,h4⟩:=aAB (P:=P) t o.type z size bytes T H C u B A y;exact ajd
end
theorem ays P(w:aP) T u v(t:v.oneCell'=aA):(store ⟨D (L w),0,U⟩ v).run P (aU w (aq #[u] T))=.ok () (aU w (aq #[v] T)):=by have j:=bn.new w T #[u];rw[run_store _ _ _ _ _ t];rw[j.cell 0,j.frozen,World.setCell_alloc_new];rfl
theorem ayt s v w(h:sub s v w) :aK aR 185 #[v] w λe j=>e=ak (ar aA)/\K w j:=by obtain⟨vs,rfl,t⟩:=h;obtain⟨A,c,rfl⟩:=dX t;have k1:=K.new w (aq (qO s (F A (Z s.f) c)) 260);go_in;go_wp2;go_ret;exact⟨rfl,k1⟩
theorem agZ s x v vf ve g gf w(h:sub s v w)(hg:bn w g 128 (cB x vf ve))(J1:bn w gf 268 #[.func (.func 186) #[] #[aj (I ⟨g,0,U⟩)]]) :aK aR 190 #[v,aj (I ⟨gf,0,U⟩)] w λe j=>e=ak (ar (decide (lS s x<0)))/\K w j:=ak7
theorem ag0 s x v vf ve g gf w(h:sub s v w)(hg:bn w g 128 (cB x vf ve))(J1:bn w gf 268 #[.func (.func 186) #[] #[aj (I ⟨g,0,U⟩)]]) :aK aR 191 #[v,aj (I ⟨gf,0,U⟩)] w λe j=>e=ak (ar (decide (0<lS s x)))/\K w j:=ak7
theorem Li{α S}{l:List α}{v w}(h:bD S l v w):iw (λk=>D (L w)<=k) S l v w:=by
 obtain⟨A,c,rfl,⟨y,j,t⟩,M⟩:=h;refine⟨A,c,y,rfl,M,t,j.1,λC B b O e T=>?_,λW u=>j.st ⟨u.os,u.tape,u.output,u.size,λk z=>u.block k z aZ⟩⟩;have H:0<Z y.flatten:=by rw[j.D2];exact Nat.mul_pos (List.length_pos_iff.2 C) B
 obtain⟨R,Q,V,N,-⟩:=t.2 H;grind
theorem KU{l:List nQ}{q}(j:∀s∈l,Z s.f<=1000000):∀s∈l.filter q,Z s.f<=1000000:=λs h=>j s (List.mem_filter.1 h).1
theorem afC l x v vx w(h:bD jZ l v w)(hx:fM x vx w)(hlen:Z l<=400000)(j:∀s∈l,Z s.f<=1000000)(hxs:Z x.f<=1000000) :aK aR 120 #[v,vx] w λe w'=>∃v',e=ak v'/\bK (λk=>k<D (L w)) (D (L w)) 260 jZ (xg l x) v' w'/\K w w':=by
 have HR:Hid (xg l x=if x.bA=2 then l.filter (λs=>decide (lS s x<0))++[⟨x.cl,x.sub,x.f⟩]++l.filter (λs=>decide (0<lS s x))
  else if x.bA=3 then l.filter (λs=>decide (lS s x<0))++l.filter (λs=>decide (0<lS s x))else l):=aY rfl
 have X:=aY (Li h);have HS:=aY j;obtain⟨vf,ve,rfl,hf,he⟩:=hx;have HF:=aY λW (k:K w W)=>fO _ _ _ _ hf k
 obtain⟨Af,cf,rfl⟩:=dX hf;obtain⟨Ae,ce,rfl⟩:=bH he;obtain⟨A,c,rfl⟩:=bH h;have hb:=bn.new w 128 (cB x (F Af (Z x.f) cf) (F Ae (Z x.es) ce));have k1:=hb.cG;generalize xg l x=R at *;go_in;go_upto_region 1 with fail;generalize w.alloc _=O at *;have hz1:=k1.size;generalize pz:D (L w)=lo at hb X hz1|-;have pA:=aY pz;have Cr:=hz1;have:=hb.cell;by_cases hk:x.bA=2\/x.bA=3;rotate_left
 .have iu:Hid (R=l):=aY (by rw[HR.aX,bQ λh=>hk (aI h),bQ λh=>hk (aJ h)]);have hk2:(x.bA != 2)=true:=bL;have lY:(x.bA != 3)=true:=bL;have C1:=aY (Iz (λk=>lo<=k) l _ (λ_=>aA) 185 #[] O (X.aX.st k1) aZ (λ_ _=>dH) λW _ s _ u H=>ayt s u W H);go_wp2_with fail
  apply tY C1.aX k1;intro v2 w2 fq k2 C;rw[show l.filter (λ_=>aA)=l by simp]at fq;have Y:=aY (agb _ _ l v2 w2 fq aZ HS.aX);have dR:=fq.blk;obtain⟨A2,c2,rfl⟩:=fq.slice;go_wp2_with fail
  apply bW Y.aX;rintro T⟨dS,u3⟩;have kF:=u3.k C λk hk=>by have:=(dR k hk).1;have:=pA.aX;omega
  have HO:Hid (bK (λk=>k<lo) lo 260 jZ R (F A2 (Z l) c2) T):=aY aBK;exact ZI
 have M:=bn.new O 268 #[.func (.func 186) #[] #[aj (I ⟨lo,0,U⟩)]];have cG:=M.cG;have:=ays aR O 268 .nilFunc (.func (.func 186) #[] #[aj (I ⟨lo,0,U⟩)]) rfl;have hb2:=hb.bM cG;have C:=k1.tr cG;have:=cG.size;rcases hk with hk|hk
 .have hk2:(x.bA != 2)=false:=IZ;have lY:(x.bA==2)=true:=IZ;go_upto_region 4 with fail;generalize O.alloc _=w2 at *;generalize J1:D (L O)=B at M|-;have C1:=aY (Iz (λk=>lo<=k) l _ (λs=>decide (lS s x<0)) 190 #[aj (I ⟨B,0,U⟩)] w2 (X.aX.st C) aZ (λ_ _=>dH) λW k s _ u H=>agZ s x u _ _ lo B W H (hb2.bM k) (M.bM k));go_wp2_with fail
  apply dP C1.aX;rintro v3 T⟨dS,y⟩;have dB:=hb2.bM y;have aoD:=M.bM y;have po:=C.tr y;have mg:=y.size;obtain⟨A3,c3,rfl⟩:=dS.slice;have dU:=oo (λs=>decide (lS s x<0)) l;have q3:=dB.cell;have kA:=K.new T (aq (qO ⟨x.cl,x.sub,x.f⟩ (F Af (Z x.f) cf)) 260);have fC:=dS.st kA;have dR:=dS.blk;have hr:=fL.new (S:=jZ) (e:=260) (x:=⟨x.cl,x.sub,x.f⟩) (v:=av (qO ⟨x.cl,x.sub,x.f⟩ (F Af (Z x.f) cf))) (w:=T) (N:=λk=>lo<=k) (λW u=>⟨_,rfl,HF.aX W (u.k po λk hk=>ZJ)⟩) 0 (fw _);go_wp2_with (at_builtin;refine j0 rfl _ _ 205 rfl _ 3 40 Vv rfl rfl fC _ rfl ⟨x.cl,x.sub,x.f⟩ ?p1 ?p2 ?p3 ?_)
  case p1=>exact hr.less λk hk=>by rcases hk with hk|hk;exact hk;have:=dR k hk;omega
  case p2=>omega
  case p3=>exact cQ mg kA.size
  intro v5 w5 V pY aoj iU;have Qt:=(y.tr kA).trans iU;have LX:=C.tr Qt;have aoE:=hb2.bM Qt;have aoF:=M.bM Qt;have tB:=Qt.size;obtain⟨t,z⟩:∃t,Hid (t=l.filter (λs=>decide (lS s x<0))++[(⟨x.cl,x.sub,x.f⟩:nQ)]):=⟨_,aY rfl⟩;rw[<- z.aX]at V;obtain⟨A5,c5,rfl⟩:=V.slice;have Y:=aY (Iz (λk=>lo<=k) l _ (λs=>decide (0<lS s x)) 191 #[aj (I ⟨B,0,U⟩)] w5 (X.aX.st LX) aZ (λ_ _=>dH) λW k s _ u H=>ag0 s x u _ _ lo B W H (aoE.bM k) (aoF.bM k));go_upto_region 7 with fail;go_wp2_with fail
  apply dP Y.aX;rintro v6 w6⟨nW,Q⟩;have Lx:=V.st Q;have aEN:=oo (λs=>decide (0<lS s x)) l;have aoG:=V.blk;have Uj:=nW.blk;have Pk:iw (λk=>False\/aW (F A5 (Z t) c5)=I k) jZ (l.filter (λs=>decide (0<lS s x))) v6 w6:=nW.Dk (λk hk=>aI ak8) λk hk hx=>by grind
  have ke:=Lx.less (Y':=λ_=>False) λ_ h=>h.elim
  have AL:=Q.size;have Dl:Z t<=400001:=by rw[z.aX,fg];simp;omega
  obtain⟨A6,c6,rfl⟩:=Pk.slice;go_wp2_with (at_builtin;refine W6 rfl _ _ 205 rfl _ 3 40 Vv rfl rfl ke _ rfl Pk ?p1 ?p2 ?_)
  case p1=>omega
  case p2=>omega
  intro v8 w8 kH ME aEO nF;have iu:Hid (R=t++l.filter (λs=>decide (0<lS s x))):=aY (by rw[HR.aX,z.aX,bV hk]);rw[<- iu.aX]at kH;have Vw:=(Qt.tr Q).trans nF;have zl:=C.tr Vw;have hRl:Z R<=1000000:=ak9;have hRs:∀s∈R,Z s.f<=1000000:=by rw[iu.aX,z.aX];intro s j;simp only[r7,List.mem_singleton]at j;rcases j with (j|rfl)|j;exact KU HS.aX s j;exact hxs;exact KU HS.aX s j
  exact ala
 have hk2:(x.bA != 2)=true:=IZ;have lY:(x.bA==2)=false:=IZ;go_upto_region 4 with fail;generalize O.alloc _=w2 at *;generalize J1:D (L O)=B at M|-;have C1:=aY (Iz (λk=>lo<=k) l _ (λs=>decide (lS s x<0)) 190 #[aj (I ⟨B,0,U⟩)] w2 (X.aX.st C) aZ (λ_ _=>dH) λW k s _ u H=>agZ s x u _ _ lo B W H (hb2.bM k) (M.bM k));go_wp2_with fail
 apply dP C1.aX;rintro v3 T⟨dS,y⟩;have dB:=hb2.bM y;have aoD:=M.bM y;have po:=C.tr y;have mg:=y.size;obtain⟨t,z⟩:∃t,Hid (t=l.filter (λs=>decide (lS s x<0))):=⟨_,aY rfl⟩;rw[<- z.aX]at dS;obtain⟨A3,c3,rfl⟩:=dS.slice;have dU:=oo (λs=>decide (lS s x<0)) l;have q3:=dB.cell;have LX:=po;have aoG:=dS.blk;have V:=dS;generalize A3=A5 at *;generalize c3=c5 at *;have tB:=mg;have Y:=aY (Iz (λk=>lo<=k) l _ (λs=>decide (0<lS s x)) 191 #[aj (I ⟨B,0,U⟩)] T (X.aX.st LX) aZ (λ_ _=>dH) λW k s _ u H=>ag0 s x u _ _ lo B W H (dB.bM k) (aoD.bM k));go_upto_region 7 with fail;go_wp2_with fail
 apply dP Y.aX;rintro v6 w6⟨nW,Q⟩;have Lx:=V.st Q;have aEN:=oo (λs=>decide (0<lS s x)) l;have Uj:=nW.blk;have aoE:=0;have aoF:=0;have Pk:iw (λk=>False\/aW (F A5 (Z t) c5)=I k) jZ (l.filter (λs=>decide (0<lS s x))) v6 w6:=nW.Dk (λk hk=>aI ak8) λk hk hx=>by grind
 have ke:=Lx.less (Y':=λ_=>False) λ_ h=>h.elim
 have AL:=Q.size;have Dl:Z t<=400001:=by rw[z.aX];omega
 obtain⟨A6,c6,rfl⟩:=Pk.slice;go_wp2_with (at_builtin;refine W6 rfl _ _ 205 rfl _ 3 40 Vv rfl rfl ke _ rfl Pk ?p1 ?p2 ?_)
 case p1=>omega
 case p2=>omega
 intro v8 w8 kH ME aEO nF;have iu:Hid (R=t++l.filter (λs=>decide (0<lS s x))):=aY (by rw[HR.aX,z.aX,bQ (by omega),bV hk]);rw[<- iu.aX]at kH;have Vw:=(y.tr Q).trans nF;have zl:=C.tr Vw;have hRl:Z R<=1000000:=ak9;have hRs:∀s∈R,Z s.f<=1000000:=by rw[iu.aX,z.aX];intro s j;rcases List.mem_append.1 j with j|j;exact KU HS.aX s j;exact KU HS.aX s j
 exact ala
theorem atY a b w :aK aR 340 #[G J a,G J b] w λe j=>e=ak (G J (kU a b))/\w=j:=alb
theorem atZ a b w :aK aR 341 #[G J a,G J b] w λe j=>e=ak (G J (kU a b))/\w=j:=alb
theorem aBL a b:(!(Op.bytesLess a.toList b.toList||a.toList==b.toList))=oH b a:=by simp[aiB]
theorem at0 a b w :aK aR 342 #[aw a,aw b] w λe t=>e=ak (G J (Cj a b))/\w=t:=by
 cases h1:oH a b
 .have h1':Op.bytesLess a.toList b.toList=false:=h1;cases h2:oH b a
  .have j:(!(a.toList==b.toList))=false:=alc;have HE:Hid (Cj a b=0):=aY (by simp[Cj,h1,h2]);go_in;exact tP
  have j:(!(a.toList==b.toList))=true:=alc;have HE:Hid (Cj a b=1):=aY (by simp[Cj,h1,h2]);go_in;exact tP
 have h1':Op.bytesLess a.toList b.toList=true:=h1;have HE:Hid (Cj a b=-1):=aY (by simp[Cj,h1]);go_in;exact tP
theorem afD a b w :aK aR 324 #[vv a.1 a.2.1 a.2.2,vv b.1 b.2.1 b.2.2] w λe C=>e=ak (G J (iQ a b))/\aN (D (L w)) w C:=by
 obtain⟨j,na,z⟩:=a;obtain⟨kb,y,A⟩:=b;have hb2:aN (D (L w)) w ((aU w (aq #[G J j,G J na,aw z] 83)).alloc (aq #[G J kb,G J y,aw A] 83)):=((eP _ _).alloc (bP _) _).alloc bu _;have Q:=(bn.new w 83 #[G J j,G J na,aw z]).alloc (aq #[G J kb,G J y,aw A] 83);have O:=bn.new (aU w (aq #[G J j,G J na,aw z] 83)) 83 #[G J kb,G J y,aw A];have N:Hid (iQ (j,na,z) (kb,y,A)=if kU j kb != 0 then kU j kb else if kU na y != 0 then kU na y else Cj z A):=aY rfl;go_in;go_wp2;go_step3;go_wp2_with fail
 go_step3;generalize hW:((aU w (aq #[G J j,G J na,aw z] 83)).alloc (aq #[G J kb,G J y,aw A] 83))=W at *;have R:=Q.cell 0;have x1:=Q.cell 1;have Y:=Q.cell 2;have y0:=O.cell 0;have T:=O.cell 1;have y2:=O.cell 2;simp at R x1 Y y0 T y2;generalize X:kU j kb=r0 at *;generalize hr1:kU na y=H at *;generalize dC:Cj z A=M at *;have S:=aY X;have JP:=aY hr1;have V:=aY dC;go_wp2_with fail
 go_loop [5,7] (fun t i=>∃k:Nat,k<=3/\i=G J k/\t=G J 0/\Hid ((1<=k->r0=0)/\(2<=k->H=0)/\(3<=k->M=0))) (fun _ i=>3-(aO i).toNat)
 case atStart=>exact⟨0,aZ,rfl,rfl,aY ⟨aZ,aZ,aZ⟩⟩
 case round =>
  obtain⟨k,hk,rfl,rfl,hf⟩:=hrel;rcases (by omega:k=0\/k=1\/k=2\/k=3)with rfl|rfl|rfl|rfl
  .go_wp2_with fail
   apply bW (atY j kb W);rintro C rfl;rw[S.aX];by_cases h0:r0=0
   .have B:(r0 != 0)=false:=Ov;have HH:=aY h0;obtain rfl:=h0;go_wp2;go_round
    case rel=>exact⟨1,aZ,rfl,rfl,aY (by refine⟨?_,?_,?_⟩ <;> first|trivial|(intro _;rfl)|(intro _;exact hf.aX.1 (by omega))|(intro _;exact hf.aX.2.1 (by omega))|omega)⟩
    case measure=>simp[aO]
   have B:(r0 != 0)=true:=Ov;have HE:Hid (iQ (j,na,z) (kb,y,A)=r0):=by have:=N.aX;rw[bV B]at this;exact aY this
   exact S7
  .go_wp2_with fail
   apply bW (atZ na y W);rintro C rfl;rw[JP.aX];by_cases h0:H=0
   .obtain rfl:=h0;go_wp2;go_round
    case rel=>exact⟨2,aZ,rfl,rfl,aY (by refine⟨?_,?_,?_⟩ <;> first|trivial|(intro _;rfl)|(intro _;exact hf.aX.1 (by omega))|(intro _;exact hf.aX.2.1 (by omega))|omega)⟩
    case measure=>simp[aO]
   have B:(H != 0)=true:=Ov;have HE:Hid (iQ (j,na,z) (kb,y,A)=H):=by have:=N.aX;rw[bQ ZK,bV B]at this;exact aY this
   exact S7
  .have HE:Hid (iQ (j,na,z) (kb,y,A)=M):=by have:=N.aX;rw[bQ ZK,bQ ald]at this;exact aY this
   go_wp2_with fail
   apply bW (at0 z A W);rintro C rfl;rw[V.aX];by_cases h0:M=0
   .obtain rfl:=h0;go_wp2;go_round
    case rel=>exact⟨3,aZ,rfl,rfl,aY (by refine⟨?_,?_,?_⟩ <;> first|trivial|(intro _;rfl)|(intro _;exact hf.aX.1 (by omega))|(intro _;exact hf.aX.2.1 (by omega))|omega)⟩
    case measure=>simp[aO]
   have B:(M != 0)=true:=Ov;exact S7
  have HE:Hid (iQ (j,na,z) (kb,y,A)=0):=by have:=N.aX;rw[bQ ZK,bQ ald,hf.aX.2.2 aZ]at this;exact aY this
  exact S7
theorem asq a b w :aK aR 357 #[aw a,aw b] w λe y=>e=ak (ar (preB a b))/\w=y:=by
 by_cases j:b.size<=a.size
 .have t:(b.size:Int)<=a.size:=aZ;have HE:Hid (preB a b=((a.extract 0 b.size).toList==b.toList)):=aY (by simp[preB,j]);go_in;exact tP
 have t:¬(b.size:Int)<=a.size:=aZ;have HE:Hid (preB a b=az):=aY (by simp[preB,j]);go_in;exact tP
theorem asu a b w :aK aR 343 #[aw a,aw b] w λe j=>e=ak (ar (preB a b))/\w=j:=by
 go_in;go_wp2_with fail
 apply bW (asq a b w);rintro j rfl;go_wp2;go_ret;exact⟨rfl,rfl⟩
theorem WQ a b w :aK aR 332 #[vv a.1 a.2.1 a.2.2,vv b.1 b.2.1 b.2.2] w λe A=>e=ak (ar (my a b))/\aN (D (L w)) w A:=by
 obtain⟨y,na,j⟩:=a;obtain⟨kb,z,t⟩:=b;have hb2:aN (D (L w)) w ((aU w (aq #[G J y,G J na,aw j] 83)).alloc (aq #[G J kb,G J z,aw t] 83)):=((eP _ _).alloc (bP _) _).alloc bu _;cases h1:(y==2)
 .have HE:Hid (my (y,na,j) (kb,z,t)=az):=aY (by simp[my,h1]);go_in;go_wp2;exact S8
 cases h2:(kb==2)
 .have HE:Hid (my (y,na,j) (kb,z,t)=az):=aY (by simp[my,h2]);go_in;go_wp2;exact S8
 have HE:Hid (my (y,na,j) (kb,z,t)=preB j t):=aY (by simp[my,h1,h2]);go_in;go_wp2_with fail
 apply bW (asu j t _);rintro A rfl;go_wp2;exact S8
theorem awp g o w(h:w.cell? ⟨g,0,U⟩=I (G J o)) :aK aR 325 #[aj (I ⟨g,0,U⟩)] w λe j=>e=ak (ar (o==0))/\w=j:=DC
theorem awq g o w(h:w.cell? ⟨g,0,U⟩=I (G J o)) :aK aR 326 #[aj (I ⟨g,0,U⟩)] w λe j=>e=ak (ar (o != 0))/\w=j:=DC
theorem awr g o w(h:w.cell? ⟨g,0,U⟩=I (G J o)) :aK aR 327 #[aj (I ⟨g,0,U⟩)] w λe j=>e=ak (ar (decide (o<0)))/\w=j:=DC
theorem aws g o w(h:w.cell? ⟨g,0,U⟩=I (G J o)) :aK aR 328 #[aj (I ⟨g,0,U⟩)] w λe j=>e=ak (ar (decide (o<=0)))/\w=j:=DC
theorem awt g o w(h:w.cell? ⟨g,0,U⟩=I (G J o)) :aK aR 329 #[aj (I ⟨g,0,U⟩)] w λe j=>e=ak (ar (decide (0<o)))/\w=j:=DC
theorem awu g o w(h:w.cell? ⟨g,0,U⟩=I (G J o)) :aK aR 330 #[aj (I ⟨g,0,U⟩)] w λe j=>e=ak (ar (decide (0<=o)))/\w=j:=DC
theorem awv z gt v(t:fo) w(j:bn w z 83 #[G J v.1,G J v.2.1,aw v.2.2])(y:bn w gt 85 #[aw t.1,G J t.2.1,G J t.2.2.1,G J t.2.2.2.1,aw t.2.2.2.2]) :aK aR 331 #[aj (I ⟨z,0,U⟩),aj (I ⟨gt,0,U⟩)] w λe H=>e=ak (ar (my v t.2.2))/\aN (D (L w)) w H:=by
 obtain⟨s,op,k,n,x⟩:=t;obtain⟨C,vn,vt⟩:=v;have Q:=j.cell 0;have N:=j.cell 1;have M:=j.cell 2;have A:=y.cell 2;have B:=y.cell 3;have O:=y.cell 4;simp at Q N M A B O;go_in;go_wp2_with fail
 apply bW (WQ (C,vn,vt) (k,n,x) _);intro R P;go_wp2;go_ret;exact⟨rfl,P⟩
theorem ahT t v w :aK aR 299 #[ua t,vv v.1 v.2.1 v.2.2] w λe w'=>e=ak (ar (lq t v))/\aN (D (L w)) w w':=by
 obtain⟨s,op,k,n,x⟩:=t;obtain⟨j,vn,vt⟩:=v;have hq:aN (D (L w)) w ((aU w (aq #[aw s,G J op,G J k,G J n,aw x] 85)).alloc (aq #[G J j,G J vn,aw vt] 83)):=((eP _ _).alloc (bP _) _).alloc bu _;have hx:=(bn.new w 85 #[aw s,G J op,G J k,G J n,aw x]).alloc (aq #[G J j,G J vn,aw vt] 83);have hy:=bn.new (aU w (aq #[aw s,G J op,G J k,G J n,aw x] 85)) 83 #[G J j,G J vn,aw vt];rw[World.size_alloc]at hy;have hmm:=@run_makeMap aR;have A:∀W:aP,(zeroValue 22).run aR W=.ok .nilFunc W:=λW=>gP
 go_in;go_wp2_with fail
 apply bW (afD (j,vn,vt) (k,n,x) _);intro y C;generalize ho:iQ (j,vn,vt) (k,n,x)=o at *;have HT:Hid (lq (s,op,k,n,x) (j,vn,vt)=(if op==8 then aA else (j==k)&&(if op==1 then o==0 else if op==2 then o != 0 else if op==3 then decide (o<0)else if op==4 then decide (o<=0)
  else if op==5 then decide (0<o)else if op==6 then decide (0<=o)else if op==7 then my (j,vn,vt) (k,n,x)else az))):=aY (by rw[<- ho];rfl)
 have hlt:D (L w)+2<=D (L y):=by have:=C.size;simp at this;omega
 have hx1:=((hx.bM C).alloc (aq #[G J o] 3)).alloc (.map #[] 0);have FF:=((hy.bM C).alloc (aq #[G J o] 3)).alloc (.map #[] 0);have hz1:=(bn.new y 3 #[G J o]).alloc (.map #[] 0);have C:aN (D (L w)) w ((aU y (aq #[G J o] 3)).alloc (.map #[] 0)):=((hq.trans (C.mono hq.size)).alloc aZ _).alloc cN _;have uq:=Ft.new (aU y (aq #[G J o] 3));simp only[World.size_alloc]at uq;go_wp2_with (with_reducible refine zB _ rfl (.tmp 13) (.const (G J 1)) (.tmp 14) 229 rfl 3 22 underlying229 underlying3 (D (L y)+1) _ rfl uq 1 rfl _ rfl rfl ?_)
 intro w2 mG T;have hb2:=C.trans (nj T aZ C.size);have hx2:=hx1.grown T cN;have hy2:=FF.grown T cN;have hz2:=hz1.grown T bu;go_wp2_with (with_reducible refine zB _ rfl (.tmp 13) (.const (G J 2)) (.tmp 15) 229 rfl 3 22 underlying229 underlying3 (D (L y)+1) _ rfl mG 2 rfl _ rfl rfl ?_)
 intro w3 gV R;have dB:=hb2.trans (nj R aZ hb2.size);have jX:=hx2.grown R cN;have uy:=hy2.grown R cN;have mg:=hz2.grown R bu;go_wp2_with (with_reducible refine zB _ rfl (.tmp 13) (.const (G J 3)) (.tmp 16) 229 rfl 3 22 underlying229 underlying3 (D (L y)+1) _ rfl gV 3 rfl _ rfl rfl ?_)
 intro w4 jk N;have hb4:=dB.trans (nj N aZ dB.size);have eF:=jX.grown N cN;have Qh:=uy.grown N cN;have lr:=mg.grown N bu;go_wp2_with (with_reducible refine zB _ rfl (.tmp 13) (.const (G J 4)) (.tmp 17) 229 rfl 3 22 underlying229 underlying3 (D (L y)+1) _ rfl jk 4 rfl _ rfl rfl ?_)
 intro w5 iA S;have Y:=hb4.trans (nj S aZ hb4.size);have gJ:=eF.grown S cN;have hy5:=Qh.grown S cN;have tB:=lr.grown S bu;go_wp2_with (with_reducible refine zB _ rfl (.tmp 13) (.const (G J 5)) (.tmp 18) 229 rfl 3 22 underlying229 underlying3 (D (L y)+1) _ rfl iA 5 rfl _ rfl rfl ?_)
 intro w6 tF M;have ky:=Y.trans (nj M aZ Y.size);have lN:=gJ.grown M cN;have hy6:=hy5.grown M cN;have AL:=tB.grown M bu;go_wp2_with (with_reducible refine zB _ rfl (.tmp 13) (.const (G J 6)) (.tmp 19) 229 rfl 3 22 underlying229 underlying3 (D (L y)+1) _ rfl tF 6 rfl _ rfl rfl ?_)
 intro w7 JF O;have jS:=ky.trans (nj O aZ ky.size);have sG:=lN.grown O cN;have hy7:=hy6.grown O cN;have UG:=AL.grown O bu;go_wp2_with (with_reducible refine zB _ rfl (.tmp 13) (.const (G J 7)) (.tmp 20) 229 rfl 3 22 underlying229 underlying3 (D (L y)+1) _ rfl JF 7 rfl _ rfl rfl ?_)
 intro z B Q;have nF:=jS.trans (nj Q aZ jS.size);have V:=sG.grown Q cN;have Mq:=hy7.grown Q cN;have sO:=UG.grown Q bu;have z0:=sO.cell 0;have x1:=V.cell 1;have x2:=V.cell 2;have y0:=Mq.cell 0;simp at z0 x1 x2 y0;have A:=A z;by_cases h8:op=8;have X:(op==8)=true:=by simp[h8]
 have HE:Hid (lq (s,op,k,n,x) (j,vn,vt)=aA):=aY (by rw[HT.aX,X];rfl);exact Fa;by_cases MF:1<=op/\op<=7;rotate_left
 .have X:(op==8)=false:=by simp[h8]
  have H:(Instr.lookup 229 (.map (I (D (L y)+1))) (G J op) aA).run aR z=.ok (au #[.nilFunc,ar az]) z:=by
   have:=xX underlying229 underlying3 A B op;rw[this];have e:∀i:Int,1<=i->i<=7->(i==op)=false:=λi h1 h2=>cN
   simp[GR,e]
  have HE:Hid (lq (s,op,k,n,x) (j,vn,vt)=az):=aY (by
   rw[HT.aX,X];have e:∀i:Int,1<=i->i<=7->(op==i)=false:=λi h1 h2=>cN
   simp[e])
  exact Fa
 rcases (by omega:op=1\/op=2\/op=3\/op=4\/op=5\/op=6\/op=7)with rfl|rfl|rfl|rfl|rfl|rfl|rfl
 .have H:(Instr.lookup 229 (.map (I (D (L y)+1))) (G J 1) aA).run aR z=.ok (au #[Value.func (Fn.func 325) #[] #[aj (I ⟨D (L y),0,U⟩)],ar aA]) z :=
   xX underlying229 underlying3 A B 1
  cases hkk:(j==k);have HE:Hid (lq (s,1,k,n,x) (j,vn,vt)=az):=aY xe;exact Fa;have HE:Hid (lq (s,1,k,n,x) (j,vn,vt)=(o==0)):=aY xe;go_wp2_with fail
  apply bW (awp (D (L y)) o z z0);exact La
 .have H:(Instr.lookup 229 (.map (I (D (L y)+1))) (G J 2) aA).run aR z=.ok (au #[Value.func (Fn.func 326) #[] #[aj (I ⟨D (L y),0,U⟩)],ar aA]) z :=
   xX underlying229 underlying3 A B 2
  cases hkk:(j==k);have HE:Hid (lq (s,2,k,n,x) (j,vn,vt)=az):=aY xe;exact Fa;have HE:Hid (lq (s,2,k,n,x) (j,vn,vt)=(o != 0)):=aY xe;go_wp2_with fail
  apply bW (awq (D (L y)) o z z0);exact La
 .have H:(Instr.lookup 229 (.map (I (D (L y)+1))) (G J 3) aA).run aR z=.ok (au #[Value.func (Fn.func 327) #[] #[aj (I ⟨D (L y),0,U⟩)],ar aA]) z :=
   xX underlying229 underlying3 A B 3
  cases hkk:(j==k);have HE:Hid (lq (s,3,k,n,x) (j,vn,vt)=az):=aY xe;exact Fa;have HE:Hid (lq (s,3,k,n,x) (j,vn,vt)=(decide (o<0))):=aY xe;go_wp2_with fail
  apply bW (awr (D (L y)) o z z0);exact La
 .have H:(Instr.lookup 229 (.map (I (D (L y)+1))) (G J 4) aA).run aR z=.ok (au #[Value.func (Fn.func 328) #[] #[aj (I ⟨D (L y),0,U⟩)],ar aA]) z :=
   xX underlying229 underlying3 A B 4
  cases hkk:(j==k);have HE:Hid (lq (s,4,k,n,x) (j,vn,vt)=az):=aY xe;exact Fa;have HE:Hid (lq (s,4,k,n,x) (j,vn,vt)=(decide (o<=0))):=aY xe;go_wp2_with fail
  apply bW (aws (D (L y)) o z z0);exact La
 .have H:(Instr.lookup 229 (.map (I (D (L y)+1))) (G J 5) aA).run aR z=.ok (au #[Value.func (Fn.func 329) #[] #[aj (I ⟨D (L y),0,U⟩)],ar aA]) z :=
   xX underlying229 underlying3 A B 5
  cases hkk:(j==k);have HE:Hid (lq (s,5,k,n,x) (j,vn,vt)=az):=aY xe;exact Fa;have HE:Hid (lq (s,5,k,n,x) (j,vn,vt)=(decide (0<o))):=aY xe;go_wp2_with fail
  apply bW (awt (D (L y)) o z z0);exact La
 .have H:(Instr.lookup 229 (.map (I (D (L y)+1))) (G J 6) aA).run aR z=.ok (au #[Value.func (Fn.func 330) #[] #[aj (I ⟨D (L y),0,U⟩)],ar aA]) z :=
   xX underlying229 underlying3 A B 6
  cases hkk:(j==k);have HE:Hid (lq (s,6,k,n,x) (j,vn,vt)=az):=aY xe;exact Fa;have HE:Hid (lq (s,6,k,n,x) (j,vn,vt)=(decide (0<=o))):=aY xe;go_wp2_with fail
  apply bW (awu (D (L y)) o z z0);exact La
 have H:(Instr.lookup 229 (.map (I (D (L y)+1))) (G J 7) aA).run aR z=.ok (au #[Value.func (Fn.func 331) #[] #[aj (I ⟨D (L w)+1,0,U⟩),aj (I ⟨D (L w),0,U⟩)],ar aA]) z :=
  xX underlying229 underlying3 A B 7
 cases hkk:(j==k);have HE:Hid (lq (s,7,k,n,x) (j,vn,vt)=az):=aY xe;exact Fa;have HE:Hid (lq (s,7,k,n,x) (j,vn,vt)=(my (j,vn,vt) (k,n,x))):=aY xe;go_wp2_with fail
 apply bW (awv (D (L w)+1) (D (L w)) (j,vn,vt) (s,7,k,n,x) z Mq V);intro w9 cV;have Mx:=nF.trans (cV.mono nF.size);go_wp2;go_ret;exact⟨ki,Mx⟩
theorem auX x s g w(hg:w.cell? ⟨g,0,U⟩=I (aw s)) :aK aR 322 #[aEb x,aj (I ⟨g,0,U⟩)] w λe j=>e=ak (ar (ph s x))/\aN (D (L w)) w j:=by have:g<D (L w):=KP hg;obtain⟨a,k,n,t⟩:=x;go_in;go_wp2;go_ret;refine⟨?_,(eP _ _).alloc (bP _) _⟩;show ak (ar _)=ak (ar _);rw[Sr];rfl
theorem aeJ A c(l:List eD) s g w B(hR:Reads w B 4 A (Z l) (l.flatMap nu))(z:B<=D (L w))(hlen:Z l<=1000000)(hg:w.cell? ⟨g,0,U⟩=I (aw s)) r(hr:(∃k,∃hk:k<Z l,r=(k:Int)/\ph s l[k]=aA/\∀x∈l.take k,ph s x=az)\/(r=-1/\∀x∈l,ph s x=az)) :aK aR 323 #[F A (Z l) c,.func (Fn.func 322) #[] #[aj (I ⟨g,0,U⟩)]] w λe Q=>e=ak (G J r)/\aN (D (L w)) w Q:=by
 have T:g<D (L w):=KP hg;have H:=aY hr;have V:=aY hR;go_in;go_wp2_with fail
 go_loopw [8] (fun i wr=>∃k:Nat,k<=Z l/\i=G J k/\Hid (∀x∈l.take k,ph s x=az)/\aN (D (L w)) w wr) (fun i _=>Z l-(aO i).toNat)
 case atStart=>exact⟨0,aZ,rfl,aY bu,eP _ _⟩
 case round =>
  obtain⟨k,hk,rfl,hall,hb⟩:=hrel;by_cases hlt:k<Z l
  .have O:(k:Int)<Z l:=aZ;obtain⟨b,y,rfl,t,W⟩:=V.aX.Je aZ;obtain⟨N,e1,X,e3⟩:=W k hlt;have d0:=(hb.cell (p:=⟨b,y+k*4,U⟩) (cZ t z)).trans N;have d1:=(hb.cell (p:=⟨b,y+k*4+1,U⟩) (cZ t z)).trans e1;have d2:=(hb.cell (p:=⟨b,y+k*4+2,U⟩) (cZ t z)).trans X;have d3:=(hb.cell (p:=⟨b,y+k*4+3,U⟩) (cZ t z)).trans e3;have Y:=(hb.cell (p:=⟨g,0,U⟩) T).trans hg;have hz:=hb.size;have S:=aY (λh=>ahB l s k hlt h hall.aX);have HT:Hid (ph s l[k]=az->∀x∈l.take (k+1),ph s x=az):=ajD;have HK:Hid (ph s l[k]=aA->(k:Int)=r):=by
    refine aY λh=>?_
    rcases H.aX with ⟨j,hj,rfl,h1,R⟩|⟨_,h1⟩;have:=S.aX h;have:k=j:=by rcases Nat.lt_trichotomy k j with C|C|C;have:=R l[k] (List.mem_take_iff_getElem.2 ⟨k,aZ,rfl⟩);rw[h]at this;cases this;exact C;exact ale
    rw[this];grind
   generalize l[k]=x at *;go_wp2_with fail
   apply bW (auX x s g wr Y);intro w2 hb2;have M:=hb.trans (hb2.mono hz);cases hx:ph s x
   .have rN:=aY (HT.aX hx);go_wp2;go_roundw
    case rel=>exact⟨k+1,aZ,dh,rN,M⟩
    case measure=>simp[aO];omega
   have HE:=aY (HK.aX hx);go_wp2;go_ret;exact⟨by rw[<- HE.aX];rfl,M⟩
  have O:¬(k:Int)<Z l:=aZ;have HE:Hid (r=-1):=by refine aY ?_;rcases H.aX with ⟨j,hj,_,h1,_⟩|⟨h,_⟩;exact ale;exact h
  go_wp2;exact Sv
theorem aww A c l s w B(hR:Reads w B 4 A (Z l) (l.flatMap nu))(C:B<=D (L w))(hlen:Z l<=1000000) :aK aR 298 #[F A (Z l) c,aw s] w λe w'=>e=ak (Fl l s)/\aN (D (L w)) w w':=by
 have JA:aN (D (L w)) w (aU w (aq #[aw s] 9)):=(eP _ _).alloc (bP _) _;have t:aN (D (L w)) w ((aU w (aq #[aw s] 9)).alloc (aq #[G J 0,G J 0,aw { data:=#[] }] 83)):=JA.alloc bu _;have hx:=(bn.new w 9 #[aw s]).alloc (aq #[G J 0,G J 0,aw { data:=#[] }] 83);have hy:=bn.new (aU w (aq #[aw s] 9)) 83 #[G J 0,G J 0,aw { data:=#[] }];have hc0:((aU w (aq #[aw s] 9)).alloc (aq #[G J 0,G J 0,aw { data:=#[] }] 83)).cell? ⟨D (L w),0,U⟩=I (aw s):=hx.cell 0;have AO:=hR.below t C;rcases ahC s l with ⟨k,O,y,h2⟩|y
 .have S:=ahB l s k O y h2;have HE:Hid (Fl l s=au #[vv l[k].2.1 l[k].2.2.1 l[k].2.2.2,ar aA]):=aY (by simp[Fl,S]);have W:=aY (aeJ A c l s (D (L w)) _ B AO cN hlen hc0 (k:Int) (aI ⟨k,O,rfl,y,h2⟩));obtain⟨b,T,rfl,N,hcell⟩:=hR.Je aZ;obtain⟨e0,e1,e2,e3⟩:=hcell k O;have:(k:Int)<Z l:=aZ;generalize l[k]=x at *;obtain⟨xs,xk,Y,xt⟩:=x;simp only at e0 e1 e2 e3 HE;go_in;go_wp2_with fail
  apply bW W.aX;intro w3 z;have fY:=t.trans (z.mono t.size);have:=(fY.cell (p:=⟨b,T+k*4+1,U⟩) (cZ N C)).trans e1;have:=(fY.cell (p:=⟨b,T+k*4+2,U⟩) (cZ N C)).trans e2;have:=(fY.cell (p:=⟨b,T+k*4+3,U⟩) (cZ N C)).trans e3;have j:=hy.below z bu;have M:=j.frozen 0;have Q:=j.frozen 1;have V:=j.frozen 2;have H:=j.cell 0;have R:=j.cell 1;have X:=j.cell 2;simp at M Q V H R X;go_wp2;have hz:=((j.cH 0 (G J xk)).cH 1 (G J Y)).cH 2 (aw xt);have g0:=hz.cell 0;have g1:=hz.cell 1;have g2:=hz.cell 2;simp at g0 g1 g2;refine aM (v:=au #[vv xk Y xt,ar aA]) alf rfl ⟨N6,?_⟩;exact alg
 have S:=axm l s y;have HE:Hid (Fl l s=au #[vv 0 0 { data:=#[] },ar az]):=aY (by simp[Fl,S]);have W:=aY (aeJ A c l s (D (L w)) _ B AO cN hlen hc0 (-1) (aJ ⟨rfl,y⟩));go_in;go_wp2_with fail
 apply bW W.aX;intro w3 z;have fY:=t.trans (z.mono t.size);have j:=hy.below z bu;have M:=j.frozen 0;have Q:=j.frozen 1;have V:=j.frozen 2;have H:=j.cell 0;have R:=j.cell 1;have X:=j.cell 2;simp at M Q V H R X;go_wp2;have hz:=((j.cH 0 (G J 0)).cH 1 (G J 0)).cH 2 (aw { data:=#[] });have g0:=hz.cell 0;have g1:=hz.cell 1;have g2:=hz.cell 2;simp at g0 g1 g2;refine aM (v:=au #[vv 0 0 { data:=#[] },ar az]) alf rfl ⟨N6,?_⟩;exact alg
section
variable {l la lb:List eD}{b:List UInt8}{v va vb:aQ}{w:aP}
theorem ahU s(h:iI l v w)(t:Z l<=1000000):aK aR 298 #[v,aw s] w λe j=>e=ak (Fl l s)/\aN (D (L w)) w j:=by obtain⟨A,c,rfl,y⟩:=h;exact aww A c l s w _ y (bP _) t
end
theorem auY e s:(∃x:eD,e.find? (ph s)=I x/\Fl e s=au #[vv x.2.1 x.2.2.1 x.2.2.2,ar aA])\/(e.find? (ph s)=U/\Fl e s=au #[vv 0 0 { data:=#[] },ar az]):=by
 unfold Fl;cases h:e.find? (ph s)with
 | none=>exact aJ ⟨rfl,rfl⟩
 | some x=>exact aI ⟨x,rfl,rfl⟩
theorem auZ t e v w(he:iI e v w)(T:Z e<=1000000) :aK aR 254 #[ua t,v] w λr C=>r=ak (ar (sV t e))/\aN (D (L w)) w C:=by
 obtain⟨s,op,k,n,x⟩:=t;have M:aN (D (L w)) w (aU w (aq #[aw s,G J op,G J k,G J n,aw x] 85)):=(eP _ _).alloc (bP _) _;have Y:=bn.new w 85 #[aw s,G J op,G J k,G J n,aw x];have V:=mq _ _ _ _ he M;rcases auY e s with ⟨y,hf,S⟩|⟨hf,S⟩
 .have Q:Hid (∀W,iI e v W->aK aR 298 #[v,aw s] W λr C=>r=ak (au #[vv y.2.1 y.2.2.1 y.2.2.2,ar aA])/\aN (D (L W)) W C):=aY λW h=>by have:=ahU s h T;rwa [S]at this
  have HE:Hid (sV (s,op,k,n,x) e=lq (s,op,k,n,x) y.2):=aY alh;obtain⟨yn,A,j,z⟩:=y;simp only at Q HE;go_in;go_wp2_with fail
  apply bW (Q.aX _ V);intro B O;have H:=(Y.bM O).alloc (aq #[G J A,G J j,aw z] 83);have N:=M.trans (O.mono M.size);have X:aN (D (L w)) w (aU B (aq #[G J A,G J j,aw z] 83)):=N.alloc N.size _;have x0:(aU B (aq #[G J A,G J j,aw z] 83)).cell? ⟨D (L w),0,U⟩=I (aw s):=H.cell 0;have x1:(aU B (aq #[G J A,G J j,aw z] 83)).cell? ⟨D (L w),1,U⟩=I (G J op):=H.cell 1;have x2:(aU B (aq #[G J A,G J j,aw z] 83)).cell? ⟨D (L w),2,U⟩=I (G J k):=H.cell 2;have x3:(aU B (aq #[G J A,G J j,aw z] 83)).cell? ⟨D (L w),3,U⟩=I (G J n):=H.cell 3;have x4:(aU B (aq #[G J A,G J j,aw z] 83)).cell? ⟨D (L w),4,U⟩=I (aw x):=H.cell 4;go_upto_region 2 with fail;have R:=bn.new B 83 #[G J A,G J j,aw z];have n0:=R.cell 0;have n1:=R.cell 1;have n2:=R.cell 2;generalize hw2:B.alloc (aq #[G J A,G J j,aw z] 83)=w2 at *;go_wp2_with fail
  apply bW (ahT (s,op,k,n,x) (A,j,z) _);intro w3 dB;go_wp2;go_ret;exact⟨ki,X.trans (dB.mono X.size)⟩
 have Q:Hid (∀W,iI e v W->aK aR 298 #[v,aw s] W λr C=>r=ak (au #[vv 0 0 { data:=#[] },ar az])/\aN (D (L W)) W C):=aY λW h=>by have:=ahU s h T;rwa [S]at this
 have HE:Hid (sV (s,op,k,n,x) e=az):=aY alh;go_in;go_wp2_with fail
 apply bW (Q.aX _ V);intro B O;have N:=M.trans (O.mono M.size);go_wp2;go_ret;exact⟨ki,N.alloc N.size _⟩
theorem at1(l:List fo)(e:List eD)(k:Nat)(h:k<Z l)(ha:∀t∈l.take k,sV t e=aA)(hb:sV l[k] e=aA):∀t∈l.take (k+1),sV t e=true:=aiN
theorem au0 l e k(h:k<Z l)(hb:sV l[k] e=az):oQ l e=false:=by grind [sV,oQ]
theorem at2 l e(h:∀t∈l.take (Z l),sV t e=aA):oQ l e=true:=by grind [sV,oQ]
theorem aeV A c l e v w B(hR:Reads w B 5 A (Z l) (l.flatMap je))(hB:B<=D (L w))(Dl:Z l<=1000000)(he:iI e v w)(hlen:Z e<=1000000) :aK aR 183 #[F A (Z l) c,v] w λr Y=>r=ak (ar (oQ l e))/\aN (D (L w)) w Y:=by
 have HA:=aY hR;have HV:=aY he;go_in;go_wp2;go_step3;go_wp2_with fail
 go_step3;go_wp2_with fail
 go_loopw [5,10] (fun m i wr=>∃k:Nat,k<=Z l/\i=G J k/\m=ar aA/\Hid (∀t∈l.take k,sV t e=aA)/\aN (D (L w)) w wr) (fun _ i _=>Z l-(aO i).toNat)
 case atStart=>exact⟨0,aZ,rfl,rfl,aY bu,eP _ _⟩
 case round =>
  obtain⟨k,hk,rfl,rfl,R,hb⟩:=hrel;by_cases z:k<Z l
  .have W:(k:Int)<Z l:=aZ;obtain⟨b,j,rfl,gY,hcell⟩:=HA.aX.Lq aZ;obtain⟨T,e1,e2,e3,e4⟩:=hcell k z;have y:=cZ gY hB;have d0:=(hb.cell (p:=⟨b,j+k*5,U⟩) y).trans T;have d1:=(hb.cell (p:=⟨b,j+k*5+1,U⟩) y).trans e1;have V:=(hb.cell (p:=⟨b,j+k*5+2,U⟩) y).trans e2;have X:=(hb.cell (p:=⟨b,j+k*5+3,U⟩) y).trans e3;have d4:=(hb.cell (p:=⟨b,j+k*5+4,U⟩) y).trans e4;have HT:=aY (at1 l e k z R.aX);have Hg:=aY (au0 l e k z);have hz:=hb.size;generalize l[k]=x at *;obtain⟨H,O,N,C,M⟩:=x;simp only at d0 d1 V X d4;have S:aN (D (L wr)) wr (aU wr (aq #[aw H,G J O,G J N,G J C,aw M] 85)):=(eP _ _).alloc (bP _) _;have jH:=aY (mq _ _ _ _ (mq _ _ _ _ HV.aX hb) S);go_wp2_with fail
   apply bW (auZ (H,O,N,C,M) e v _ jH.aX hlen);intro w2 hb2;have Q:=(hb.trans (S.mono hz)).trans (hb2.mono cN);cases hh:sV (H,O,N,C,M) e
   .have HE:=aY (Hg.aX hh);go_wp2;try rw[jE]
    go_ret;exact⟨ki,Q⟩
   have hr:=aY (HT.aX hh);go_wp2;go_roundw
   case rel=>exact⟨k+1,aZ,dh,NY,hr,Q⟩
   case measure=>simp[aO];omega
  have W:¬(k:Int)<Z l:=aZ;have HE:=aY (at2 l e (by
   have:=R.aX;rwa [show k=Z l by omega]at this))
  go_wp2;try rw[jE]
  exact Sv
theorem au1{l e vf ve w}(j:fZ l vf w)(B:Z l<=1000000)(y:iI e ve w)(C:Z e<=1000000) :aK aR 183 #[vf,ve] w λr t=>r=ak (ar (oQ l e))/\aN (D (L w)) w t:=by obtain⟨A,c,rfl,z⟩:=j;exact aeV A c l e ve w _ z (bP _) B y C
theorem awx l v q(f:Nat) cs w(h:bD jZ l v w)(X:Z l<=1000000)(Y:∀args W,(callFunc f args).run aR W=.ok (.enter f args) W)(H:∀W,K w W->∀x∈l,∀u,sub x u W->aK aR f (#[u]++cs) W λe W'=>e=ak (ar (q x))/\K W W') :aK aR 253 #[v,.func (.func f) #[] cs] w λe M=>∃i:Int,e=ak (G J i)/\K w M/\decide (0<=i)=l.any q:=by
 have O:=K.rf w;obtain⟨A,c,rfl,h,-⟩:=h;have Q:=aY H;go_in;go_wp2_with fail
 go_loopw [5,8] (fun _ i wr=>∃k:Nat,k<=Z l/\i=G J k/\Hid ((l.take k).any q=az)/\K w wr) (fun _ i _=>Z l-(aO i).toNat)
 case atStart=>exact⟨0,aZ,rfl,aY bu,O⟩
 case round =>
  obtain⟨k,V,rfl,hall,kr⟩:=hrel;by_cases y:k<Z l;have gW:(k:Int)<Z l:=aZ;obtain⟨z,C,cs1,rfl,hcl,R,B,d⟩:=fE h k y bG;have HB:=aY (BI q l k y);have HA:=aY (BJ q l (k+1));have hm:=dJ y;generalize l[k]=t at *;obtain⟨vf,rfl,N⟩:=R wr kr;have B:∀W,K w W->W.cell? ⟨z,C+k*3,U⟩=I (G J t.cl):=B;have d:∀W,K w W->∀i,i<3->W.cell? ⟨z,C+k*3+i,U⟩=(qO t vf)[i]?:=λW j T=>λS=>(d W j T S).trans aD
  have C1:=aY (Q.aX wr kr t hm (av (qO t vf)) ⟨vf,rfl,N⟩);exact ZL;exact ZM
theorem au2 l v q(f:Nat) cs w(h:bD jZ l v w)(t:Z l<=1000000)(y:∀args W,(callFunc f args).run aR W=.ok (.enter f args) W)(z:∀W,K w W->∀x∈l,∀u,sub x u W->aK aR f (#[u]++cs) W λe W'=>e=ak (ar (q x))/\K W W') :aK aR 181 #[v,.func (.func f) #[] cs] w λe j=>e=ak (ar (l.any q))/\K w j:=by have C1:=aY (awx l v q f cs w h t y z);exact ZN
theorem ayu s c v g w(h:sub s v w)(hg:bn w g 3 #[G J c]) :aK aR 177 #[v,aj (I ⟨g,0,U⟩)] w λe j=>e=ak (ar (decide (s.cl=c)))/\K w j:=by obtain⟨vs,rfl,t⟩:=h;obtain⟨A,d,rfl⟩:=dX t;have k1:=K.new w (aq (qO s (F A (Z s.f) d)) 260);have q:=hg.cells;go_in;go_wp2;go_ret;refine⟨?_,k1⟩;show ak (ar _)=ak (ar _);rfl
theorem ayv s e v ve g w(h:sub s v w)(hg:bn w g 35 #[ve])(t:iI e ve w)(z:Z s.f<=1000000)(C:Z e<=1000000) :aK aR 182 #[v,aj (I ⟨g,0,U⟩)] w λr y=>r=ak (ar (oQ s.f e))/\K w y:=by obtain⟨vs,rfl,j⟩:=h;have:=j;obtain⟨A,d,rfl,B⟩:=j;have hb:=bn.new w 260 (qO s (F A (Z s.f) d));have k1:=hb.cG;have hg1:=hg.bM k1;have C1:=aY (aeV A d s.f e ve _ _ (B.below k1 (bP _)) k1.size z (mq _ _ _ _ t k1) C);obtain⟨H,N,rfl⟩:=tN t;generalize oQ s.f e=R at *;exact ali
theorem ayw l e v ve g w(h:bD jZ l v w)(hg:bn w g 205 #[v])(t:iI e ve w)(C:Z l<=1000000)(M:∀s∈l,Z s.f<=1000000)(V:Z e<=1000000) :aK aR 180 #[ve,aj (I ⟨g,0,U⟩)] w λr z=>r=ak (ar (anyS l e))/\K w z:=by have HR:Hid (anyS l e=l.any λs=>oQ s.f e):=aY rfl;have X:=aY t;obtain⟨S,T,rfl⟩:=tN t;have j:=bn.new w 35 #[F S (Z e) T];have k1:=j.cG;have B:=hg.bM k1;have H:=aY (cM h k1);have O:=aY M;obtain⟨A,c,rfl⟩:=bH h;generalize anyS l e=R at *;go_in;go_upto_region 1 with fail;generalize w.alloc _=y at *;generalize D (L w)=gb at j|-;have C1:=aY (au2 l _ (λs=>oQ s.f e) 182 #[aj (I ⟨gb,0,U⟩)] y H.aX C (λ_ _=>dH) λW k s Q u N=>ayv s e u _ gb W N (j.bM k) (mq _ _ _ _ X.aX (k1.tr k)) (O.aX s Q) V);have:=B.cell;exact Ow
theorem au3 l c x v Y w(h:bD jZ l v w)(hx:fM x Y w)(hlen:Z l<=1000000)(hs:∀s∈l,Z s.f<=1000000)(hxs:gu x) :aK aR 119 #[v,G J c,Y] w λe T=>∃V,e=ak V/\cW (D (L w)) (D (L w)) 35 eB (rX l c x) V T/\K w T:=by
 have HR:Hid (rX l c x=if x.bA=1 then x.es.filter (anyS (l.filter λs=>decide (s.cl=c)))else []):=aY (by unfold rX tk;simp);have HL:=aY (Li h);have HS:=aY hs;obtain⟨vf,ve,rfl,hf,j⟩:=hx;have HE:=aY (Li j);obtain⟨C,B,rfl⟩:=dX hf;obtain⟨M,O,rfl⟩:=bH j;obtain⟨A,d,rfl⟩:=bH h;have k1:=K.ou w (aq #[G J c] 3) (aq (cB x (F C (Z x.f) B) (F M (Z x.es) O)) 128);have X:=(bn.new w 3 #[G J c]).alloc (aq (cB x (F C (Z x.f) B) (F M (Z x.es) O)) 128);have t:=bn.new (aU w (aq #[G J c] 3)) 128 (cB x (F C (Z x.f) B) (F M (Z x.es) O));have hz:D (L (aU w (aq #[G J c] 3)))=D (L w)+1:=bu;rw[hz]at t;generalize rX l c x=R at *;go_in;go_upto_region 1 with fail;generalize ay (ay w _) _=w1 at *;have hz1:=k1.size;generalize pz:D (L w)=lo at X t HL HE hz1|-;have pA:=aY pz;have q:=t.cell;by_cases hk:x.bA=1;rotate_left
 .have HF:Hid (R=[]):=aY (by rw[HR.aX,bQ hk]);have hk2:(x.bA != 1)=true:=vP;go_wp2;go_ret;exact⟨_,rfl,ZO,k1⟩
 have HF:Hid (R=x.es.filter (anyS (l.filter λs=>decide (s.cl=c)))):=aY (by rw[HR.aX,bV hk]);have hk2:(x.bA != 1)=false:=IZ;have C1:=aY (Iz (λk=>lo<=k) l _ (λs=>decide (s.cl=c)) 177 #[aj (I ⟨lo,0,U⟩)] w1 (HL.aX.st k1) hlen (λ_ _=>dH) λW k s _ u H=>ayu s c u lo W H (X.bM k));go_wp2_with fail
 apply dP C1.aX;rintro v2 S⟨fq,k2⟩;have:=oo (λs=>decide (s.cl=c)) l;have Hn:=KU (q:=λs=>decide (s.cl=c)) HS.aX;generalize l.filter (λs=>decide (s.cl=c))=l2 at *;obtain⟨A2,c2,rfl⟩:=fq.slice;have jR:=t.bM k2;have dt:=k1.tr k2;have gK:=fq.bD;go_upto_region 4 with fail;have N:=bn.new S 205 #[F A2 (Z l2) c2];have Q:=N.cG;have qX:=jR.bM Q;have po:=dt.tr Q;have H3:=aY (cM gK Q);generalize S.alloc _=w3 at *;generalize D (L S)=g3 at N|-;have Mi:=HE.aX.st po;have y:=aY hxs;have C2:=aY (afA (λk=>lo<=k) x.es _ (anyS l2) 180 #[aj (I ⟨g3,0,U⟩)] w3 Mi hxs.2.1 (λ_ _=>dH) λW k e j u H=>ayw l2 e _ u g3 W (cM H3.aX k) (N.bM k) H aZ Hn (y.aX.2.2 e j));have:=qX.cell;go_wp2_with fail
 apply tY C2.aX po;intro v4 w4 fC k4 Br;have:=oo (anyS l2) x.es;have hs4:∀e∈x.es.filter (anyS l2),Z e<=1000000:=λe j=>y.aX.2.2 e (List.mem_filter.1 j).1
 have z:=fC.bD;have C3:=aY (afc _ v4 w4 z (by have:=y.aX.2.1;omega) hs4);rw[<- HF.aX]at C3 z;obtain⟨A4,c4,rfl⟩:=bH z;go_wp2_with fail
 apply tY C3.aX Br;intro v5 w5 gL k5 kF;have:=Br.size;have HO:Hid (cW lo lo 35 eB R v5 w5):=aY (cW.low (cW.floor gL ZJ) ZJ);obtain⟨A5,c5,rfl⟩:=bH gL.wF.bD;exact ZI
theorem fold_succ{α β:Type}(f:β->α->β)(l:List α)(b:β)(j:Nat)(h:j<Z l):(l.take (j+1)).foldl f b=f ((l.take j).foldl f b) l[j]:=by rw[iY h,List.foldl_append];rfl
theorem agc{α:Type}(f:α->Int):∀l:List α,Z (l.filter λs=>decide (f s<0))+Z (l.filter λs=>decide (0<f s))<=Z l
 | []=>bu
 | x :: l=>by have:=agc f l;by_cases t:f x<0;have j:¬0<f x:=aZ;simp[t,j];omega;by_cases j:0<f x;simp[t,j];omega;simp[t,j];omega
theorem awy l x:Z (xg l x)<=Z l+1:=by have:=agc (λs=>lS s x) l;unfold xg;grind
def Fq(l:List nQ):Prop:=∀s∈l,Z s.f<=1000000
theorem aAC{l x}(h:Fq l)(j:Z x.f<=1000000):Fq (xg l x):=by grind [Fq,xg]
def nt(o:List nQ)(x:bU):List nQ:=if x.bA=1 then o else xg o x
theorem ag1 l x:Z (nt l x)<=Z l+1:=by grind [nt,awy]
theorem alj{l x}(h:Fq l)(j:Z x.f<=1000000):Fq (nt l x):=by grind [nt,aAC]
theorem S9 l:nK l=l.foldl nt []:=rfl
theorem XC l:Z (nK l)<=Z l:=by
 rw[S9];have key:∀(l:List bU) (o:List nQ),Z (l.foldl nt o)<=Z o+Z l:=by
  intro l;induction l with
  | nil=>intro o;simp
  | cons x l j=>intro o;have:=j (nt o x);have:=ag1 o x;simp only[List.foldl_cons,gH];omega
 simpa using key l []
theorem alk{l}(h:∀x∈l,gu x):Fq (nK l):=by
 rw[S9];have key:∀(l:List bU) (o:List nQ),(∀x∈l,gu x)->Fq o->Fq (l.foldl nt o):=by
  intro l;induction l with
  | nil=>intro o _ j;exact j
  | cons x l z=>intro o t j;exact z _ (λy A=>t y bL) (alj j (t x bu).1)
 exact key l [] h λs B=>bL
theorem afE{M p B w}(h:df M p B w)(hG:dq B) n(hn:n<=Z B.st.bq) :aK aR 118 #[aj (I ⟨p.g,0,U⟩),G J n] w λe Q=>∃S,e=ak S/\bK (λk=>k<D (L w)) (D (L w)) 260 jZ (nK (B.st.bq.take n)) S Q/\K w Q:=by
 have T:=hG.GL;have:=hG.dk.len;have q:=h.blk.cell;have V:=h.dz.now.bq;obtain⟨g,gl,gd,gr,gt,vd,vr,vp,vh,vl,vq,va,vt,vf,vw,kr⟩:=p;simp only at q V;obtain⟨Al,cl,rfl,hl,hcl⟩:=V;have tI:=aY T.1;have Kc:=aY (S9 (B.st.bq.take n));have HSJ:=aY λ(j:Nat) (hj:j<n)=>fold_succ nt B.st.bq [] j aZ
 have Y:=aY λ(j:Nat)=>XC (B.st.bq.take j)
 have HFJ:=aY λ(j:Nat)=>alk (l:=B.st.bq.take j) λx A=>T.1 x (oW A)
 simp only[S9]at Y HFJ;generalize nK (B.st.bq.take n)=R at *;have kk:=K.rf w;have hO:=bK.nil (λk=>k<D (L w)) (D (L w)) 260 jZ w;have:(n:Int)<=cl:=aZ;go_in;go_wp2_with fail
 go_loopw [5,7,16] (fun o _ i W=>∃j:Nat,j<=n/\i=G J j/\bK (fun k=>k<D (L w)) (D (L w)) 260 jZ ((B.st.bq.take j).foldl nt []) o W/\K w W) (fun _ _ i _=>n-(aO i).toNat)
 case atStart=>exact⟨0,aZ,rfl,iF,kk⟩
 case round =>
  obtain⟨j,hj,rfl,hO,kr⟩:=hrel;by_cases hlt:j<n
  .have cE:(j:Int)<n:=aZ;have X:j<Z B.st.bq:=aZ;obtain⟨O,off,cs,rfl,mR,hrl,d0,d⟩:=fE hl j X bG;have HT:=aY (HSJ.aX j hlt);have qC:=tI.aX _ (dJ X);have:=Y.aX j;have hFj:=HFJ.aX j;have:Z (B.st.bq.take j)<=300000:=cN;generalize B.st.bq[j]=x at *;generalize (B.st.bq.take j).foldl nt []=t at *;obtain⟨vf,H,rfl,hf,he⟩:=hrl w (K.rf w);have HE:Hid (∀W,K w W->fM x (av (cB x vf H)) W):=aY λW k=>⟨_,_,rfl,fO _ _ _ _ hf k,cM he k⟩
   have q:∀i,i<8->wr.cell? ⟨O,off+j*8+i,U⟩=(cB x vf H)[i]?:=λi hi=>(d wr kr i hi).trans aD
   have:wr.cell? ⟨O,off+j*8,U⟩=I (G J x.bA):=d0 wr kr;have A:=bn.new wr 128 (cB x vf H);have k1:=A.cG;obtain⟨Af,cf,rfl⟩:=dX hf;obtain⟨Ae,ce,rfl⟩:=bH he;go_upto_region 5 with fail;generalize wr.alloc _=N at *;have C:=hO.st k1;have z:=kr.tr k1;have q:=A.cell;obtain⟨Ao,co,rfl⟩:=C.slice;by_cases hk:x.bA=1
   .have y:Hid ((B.st.bq.take (j+1)).foldl nt []=t):=aY (by rw[HT.aX];unfold nt;rw[bV hk]);have hk2:(x.bA != 1)=false:=IZ;rw[<- y.aX]at C;go_wp2;go_roundw
    case rel=>exact⟨j+1,aZ,dh,by rw[<- y.aX];exact C,z⟩
    case measure=>simp[aO];omega
   have y:Hid ((B.st.bq.take (j+1)).foldl nt []=xg t x):=aY (by rw[HT.aX];unfold nt;rw[bQ hk]);have hk2:(x.bA != 1)=true:=vP;have C1:=aY (afC t x _ _ N C.bD (HE.aX N z) aZ hFj qC.1);go_wp2_with fail
   apply tY C1.aX z;intro v2 w2 fq k2 ni;have hz1:=z.size;have dS:bK (λk=>k<D (L w)) (D (L w)) 260 jZ (xg t x) v2 w2:=(fq.less λk hk=>aZ).low hz1;rw[<- y.aX]at dS;go_wp2;go_roundw
   case rel=>exact⟨j+1,aZ,dh,dS,ni⟩
   case measure=>simp[aO];omega
  have cE:¬(j:Int)<n:=aZ;obtain rfl:j=n:=aZ;rw[<- Kc.aX]at hO;exact SY
theorem au4 x y w d:(Op.equalIn (d+1+1+1) 300 (av (jA x)) (av (jA y))).run aR w=.ok (decide (x=y)) w:=by obtain⟨⟨a,b,c⟩,e⟩:=x;obtain⟨⟨z,H,A⟩,M⟩:=y;simp[jA,go_sem,Np];by_cases C:a=z <;> by_cases t:b=H <;> by_cases B:c=A <;> by_cases j:e=M <;> simp[C,B,t,j] <;> omega
theorem at3 x y w:(binOp .eql 300 (av (jA x)) (av (jA y))).run aR w=.ok (ar (decide (x=y))) w:=by have h:(Op.equal 300 (av (jA x)) (av (jA y))).run aR w=.ok (decide (x=y)) w:=au4 x y w 9997;exact alm
theorem at4 l a v w(h:bD qV l v w)(hlen:Z l<=1000000) :aK aR 307 #[v,av (jA a)] w λe Q=>∃i:Int,e=ak (G J i)/\K w Q/\decide (0<=i)=l.any λv=>decide (v=a):=by
 obtain⟨aS,d,rfl,hl,-⟩:=h;have A:=bn.new w 300 (jA a);have k1:=A.cG;go_in;go_upto_region 1 with fail;generalize w.alloc _=B at *;generalize D (L w)=g at A|-;have qx:=A.cells;have R:=K.rf B;go_wp2_with fail
 go_loopw [5,8] (fun _ i wr=>∃j:Nat,j<=Z l/\i=G J j/\Hid ((l.take j).any (fun v=>decide (v=a))=az)/\K B wr) (fun _ i _=>Z l-(aO i).toNat)
 case atStart=>exact⟨0,aZ,rfl,aY bu,R⟩
 case round =>
  obtain⟨j,hj,rfl,HT,kr⟩:=hrel;by_cases C:j<Z l
  .have M:(j:Int)<Z l:=aZ;obtain⟨y,z,cs1,rfl,mR,hr1,X,dd⟩:=fE hl j C bG;have HB:=aY (BI (λv=>decide (v=a)) l j C);have T:=aY (BJ (λv=>decide (v=a)) l (j+1));generalize l[j]=x at *;obtain rfl:=hr1 w (K.rf w);have qr:=λW (t:K wr W)=>qx W (kr.tr t)
   have p0:∀W,K wr W->W.cell? ⟨y,z+j*4,U⟩=I (G J x.id.1):=λW t=>X W (k1.tr (kr.tr t))
   have Y:∀W,K wr W->W.cell? ⟨y,z+j*4+1,U⟩=I (G E x.id.2.1):=λW t=>dd W (k1.tr (kr.tr t)) 1 bG
   have p2:∀W,K wr W->W.cell? ⟨y,z+j*4+2,U⟩=I (G E x.id.2.2):=λW t=>dd W (k1.tr (kr.tr t)) 2 bG
   have N:∀W,K wr W->W.cell? ⟨y,z+j*4+3,U⟩=I (ar x.yes):=λW t=>dd W (k1.tr (kr.tr t)) 3 bG
   go_upto_region 4 with fail;have qs:=aB p0 (aB Y (aB p2 (aB N (aB qr M))));refine fD 5 ?_;iterate 5 refine bB.i ?_
   intro V W t hA;simp only[bZ,cC,dF,bS,Nat.reduceAdd]at hA;obtain⟨O,e1,e2,e3,e4,-⟩:=hA;have he:=at3 a x W;refine bN.pure (ar (decide (a=x))) rfl ?_ ?_
   .simp[bR,aC,O,e4,aL,bT];rw[show (eqGuard BinOp.eql 300 (Operand.tmp 11) (Operand.tmp 15) (av (jA a)) (av (jA x))).run aR W=.ok () W from by simp[eqGuard,go_sem]];simp only[Result.andThen_ok,he]
   refine bN.e ?_;have Ma:=kr.tr t;have aEP:decide (a=x)=decide (x=a):=decide_eq_decide.2 eq_comm;rw[aEP];generalize S:decide (x=a)=q at *;have:=aY S;cases q;have qh:Hid ((l.take (j+1)).any (λv=>decide (v=a))=az):=aY ajC;exact YR;have HR:=aY (T.aX (by rw[HB.aX];simp));go_wp2;go_ret;exact⟨_,rfl,k1.tr Ma,by rw[HR.aX];simp⟩
  have M:¬(j:Int)<Z l:=aZ;have HR:=aY (by
   have H:=HT.aX;rw[jq aZ]at H;exact H)
  go_wp2;go_ret;exact⟨_,rfl,k1.tr kr,jB⟩
theorem asv l a v w(h:bD qV l v w)(C:Z l<=1000000) :aK aR 280 #[v,av (jA a)] w λe z=>e=ak (ar (l.any λv=>decide (v=a)))/\K w z:=by
 have M:=bn.new w 300 (jA a);have k1:=M.cG;have A:=aY λW (y:K w W)=>at4 l a v W (cM h y) C
 obtain⟨N,d,rfl⟩:=bH h;go_in;go_wp2_with fail
 generalize w.alloc _=j at *;refine (A.aX j k1).mono ?_;rintro e O⟨i,rfl,t,H⟩;have B:=aY H;go_wp2;go_ret;exact⟨by rw[<- B.aX];rfl,k1.tr t⟩
theorem au5 m a y v g w(h:nU m v w)(hg:bn w g 42 #[G J a.1,G E a.2.1,G E a.2.2])(T:Z m.eE<=1000000) :aK aR 279 #[v,ar y,aj (I ⟨g,0,U⟩)] w λe A=>e=ak (ar (tX m a y))/\K w A:=by have HR:Hid (tX m a y=m.eE.any λv=>decide (v=⟨a,y⟩)):=aY rfl;obtain⟨v1,v2,v3,v4,v5,v6,rfl,j,B,V,H,M,W⟩:=h;have:=aY j;obtain⟨C,c1,rfl⟩:=bH j;obtain⟨Y,c2,rfl⟩:=bH B;obtain⟨X,c3,rfl⟩:=bH V;obtain⟨Q,c4,rfl⟩:=bH H;obtain⟨N,c5,rfl⟩:=bH M;obtain⟨S,c6,rfl⟩:=bH W;generalize nB:nh m (F C (Z m.eE) c1) (F Y (Z m.cR) c2) (F X (Z m.eM) c3) (F Q (Z m.gq) c4) (F N (Z m.fc) c5) (F S (Z m.fQ) c6)=z;have t:=bn.new w 239 z;have k1:=t.cG;subst nB;have O:=hg.bM k1;have C1:=aY (asv m.eE ⟨a,y⟩ _ _ (cM j k1) T);generalize tX m a y=R at *;go_in;go_upto_region 1 with fail;generalize w.alloc _=w1 at *;have q:=t.cell;have:=O.cell;exact Ow
theorem agd kids a v w(h:bD Bv kids v w)(hlen:Z kids<=1000000)(hv:∀m∈kids,Z m.eE<=1000000) :aK aR 226 #[v,dD a] w λe w'=>e=ak (G J (lB kids a))/\K w w':=by
 have HR:Hid (lB kids a=if kids.any (λk=>tX k a az)then 2 else if kids.all (λk=>tX k a aA)then 1 else 0):=aY rfl;obtain⟨A,c,rfl,hl,-⟩:=h;have HV:=aY hv;have C:=bn.new w 42 #[G J a.1,G E a.2.1,G E a.2.2];have k1:=C.cG;generalize lB kids a=R at *;go_in;go_wp2;go_step3;generalize w.alloc _=O at *;generalize D (L w)=ga at C|-;have kk:=K.rf O;go_wp2_with fail
 go_step3;go_wp2_with fail
 go_loopw [6,8,12] (fun o _ i W=>∃j:Nat,j<=Z kids/\i=G J j/\(∃z:Int,o=G J z/\Hid (z=if (kids.take j).all (fun k=>tX k a aA)then 1 else 0))/\Hid ((kids.take j).any (fun k=>tX k a az)=az)/\K O W) (fun _ _ i _=>Z kids-(aO i).toNat)
 case atStart=>exact⟨0,aZ,rfl,⟨1,rfl,aY bu⟩,aY bu,kk⟩
 case round =>
  obtain⟨j,hj,rfl,⟨z,rfl,HZ⟩,HT,kr⟩:=hrel;by_cases t:j<Z kids
  .have cE:(j:Int)<Z kids:=aZ;obtain⟨Q,o1,cs1,rfl,mR,hr1,d0,dd⟩:=fE hl j t bG;have HB:=aY (BI (λk=>tX k a az) kids j t);have HA:=aY (BJ (λk=>tX k a az) kids (j+1));have HL:=aY (Ky (λk=>tX k a aA) kids j t);have hmv:=HV.aX _ (dJ t);generalize kids[j]=m at *;have rS:=k1.tr kr;obtain⟨v1,v2,T,v4,Y,X,rfl,g1,g2,g3,g4,g5,N⟩:=hr1 w (K.rf w);have HM:Hid (∀W,K w W->nU m (av (nh m v1 v2 T v4 Y X)) W):=aY λW k=>⟨_,_,_,_,_,_,rfl,cM g1 k,cM g2 k,cM g3 k,cM g4 k,cM g5 k,cM N k⟩
   have:∀i,i<8->wr.cell? ⟨Q,o1+j*8+i,U⟩=(nh m v1 v2 T v4 Y X)[i]?:=λi hi=>(dd wr rS i hi).trans aD
   have:wr.cell? ⟨Q,o1+j*8,U⟩=I (G J m.bA):=d0 wr rS;obtain⟨A1,c1,rfl⟩:=bH g1;obtain⟨A2,c2,rfl⟩:=bH g2;obtain⟨A3,c3,rfl⟩:=bH g3;obtain⟨A4,c4,rfl⟩:=bH g4;obtain⟨A5,c5,rfl⟩:=bH g5;obtain⟨A6,c6,rfl⟩:=bH N;have M:=bn.new wr 239 (nh m (F A1 (Z m.eE) c1) (F A2 (Z m.cR) c2) (F A3 (Z m.eM) c3) (F A4 (Z m.gq) c4) (F A5 (Z m.fc) c5) (F A6 (Z m.fQ) c6));have k3:=M.cG;go_upto_region 6 with fail;generalize wr.alloc _=V at *;have B:=kr.tr k3;have:=M.cell;have C1:=aY λW (k:K V W) y=>au5 m a y _ ga W (HM.aX W (k1.tr (B.tr k))) (C.bM (B.tr k)) hmv
   go_wp2_with fail
   apply eu (C1.aX V (K.rf _) az) B;intro w4 k4 iX;have:=(M.bM k4).cell;cases hb0:tX m a az;rotate_left
   .have HF:Hid (R=2):=aY (by rw[HR.aX,bV (HA.aX (by rw[HB.aX,hb0];simp))]);have kF:=k1.tr iX;go_wp2;rw[jE];exact DJ
   have qh:Hid ((kids.take (j+1)).any (λk=>tX k a az)=az):=aY (by rw[HB.aX,HT.aX,hb0];rfl);go_wp2_with fail
   apply eu (C1.aX w4 k4 aA) iX;intro w5 k5 oJ;cases cK:tX m a aA
   .have H:Hid ((0:Int)=if (kids.take (j+1)).all (λk=>tX k a aA)then 1 else 0):=aY (by rw[HL.aX,cK];simp);go_wp2;go_roundw
    case rel=>exact⟨j+1,aZ,dh,⟨0,rfl,H⟩,qh,oJ⟩
    case measure=>simp[aO];omega
   have H:Hid (z=if (kids.take (j+1)).all (λk=>tX k a aA)then 1 else 0):=aY (by rw[HL.aX,cK,HZ.aX];simp);go_wp2;go_roundw
   case rel=>exact⟨j+1,aZ,dh,⟨z,rfl,H⟩,qh,oJ⟩
   case measure=>simp[aO];omega
  have cE:¬(j:Int)<Z kids:=aZ;have HF:Hid (R=z):=aY (by
   have h1:=HT.aX;have S:=HZ.aX;rw[jq aZ]at h1 S;rw[HR.aX,h1,S];rfl)
  have kF:=k1.tr kr;go_wp2;exact DJ
theorem awz l v q(f:Nat) cs w(h:bD cL l v w)(hlen:Z l<=1000000)(hf:∀args W,(callFunc f args).run aR W=.ok (.enter f args) W)(M:∀W,K w W->∀x∈l,∀u,fM x u W->aK aR f (#[u]++cs) W λe W'=>e=ak (ar (q x))/\K W W') :aK aR 266 #[v,.func (.func f) #[] cs] w λe N=>∃i:Int,e=ak (G J i)/\K w N/\decide (0<=i)=l.any q:=by
 have Q:=K.rf w;obtain⟨A,c,rfl,h,-⟩:=h;have R:=aY M;go_in;go_wp2_with fail
 go_loopw [5,8] (fun _ i wr=>∃k:Nat,k<=Z l/\i=G J k/\Hid ((l.take k).any q=az)/\K w wr) (fun _ i _=>Z l-(aO i).toNat)
 case atStart=>exact⟨0,aZ,rfl,aY bu,Q⟩
 case round =>
  obtain⟨k,Y,rfl,hall,kr⟩:=hrel;by_cases y:k<Z l;have gW:(k:Int)<Z l:=aZ;obtain⟨B,H,cs1,rfl,hcl,S,C,d⟩:=fE h k y bG;have HB:=aY (BI q l k y);have HA:=aY (BJ q l (k+1));have hm:=dJ y;generalize l[k]=t at *;obtain⟨vf,z,rfl,O,V⟩:=S wr kr;have C:∀W,K w W->W.cell? ⟨B,H+k*8,U⟩=I (G J t.bA):=C;have d:∀W,K w W->∀i,i<8->W.cell? ⟨B,H+k*8+i,U⟩=(cB t vf z)[i]?:=λW j X=>λT=>(d W j X T).trans aD
  have C1:=aY (R.aX wr kr t hm (av (cB t vf z)) ⟨vf,z,rfl,O,V⟩);exact ZL;exact ZM
theorem Rx l v q(f:Nat) cs w(h:bD cL l v w)(t:Z l<=1000000)(y:∀args W,(callFunc f args).run aR W=.ok (.enter f args) W)(z:∀W,K w W->∀x∈l,∀u,fM x u W->aK aR f (#[u]++cs) W λe W'=>e=ak (ar (q x))/\K W W') :aK aR 217 #[v,.func (.func f) #[] cs] w λe j=>e=ak (ar (l.any q))/\K w j:=by have C1:=aY (awz l v q f cs w h t y z);exact ZN
theorem at5 x a v g w(h:fM x v w)(hg:bn w g 42 #[G J a.1,G E a.2.1,G E a.2.2]) :aK aR 306 #[v,aj (I ⟨g,0,U⟩)] w λe j=>e=ak (ar (ko a x))/\K w j:=YT
theorem atg x a v g w(h:fM x v w)(hg:bn w g 42 #[G J a.1,G E a.2.1,G E a.2.2]) :aK aR 316 #[v,aj (I ⟨g,0,U⟩)] w λe j=>e=ak (ar (ko a x))/\K w j:=YT
theorem awA x y v t z g w(h:fM x v w)(hg:bn w g 128 (cB y t z)) :aK aR 230 #[v,aj (I ⟨g,0,U⟩)] w λe j=>e=ak (ar (ko (bE y) x))/\K w j:=aln
theorem au6 x y v t z g w(h:fM x v w)(hg:bn w g 128 (cB y t z)) :aK aR 218 #[v,aj (I ⟨g,0,U⟩)] w λe j=>e=ak (ar (ko (bE y) x))/\K w j:=aln
theorem afF l a v w(h:bD cL l v w)(C:Z l<=1000000) :aK aR 268 #[v,dD a] w λe z=>e=ak (ar (dM l a))/\K w z:=by have j:=bn.new w 42 #[G J a.1,G E a.2.1,G E a.2.2];have k1:=j.cG;have HR:Hid (dM l a=l.any (ko a)):=aY rfl;have H:=aY h;obtain⟨A,c,rfl⟩:=bH h;generalize dM l a=R at *;go_in;go_upto_region 1 with fail;generalize w.alloc _=y at *;generalize D (L w)=t at j|-;have C1:=aY (Rx l _ (ko a) 306 #[aj (I ⟨t,0,U⟩)] y (cM H.aX k1) C (λ_ _=>dH) (λW k x _ u B=>at5 x a u t W B (j.bM k)));exact Ow
theorem afd l a v w(h:bD cL l v w)(C:Z l<=1000000) :aK aR 291 #[v,dD a] w λe z=>e=ak (ar (dM l a))/\K w z:=by have j:=bn.new w 42 #[G J a.1,G E a.2.1,G E a.2.2];have k1:=j.cG;have HR:Hid (dM l a=l.any (ko a)):=aY rfl;have H:=aY h;obtain⟨A,c,rfl⟩:=bH h;generalize dM l a=R at *;go_in;go_upto_region 1 with fail;generalize w.alloc _=y at *;generalize D (L w)=t at j|-;have C1:=aY (Rx l _ (ko a) 316 #[aj (I ⟨t,0,U⟩)] y (cM H.aX k1) C (λ_ _=>dH) (λW k x _ u B=>atg x a u t W B (j.bM k)));exact Ow
def Pm{α:Type}(Y:Nat->Prop)(base:Nat)(T e:TypeId)(S:fy α)(l:List α)(y:aQ)(t:Nat)(w w':aP):Prop :=
 ∃j,bn w' t T #[j]/\bK Y base e S l j w'/\(∀k,aW j=I k->aW y=I k\/D (L w)<=k)/\bf (λk=>k=t\/aW y=I k) w w'
theorem awB Y base o j ob x v w(h:fM x v w)(hs:gu x)(hb:bn w ob 59 #[j])(hO:bK Y base 128 cL o j w)(A:∀k,Y k->k<D (L w))(Ke:Y ob)(hbase:base<=D (L w))(y:ob<base)(z:Z o<=1000000) :aK aR 270 #[v,aj (I ⟨ob,0,U⟩)] w λe t=>e=ak (au #[])/\Pm Y base 59 128 cL (o++[x]) j ob w t:=by have zF:=aY func270;have zN:=aY ntmps270;exact alo
theorem awC Y base o j ob x v w(h:fM x v w)(hs:gu x)(hb:bn w ob 59 #[j])(hO:bK Y base 128 cL o j w)(A:∀k,Y k->k<D (L w))(Ke:Y ob)(hbase:base<=D (L w))(y:ob<base)(z:Z o<=1000000) :aK aR 271 #[v,aj (I ⟨ob,0,U⟩)] w λe t=>e=ak (au #[])/\Pm Y base 59 128 cL (o++[x]) j ob w t:=by have zF:=aY func271;have zN:=aY ntmps271;exact alo
theorem awD Y base o H j x v w(h:fM x v w)(hb:bn w j 53 #[H])(B:bK Y base 42 dQ o H w)(Ke:Y j)(hbase:base<=D (L w))(gj:j<base)(hlen:Z o<=1000000) :aK aR 272 #[v,aj (I ⟨j,0,U⟩)] w λe w'=>e=ak (au #[])/\Pm Y base 53 42 dQ (o++[bE x]) H j w w':=by
 obtain⟨vf,ve,rfl,hf,he⟩:=h;obtain⟨Af,cf,rfl⟩:=dX hf;obtain⟨Ae,ce,rfl⟩:=bH he;have T:=bn.new w 128 (cB x (F Af (Z x.f) cf) (F Ae (Z x.es) ce));have k1:=T.cG;obtain⟨A,y,rfl⟩:=B.slice;have Q:=hb.bM k1;have gG:=B.st k1;have:=B.blk;go_in;go_upto_region 1 with fail;generalize w.alloc _=O at *;have hz1:=k1.size;have:=T.cell;have:=Q.cell;have z:=K.new O (aq (eI (bE x)) 42);have fq:=gG.st z;have hr:=fL.new (S:=dQ) (e:=42) (x:=bE x) (v:=av (eI (bE x))) (w:=O) (N:=λk=>Y k\/aW (F A (Z o) y)=I k) (λW u=>rfl) 0 (fw _);go_wp2_with (at_builtin;refine j0 rfl _ _ 53 rfl _ 3 24 sK rfl rfl fq _ rfl (bE x) ?p1 ?p2 ?p3 ?_)
 case p1=>exact hr.less λk hk=>hk
 case p2=>omega
 case p3=>exact cQ hbase (cQ hz1 z.size)
 intro t w9 C R gD cV;obtain⟨V,Vx⟩:∃V,Hid (V=o++[bE x]):=⟨_,aY rfl⟩;rw[<- Vx.aX]at C;have qi:=Q.bM z;have M:=qi.grown R bL;have:=M.cell;have:=M.frozen;have HU:=aY ((bf.cz (k1.tr z) _).tr ((bf.gy (X:=λk=>k=j\/aW (F A (Z o) y)=I k) R λk e=>aJ e).tr (bf.dx (X:=λk=>k=j\/aW (F A (Z o) y)=I k) (aI rfl) 0 t)));have HB:Hid (bn (aV w9 ⟨j,0,U⟩ t) j 53 #[t]):=aY (M.cH 0 t);have Kf:=aY (C.to (X:=λk=>k=j) (bf.dx (X:=λk=>k=j) rfl 0 t) (λk hk=>ZP) (λk hk e=>bL) λk _ hk=>aI hk);have wI:Hid (∀k,aW t=I k->aW (F A (Z o) y)=I k\/D (L w)<=k):=aY λk hk=>by grind
 obtain⟨A9,c9,rfl⟩:=C.slice;exact alp
theorem aAD s op:∀(l:List nD) (o:List bY),Z o<=16->Z (l.foldl (nL s op) o)<=16:=by
 intro l;induction l with
 | nil=>intro o h;exact h
 | cons x l j => grind [nL]
theorem ayx s op:∀(l:List nD) (o:List bY),16<=Z o->l.foldl (nL s op) o=o:=by
 intro l;induction l with
 | nil=>intro o h;rfl
 | cons x l j => grind [nL]
theorem awE s op k vl vp M X vk w(hs:p6 s (av (eO s vl vp M)) w)(V:bD cL op X w)(hk:nU k vk w)(lu:Z s.bq<=1000000/\Z s.bF<=1000000)(hlo:Z op<=1000000)(hv:Z k.eE<=1000000) :aK aR 238 #[av (eO s vl vp M),X,vk] w λe w'=>∃v',e=ak v'/\bK (λk=>k<D (L w)) (D (L w)) 42 dQ (yr s op k) v' w'/\K w w':=by
 have Bw:=aY λW (k:K w W)=>OK hs k
 have CH:=aY λW (k:K w W) a=>Dx s a (av (eO s vl vp M)) W (Bw.aX W k) lu.1
 have CP:=aY λW (k:K w W) a=>M8 s a (av (eO s vl vp M)) W (Bw.aX W k) lu.2
 have CO:=aY λW (k:K w W) a=>afd op a X W (cM V k) hlo
 have HE:Hid (yr s op k=k.eE.foldl (nL s op) []):=aY rfl;have Cs:=aY λj=>aAD s op (k.eE.take j) [] bu
 have aa6:=aY λj (h:16<=Z ((k.eE.take j).foldl (nL s op) []))=>ayx s op (k.eE.drop j) _ h
 obtain⟨L7,L8,vb',e,h1,h2,h3⟩:=hs;simp at e;obtain⟨rfl,rfl,rfl⟩:=e;obtain⟨Al,cl,rfl⟩:=bH h1;obtain⟨Ap,cp,rfl⟩:=bH h2;obtain⟨Ab,cb,rfl⟩:=bH h3;obtain⟨Ao,co,rfl⟩:=bH V;obtain⟨v1,v2,v3,v4,v5,v6,rfl,g1,g2,g3,g4,g5,g6⟩:=hk;obtain⟨A1,c1,rfl,hl,-⟩:=g1;obtain⟨A2,c2,rfl⟩:=bH g2;obtain⟨A3,c3,rfl⟩:=bH g3;obtain⟨A4,c4,rfl⟩:=bH g4;obtain⟨A5,c5,rfl⟩:=bH g5;obtain⟨A6,c6,rfl⟩:=bH g6;generalize yr s op k=R at *;generalize Qu:eO s (F Al (Z s.bq) cl) (F Ap (Z s.bF) cp) (F Ab (Z s.ab) cb)=C at *;generalize hma:nh k (F A1 (Z k.eE) c1) (F A2 (Z k.cR) c2) (F A3 (Z k.eM) c3) (F A4 (Z k.gq) c4) (F A5 (Z k.fc) c5) (F A6 (Z k.fQ) c6)=ma at *;have k1:=K.ou w (aq C 61) (aq ma 239);have Q:=(bn.new w 61 C).alloc (aq ma 239);have H:=bn.new (aU w (aq C 61)) 239 ma;have hz:D (L (aU w (aq C 61)))=D (L w)+1:=bu;rw[hz]at H;subst Qu hma;clear h1 h2 h3 V g2 g3 g4 g5 g6 Bw hz;go_in;go_wp2;go_step3;generalize ay (ay w _) _=A at *;generalize pz:D (L w)=lo at Q H|-;have pA:=aY pz;have hz1:lo<=D (L A):=by rw[<- pz];exact k1.size
 clear pz;have kk:=K.rf A;have:=Q.cells;have:=H.cells A kk;have nV:=bK.nil (λk=>k<lo) (D (L A)) 42 dQ A;clear Q H;go_wp2_with fail
 go_step3;go_wp2_with fail
 go_loopw [7,9,13] (fun o _ i W=>∃j:Nat,j<=Z k.eE/\i=G J j/\bK (fun k=>k<lo) (D (L A)) 42 dQ ((k.eE.take j).foldl (nL s op) []) o W/\K A W) (fun _ _ i _=>Z k.eE-(aO i).toNat)
 case atStart=>exact⟨0,aZ,rfl,nV,kk⟩
 case round =>
  clear nV kk;obtain⟨j,hj,rfl,B,kr⟩:=hrel;have hpl:=Cs.aX j;by_cases hlt:j<Z k.eE
  .have cE:(j:Int)<Z k.eE:=aZ;obtain⟨b1,o1,cs1,rfl,mR,hr1,d0,dd⟩:=fE hl j hlt bG;have HF:=aY (fold_succ (nL s op) k.eE [] j hlt);have Qv:=aY (aa6.aX j);have Qw:=aY (show k.eE.foldl (nL s op) []=(k.eE.drop j).foldl (nL s op) ((k.eE.take j).foldl (nL s op) []) by rw[<- List.foldl_append,List.take_append_drop]);generalize k.eE[j]=x at *;generalize (k.eE.take j).foldl (nL s op) []=P at *;obtain⟨z,jJ⟩:∃z,Hid (z=(k.eE.take (j+1)).foldl (nL s op) []):=⟨_,aY rfl⟩;replace HF:Hid (z=nL s op P x):=aY (jJ.aX.trans HF.aX);obtain rfl:=hr1 w (K.rf w);have rS:=k1.tr kr;obtain⟨EK,Dm,rfl⟩:=B.slice;have q9:∀i,i<4->wr.cell? ⟨b1,o1+j*4+i,U⟩=(jA x)[i]?:=λi hi=>(dd wr rS i hi).trans aD
   have q0:wr.cell? ⟨b1,o1+j*4,U⟩=I (G J x.id.1):=d0 wr rS;have Y:=bn.new wr 300 (jA x);have k3:=Y.cG;clear dd d0 mR hr1;go_upto_region 5 with fail;have O:=B.st k3;have eA:=kr.tr k3;generalize wr.alloc _=w3 at *;clear q9 q0 B k3 kr rS;by_cases lF:16<=Z P
   .have Jo:(16:Int)<=(Z P:Int):=aZ;have HR:Hid (R=P):=aY (by rw[HE.aX,Qw.aX,Qv.aX lF]);have kF:=k1.tr eA;clear lF HF jJ Qv Qw hpl;go_wp2;rw[jE];go_ret;exact⟨_,rfl,by rw[HR.aX,pA.aX];exact O.low hz1,kF⟩
   have Jo:¬(16:Int)<=(Z P:Int):=aZ;have y:=Y.cell;clear lF Qv Qw;have C3:=aY (Iw P x.id _ w3 O.bD aZ);go_wp2_with fail
   apply eu C3.aX eA;intro w4 t iX;have fC:=O.st t;have eF:=Y.bM t;clear O t y C3;have y:=eF.cell;cases hb0:fJ P x.id;rotate_left;have HP:Hid (z=P):=aY (by rw[HF.aX];unfold nL;rw[bQ (by omega),bV (by simp[hb0])]);clear y hb0;exact Ox;go_wp2_with fail
   apply eu (CH.aX w4 (k1.tr iX) x.id) iX;intro w5 t oJ;have gL:=fC.st t;have gJ:=eF.bM t;clear fC t y;have y:=gJ.cell;cases cK:dM s.bq x.id;rotate_left;have HP:Hid (z=P):=aY (by rw[HF.aX];unfold nL;rw[bQ (by omega),bV (by simp[hb0,cK])]);clear y hb0 cK;exact alq;go_wp2_with fail
   apply eu (CP.aX w5 (k1.tr oJ) x.id) oJ;intro w6 t T;have nW:=gL.st t;have lN:=gJ.bM t;clear gL t y;have y:=lN.cell;cases hb2:dM s.bF x.id;rotate_left
   .have HP:Hid (z=P):=aY (by rw[HF.aX];unfold nL;rw[bQ (by omega),bV (by simp[hb0,cK,hb2])]);clear y hb0 cK hb2;go_wp2;go_roundw
    case rel=>exact⟨j+1,aZ,dh,by rw[<- jJ.aX,HP.aX];exact nW,T⟩
    case measure=>simp[aO];omega
   go_wp2_with fail
   apply eu (CO.aX w6 (k1.tr T) x.id) T;intro w7 t rM;have ke:=nW.st t;have sG:=lN.bM t;clear nW t y;have y:=sG.cell;cases dB:dM op x.id;rotate_left
   .have HP:Hid (z=P):=aY aBM;clear y hb0 cK hb2 dB;go_wp2;go_roundw
    case rel=>exact⟨j+1,aZ,dh,by rw[<- jJ.aX,HP.aX];exact ke,rM⟩
    case measure=>simp[aO];omega
   have HP:Hid (z=P++[x.id]):=aY aBN;clear hb0 cK hb2 dB HF;have hr:=fL.new (S:=dQ) (e:=42) (x:=x.id) (v:=av (eI x.id)) (w:=w7) (N:=λk=>k<lo\/aW (F EK (Z P) Dm)=I k) (λW u=>rfl) 0 (fw _);have kA:=K.new w7 (aq (eI x.id) 42);have kH:=ke.st kA;have sQ:=rM.tr kA;have sO:=sQ.size;clear ke;go_wp2_with (at_builtin;refine j0 rfl _ _ 53 rfl _ 3 24 sK rfl rfl kH _ rfl x.id ?p1 ?p2 ?p3 ?_)
   case p1=>exact hr
   case p2=>omega
   case p3=>exact sO
   intro v9 w9 cX dW gD cV;have zq:=sQ.trans cV;clear hr kH dW gD cV;exact ZQ
  have cE:¬(j:Int)<Z k.eE:=aZ;have HR:Hid (R=(k.eE.take j).foldl (nL s op) []):=aY ZR;have kF:=k1.tr kr;generalize (k.eE.take j).foldl (nL s op) []=P at *;obtain⟨EK,Dm,rfl⟩:=B.slice;go_wp2;go_ret;exact⟨_,rfl,by rw[HR.aX,pA.aX];exact B.low hz1,kF⟩
theorem awF l v q(f:Nat) cs w(h:bD qV l v w)(X:Z l<=1000000)(Y:∀args W,(callFunc f args).run aR W=.ok (.enter f args) W)(M:∀W,K w W->∀x∈l,aK aR f (#[av (jA x)]++cs) W λe W'=>e=ak (ar (q x))/\K W W') :aK aR 281 #[v,.func (.func f) #[] cs] w λe N=>∃i:Int,e=ak (G J i)/\K w N/\decide (0<=i)=l.any q:=by
 have O:=K.rf w;obtain⟨A,c,rfl,h,-⟩:=h;have Q:=aY M;go_in;go_wp2_with fail
 go_loopw [5,8] (fun _ i wr=>∃k:Nat,k<=Z l/\i=G J (k:Int)/\Hid ((l.take k).any q=az)/\K w wr) (fun _ i _=>Z l-(aO i).toNat)
 case atStart=>exact⟨0,aZ,rfl,aY bu,O⟩
 case round =>
  obtain⟨k,V,rfl,hall,kr⟩:=hrel;by_cases y:k<Z l;have H:(k:Int)<(Z l:Int):=aZ;obtain⟨z,C,cs1,rfl,hcl,R,B,d⟩:=fE h k y bG;have HB:=aY (BI q l k y);have HA:=aY (BJ q l (k+1));have hm:=dJ y;generalize l[k]=t at *;obtain rfl:=R w (K.rf w);have B:∀W,K w W->W.cell? ⟨z,C+k*4,U⟩=I (G J t.id.1):=B;have d:∀W,K w W->∀i,i<4->W.cell? ⟨z,C+k*4+i,U⟩=(jA t)[i]?:=λW j T=>λS=>(d W j T S).trans aD
  have C1:=aY (Q.aX wr kr t hm);exact ZL;have H:¬(k:Int)<(Z l:Int):=aZ;exact alr
theorem au7 l v q(f:Nat) cs w(h:bD qV l v w)(t:Z l<=1000000)(y:∀args W,(callFunc f args).run aR W=.ok (.enter f args) W)(z:∀W,K w W->∀x∈l,aK aR f (#[av (jA x)]++cs) W λe W'=>e=ak (ar (q x))/\K W W') :aK aR 227 #[v,.func (.func f) #[] cs] w λe j=>e=ak (ar (l.any q))/\K w j:=by have C1:=aY (awF l v q f cs w h t y z);exact ZN
theorem aAE(x:nD) a:decide (x.id=a)=(x.id.1==a.1&&(x.id.2.1==a.2.1&&x.id.2.2==a.2.2)):=by grind
theorem at6 x a g w(hg:bn w g 42 #[G J a.1,G E a.2.1,G E a.2.2]) :aK aR 228 #[av (jA x),aj (I ⟨g,0,U⟩)] w λe z=>e=ak (ar (decide (x.id=a)))/\K w z:=by
 have HI:=aY (aAE x a);have q:=hg.cells;have:=λo=>(K.rf w).al o
 obtain⟨j,B,C⟩:=a;obtain⟨⟨A,t,H⟩,y⟩:=x;simp only at q HI|-;generalize decide ((A,t,H)=(j,B,C))=R at *;exact Zr
theorem aBO:(prog.info? 300).map (λi=>(i.zero,i.size,i.bytes))=I (I (av #[G J 0,G E 0,G E 0,ar az]),4,32):=by rfl
theorem aoI:gQ aR 237 300 (av #[G J 0,G E 0,G E 0,ar az]) 4 32:=⟨underlying237,aBO,rfl,bG⟩
theorem awG kids:∀(l:List bU) (o:List nD),Z o<=16->Z (l.foldl (tS kids) o)<=16:=by
 intro l;induction l with
 | nil=>intro o h;exact h
 | cons x l j => grind [tS]
theorem awH:∀(l:List bY) (o:List nD),Z o<=16->Z (l.foldl oR o)<=16:=by
 intro l;induction l with
 | nil=>intro o h;exact h
 | cons x l j => grind [oR]
theorem au8:∀(l:List bY) (o:List nD),16<=Z o->l.foldl oR o=o:=by
 intro l;induction l with
 | nil=>intro o h;rfl
 | cons x l j => grind [oR]
theorem au9 bF iy kids vp vf vk w(hp:bD cL bF vp w)(Y:bD dQ iy vf w)(hk:bD Bv kids vk w)(hlp:Z bF<=1000000)(wK:Z iy<=1000000)(hlk:Z kids<=1000000)(hv:∀m∈kids,Z m.eE<=1000000) :aK aR 162 #[vp,vf,vk] w λe w'=>∃v',e=ak v'/\bK (λk=>k<D (L w)) (D (L w)) 300 qV (OM bF iy kids) v' w'/\K w w':=by
 have CS:=aY λW (k:K w W) a=>agd kids a vk W (cM hk k) hlk hv
 have HE:Hid (OM bF iy kids=iy.foldl oR (bF.foldl (tS kids) [])):=aY rfl;have Cs:=aY λj=>awG kids (bF.take j) [] bu
 have aDU:=aY λj o ho=>awH (iy.take j) o ho
 have aa6:=aY λj o (h:16<=Z ((iy.take j).foldl oR o))=>au8 (iy.drop j) _ h
 obtain⟨Ap,cp,rfl,hl,-⟩:=hp;obtain⟨Ar,cr,rfl,gK,-⟩:=Y;obtain⟨Ak,ck,rfl⟩:=bH hk;generalize OM bF iy kids=R at *;have kk:=K.rf w;have nV:=bK.nil (λk=>k<D (L w)) (D (L w)) 300 qV w;go_in;go_wp2;go_step3;go_wp2_with fail
 go_loopw [7,9,10,15] (fun o _ _ i W=>∃j:Nat,j<=Z bF/\i=G J j/\bK (fun k=>k<D (L w)) (D (L w)) 300 qV ((bF.take j).foldl (tS kids) []) o W/\K w W) (fun _ _ _ i _=>Z bF-(aO i).toNat)
 case atStart=>exact⟨0,aZ,rfl,nV,kk⟩
 case round =>
  obtain⟨j,hj,rfl,B,kr⟩:=hrel;have hpl:=Cs.aX j;by_cases H:j<Z bF
  .have cE:(j:Int)<Z bF:=aZ;obtain⟨M,off,cs1,rfl,mR,hrl,d0,d⟩:=fE hl j H bG;have y:=aY (fold_succ (tS kids) bF [] j H);generalize bF[j]=x at *;generalize (bF.take j).foldl (tS kids) []=P at *;obtain⟨t,jJ⟩:∃t,Hid (t=(bF.take (j+1)).foldl (tS kids) []):=⟨_,aY rfl⟩;replace y:Hid (t=tS kids P x):=aY (jJ.aX.trans y.aX);obtain⟨vf,ve,rfl,hf,he⟩:=hrl w (K.rf w);have q9:∀i,i<8->wr.cell? ⟨M,off+j*8+i,U⟩=(cB x vf ve)[i]?:=λi hi=>(d wr kr i hi).trans aD
   have q0:wr.cell? ⟨M,off+j*8,U⟩=I (G J x.bA):=d0 wr kr;have C:=bn.new wr 128 (cB x vf ve);have T:=C.cG;obtain⟨Af,cf,rfl⟩:=dX hf;obtain⟨Ae,ce,rfl⟩:=bH he;obtain⟨EK,Dm,rfl⟩:=B.slice;go_upto_region 5 with fail;have dS:=B.st T;have X:=kr.tr T;generalize wr.alloc _=w3 at *;have q8:=C.cell;have C3:=aY (CS.aX w3 X (bE x));go_wp2_with fail
   apply eu C3.aX X;intro O V iX;have fC:=dS.st V;have eF:=C.bM V;by_cases h0:lB kids (bE x)=0;have HP:Hid (t=P):=aY (by rw[y.aX];unfold tS;rw[bQ (by simp[h0])]);have h0b:(lB kids (bE x) != 0)=false:=Ov;generalize lB kids (bE x)=z at *;exact Ox;have h0b:(lB kids (bE x) != 0)=true:=NR;by_cases Q:Z P<16;rotate_left;have Jo:¬(Z P:Int)<16:=aZ;have HP:Hid (t=P):=aY (by rw[y.aX];unfold tS;rw[bQ (by omega)]);generalize lB kids (bE x)=z at *;exact Ox;have Jo:(Z P:Int)<16:=aZ;have HP:Hid (t=P++[⟨bE x,lB kids (bE x)==1⟩]):=aY (by
    rw[y.aX];unfold tS;rw[bV ⟨h0,Q⟩];congr 3)
   generalize lB kids (bE x)=z at *;have q8:=eF.cell;have Y:=fL.new (S:=qV) (e:=300) (x:=⟨bE x,z==1⟩) (v:=av (jA ⟨bE x,z==1⟩)) (w:=O) (N:=λk=>k<D (L w)\/aW (F EK (Z P) Dm)=I k) (λW u=>rfl) 0 (fw _);have kA:=K.new O (aq (jA ⟨bE x,z==1⟩) 300);have kH:=fC.st kA;have sQ:=iX.tr kA;have sO:=sQ.size;go_wp2_with (at_builtin;refine j0 rfl _ _ 237 rfl _ 4 32 aoI rfl rfl kH _ rfl ⟨bE x,z==1⟩ ?p1 ?p2 ?p3 ?_)
   case p1=>exact Y
   case p2=>omega
   case p3=>exact sO
   exact als
  have cE:¬(j:Int)<Z bF:=aZ;have HR:Hid (R=iy.foldl oR ((bF.take j).foldl (tS kids) [])):=aY ZR;generalize (bF.take j).foldl (tS kids) []=P0 at *;have Pn:=gK;have gG:=B;have k1:=kr;obtain⟨A,rfl⟩:∃o,o=P0:=⟨_,rfl⟩;generalize wr=w1 at *;go_wp2_with fail
  go_step3;go_wp2_with fail
  go_loopw [7,12,41] (fun o _ i W=>∃j:Nat,j<=Z iy/\i=G J j/\bK (fun k=>k<D (L w)) (D (L w)) 300 qV ((iy.take j).foldl oR A) o W/\K w W) (fun _ _ i _=>Z iy-(aO i).toNat)
  case atStart=>exact⟨0,aZ,rfl,gG,k1⟩
  case round =>
   obtain⟨j,hj,rfl,B,kr⟩:=hrel;have:=aDU.aX j _ hpl;by_cases H:j<Z iy
   .have cE:(j:Int)<Z iy:=aZ;obtain⟨M,o1,cs1,rfl,mR,hr1,d0,dd⟩:=fE Pn j H bG;have y:=aY (fold_succ oR iy A j H);have Qv:=aY (aa6.aX j A);have Qw:=aY (show iy.foldl oR A=(iy.drop j).foldl oR ((iy.take j).foldl oR A) by rw[<- List.foldl_append,List.take_append_drop]);generalize iy[j]=x at *;generalize (iy.take j).foldl oR A=P at *;obtain⟨t,jJ⟩:∃t,Hid (t=(iy.take (j+1)).foldl oR A):=⟨_,aY rfl⟩;replace y:Hid (t=oR P x):=aY (jJ.aX.trans y.aX);obtain rfl:=hr1 wr kr;obtain⟨EK,Dm,rfl⟩:=B.slice;have q9:∀i,i<3->wr.cell? ⟨M,o1+j*3+i,U⟩=(eI x)[i]?:=λi hi=>(dd wr kr i hi).trans aD
    have q0:wr.cell? ⟨M,o1+j*3,U⟩=I (G J x.1):=d0 wr kr;have C:=bn.new wr 42 (eI x);have T:=C.cG;go_upto_region 12 with fail;have dS:=B.st T;have X:=kr.tr T;generalize wr.alloc _=w3 at *;generalize D (L wr)=gx at C|-;by_cases Q:16<=Z P
    .have Jo:(16:Int)<=(Z P:Int):=aZ;have kN:Hid (R=P):=aY (by rw[HR.aX,Qw.aX,Qv.aX Q]);have kF:=X;go_wp2;try rw[jE]
     go_ret;exact⟨_,rfl,by rw[kN.aX];exact dS,kF⟩
    have Jo:¬(16:Int)<=(Z P:Int):=aZ;have C3:=aY (au7 P _ (λv=>decide (v.id=x)) 228 #[aj (I ⟨gx,0,U⟩)] w3 dS.bD aZ (λ_ _=>dH) λW k v _=>at6 v x gx W (C.bM k));go_wp2_with fail
    apply eu C3.aX X;intro O V iX;have fC:=dS.st V;have eF:=C.bM V;cases hb0:P.any λv=>decide (v.id=x)
    rotate_left;have HP:Hid (t=P):=aY (by rw[y.aX];unfold oR;rw[bQ Q,bV hb0]);exact Ox;have HP:Hid (t=P++[⟨x,az⟩]):=aY (by rw[y.aX];unfold oR;rw[bQ Q,bQ (by simp[hb0])]);have q8:=eF.cell;have Y:=fL.new (S:=qV) (e:=300) (x:=⟨x,az⟩) (v:=av (jA ⟨x,az⟩)) (w:=O) (N:=λk=>k<D (L w)\/aW (F EK (Z P) Dm)=I k) (λW u=>rfl) 0 (fw _);have kA:=K.new O (aq (jA ⟨x,az⟩) 300);have kH:=fC.st kA;have sQ:=iX.tr kA;have kL:=sQ;have sO:=kL.size;go_wp2_with (at_builtin;refine j0 rfl _ _ 237 rfl _ 4 32 aoI rfl rfl kH _ rfl ⟨x,az⟩ ?p1 ?p2 ?p3 ?_)
    case p1=>exact Y
    case p2=>omega
    case p3=>exact sO
    intro v9 w9 cX dW gD cV;have zq:=kL.trans cV;exact ZQ
   have cE:¬(j:Int)<Z iy:=aZ;have kN:Hid (R=(iy.take j).foldl oR A):=aY (by rw[HR.aX,jq (by omega)]);have kF:=kr;generalize (iy.take j).foldl oR A=P at *;obtain⟨EK,Dm,rfl⟩:=B.slice;go_wp2;try rw[jE]
   go_ret;exact⟨_,rfl,by rw[kN.aX];exact B,kF⟩
theorem ag2 s:∀(l:List bU) (p:List bU×List bU),Z (l.foldl (rY s) p).1<=max (Z p.1) 4/\Z (l.foldl (rY s) p).2<=Z p.2+Z l:=by
 intro l;induction l with
 | nil=>intro p;simp;omega
 | cons x l j => grind [rY]
theorem ava s op cR vl vp Q vo va w(hs:p6 s (av (eO s vl vp Q)) w)(H:bD cL op vo w)(ha:bD cL cR va w)(vE:∀x∈op,gu x)(Qu:∀x∈cR,gu x)(lu:Z s.bq<=1000000/\Z s.ab<=1000000)(hlo:Z op<=1000000)(Qx:Z cR<=500000) :aK aR 215 #[av (eO s vl vp Q),vo,va] w λe w'=>∃v1 T,e=ak (au #[v1,T])/\nO (D (L w)) (D (L w)) 128 cL (qH s op cR).1 v1 128 cL (qH s op cR).2 T w'/\K w w':=by
 have Bw:=aY λW (k:K w W)=>OK hs k
 have CH:=aY λW (k:K w W) a=>Dx s a (av (eO s vl vp Q)) W (Bw.aX W k) lu.1
 have CA:=aY λW (k:K w W) a=>KB s a (av (eO s vl vp Q)) W (Bw.aX W k) lu.2
 have CO:=aY λW (k:K w W)=>aeT op vo W (cM H k) vE aZ
 have HAd:Hid (qH s op cR=cR.foldl (rY s) (op,[])):=aY rfl;have Cs:=aY λj=>ag2 s (cR.take j) (op,[])
 have HS:=aY Qu;obtain⟨L7,L8,vb',e,h1,h2,h3⟩:=hs;simp at e;obtain⟨rfl,rfl,rfl⟩:=e;obtain⟨Al,cl,rfl⟩:=bH h1;obtain⟨Ap,cp,rfl⟩:=bH h2;obtain⟨Ab,cb,rfl⟩:=bH h3;obtain⟨Aa,ca,rfl,hl,-⟩:=ha;obtain⟨Ao,co,rfl⟩:=bH H;generalize qH s op cR=R at *;have Y:=bn.new w 61 (eO s (F Al (Z s.bq) cl) (F Ap (Z s.bF) cp) (F Ab (Z s.ab) cb));have k1:=Y.cG;go_in;go_wp2;go_step3;generalize w.alloc _=V at *;obtain⟨lo,X⟩:∃lo,Hid (lo=D (L w)):=⟨_,aY rfl⟩;generalize pz:D (L w)=ga at Y|-;have:=Y.cells;go_wp2_with fail
 apply dP (CO.aX V k1);rintro T w2⟨fq,k2⟩;have B:nO lo (D (L V)) 128 cL op T 128 cL ([]:List bU) (F U 0 0) w2:=nO.abp (fq.less λk hk=>by rw[X.aX]at hk;exact cZ hk k1.size) (by rw[X.aX];exact k1.size);obtain⟨A2,c2,rfl⟩:=B.a.slice;have kk:=k2;go_wp2_with fail
 go_step3;go_wp2_with fail
 go_loopw [8,9,11,16] (fun o1 o2 _ i W=>∃j:Nat,j<=Z cR/\i=G J j/\nO lo (D (L V)) 128 cL ((cR.take j).foldl (rY s) (op,[])).1 o1 128 cL ((cR.take j).foldl (rY s) (op,[])).2 o2 W/\K V W) (fun _ _ _ i _=>Z cR-(aO i).toNat)
 case atStart=>exact⟨0,aZ,rfl,iF,kk⟩
 case round =>
  obtain⟨j,hj,rfl,B,kr⟩:=hrel;by_cases hlt:j<Z cR
  .have cE:(j:Int)<Z cR:=aZ;obtain⟨b1,off,cs,rfl,mR,hrl,d0,d⟩:=fE hl j hlt bG;have C:=aY (fold_succ (rY s) cR (op,[]) j hlt);have qC:=HS.aX _ (dJ hlt);have hpl:=Cs.aX j;generalize cR[j]=x at *;generalize (cR.take j).foldl (rY s) (op,[])=P at *;obtain⟨A,jJ⟩:∃A,Hid (A=(cR.take (j+1)).foldl (rY s) (op,[])):=⟨_,aY rfl⟩;replace C:Hid (A=rY s P x):=aY (jJ.aX.trans C.aX);have Ly:Z P.1<=1000000:=aZ;have Po:Z P.2<=500000:=Oy;obtain⟨t,y⟩:=P;simp only at B Ly Po;obtain⟨vf,ve,rfl,hf,he⟩:=hrl w (K.rf w);have rS:=k1.tr kr;have HE:Hid (∀W,K w W->fM x (av (cB x vf ve)) W):=aY λW k=>⟨_,_,rfl,fO _ _ _ _ hf k,cM he k⟩
   have:∀i,i<8->wr.cell? ⟨b1,off+j*8+i,U⟩=(cB x vf ve)[i]?:=λi hi=>(d wr rS i hi).trans aD
   have:wr.cell? ⟨b1,off+j*8,U⟩=I (G J x.bA):=d0 wr rS;have hx:=bn.new wr 128 (cB x vf ve);have k3:=hx.cG;obtain⟨Af,cf,rfl⟩:=dX hf;obtain⟨Ae,ce,rfl⟩:=bH he;obtain⟨A1,c1,rfl⟩:=B.a.slice;obtain⟨A3,c3,rfl⟩:=B.b.slice;go_upto_region 6 with fail;have Qy:=B.st k3;have eA:=kr.tr k3;generalize wr.alloc _=w3 at *;have O:=hx.cell;go_wp2_with fail
   apply eu (CH.aX w3 (k1.tr eA) (bE x)) eA;intro w4 z iX;have EL:=Qy.st z;have eF:=hx.bM z;have O:=eF.cell;cases hb0:dM s.bq (bE x);rotate_left;have HP:Hid (A=(t,y)):=aY (by rw[C.aX];unfold rY;rw[bV (by simp[hb0])]);exact alu;go_wp2_with fail
   apply eu (CA.aX w4 (k1.tr iX) (bE x)) iX;intro w5 z oJ;have Ge:=EL.st z;have gJ:=eF.bM z;have O:=gJ.cell;cases cK:fJ s.ab (bE x);rotate_left;have HP:Hid (A=(t,y)):=aY (by rw[C.aX];unfold rY;rw[bV (by simp[hb0,cK])]);exact alv;go_wp2_with fail
   apply eu (afF t (bE x) _ w5 Ge.a.bD Ly) oJ;intro w6 z qU;have xQ:=Ge.st z;have lN:=gJ.bM z;have O:=lN.cell;cases hb2:dM t (bE x);rotate_left;have HP:Hid (A=(t,y)):=aY (by rw[C.aX];unfold rY;rw[bV (by simp[hb0,cK,hb2])]);exact alw;go_wp2_with fail
   apply eu (afF y (bE x) _ w6 xQ.b.bD aZ) qU;intro w7 z rM;have Dn:=xQ.st z;have sG:=lN.bM z;have O:=sG.cell;cases dB:dM y (bE x);rotate_left;have HP:Hid (A=(t,y)):=aY (by rw[C.aX];unfold rY;rw[bV (by simp[hb0,cK,hb2,dB])]);exact alx;have HN:Hid (A=if x.bA≠1 then (t,y++[x])else if Z t<4 then (t++[x],y)else (t,y)):=aY (by rw[C.aX];unfold rY;rw[bQ (by simp[hb0,cK,hb2,dB])]);by_cases hk:x.bA≠1
   .have hk2:(x.bA != 1)=true:=vP;have HP:Hid (A=(t,y++[x])):=aY (by rw[HN.aX,bV hk]);go_wp2_with fail
    apply dP (Rp x _ w7 (HE.aX _ (k1.tr rM)) qC);rintro v8 w8⟨H,k8⟩;obtain⟨M,N,rfl,oN⟩:=E5 H;have wP:=Dn.a.blk;have gY:=Dn.b.blk;have Pp:=rM.size;have lM:=Dn.lo;have sQ:=rM.tr k8;have hr:=fL.new (S:=cL) (e:=128) (v:=av (cB x M N)) oN 0 (fw _);have kA:=K.new w8 (aq (cB x M N) 128);have uz:=Dn.st (k8.tr kA);have kL:=sQ.tr kA;have qv:=cQ k8.size kA.size;go_wp2_with (at_builtin;refine j0 rfl _ _ 59 rfl _ 8 96 tH rfl rfl uz.b _ rfl x ?p1 ?p2 ?p3 ?_)
    case p1 => exact hr.less λk hk=>by rcases hk with (hk|hk)|hk;omega;have:=wP k hk;omega;have:=gY k hk;omega
    case p2=>omega
    case p3=>exact cQ Pp qv
    exact ZS
   have hk2:(x.bA != 1)=false:=vP;by_cases oI:Z t<4
   .have rL:(Z t:Int)<4:=aZ;have HP:Hid (A=(t++[x],y)):=aY (by rw[HN.aX,bQ (by simpa using hk),bV oI]);go_wp2_with fail
    apply dP (Rp x _ w7 (HE.aX _ (k1.tr rM)) qC);rintro v8 w8⟨H,k8⟩;obtain⟨M,N,rfl,oN⟩:=E5 H;have wP:=Dn.a.blk;have gY:=Dn.b.blk;have Pp:=rM.size;have lM:=Dn.lo;have sQ:=rM.tr k8;have hr:=fL.new (S:=cL) (e:=128) (v:=av (cB x M N)) oN 0 (fw _);have kA:=K.new w8 (aq (cB x M N) 128);have uz:=Dn.st (k8.tr kA);exact aly
   have HP:Hid (A=(t,y)):=aY (by rw[HN.aX,bQ (by simpa using hk),bQ oI]);have rL:¬(Z t:Int)<4:=aZ;exact alx
  have cE:¬(j:Int)<Z cR:=aZ;obtain rfl:j=Z cR:=aZ;rw[pL]at B;have HT:=aY B;have kF:=k1.tr kr;obtain⟨A1,c1,h1⟩:=B.a.slice;obtain⟨A3,c3,h2⟩:=B.b.slice;subst h1 h2;go_wp2;go_ret2;exact⟨_,_,rfl,by rw[HAd.aX,<- X.aX];exact HT.aX.low (by rw[X.aX];exact k1.size) (bP _),kF⟩
def Lj(s:eT)(a:bY):Bool:=dM s.bq a||dM s.bF a||fJ s.ab a
theorem avb s a vl vp t g w(V:p6 s (av (eO s vl vp t)) w)(hg:bn w g 61 (eO s vl vp t))(H:Z s.bq<=1000000/\Z s.bF<=1000000/\Z s.ab<=1000000) :aK aR 320 #[dD a,aj (I ⟨g,0,U⟩)] w λe X=>e=ak (ar (Lj s a))/\K w X:=by
 have C:Hid (Lj s a=(dM s.bq a||dM s.bF a||fJ s.ab a)):=aY rfl;have O:=aY λW (k:K w W)=>OK V k
 have CH:=aY λW (k:K w W)=>Dx s a (av (eO s vl vp t)) W (O.aX W k) H.1
 have Y:=aY λW (k:K w W)=>M8 s a (av (eO s vl vp t)) W (O.aX W k) H.2.1
 have CA:=aY λW (k:K w W)=>KB s a (av (eO s vl vp t)) W (O.aX W k) H.2.2
 obtain⟨L7,L8,vb',e,h1,h2,h3⟩:=V;simp at e;obtain⟨rfl,rfl,rfl⟩:=e;obtain⟨Al,cl,rfl⟩:=bH h1;obtain⟨Ap,cp,rfl⟩:=bH h2;obtain⟨Ab,cb,rfl⟩:=bH h3;have T:=bn.new w 42 (eI a);have k1:=T.cG;have hg1:=hg.bM k1;generalize Lj s a=R at *;go_in;go_upto_region 1 with fail;generalize w.alloc _=z at *;have M:=T.cells;have B:=hg1.cells;have S:=M z (K.rf _);have Q:=B z (K.rf _);go_wp2_with fail
 apply bW (CH.aX z k1);intro N y;cases hb0:dM s.bq a;rotate_left
 .have HF:Hid (R=aA):=aY (by rw[C.aX,hb0];simp);have kF:=k1.tr y;go_wp2;exact DJ
 have S:=M N y;have Q:=B N y;go_wp2_with fail
 apply eu (Y.aX N (k1.tr y)) y;intro A k3 j;cases cK:dM s.bF a;rotate_left
 .have HF:Hid (R=aA):=aY (by rw[C.aX,cK];simp);have kF:=k1.tr j;go_wp2;exact DJ
 have S:=M A j;have Q:=B A j;go_wp2_with fail
 apply bW (CA.aX A (k1.tr j));intro w4 k4;have HF:Hid (R=fJ s.ab a):=aY (by rw[C.aX,hb0,cK];rfl);have kF:=k1.tr (j.tr k4);go_wp2;exact DJ
theorem afG s:∀(l:List bU) (p:List bU×List bY),Z (l.foldl (lT s) p).1<=Z p.1+Z l/\Z (l.foldl (lT s) p).2<=Z p.2+Z l:=by
 intro l;induction l with
 | nil=>intro p;simp
 | cons x l j => grind [lT]
theorem ath s l vl vp vb va w(hs:p6 s (av (eO s vl vp vb)) w)(ha:bD cL l va w)(Qu:∀x∈l,gu x)(lu:Z s.bq<=1000000/\Z s.bF<=1000000/\Z s.ab<=1000000)(Qx:Z l<=500000) :aK aR 295 #[av (eO s vl vp vb),va] w λe w'=>∃Y v2,e=ak (au #[Y,v2])/\nO (D (L w)) (D (L w)) 128 cL (pG s l).1 Y 42 dQ (pG s l).2 v2 w'/\K w w':=by
 have Bw:=aY hs;have HAd:Hid (pG s l=l.foldl (lT s) ([],[])):=aY rfl;have Cs:=aY λj=>afG s (l.take j) ([],[])
 have HS:=aY Qu;obtain⟨L7,L8,vb',e,h1,h2,h3⟩:=hs;simp at e;obtain⟨rfl,rfl,rfl⟩:=e;obtain⟨Al,cl,rfl⟩:=bH h1;obtain⟨Ap,cp,rfl⟩:=bH h2;obtain⟨Ab,cb,rfl⟩:=bH h3;obtain⟨Aa,ca,rfl,hl,-⟩:=ha;generalize pG s l=R at *;generalize aEQ:eO s (F Al (Z s.bq) cl) (F Ap (Z s.bF) cp) (F Ab (Z s.ab) cb)=sa at *;have H:=bn.new w 61 sa;have k1:=H.cG;subst aEQ;go_in;go_wp2;go_step3;generalize w.alloc _=C at *;generalize pz:D (L w)=lo at H|-;have pA:=aY pz;have hz1:lo<=D (L C):=by rw[<- pz];exact k1.size
 have CK:=aY λW (k:K C W) a=>avb s a _ _ _ lo W (OK Bw.aX (k1.tr k)) (H.bM k) lu
 have:=H.cells;have kk:=K.rf C;have A:nO lo (D (L C)) 128 cL ([]:List bU) (F U 0 0) 42 dQ ([]:List bY) (F U 0 0) C:=nO.abp (bK.nil _ _ _ _ _) hz1;go_wp2_with fail
 go_step3;go_wp2_with fail
 go_loopw [6,7,10,14] (fun o1 o2 _ i W=>∃j:Nat,j<=Z l/\i=G J j/\nO lo (D (L C)) 128 cL ((l.take j).foldl (lT s) ([],[])).1 o1 42 dQ ((l.take j).foldl (lT s) ([],[])).2 o2 W/\K C W) (fun _ _ _ i _=>Z l-(aO i).toNat)
 case atStart=>exact⟨0,aZ,rfl,iF,kk⟩
 case round =>
  obtain⟨j,hj,rfl,A,kr⟩:=hrel;by_cases Q:j<Z l
  .have cE:(j:Int)<Z l:=aZ;obtain⟨b1,off,cs,rfl,mR,hrl,d0,d⟩:=fE hl j Q bG;have HF:=aY (fold_succ (lT s) l ([],[]) j Q);have qC:=HS.aX _ (dJ Q);have hpl:=Cs.aX j;generalize l[j]=x at *;generalize (l.take j).foldl (lT s) ([],[])=P at *;obtain⟨z,jJ⟩:∃z,Hid (z=(l.take (j+1)).foldl (lT s) ([],[])):=⟨_,aY rfl⟩;replace HF:Hid (z=lT s P x):=aY (jJ.aX.trans HF.aX);have Ly:Z P.1<=500000:=Oy;have Po:Z P.2<=500000:=Oy;obtain⟨t,y⟩:=P;simp only at A Ly Po;obtain⟨vf,V,rfl,hf,he⟩:=hrl w (K.rf w);have rS:=k1.tr kr;have HE:Hid (∀W,K w W->fM x (av (cB x vf V)) W):=aY λW k=>⟨_,_,rfl,fO _ _ _ _ hf k,cM he k⟩
   have:∀i,i<8->wr.cell? ⟨b1,off+j*8+i,U⟩=(cB x vf V)[i]?:=λi hi=>(d wr rS i hi).trans aD
   have:wr.cell? ⟨b1,off+j*8,U⟩=I (G J x.bA):=d0 wr rS;have M:=bn.new wr 128 (cB x vf V);have k3:=M.cG;obtain⟨Af,cf,rfl⟩:=dX hf;obtain⟨Ae,ce,rfl⟩:=bH he;obtain⟨X,c1,rfl⟩:=A.a.slice;obtain⟨A3,c3,rfl⟩:=A.b.slice;go_upto_region 7 with fail;have Qy:=A.st k3;have eA:=kr.tr k3;generalize wr.alloc _=w3 at *;have O:=M.cell;go_wp2_with fail
   apply eu (CK.aX w3 eA (bE x)) eA;intro w4 B iX;have EL:=Qy.st B;have eF:=M.bM B;have O:=eF.cell;cases hb0:Lj s (bE x);rotate_left;have HP:Hid (z=(t,y)):=aY aBP;exact alu;go_wp2_with fail
   apply eu (afd t (bE x) _ w4 EL.a.bD aZ) iX;intro w5 B oJ;have Ge:=EL.st B;have gJ:=eF.bM B;have O:=gJ.cell;cases hb2:dM t (bE x);rotate_left;have HP:Hid (z=(t,y)):=aY (by rw[HF.aX];unfold lT;rw[bV (by simp[hb2])]);exact alv;go_wp2_with fail
   apply eu (Iw y (bE x) _ w5 Ge.b.bD aZ) oJ;intro T B qU;have xQ:=Ge.st B;have lN:=gJ.bM B;have O:=lN.cell;cases dB:fJ y (bE x);rotate_left;have HP:Hid (z=(t,y)):=aY (by rw[HF.aX];unfold lT;rw[bV (by simp[dB])]);exact alw;have HN:Hid (z=if Z s.bF+Z t<6 then (t++[x],y)else (t,y++[bE x])):=aY aBQ;have wP:=xQ.a.blk;have gY:=xQ.b.blk;have Pp:=qU.size;by_cases h6:Z s.bF+Z t<6
   .have h6i:(Z s.bF:Int)+Z t<6:=aZ;have HP:Hid (z=(t++[x],y)):=aY (by rw[HN.aX,bV h6]);go_wp2_with fail
    apply dP (atT x _ T (HE.aX _ (k1.tr qU)) qC);rintro v8 w8⟨ho,k8⟩;obtain⟨qA,pw,rfl,oN⟩:=E5 ho;have sQ:=qU.tr k8;have hr:=fL.new (S:=cL) (e:=128) (v:=av (cB x qA pw)) oN 0 (fw _);have kA:=K.new w8 (aq (cB x qA pw) 128);have uz:=xQ.st (k8.tr kA);exact aly
   have h6i:¬(Z s.bF:Int)+Z t<6:=aZ;have HP:Hid (z=(t,y++[bE x])):=aY (by rw[HN.aX,bQ h6]);have hr:=fL.new (S:=dQ) (e:=42) (x:=bE x) (v:=av (eI (bE x))) (w:=T) (N:=λk=>(k<lo\/aW (F X (Z t) c1)=I k)\/aW (F A3 (Z y) c3)=I k) (λW u=>rfl) 0 (fw _);have kA:=K.new T (aq (eI (bE x)) 42);have uz:=xQ.st kA;have kL:=qU.tr kA;have qv:=kA.size;go_wp2_with (at_builtin;refine j0 rfl _ _ 53 rfl _ 3 24 sK rfl rfl uz.b _ rfl (bE x) ?p1 ?p2 ?p3 ?_)
   case p1=>exact hr
   case p2=>omega
   case p3=>exact cQ Pp qv
   exact ZS
  have cE:¬(j:Int)<Z l:=aZ;have HR:Hid (R=(l.take j).foldl (lT s) ([],[])):=aY (by rw[HAd.aX,jq (by omega)]);have kF:=k1.tr kr;generalize (l.take j).foldl (lT s) ([],[])=P at *;have HT:=aY (A.low (base':=lo) hz1 (bP _));obtain⟨X,c1,rfl⟩:=A.a.slice;obtain⟨A3,c3,rfl⟩:=A.b.slice;go_wp2;go_ret2;exact⟨_,_,rfl,by rw[HR.aX,pA.aX];exact HT.aX,kF⟩
theorem KO p n:Z (I6 p n)<=Z p:=by grind [I6,uI]
theorem aBR{m v W}(h:nU m v W):Bv.rel m v.cells.toList W:=by obtain⟨z,t,j,A,B,y,rfl,h⟩:=h;exact⟨z,t,j,A,B,y,rfl,h⟩
theorem Xa{M p B w}(h:df M p B w)(hG:dq B) :aK aR 163 #[aj (I ⟨p.g,0,U⟩)] w λe w'=>∃v',e=ak v'/\Fx M (λW=>bD Bv (fK B) v' W) w'/\K w w':=by
 have H:=aY h;have C1:=aY (WX h hG);have:Z (si B)<=16:=cQ (KO _ _) (rr hG.tr).2;have HM:=aY h.low;have q:=h.q;have Q1:=aY λW (k:K w W) x=>(E0 (D3 (P:=aR) (kt:=3) underlying3) underlying159 (anD W) (h.rep.st k) x).2
 have HL:Hid (fK B=(si B).map (kZ B)):=aY rfl;generalize si B=t at *;generalize fK B=R at *;obtain⟨g,gl,gd,gr,gt,vd,vr,vp,vh,vl,vq,va,vt,vf,vw,kr⟩:=p;simp only at q Q1;clear h hG;go_in;go_wp2_with fail
 apply dP C1.aX;rintro v1 C⟨gG,k1⟩;obtain⟨A1,c1,e1,lM,-⟩:=gG.bD;subst e1;have Mk:=aY lM;clear gG lM C1;have z:=bK.nil (λk=>M k) (D (L C)) 239 Bv C;have kk:=K.rf C;go_wp2_with fail
 go_loopw [3,5,9] (fun o _ i W=>∃j:Nat,j<=Z t/\i=G J j/\bK (fun k=>M k) (D (L C)) 239 Bv ((t.take j).map (kZ B)) o W/\K C W) (fun _ _ i _=>Z t-(aO i).toNat)
 case atStart=>exact⟨0,aZ,rfl,iF,kk⟩
 case round =>
  clear z kk;obtain⟨j,hj,rfl,z,A⟩:=hrel;by_cases hlt:j<Z t
  .have cE:(j:Int)<Z t:=aZ;obtain⟨b,off,rfl,hcell⟩:=ints_at Mk.aX aZ;have cj:=hcell wr A j hlt;have HT:Hid ((t.take (j+1)).map (kZ B)=(t.take j).map (kZ B)++[kZ B t[j]]):=aY Zj;generalize t[j]=x at *;have O:Fx (λk=>M k\/D (L w)<=k) (λW=>nU (kZ B x) ((eX kr x).getD (av Gd)) W) wr:=(H.aX.dz.to (X:=λ_=>False) (N:=λk=>M k\/D (L w)<=k) (bf.cz (k1.tr A) _) (λ_ h=>h.elim) (λk y hx=>hx.resolve_right aZ)).mono λW d=>d.dm.look x
   obtain⟨m1,T,V,m4,m5,Q,em,hm⟩:=O.now;have Y:=Q1.aX wr (k1.tr A) x;rw[em]at Y O;have qg:=q wr (k1.tr A);simp only[encI]at Y;have dR:=z.blk;have hF1:=O.mono λW h=>aBR h
   have hr:=fL.new (S:=Bv) (e:=239) (v:=av (nh (kZ B x) m1 T V m4 m5 Q)) hF1 0 (fw _);have dS:=z.st ((K.rf wr).al (aq (nh (kZ B x) m1 T V m4 m5 Q) 239));have eA:=A.tr ((K.rf wr).al (aq (nh (kZ B x) m1 T V m4 m5 Q) 239));clear z O hF1 hm em hcell;go_wp2_with (at_builtin;refine j0 rfl _ _ 243 rfl _ 8 160 TMs rfl rfl dS _ rfl (kZ B x) ?p1 ?p2 ?p3 ?_)
   case p1 =>
    refine hr.less λk y=>?_
    rcases y with y|y;exact aI y;have:=(dR k y).1;have:=k1.size;exact aJ aZ
   case p2=>simp;omega
   case p3=>exact eA.size
   intro v9 w9 cX dW _ cV;rw[<- List.map_take,<- HT.aX]at cX;have kL:=eA.trans cV;clear hr dS Y qg cj;exact ZT
  have cE:¬(j:Int)<Z t:=aZ;obtain rfl:j=Z t:=aZ;rw[pL]at z;have HF:Hid (Fx M (λW=>bD Bv R _ W) wr):=aY (by rw[HL.aX];exact z.fx λk y=>cZ (HM.aX k y) k1.size);have kF:=k1.tr A;clear z;exact Zy
def findF(t:eU)(is:Bool)(_:Nat)(xs:Array aQ)(c:aQ)(_:aP):Prop:=∃vf j,xs=jz t vf j/\c=ar is/\(∃A k,vf=F A (Z t.e.f) k)/\∃A k,j=F A (Z t.e.es) k
abbrev aoJ:Array aQ:=jz yE (F U 0 0) (F U 0 0)
theorem ati{M p B w}(h:df M p B w)(hG:dq B) a :aK aR 51 #[aj (I ⟨p.g,0,U⟩),dD a] w λe w'=>e=ak (G J (GG B a))/\K w w':=by
 have HR:Hid (GG B a=if dM B.st.bq a then 3 else if vO B a then 4 else if (zQ B.bI a).2 then (if (zQ B.bI a).1.eC then 2 else 1)else 0):=aY rfl;have H:=aY h;have HG:=aY hG;have t:=bn.new w 42 #[G J a.1,G E a.2.1,G E a.2.2];have k1:=t.cG;have Q:=aY λW (k:K w W)=>auU B.bI a p.vt W (h.dz.at k).bI hG.tx.small alz
 have N:=aY λW (k:K w W)=>Dx B.st a (av (eO B.st p.vl p.vq p.va)) W ⟨_,_,_,rfl,(h.dz.at k).bq,(h.dz.at k).bF,(h.dz.at k).ab⟩ E7
 have hs1:=bH h.dz.now.bq;have jI:=bH h.dz.now.bF;have jY:=bH h.dz.now.ab;have hs4:=bH h.dz.now.bI;have q:=h.q;obtain⟨g,gl,gd,gr,gt,vd,vr,vp,vh,vl,vq,va,vt,vf,vw,kr⟩:=p;simp only at q Q N hs1 jI jY hs4;obtain⟨Al,cl,rfl⟩:=hs1;obtain⟨Ap,cp,rfl⟩:=jI;obtain⟨Aa,ca,rfl⟩:=jY;obtain⟨At,ct,rfl⟩:=hs4;obtain⟨S,pk⟩:∃S,S=zQ B.bI a:=⟨_,rfl⟩;obtain⟨hl,hhl⟩:∃hl,hl=dM B.st.bq a:=⟨_,rfl⟩;obtain⟨ha,hha⟩:∃ha,ha=vO B a:=⟨_,rfl⟩;simp only[<- pk,<- hhl,<- hha]at Q N HR;have HA:=aY hha;obtain⟨tx,is⟩:=S;clear h hG pk hhl hha;generalize GG B a=R at *;go_in;go_upto_region 3 with fail;generalize w.alloc _=w1 at *;generalize D (L w)=ga at t|-;have qb:=t.cells;have q1:=λW (k:K w1 W)=>q W (k1.tr k)
 have C3:=aY λW (k:K w1 W)=>Q.aX W (k1.tr k)
 clear t Q q;refine aeU 178 aoJ (λi=>[aj (I ⟨g,0,U⟩),aj (I ⟨g,0,U⟩),aj (I ⟨g,8,U⟩),F At (Z B.bI) ct,dD a].getD i undef) (findF tx is)
  [([],[]),([0],[(10,0)]),([1],[(11,1)]),([2],[(12,2)]),([],[]),([3,4],[(13,3),(14,4)]),([5],[(15,5)]),([6],[(9,6)]),([6],[(9,6)]),([],[]),([7,9],[(5,9),(16,7)]),([8],[(17,8)])] 94 #[F At (Z B.bI) ct,dD a] 37 rfl dH dH dH rfl rfl ?gd ?pre ?call ?cc ?h6 ?h7 ?h8 ?h9 ?lL ?tz ?hk ?hlow ?_
 case gd=>simp
 case pre => intro i hi V W kW hp;have:i=0\/i=1\/i=2\/i=3\/i=4:=aZ;rcases this with rfl|rfl|rfl|rfl|rfl <;> simp at hp <;> simp[nS,bR,aC,hp,aL,bT,q1,qb,kW,go_sem]
 case call=>intro V W kW h3 h4;simp at h3 h4;simp[nS,bR,aC,h3,h4,aL,bT,go_sem]
 case cc => intro W kW;refine (C3.aX W kW).mono ?_;rintro e w3⟨u,rfl,⟨vf,ve,rfl,hf,he⟩,k3⟩;obtain⟨Af,cf,rfl⟩:=dX hf;obtain⟨Ae,ce,rfl⟩:=bH he;exact⟨_,_,rfl,⟨_,_,rfl,rfl,⟨_,_,rfl⟩,⟨_,_,rfl⟩⟩,k3⟩
 case h6=>intro V W v y;simp[nS,bR,aC,y,aL,bT,go_sem]
 case h7=>intro V W A c y;simp[nS,bR,aC,y,aL,bT,go_sem]
 case h8=>intro V W A c y;simp[nS,bR,aC,y,aL,bT,go_sem]
 case h9=>intro V W;simp[nS,aL,bT,go_sem];rfl
 case lL => rintro V W b lo A c W0 X T t⟨vf,ve,rfl,-,⟨Af,cf,rfl⟩,Ae,ce,rfl⟩;show ∃j,(aL (bR [(5,9),(16,7)] _ V) (bT (.store 178 (.tmp 5) (.tmp 16)) _)).run aR W=_/\_/\_;exact af9 (.tmp 5) (.tmp 16) 178 _ 178 b 0 aoJ (jz tx (F Af (Z tx.e.f) cf) (F Ae (Z tx.e.es) ce)) iF iF t dH bu (by simp[Value.oneCell'])
 case tz=>intro V W c y;simp[nS,bR,aC,y,aL,bT,go_sem]
 case hk=>exact λlo A c W j h k=>h
 case hlow=>exact λlo A c W j b h t u=>h
 intro V W b A c lo kW hcs e5 e6 T e8 X sP dR hbk hlo Gb;obtain⟨vf,ve,rfl,rfl,⟨Af,cf,rfl⟩,Ae,ce,rfl⟩:=Gb;simp only[iO,Act.put,xm,vU,vT,e5,e6,T,e8,X,sP];have z:=k1.tr kW;have q2:=λj (k:K W j)=>q1 j (kW.tr k)
 have Dd:=λj (k:K W j)=>qb j (kW.tr k)
 have qt:=hbk.cells;have C4:=aY λj (k:K W j)=>N.aX j (z.tr k)
 have O:=aY λj (k:K W j)=>WA (H.aX.st (z.tr k)) HG.aX a
 simp only[<- HA.aX]at O;clear hcs e5 e6 T e8 X sP q1 qb N C3 hbk HA H HG;go_upto_region 4 with fail;cases hl;rotate_left
 .have HF:Hid (R=3):=aY jB;have qs:=aB q2 Dd;refine fD 7 ?_;iterate 5 refine bB.i ?_
  refine bB.is (ar aA) (λV W kW hp=>?_) ?_
  ·(try simp only[dN,bZ,cC,dK,dL,bS]at hp)
   exact alA
  refine bB.i ?_;clear qs;intro V W kW hA;simp only[bZ,cC,dF,bS,Nat.reduceAdd]at hA;refine bN.h ?_;have kF:=z.tr kW;clear hA q2 Dd O qt HR;go_wp2;exact DJ
 have qs:=aB q2 Dd;refine fD 7 ?_;iterate 5 refine bB.i ?_
 refine bB.is (ar az) (λV W kW hp=>?_) ?_
 ·(try simp only[dN,bZ,cC,dK,dL,bS]at hp)
  exact alA
 refine bB.i ?_;clear qs;intro V W kW hA;simp only[bZ,cC,dF,bS,Nat.reduceAdd]at hA;refine bN.h ?_;have kF:=z.tr kW;have C6:=aY (O.aX W kW);have qa3:=λi=>Dd W kW i
 have Y:=aY λj (k:K W j)=>qt j (kW.tr k)
 clear hA q2 Dd O qt C4 z;go_wp2_with fail
 refine C6.aX.mono ?_;rintro e w9⟨rfl,k9⟩;have kG:=kF.tr k9;clear C6;cases ha;rotate_left;have HF:Hid (R=4):=aY jB;clear HR;exact Ta;have C:=Y.aX w9 k9;have HE:Hid (R=if is then (if tx.eC then 2 else 1)else 0):=aY jB;clear HR qa3;cases FR:is;have HF:Hid (R=0):=aY (by rw[HE.aX,FR];rfl);exact Ta;cases abG:tx.eC;have HF:Hid (R=1):=aY alB;have q8:w9.cell? ⟨b,8,U⟩=I (ar az):=(C 8).trans (by simp[jz,abG]);clear C Y;exact Ta;have HF:Hid (R=2):=aY alB;have q8:w9.cell? ⟨b,8,U⟩=I (ar aA):=(C 8).trans (by simp[jz,abG]);clear C Y;exact Ta
theorem ayy B o x(h:Z o<=16):Z (mO B o x)<=16:=by grind [mO]
theorem R4 B:∀(l o:List bU),Z o<=16->Z (l.foldl (mO B) o)<=16:=by
 intro l;induction l with
 | nil=>intro o h;exact h
 | cons x l j=>intro o h;exact j _ (ayy B o x h)
theorem TL x cs W(h:cL.rel x cs W):cs[0]?≠I (ar aA):=by obtain⟨vf,j,rfl,-⟩:=h;simp
theorem afe{MB Y p B w}(h:df MB p B w)(hG:dq B) base t tb o l C vl9(hb:bn w t 59 #[C])(ht:bn w tb 114 #[aj (I ⟨p.g,0,U⟩)])(M:bK Y base 128 cL o C w)(hl:iw (λk=>Y k\/aW C=I k) cL l vl9 w)(hYb:∀k,Y k->k<base)(Ke:Y t)(hMo:MB t)(hMv:∀k,aW C=I k->MB k)(hXo:¬cY p t)(hXb:∀k,cY p k->k<base)(Vz:tb<base)(MH:tb≠t)(hbase:base<=D (L w))(hlo:Z o<=16)(Dl:Z l<=1000000) :aK aR 229 #[vl9,aj (I ⟨t,0,U⟩),aj (I ⟨tb,0,U⟩)] w λe w'=>e=ak (au #[])/\Pm Y base 59 128 cL (l.foldl (mO B) o) C t w w':=by
 have H:=aY h;have HG:=aY hG;have HL:=aY hl;have HX:=aY hMv;have HXb:=aY hXb;have dR:=M.blk;have:=hYb t Ke;obtain⟨A9,c9,rfl⟩:=hl.slice;obtain⟨R,HR⟩:∃R,Hid (R=l.foldl (mO B) o):=⟨_,aY rfl⟩;rw[<- HR.aX];have HJ:=aY λ(j:Nat) (hj:j<Z l)=>fold_succ (mO B) l o j hj
 have HN:=aY λ(j:Nat)=>R4 B (l.take j) o hlo
 have HT:=aY ht;have uu:bf (λk=>k=t\/aW C=I k) w w:=bf.rf _ _;clear h hG hl hMv ht hXb;go_in;go_wp2_with fail
 go_loopw [5,6,9] (fun _ _ i W=>∃(j:Nat) (Q:aQ),j<=Z l/\i=G J j/\bn W t 59 #[Q]/\bK Y base 128 cL ((l.take j).foldl (mO B) o) Q W/\(∀k,aW Q=I k->aW C=I k\/D (L w)<=k)/\bf (fun k=>k=t\/aW C=I k) w W) (fun _ _ i _=>Z l-(aO i).toNat)
 case atStart=>exact⟨0,C,aZ,rfl,hb,iF,λk hk=>aI hk,uu⟩
 case round =>
  clear hb M uu;obtain⟨j,Q,hj,rfl,hb,M,hat,u⟩:=hrel;have pr:=u.size;by_cases hlt:j<Z l
  .have cE:(j:Int)<Z l:=aZ;obtain⟨b1,o1,c1,cs1,e9,fR,hcl,hF,hcell⟩:=HL.aX.at j hlt bG;injection e9 with e9 _ iV;subst e9 iV;have HF:=aY (HJ.aX j hlt);have:=HN.aX j;generalize l[j]=x at *;generalize (l.take j).foldl (mO B) o=z at *;obtain⟨T,jJ⟩:∃T,Hid (T=(l.take (j+1)).foldl (mO B) o):=⟨_,aY rfl⟩;replace HF:Hid (T=mO B z x):=aY (jJ.aX.trans HF.aX);have Pq:Z cs1=8:=hcl;have HFr:Hid (Fx (λk=>Y k\/aW Q=I k) (λW=>cL.rel x cs1 W) wr):=aY (hF.to u (λk hk=>hk.elim (λe=>e▸aI Ke) aJ) λk hk A=>by
    rcases A with A|A;exact aI A;rcases hat k A with h|h;exact aJ h;omega)
   have wQ:=hcell wr (u.more λk hk=>hk.elim (λe=>e▸aI Ke) aJ);obtain⟨vf,ve,rfl,hf,he⟩:=hF.now;have q9:∀i,i<8->wr.cell? ⟨b1,o1+j*8+i,U⟩=(cB x vf ve)[i]?:=λi hi=>(wQ i hi).trans aD
   have q0:wr.cell? ⟨b1,o1+j*8,U⟩=I (G J x.bA):=q9 0 bG;have A:=bn.new wr 128 (cB x vf ve);have k3:=A.cG;obtain⟨Af,cf,rfl⟩:=dX hf;obtain⟨Ae,ce,rfl⟩:=bH he;obtain⟨Av,cv,rfl⟩:=M.slice;have hBr:=H.aX.far u (λk hk=>hk.elim (λe=>e▸hMo) (HX.aX k)) (λk hk A=>by
    rcases hk with rfl|hk;exact hXo A;have:=HXb.aX k A;have:=(dR k hk).1;omega) (λk _ hk=>hk) H.aX.sub (λk hk=>cZ (H.aX.low k hk) pr)
   have htr:=HT.aX.cF u (by
    rintro (rfl|hk);exact MH rfl;have:=(dR _ hk).1;omega)
   have HB:=aY hBr;clear hf he hF hcell wQ hcl Pq fR hBr;go_upto_region 3 with fail;generalize wr.alloc _=w3 at *;obtain⟨ga,pA⟩:∃ga,Hid (ga=D (L wr)):=⟨_,aY rfl⟩;rw[<- pA.aX]at A|-;clear q9 q0;have dB:=hb.bM k3;have Hx:=htr.bM k3;have dS:=M.st k3;have C1:=aY (Rx z _ (ko (bE x)) 230 #[aj (I ⟨ga,0,U⟩)] w3 dS.bD aZ (λ_ _=>dH) (λW k y _ u hu=>awA y x u _ _ ga W hu (A.bM k)));have Kg:Hid (z.any (ko (bE x))=dM z (bE x)):=aY rfl;rw[Kg.aX]at C1;have q1:=dB.cell;go_wp2_with fail
   apply eu C1.aX k3;intro w4 k4 Bn;have hb4:=dB.bM k4;have ht4:=Hx.bM k4;have eF:=A.bM k4;have fC:=dS.st k4;have N:=aY (HB.aX.st Bn);have HF4:=aY (HFr.aX.k Bn);clear C1 Kg q1 dB Hx A dS HB HFr hb M htr;have C2:=aY λW (k:K w4 W)=>Dx B.st (bE x) (av (eO B.st p.vl p.vq p.va)) W ⟨_,_,_,rfl,(N.aX.dz.at k).bq,(N.aX.dz.at k).bF,(N.aX.dz.at k).ab⟩ (by have:=HG.aX.dk.len;omega)
   have C3:=aY λW (k:K w4 W)=>WA (N.aX.st k) HG.aX (bE x)
   have HP:Hid (T=if dM z (bE x)||dM B.st.bq (bE x)||vO B (bE x)||decide (16<=Z z)then z else z++[x]):=aY HF.aX;generalize dM z (bE x)=c1 at *;generalize dM B.st.bq (bE x)=c2 at *;generalize vO B (bE x)=c3 at *;have hs1:=bH N.aX.dz.now.bq;have jI:=bH N.aX.dz.now.bF;have jY:=bH N.aX.dz.now.ab;have q:=N.aX.q;have qo:=hb4.cells;have qt:=ht4.cells;have qx:=eF.cells;obtain⟨g,gl,gd,gr,gt,vd,vr,vp,vh,vl,vq,va,vt,nc,vw,kr⟩:=p;simp only at q C2 C3 hs1 jI jY qt;obtain⟨Al,cl,rfl⟩:=hs1;obtain⟨Aq,cq,rfl⟩:=jI;obtain⟨Aa,ca,rfl⟩:=jY;clear HF;have hc:(T=z/\(c1=aA\/c1=az/\c2=aA\/(c1=az/\c2=az)/\c3=aA\/((c1=az/\c2=az)/\c3=az)/\(16:Int)<=(Z z:Int)))\/T=z++[x]/\((c1=az/\c2=az)/\c3=az)/\¬(16:Int)<=(Z z:Int):=by rw[HP.aX];have:=@Int.ofNat_le 16 (Z z);by_cases h:16<=Z z <;> cases c1 <;> cases c2 <;> cases c3 <;> simp[h] <;> omega
   have qs:=aB q (aB qo (aB qt (aB qx (show bE x=(x.br,x.life,x.eY)from rfl))));rcases hc with ⟨HQ,rfl|⟨rfl,rfl⟩|⟨⟨rfl,rfl⟩,rfl⟩|⟨⟨⟨rfl,rfl⟩,rfl⟩,aER⟩⟩|⟨HQ,⟨⟨rfl,rfl⟩,rfl⟩,aER⟩;all_goals
    replace HQ:=aY HQ
    go_upto_region 4 with fail
    refine fD 21 ?_
    iterate 21 first|refine bB.i ?_|refine bB.v C2.aX ?_|refine bB.v C3.aX ?_
    clear qs
    intro V W kW hA
    simp only[bZ,cC,dF,bS,Nat.reduceAdd]at hA
    refine bN.h ?_
    have qi:=hb4.bM kW
    have EG:=fC.st kW
    have uW:=u.tr (bf.cz (Bn.tr kW) _)
    clear hA q qo qt qx hb4 fC C2 C3
   exact Tb;exact Tb;exact Tb;exact Tb;have F4:=eF.bM kW;have HFW:=HF4.aX.k kW;clear eF;have q1:=qi.cell;have q2:=F4.cell;have aES:=EG.blk;have kA:=K.new W (aq (cB x (F Af (Z x.f) cf) (F Ae (Z x.es) ce)) 128);have Ic:=EG.st kA;have wP:=qi.bM kA;have hr:=fL.new (S:=cL) (e:=128) (v:=av (cB x (F Af (Z x.f) cf) (F Ae (Z x.es) ce))) HFW 0 (fw _);go_wp2_with (at_builtin;refine j0 rfl _ _ 59 rfl _ 8 96 tH rfl rfl Ic _ rfl x ?p1 ?p2 ?p3 ?_)
   case p1=>exact hr.less λk hk=>hk
   case p2=>omega
   case p3=>exact cQ hbase (cQ uW.size kA.size)
   intro O w9 cX dW gD cV;rw[<- HQ.aX]at cX;have uU:=wP.grown dW (by intro e;have:=(aES t e.symm).1;omega);have q9:=uU.cell;have:=uU.frozen;have HU:=aY ((uW.tr (bf.cz kA _)).ir (X:=λk=>k=t\/aW C=I k) (Y:=λk=>k=t\/aW (F Av (Z z) cv)=I k) ((bf.gy (X:=λk=>k=t\/aW (F Av (Z z) cv)=I k) dW λk e=>aJ e).tr (bf.dx (X:=λk=>k=t\/aW (F Av (Z z) cv)=I k) (aI rfl) 0 O)) λk hk h=>by
    rcases h with h|h;exact aI h;rcases hat k h with h|h;exact aJ h;omega)
   have HBB:Hid (bn (aV w9 ⟨t,0,U⟩ O) t 59 #[O]):=aY (uU.cH 0 O);have Kf:=aY (cX.to (X:=λk=>k=t) (bf.dx (X:=λk=>k=t) rfl 0 O) (λk hk=>ZP) (λk hk e=>alC) λk _ hk=>aI hk);have wI:Hid (∀k,aW O=I k->aW C=I k\/D (L w)<=k):=aY λk hk=>by rcases gD with h|h;exact hat k (h▸hk);rw[h]at hk;injection hk with hk;have:=uW.size;exact aJ aZ
   obtain⟨A9',c9',rfl⟩:=cX.slice;clear cX dW gD cV uU wP Ic hr q1 q2 qi EG F4;go_wp2;go_roundw
   case rel=>exact⟨j+1,_,aZ,dh,HBB.aX,by rw[<- jJ.aX];exact Kf.aX,wI.aX,HU.aX⟩
   case measure=>simp[aO];omega
  have cE:¬(j:Int)<Z l:=aZ;obtain rfl:j=Z l:=aZ;rw[pL,<- HR.aX]at M;go_wp2;go_end0;exact⟨rfl,Q,hb,M,hat,u⟩
theorem XD{B y}:∀ {l o:List bU},y∈l.foldl (mO B) o->y∈o\/y∈l:=by
 intro l;induction l with
 | nil=>intro o h;exact aI h
 | cons x l j => grind [mO]
theorem ag3{B y}:∀ {l:List ig} {o:List bU},y∈l.foldl (λo k=>k.cR.foldl (mO B) o) o->y∈o\/∃m∈l,y∈m.cR:=by
 intro l;induction l with
 | nil=>intro o h;exact aI h
 | cons x l j =>
  intro o h;rcases j h with h|⟨m,hm,h⟩
  .grind [XD]
  grind
theorem ag4 B:∀(l:List ig) (o:List bU),Z o<=16->Z (l.foldl (λo k=>k.cR.foldl (mO B) o) o)<=16:=by
 intro l;induction l with
 | nil=>intro o h;exact h
 | cons x l j=>intro o h;exact j _ (R4 B _ _ h)
theorem ag5 B:Z (nr B)<=16:=ag4 B _ _ (R4 B _ _ bu)
theorem dq.rep{B}(j:dq B) k:kZ B k=Ck\/fT (kZ B k)=aA/\pU (kZ B k):=by
 unfold kZ;cases h:B.dm.find? λp=>decide (p.1=k)with
 | none=>exact aI rfl
 | some x=>exact aJ (j.dm x (List.mem_of_find?_eq_some h))
theorem Yb{α f}{l:List α}(h:mS f l=aA):Z l<=16/\∀x∈l,f x=true:=by grind [mS]
theorem dq.last{B}(H:dq B){m}(h:m∈fK B):(∀x∈m.cR,dE x=aA/\dZ x)/\Z m.eE<=16/\Z m.cR<=16:=by
 obtain⟨k,-,rfl⟩:=List.mem_map.1 h;rcases H.rep k with e|⟨C,A⟩
 .grind [Ck]
 have j:=C;unfold fT at j;simp only[fI]at j;obtain⟨⟨⟨⟨⟨⟨-,z⟩,t⟩,-⟩,-⟩,-⟩,-⟩:=j;exact⟨λx y=>⟨(Yb t).2 x y,A.2.2.2.1 x y⟩,(Yb z).1,(Yb t).1⟩
theorem dq.cR{B}(j:dq B){x}(h:x∈nr B):dE x=aA/\dZ x:=by rcases ag3 h with h|⟨m,hm,h⟩;rcases XD h with h|h;simp at h;obtain⟨t,y,rfl⟩:=List.mem_map.1 (oW h);have:=j.tx.each t (List.mem_filter.1 y).1;exact⟨this.1,this.2.1⟩;exact (j.last hm).1 x h
theorem ag6{B}(j:dq B):Z (fK B)<=16:=by unfold fK;rw[List.length_map];exact cQ (KO _ _) (rr j.tr).2
theorem aC6 x cs W(h:Bv.rel x cs W):cs[0]?≠I (ar aA):=by obtain⟨z,t,j,A,B,y,rfl,-⟩:=h;simp
theorem afH{M p B w}(h:df M p B w)(hG:dq B) :aK aR 164 #[aj (I ⟨p.g,0,U⟩)] w λe w'=>∃z,e=ak z/\Fx M (λW=>bD cL (nr B) z W) w'/\K w w':=by
 have H:=aY h;have HG:=aY hG;have HM:=aY h.low;have EN:=aY h.sub;have HAB:Hid (nr B=(fK B).foldl (λo k=>k.cR.foldl (mO B) o) ((lI B.bI).foldl (mO B) [])):=aY rfl;have HJ:=aY λ(j:Nat) (hj:j<Z (fK B))=>fold_succ (λo (k:ig)=>k.cR.foldl (mO B) o) (fK B) ((lI B.bI).foldl (mO B) []) j hj
 have HN:=aY λ(j:Nat)=>ag4 B ((fK B).take j) _ (R4 B (lI B.bI) [] bu)
 have HLM:=aY λm hm=>hG.last (m:=m) hm
 have:=ag6 hG;have:Z (lI B.bI)<=4:=by unfold lI;simp;omega
 have C1:=aY λW (k:K w W)=>awh B.bI p.vt W (h.dz.at k).bI hG.tx.small alz
 have hs4:=bH h.dz.now.bI;have q:=h.q;have hz1:D (L (aU w (aq #[aj (I ⟨p.g,0,U⟩)] 114)))=D (L w)+1:=bu;have k1:=K.ou w (aq #[aj (I ⟨p.g,0,U⟩)] 114) (aq #[F U 0 0] 59);have Vz:=(bn.new w 114 #[aj (I ⟨p.g,0,U⟩)]).alloc (aq #[F U 0 0] 59);have gj:=bn.new (aU w (aq #[aj (I ⟨p.g,0,U⟩)] 114)) 59 #[F U 0 0];rw[hz1]at gj;clear h hG hz1;go_in;go_upto_region 2 with fail;generalize ay (ay w _) _=w1 at *;obtain⟨g,hg⟩:∃g,g=D (L w):=⟨_,rfl⟩;rw[<- hg]at Vz gj|-;have J9:=aY hg;clear hg;have:=gj.lt;have q1:=q w1 k1;have qt:=Vz.cell;obtain⟨At,ct,hAt⟩:=hs4;simp only[hAt]at C1;have HAt:=aY hAt;clear hAt;have q1t:w1.cell? ⟨p.g,8,U⟩=I (F At (Z B.bI) ct):=by rw[q1 8,<- HAt.aX];rfl
 clear q1 q;go_wp2_with fail
 apply tY (C1.aX w1 k1) k1;intro S y fq k2 T;have:=k2.size;have abH:=Vz.bM k2;have aET:=gj.bM k2;have ia:=J9.aX;have tE:=λk hk=>HM.aX k (EN.aX k hk)
 have Hc:df (λk=>M k\/k=g+1) p B y:=H.aX.far (X:=λ_=>False) (bf.cz T _) (λ_ h=>h.elim) (λ_ h=>h.elim) (λk hk t=>t.resolve_right aZ) (λk hk=>aI (EN.aX k hk)) (λk hk=>hk.elim (λh=>ZU) (λh=>aZ));have abI:=fq.wF.blk;have gK:iw (λk=>(M k\/k=g+1)\/aW (F U 0 0)=I k) cL (lI B.bI) S y:=fq.wF.Dk (λk hk=>aI (by
  rcases hk with (hk|hk)|hk;have:=HM.aX k hk;omega;omega;simp[Value.ownBlock]at hk)) (λk hk t=>by
  have:=(abI k hk).1;rcases t with (t|t)|t;have:=HM.aX k t;omega;omega;simp[Value.ownBlock]at t)
 have C2:=aY (afe Hc HG.aX (D (L y)) (g+1) g [] (lI B.bI) (F U 0 0) S aET abH (bK.nil _ _ _ _ _) gK (λk hk=>hk.elim (λh=>ZU) (λh=>aZ)) (aJ rfl) (aJ rfl) (λk hk=>alD) (λt=>by have:=tE _ t;omega) (λk hk=>by have:=tE k hk;omega) aZ aZ (bP _) bu aZ);have y9:=aY Hc;have V:=aY tE;obtain⟨A2,c2,rfl⟩:=gK.slice;clear Hc abI gK fq C1 q1t qt tE ia;go_wp2_with fail
 apply bW C2.aX;rintro A⟨v3,Lz,dS,O5,R⟩;replace O5:∀k,aW v3=I k->D (L y)<=k:=λk hk=>by rcases O5 k hk with h|h;simp[Value.ownBlock]at h;exact h
 replace R:bf (λk=>k=g+1) y A:=R.more λk hk=>hk.elim id λh=>IV
 have:=R.size;have aoK:=HM.aX;have sF:df (λk=>M k\/k=g+1\/(D (L y)<=k/\k<D (L A))) p B A:=y9.aX.far R (λk hk=>aJ hk) (λk hk t=>by have:=V.aX k t;have:=J9.aX;omega) (λk hk t=>by
  rcases t with h|h|h;exact aI h;exact aJ h;omega) (λk hk=>aI (EN.aX k hk)) (λk hk=>by
  rcases hk with h|h|h;have:=aoK k h;have:=T.size;omega;omega;omega)
 have aoL:=abH.cF R aZ;have C3:=aY (Xa sF HG.aX);have q3:=aoL.cell;clear C2 sF aoK;go_wp2_with fail
 apply dP C3.aX;rintro v4 C⟨MD,k4⟩;have oI:=Fx.fix MD bG aC6;have VB:=aY oI;obtain⟨A4,c4,rfl⟩:=oI.slice;have aoM:=Lz.bM k4;have fC:=dS.st k4;have u4:=R.tr (bf.cz k4 (λk=>k=g+1));have aoN:=dS.blk;have:=k4.size;clear C3 q3 oI MD aoL Lz dS;go_wp2_with fail
 have aoO:∀k,aW v3=I k->(D (L y)<=k/\k<D (L A))\/D (L C)<=k:=λk hk=>aI (aoN k hk)
 have uu:bf (λk=>k=g+1\/(D (L y)<=k/\k<D (L A))) C C:=bf.rf _ _;clear aoN O5;go_loopw [6,18] (fun _ i W=>∃(j:Nat) (z:aQ),j<=Z (fK B)/\i=G J j/\bn W (g+1) 59 #[z]/\bK (fun k=>M k\/k=g+1) (D (L y)) 128 cL (((fK B).take j).foldl (fun o (k:ig)=>k.cR.foldl (mO B) o) ((lI B.bI).foldl (mO B) [])) z W/\(∀k,aW z=I k->(D (L y)<=k/\k<D (L A))\/D (L C)<=k)/\bf (fun k=>k=g+1\/(D (L y)<=k/\k<D (L A))) C W/\bf (fun k=>k=g+1) y W) (fun _ i _=>Z (fK B)-(aO i).toNat)
 case atStart=>exact⟨0,v3,aZ,rfl,aoM,by simpa using fC,aoO,uu,u4⟩
 case round =>
  clear aoM fC aoO uu u4;obtain⟨j,z,hj,rfl,Y,Q,hat,u,u2⟩:=hrel;by_cases hlt:j<Z (fK B)
  .have cE:(j:Int)<(Z (fK B):Int):=aZ;obtain⟨b1,o1,c1,cs1,e9,fR,hcl,hF,hcell⟩:=VB.aX.at j hlt bG;injection e9 with e9 _ iV;subst e9 iV;have HF:=aY (HJ.aX j hlt);have Bu:=HN.aX j;have hmm:=HLM.aX _ (dJ hlt);generalize (fK B)[j]=m at *;generalize ((fK B).take j).foldl (λo (k:ig)=>k.cR.foldl (mO B) o) ((lI B.bI).foldl (mO B) [])=oj at *;obtain⟨P',jJ⟩:∃P',Hid (P'=((fK B).take (j+1)).foldl (λo (k:ig)=>k.cR.foldl (mO B) o) ((lI B.bI).foldl (mO B) [])):=⟨_,aY rfl⟩;replace HF:Hid (P'=m.cR.foldl (mO B) oj):=aY (jJ.aX.trans HF.aX);have wQ:=hcell wr (u.more λk hk=>by
    rcases hk with h|h;exact aJ (aI h);exact aJ (aJ h))
   obtain⟨v1,S,v3',v4',v5,v6,rfl,g1,g2,g3,g4,g5,g6⟩:=hF.now;have zo:Fx (λk=>M k\/k=g+1\/(D (L y)<=k/\k<D (L A))) (λW=>bD cL m.cR S W) C:=hF.mono λW h=>by obtain⟨x1,x2,x3,x4,x5,x6,e,h1,h2,-⟩:=h;simp at e;obtain⟨-,rfl,-⟩:=e;exact h2
   have wL:=Fx.fix zo bG TL;have hzu:=u.size;have Dc:Hid (iw (λk=>(M k\/k=g+1)\/aW z=I k) cL m.cR S wr):=aY (wL.to u (λk hk=>by
    rcases hk with h|h;exact aJ (aI h);exact aJ (aJ h)) (λk hk t=>by
    rcases t with (h|h)|h;exact aI h;exact aJ (aI h);rcases hat k h with h|h;exact aJ (aJ h);omega) bG)
   have q9:∀i,i<8->wr.cell? ⟨b1,o1+j*8+i,U⟩=(nh m v1 S v3' v4' v5 v6)[i]?:=λi hi=>(wQ i hi).trans aD
   have q0:wr.cell? ⟨b1,o1+j*8,U⟩=I (G J m.bA):=q9 0 bG;obtain⟨A1,c1,rfl⟩:=bH g1;obtain⟨QA,QB,rfl⟩:=bH g2;obtain⟨A3,c3,rfl⟩:=bH g3;obtain⟨A4,c4,rfl⟩:=bH g4;obtain⟨A5,c5,rfl⟩:=bH g5;obtain⟨A6,c6,rfl⟩:=bH g6;have t:=bn.new wr 239 (nh m (F A1 (Z m.eE) c1) (F QA (Z m.cR) QB) (F A3 (Z m.eM) c3) (F A4 (Z m.gq) c4) (F A5 (Z m.fc) c5) (F A6 (Z m.fQ) c6));have N:=t.cG;clear hcell wQ hF zo wL hcl fR g1 g2 g3 g4 g5 g6;go_upto_region 7 with fail;generalize wr.alloc _=w5 at *;clear q9 q0;have q8:=t.cell;have ia:=J9.aX;have Ul:=T.size;have PA:=N.size;have O:=u2.tr (bf.cz N (λk=>k=g+1));have gL:=Q.st N;have iU:=Y.bM N;have ht5:=abH.cF O aZ;have Um:=gL.blk;have Hy:df (λk=>M k\/k=g+1\/aW z=I k) p B w5:=y9.aX.far O (λk hk=>aJ hk) (λk hk t=>by have:=V.aX k t;omega) (λk hk t=>by
    rcases t with h|h|h;exact aI h;exact aJ h;have:=(Um k h).1;omega) (λk hk=>aI (EN.aX k hk)) (λk hk=>by
    rcases hk with h|h|h;have:=HM.aX k h;have:=O.size;omega;have:=O.size;omega;exact (Um k h).2)
   have C5:=aY (afe Hy HG.aX (D (L y)) (g+1) g oj m.cR z _ iU ht5 gL (Dc.aX.st N) (λk hk=>hk.elim (λh=>ZU) (λh=>aZ)) (aJ rfl) (aJ (aI rfl)) (λk hk=>aJ (aJ hk)) (λt=>by have:=V.aX _ t;omega) (λk hk=>by have:=V.aX k hk;omega) aZ aZ (by have:=O.size;omega) Bu (by have:=hmm.2.2;omega));rw[<- HF.aX]at C5;clear Hy ia Ul PA hzu Y Q gL iU ht5;go_wp2_with fail
   apply bW C5.aX;rintro w6⟨v6',ky,nW,aoP,u6⟩;have hzu:=u.size;have PA:=N.size;have aEU:∀k,aW v6'=I k->(D (L y)<=k/\k<D (L A))\/D (L C)<=k:=λk hk=>by rcases aoP k hk with h|h;exact hat k h;exact aJ aZ
   have u7:=(u.tr (bf.cz N _)).ir u6 λk hk h=>by rcases h with h|h;exact aI h;rcases hat k h with h|h;exact aJ h;omega
   have u8:=O.ir u6 λk hk h=>by rcases h with h|h;exact h;have:=(Um k h).1;omega
   clear C5 q8 aoP u6 hzu PA Um t;go_wp2;go_roundw
   case rel=>exact⟨j+1,v6',aZ,dh,ky,by rw[<- jJ.aX];exact nW,aEU,u7,u8⟩
   case measure=>simp[aO];omega
  have cE:¬(j:Int)<(Z (fK B):Int):=aZ;obtain rfl:j=Z (fK B):=aZ;rw[pL,<- HAB.aX]at Q;have HF:=aY ((Q.less (Y':=M) λk hk=>aI hk).fx λk hk=>by have:=HM.aX k hk;have:=T.size;omega);have kF:=u2.k T λk hk=>by have:=J9.aX;omega
  have q9:=Y.cell;obtain⟨A9,c9,rfl⟩:=Q.slice;clear Q hat u u2 Y;exact Zy
theorem lH.settle{l}(h:lH l) a:lH (gU l a):=by unfold gU;split;exact h;exact h.erase _
structure pO(B B':cJ):Prop where
 me:B'.me=B.me
 par:B'.par=B.par
 bj:B'.bj=B.bj
 calls:B'.calls=B.calls
 dm:B'.dm=B.dm
 jn:B'.jn=B.jn
 cA:B'.cA=B.cA
 dy:B'.dy=B.dy
 life:B'.st.life=B.st.life
theorem pO.rf B:pO B B:=⟨rfl,rfl,rfl,rfl,rfl,rfl,rfl,rfl,rfl⟩
theorem pO.tr{A B C}(h:pO A B)(k:pO B C):pO A C:=⟨k.me.trans h.me,k.par.trans h.par,k.bj.trans h.bj,k.calls.trans h.calls,k.dm.trans h.dm,k.jn.trans h.jn,k.cA.trans h.cA,k.dy.trans h.dy,k.life.trans h.life⟩
theorem alE{s t r}(hk:r.bA≠1)(e:fX s r=I t):t.life=s.life:=by grind [fX,CQ,yV,yX,yY,AZ]
theorem Gt{B r}(hk:r.bA≠1):pO B (eQ B r).1:=by
 unfold eQ;split
 .split;exact pO.rf B;rename_i t j;exact⟨rfl,rfl,rfl,rfl,rfl,rfl,rfl,rfl,alE hk j⟩
 exact pO.rf B
theorem KH{B}(j:dq B){r}(z:lP r):dq (eQ B r).1:=by
 unfold eQ;split
 .rename_i hc;simp only[fI]at hc;split;exact j;rename_i t A;have y:=j.dk.next hc.1 z hc.2 A;exact⟨j.tr,j.me,j.hm,y,by
   show lH (if r.bA=2 then gU B.bI (bE r.e)else B.bI);split;exact j.tx.settle _;exact j.tx,j.calls,j.dm,j.cA,j.iy,j.dy,j.Cq⟩
 exact j
theorem Sh{n x}(hn:n<18446744073709551616)(j:dZ x):lP (pc n x):=⟨S6,hn,j,S6,yh,yh⟩
theorem Yc{k a}(hk:dA k)(j:ew a):lP (lE k a):=⟨hk,yi,II,j.1,j.2.1,j.2.2⟩
theorem age{B}(hG:dq B){x}(j:dZ x):dq (nM B x).1:=KH hG (Sh E7 j)
theorem agf B x:pO B (nM B x).1:=Gt (by simp[pc])
theorem avc{B}(j:dq B){a}(t:ew a):dq (oU B a).1:=by have h:=KH j (Yc (k:=4) tQ t);unfold oU;split;exact⟨h.tr,h.me,h.hm,h.dk,h.tx.settle _,h.calls,h.dm,h.cA,h.iy,h.dy,h.Cq⟩;exact j
theorem avd B a:pO B (oU B a).1:=by have h:=Gt (B:=B) (r:=lE 4 a) yi;unfold oU;split;exact⟨h.me,h.par,h.bj,h.calls,h.dm,h.jn,h.cA,h.dy,h.life⟩;exact pO.rf B
section
variable {α β γ:Type}{S:fy α}{S2:fy β}{S3:fy γ}{lo:Nat}{e e2 e3:TypeId}{l l':List α}{l2:List β}{l3:List γ}{v v2 v3:aQ}{w w':aP}
structure yI(lo:Nat)(e:TypeId)(S:fy α)(l:List α)(v:aQ)(e2:TypeId)(S2:fy β)(l2:List β)(v2:aQ)(e3:TypeId)(S3:fy γ)(l3:List γ)(v3:aQ)(w:aP):Prop where
 a:bK (λk=>k<lo\/aW v2=I k\/aW v3=I k) lo e S l v w
 b:bK (λk=>k<lo\/aW v3=I k\/aW v=I k) lo e2 S2 l2 v2 w
 c:bK (λk=>k<lo\/aW v=I k\/aW v2=I k) lo e3 S3 l3 v3 w
 n12:∀k,aW v=I k->aW v2=I k->False
 n23:∀k,aW v2=I k->aW v3=I k->False
 n31:∀k,aW v3=I k->aW v=I k->False
theorem yI.Gf(h:yI lo e S l v e2 S2 l2 v2 e3 S3 l3 v3 w):yI lo e2 S2 l2 v2 e3 S3 l3 v3 e S l v w:=⟨h.b,h.c,h.a,h.n23,h.n31,h.n12⟩
theorem yI.st(h:yI lo e S l v e2 S2 l2 v2 e3 S3 l3 v3 w)(k:K w w'):yI lo e S l v e2 S2 l2 v2 e3 S3 l3 v3 w':=⟨h.a.st k,h.b.st k,h.c.st k,h.n12,h.n23,h.n31⟩
theorem yI.nil lo e(S:fy α) z(j:fy β) t(y:fy γ) w:yI lo e S [] (F U 0 0) z j [] (F U 0 0) t y [] (F U 0 0) w :=
 ⟨bK.nil _ _ _ _ _,bK.nil _ _ _ _ _,bK.nil _ _ _ _ _,λk h=>IV,λk h=>IV,λk h=>IV⟩
theorem yI.box(h:yI lo e S l v e2 S2 l2 v2 e3 S3 l3 v3 w){T z}(hb:Pm (λk=>k<lo\/aW v2=I k\/aW v3=I k) lo T e S l' v z w w')(P:z<lo) :∃y,bn w' z T #[y]/\yI lo e S l' y e2 S2 l2 v2 e3 S3 l3 v3 w'/\bf (λk=>k=z\/aW v=I k) w w':=by
 obtain⟨y,M,H,C,B⟩:=hb;have:=h.b.blk;have:=h.c.blk;refine⟨y,M,⟨H,h.b.to B (λk A=>?_) (λk t j=>?_) (λk A N=>?_),h.c.to B (λk A=>?_) (λk t j=>?_) (λk A N=>?_),λk t j=>?_,h.n23,λk t j=>?_⟩,B⟩
 .grind
 rcases j with rfl|j
 .grind
 exact h.n12 k j t
 .grind
 .grind
 rcases j with rfl|j
 .grind
 exact h.n31 k t j
 .grind
 .rcases C k t with t|t;exact h.n12 k t j;grind
 rcases C k j with j|j;exact h.n31 k t j;grind
end
theorem ag7 kids a:lB kids a=0\/lB kids a=1\/lB kids a=2:=by grind [lB]
theorem aDV W:(zeroValue 343).run aR W=.ok .nilFunc W:=by rfl
def Pr(lo z B C:Nat)(A os:List bU)(ns:List bY)(W:aP):Prop :=
 ∃y t j,bn W z 59 #[y]/\bn W B 59 #[t]/\bn W C 53 #[j]/\yI lo 128 cL A y 128 cL os t 42 dQ ns j W
theorem at7 op kids vo vk w(ho:bD cL op vo w)(hk:bD Bv kids vk w)(vE:∀x∈op,gu x)(hlo:Z op<=1000000)(hlk:Z kids<=1000000)(hv:∀m∈kids,Z m.eE<=1000000) :aK aR 216 #[vo,vk] w λe w'=>∃A B S,e=ak (au #[A,B,S])/\Fx (λk=>k<D (L w)) (λW=>bD cL (G0 op kids) A W) w'/\Fx (λk=>k<D (L w)) (λW=>bD dQ (FX op kids) B W) w'/\K w w':=by
 have HY:Hid (G0 op kids=op.filter λx=>decide (lB kids (bE x)=1)):=aY rfl;have HN:Hid (FX op kids=(op.filter λx=>decide (lB kids (bE x)=2)).map bE):=aY rfl;have C1:=aY λW (k:K w W) a=>agd kids a vk W (cM hk k) hlk hv
 have HS:=aY vE;have abJ:=aY λa=>ag7 kids a
 obtain⟨Ao,co,rfl,hl,-⟩:=ho;obtain⟨Ak,ck,rfl⟩:=bH hk;generalize G0 op kids=RY at *;generalize FX op kids=RN at *;generalize lB kids=t at *;have hz2:D (L ((aU w (aq #[F U 0 0] 59)).alloc (aq #[F U 0 0] 59)))=D (L w)+2:=bu;have hz1:D (L (aU w (aq #[F U 0 0] 59)))=D (L w)+1:=bu;have mg:D (L (((aU w (aq #[F U 0 0] 59)).alloc (aq #[F U 0 0] 59)).alloc (aq #[F U 0 0] 53)))=D (L w)+3:=bu;have cK:=((bn.new w 59 #[F U 0 0]).alloc (aq #[F U 0 0] 59)).alloc (aq #[F U 0 0] 53);have hb2:=(bn.new (aU w (aq #[F U 0 0] 59)) 59 #[F U 0 0]).alloc (aq #[F U 0 0] 53);have dB:=bn.new ((aU w (aq #[F U 0 0] 59)).alloc (aq #[F U 0 0] 59)) 53 #[F U 0 0];have y:=K.T6 w (aq #[F U 0 0] 59) (aq #[F U 0 0] 59) (aq #[F U 0 0] 53);rw[hz1]at hb2;rw[hz2]at dB;clear hk vE hv hz1 hz2;go_in;go_upto_region 3 with fail;generalize ay (ay (ay w _) _) _=w3 at *;obtain⟨g,hg⟩:∃g,g=D (L w):=⟨_,rfl⟩;rw[<- hg]at cK hb2 dB mg|-;have HG:=aY hg;clear hg;have hmm:=KC (P:=aR) underlying344 w3;rw[mg]at hmm;have m0:fP encI (aU w3 (.map #[] 0)) (g+3) []:=mg▸fP.new w3;have kA:=K.new w3 (.map #[] 0);have KI:=D3 (P:=aR) (kt:=3) underlying3;obtain⟨w4,r4,m4,g4⟩:=Gy KI underlying344 m0 0 (.func (.func 270) #[] #[aj (I ⟨g+1,0,U⟩)]);obtain⟨w5,r5,m5,g5⟩:=Gy KI underlying344 m4 1 (.func (.func 271) #[] #[aj (I ⟨g,0,U⟩)]);obtain⟨w6,r6,m6,g6⟩:=Gy KI underlying344 m5 2 (.func (.func 272) #[] #[aj (I ⟨g+2,0,U⟩)]);have QC:uK (uK (uK ([]:List (Int×aQ)) 0 (.func (.func 270) #[] #[aj (I ⟨g+1,0,U⟩)])) 1 (.func (.func 271) #[] #[aj (I ⟨g,0,U⟩)])) 2 (.func (.func 272) #[] #[aj (I ⟨g+2,0,U⟩)])=[(0,.func (.func 270) #[] #[aj (I ⟨g+1,0,U⟩)]),(1,.func (.func 271) #[] #[aj (I ⟨g,0,U⟩)]),(2,.func (.func 272) #[] #[aj (I ⟨g+2,0,U⟩)])]:=dH;rw[QC]at m6;simp only[encI]at r4 r5 r6;have Y:=(bf.cz kA _).tr (((bf.gy (X:=λk=>k=g+3) g4 λk e=>bL).tr (bf.gy (X:=λk=>k=g+3) g5 λk e=>bL)).tr (bf.gy (X:=λk=>k=g+3) g6 λk e=>bL));have k6:=Y.k y λk hk=>Tc
 have:=m6.lt;have aEV:=cK.cF Y aZ;have aEW:=hb2.cF Y aZ;have aEX:=dB.cF Y aZ;go_wp2_with fail
 clear r4 r5 r6 hmm m0 m4 m5 g4 g5 g6 cK hb2 dB Y kA y QC mg;have M:Pr (D (L w6)) g (g+1) (g+2) [] [] [] w6:=⟨_,_,_,aEV,aEW,aEX,yI.nil _ _ _ _ _ _ _ _⟩;have uu:bf (λk=>k=g\/k=g+1\/k=g+2) w6 w6:=bf.rf _ _;go_loopw [12,13,14,22] (fun _ _ _ i W=>∃j:Nat,j<=Z op/\i=G J j/\Pr (D (L w6)) g (g+1) (g+2) ((op.take j).filter fun x=>decide (t (bE x)=1)) ((op.take j).filter fun x=>decide (t (bE x)=0)) (((op.take j).filter fun x=>decide (t (bE x)=2)).map bE) W/\bf (fun k=>k=g\/k=g+1\/k=g+2) w6 W) (fun _ _ _ i _=>Z op-(aO i).toNat)
 case atStart=>exact⟨0,aZ,rfl,iF,uu⟩
 case round =>
  clear M uu;obtain⟨j,hj,rfl,M,u⟩:=hrel;by_cases Q:j<Z op
  .have cE:(j:Int)<Z op:=aZ;obtain⟨b1,o1,cs1,rfl,mR,hrl,d0,d⟩:=fE hl j Q bG;have F0:=aY (Nk (λx=>decide (t (bE x)=0)) op j Q);have F1:=aY (Nk (λx=>decide (t (bE x)=1)) op j Q);have F2:=aY (Nk (λx=>decide (t (bE x)=2)) op j Q);have qC:=HS.aX _ (dJ Q);have:=oo (λx=>decide (t (bE x)=1)) (op.take j);have:=oo (λx=>decide (t (bE x)=0)) (op.take j);have:=oo (λx=>decide (t (bE x)=2)) (op.take j);have:Z (op.take j)<=1000000:=cN;generalize op[j]=x at *;have ia:=HG.aX;have rS:=u.k k6 λk hk=>aZ
   clear ia;obtain⟨vf,ve,rfl,hf,he⟩:=hrl w (K.rf w);have HE:Hid (∀W,K w W->fM x (av (cB x vf ve)) W):=aY λW k=>⟨_,_,rfl,fO _ _ _ _ hf k,cM he k⟩
   have q9:∀i,i<8->wr.cell? ⟨b1,o1+j*8+i,U⟩=(cB x vf ve)[i]?:=λi hi=>(d wr rS i hi).trans aD
   have q0:wr.cell? ⟨b1,o1+j*8,U⟩=I (G J x.bA):=d0 wr rS;have hx:=bn.new wr 128 (cB x vf ve);have y:=hx.cG;obtain⟨Af,cf,rfl⟩:=dX hf;obtain⟨Ae,ce,rfl⟩:=bH he;clear d d0 hf he hrl mR;go_upto_region 7 with fail;generalize wr.alloc _=w7 at *;clear q9 q0;have q8:=hx.cell;have k07:=rS.tr y;have u7:=u.tr (bf.cz y _);go_wp2_with fail
   apply eu (C1.aX w7 k07 (bE x)) k07;intro z H zl;have u8:=u7.tr (bf.cz H _);have m8:=m6.cF u8 aZ;have vH:=hx.bM H;clear q8;have q8:=vH.cell;obtain⟨A,B,S,O,B2,B3,T⟩:=M;have VD:=O.bM (y.tr H);have VE:=B2.bM (y.tr H);have VF:=B3.bM (y.tr H);have T8:=T.st (y.tr H);have sO:=u8.size;have C:=aY λn=>(E0 (D3 (P:=aR) (kt:=3) underlying3) underlying344 (aDV z) m8 n).1
   have aEY:=T8.a.blk;have aEZ:=T8.b.blk;have aE0:=T8.c.blk;clear O B2 B3 T;rcases abJ.aX (bE x)with h|h|h
   .have ql:=C.aX 0;simp only[eX,i6,encI]at ql;simp at ql;rw[h];have R:Hid ((op.take (j+1)).filter (λx=>decide (t (bE x)=0))=(op.take j).filter (λx=>decide (t (bE x)=0))++[x]):=aY ZV;have QE:Hid ((op.take (j+1)).filter (λx=>decide (t (bE x)=1))=(op.take j).filter (λx=>decide (t (bE x)=1))):=aY ZW;have QF:Hid (((op.take (j+1)).filter (λx=>decide (t (bE x)=2))).map bE=((op.take j).filter (λx=>decide (t (bE x)=2))).map bE):=aY ZX;have CC:=aY (awB _ _ _ _ (g+1) x _ z (HE.aX z zl) qC VE T8.Gf.a (λk hk=>bL) (aI aZ) sO aZ aZ);clear h C;go_wp2_with fail
    apply bW CC.aX;intro w9 hB;obtain⟨v9,B9,T9,sR⟩:=T8.Gf.box hB aZ;have N1:=VD.cF sR bL;have N3:=VF.cF sR bL;have VG:Pr (D (L w6)) g (g+1) (g+2) ((op.take (j+1)).filter λx=>decide (t (bE x)=1)) ((op.take (j+1)).filter λx=>decide (t (bE x)=0)) (((op.take (j+1)).filter λx=>decide (t (bE x)=2)).map bE) w9:=by rw[R.aX,QE.aX,QF.aX];have N:=T9.Gf.Gf;exact⟨A,v9,S,N1,B9,N3,N⟩
    exact ZY
   .have ql:=C.aX 1;simp only[eX,i6,encI]at ql;simp at ql;rw[h];have R:Hid ((op.take (j+1)).filter (λx=>decide (t (bE x)=0))=(op.take j).filter (λx=>decide (t (bE x)=0))):=aY ZV;have QE:Hid ((op.take (j+1)).filter (λx=>decide (t (bE x)=1))=(op.take j).filter (λx=>decide (t (bE x)=1))++[x]):=aY ZW;have QF:Hid (((op.take (j+1)).filter (λx=>decide (t (bE x)=2))).map bE=((op.take j).filter (λx=>decide (t (bE x)=2))).map bE):=aY ZX;have CC:=aY (awC _ _ _ _ g x _ z (HE.aX z zl) qC VD T8.a (λk hk=>bL) (aI aZ) sO aZ aZ);clear h C;go_wp2_with fail
    apply bW CC.aX;intro w9 hB;obtain⟨v9,B9,T9,sR⟩:=T8.box hB aZ;have N2:=VE.cF sR bL;have N3:=VF.cF sR bL;have VG:Pr (D (L w6)) g (g+1) (g+2) ((op.take (j+1)).filter λx=>decide (t (bE x)=1)) ((op.take (j+1)).filter λx=>decide (t (bE x)=0)) (((op.take (j+1)).filter λx=>decide (t (bE x)=2)).map bE) w9:=by rw[R.aX,QE.aX,QF.aX];have N:=T9;exact⟨v9,B,S,B9,N2,N3,N⟩
    exact ZY
   have ql:=C.aX 2;simp only[eX,i6,encI]at ql;simp at ql;rw[h];have R:Hid ((op.take (j+1)).filter (λx=>decide (t (bE x)=0))=(op.take j).filter (λx=>decide (t (bE x)=0))):=aY ZV;have QE:Hid ((op.take (j+1)).filter (λx=>decide (t (bE x)=1))=(op.take j).filter (λx=>decide (t (bE x)=1))):=aY ZW;have QF:Hid (((op.take (j+1)).filter (λx=>decide (t (bE x)=2))).map bE=((op.take j).filter (λx=>decide (t (bE x)=2))).map bE++[bE x]):=aY ZX;have CC:=aY (awD _ _ _ _ (g+2) x _ z (HE.aX z zl) VF T8.Gf.Gf.a (aI aZ) sO aZ bL);clear h C;go_wp2_with fail
   apply bW CC.aX;intro w9 hB;obtain⟨v9,B9,T9,sR⟩:=T8.Gf.Gf.box hB aZ;have N1:=VD.cF sR bL;have N2:=VE.cF sR bL;have VG:Pr (D (L w6)) g (g+1) (g+2) ((op.take (j+1)).filter λx=>decide (t (bE x)=1)) ((op.take (j+1)).filter λx=>decide (t (bE x)=0)) (((op.take (j+1)).filter λx=>decide (t (bE x)=2)).map bE) w9:=by rw[R.aX,QE.aX,QF.aX];have N:=T9.Gf;exact⟨A,B,v9,N1,N2,B9,N⟩
   exact ZY
  have cE:¬(j:Int)<Z op:=aZ;obtain rfl:j=Z op:=aZ;rw[pL,<- HY.aX,<- HN.aX]at M;obtain⟨A,B,S,O,B2,B3,T⟩:=M;have ia:=HG.aX;have rS:=u.k k6 λk hk=>aZ
  clear ia;have q1:=O.cells;have q2:=B2.cells;have q3:=B3.cells;have:=k6.size;have X1:=aY ((T.a.less (Y':=λk=>k<D (L w)) λk hk=>aI aZ).fx λk hk=>aZ);have X3:=aY ((T.c.less (Y':=λk=>k<D (L w)) λk hk=>aI aZ).fx λk hk=>aZ);obtain⟨A1,c1,rfl⟩:=T.a.slice;obtain⟨A2,c2,rfl⟩:=T.b.slice;obtain⟨A3,c3,rfl⟩:=T.c.slice;clear O B2 B3 T;go_upto_region 11 with fail;have qs:=aB q1 (aB q2 q3);refine fD 6 ?_;iterate 6 refine bB.i ?_
  clear qs;intro V W kW hA;simp only[bZ,cC,dF,bS,Nat.reduceAdd]at hA;refine bN.h ?_;have kF:=rS.tr kW;have Y1:=aY (X1.aX.k kW);have Y3:=aY (X3.aX.k kW);clear hA q1 q2 q3 X1 X3;go_wp2;go_ret3;exact⟨_,_,⟨_,rfl⟩,Y1.aX,Y3.aX,kF⟩
theorem R5{s y}:∀ {l:List bU} {p:List bU×List bU},(y∈(l.foldl (rY s) p).1->y∈p.1\/y∈l)/\(y∈(l.foldl (rY s) p).2->y∈p.2\/y∈l):=by
 intro l;induction l with
 | nil=>intro p;exact⟨aI,aI⟩
 | cons x l j => grind [rY]
theorem dq.open'{B}(j:dq B):(∀x∈(qH B.st B.dy (nr B)).1,dE x=aA/\dZ x)/\(∀x∈(qH B.st B.dy (nr B)).2,dE x=aA/\dZ x)/\Z (qH B.st B.dy (nr B)).1<=1000000/\Z (qH B.st B.dy (nr B)).2<=16:=by
 have h:=ag2 B.st (nr B) (B.dy,[]);have:=j.Cq;have:=ag5 B;refine⟨λx t=>?_,λx t=>?_,?_,?_⟩;rcases R5.1 t with h|h;exact j.dy x h;exact j.cR h;rcases R5.2 t with h|h;simp at h;exact j.cR h
 .grind [qH]
 grind [qH]
theorem KJ{l:List bU}:∀ {B:cJ},dq B->(∀x∈l,dZ x)->dq (l.foldl (λb x=>(nM b x).1) B)/\pO B (l.foldl (λb x=>(nM b x).1) B):=by
 induction l with
 | nil=>intro B h _;exact⟨h,pO.rf B⟩
 | cons x l z =>
  intro B h j;have t:=z (age h (j x bu)) λy A=>j y bL
  exact⟨t.1,(agf B x).tr t.2⟩
theorem awI{kids p x}(h:dq p.1)(j:dZ x):dq (lJ kids p x).1/\pO p.1 (lJ kids p x).1/\(∀y∈(lJ kids p x).2,y∈p.2\/y=x)/\Z (lJ kids p x).2<=Z p.2+1:=by
 have:ew (bE x):=⟨j.2.1,j.2.2.2.1,j.2.2.2.2.1⟩;have:∀y∈p.2++[x],y∈p.2\/y=x:=λy z=>bL
 unfold lJ;grind [age,agf,pO.rf,avc,avd]
theorem Nu{kids}{l:List bU}:∀ {p:cJ×List bU},dq p.1->(∀x∈l,dZ x)->dq (l.foldl (lJ kids) p).1/\pO p.1 (l.foldl (lJ kids) p).1/\(∀y∈(l.foldl (lJ kids) p).2,y∈p.2\/y∈l)/\Z (l.foldl (lJ kids) p).2<=Z p.2+Z l:=by
 induction l with
 | nil=>intro p h _;exact⟨h,pO.rf _,λy j=>aI j,bu⟩
 | cons x l B =>
  intro p h t;have A:=awI (kids:=kids) (x:=x) h (t x bu);have z:=B (p:=lJ kids p x) A.1 λy j=>t y bL
  refine⟨z.1,A.2.1.tr z.2.1,λy j=>?_,?_⟩;all_goals grind
theorem Nv{B}(z:dq B):dq (iL B):=by
 have y:=z.open';unfold iL;split;have A:=KJ z λx t=>(y.2.1 x t).2
 have j:=Nu (kids:=fK B) (p:=(Cb B,[])) A.1 λx t=>(y.1 x t).2
 exact⟨j.1.tr,j.1.me,j.1.hm,j.1.dk,j.1.tx,j.1.calls,j.1.dm,j.1.cA,j.1.iy,λx t=>by
  rcases j.2.2.1 x t with h|h;simp at h;exact y.1 x h,by
  exact cQ (show Z (sk B).2<=0+Z (qH B.st B.dy (nr B)).1 from j.2.2.2) (by have:=y.2.2.1;omega)⟩
 exact z
theorem awJ{B B'}(h:pO B B'):fK B'=fK B:=by unfold fK si kZ;rw[h.me,h.par,h.dm]
theorem aBS{op kids x}(j:x∈op):dM (G0 op kids) (bE x)=decide (lB kids (bE x)=1):=by grind [dM,G0,bE,lB]
theorem aC7{op kids x}(j:x∈op):fJ (FX op kids) (bE x)=decide (lB kids (bE x)=2):=by grind [fJ,FX,bE,lB]
def Un(M:Nat->Prop)(op y:List bU)(v:aQ)(W:aP):Prop:=∃t j,v=au #[t,j]/\Fx M (λW=>bD cL op t W) W/\Fx M (λW=>bD cL y j W) W
theorem alF M op t:∀v w j,Un M op t v w->aN (D (L w)) w j->Un M op t v j:=by rintro v w j⟨B,z,e,A,y⟩ k;exact⟨B,z,e,A.k k,y.k k⟩
def Kh(M:Nat->Prop)(l:List bU)(v:aQ)(W:aP):Prop:=Fx M (λW=>bD cL l v W) W
theorem OO M l:∀v w j,Kh M l v w->aN (D (L w)) w j->Kh M l v j:=λ_ _ _ h k=>Fx.k h k
theorem afI{M p B w}(h:df M p B w)(hG:dq B) :aK aR 158 #[aj (I ⟨p.g,0,U⟩)] w λe w'=>e=ak (au #[])/\fG M p (iL B) w w':=by
 have HR:Hid (iL B=if ot B then { (sk B).1 with dy:=(sk B).2 }else B):=aY rfl;have HWL:Hid (Cb B=(qH B.st B.dy (nr B)).2.foldl (λb x=>(nM b x).1) B):=aY rfl;have HWD:Hid (sk B=(qH B.st B.dy (nr B)).1.foldl (lJ (fK B)) (Cb B,[])):=aY rfl;have HO:=aY hG.open';have H:=aY h;have HG:=aY hG;have ja:=hG.GL;have C0:=aY (Rw h);have C1:=aY λW (k:K w W)=>afH (h.st k) hG
 have C2:=aY λW (k:K w W) va (ha:bD cL (nr B) va W)=>ava B.st B.dy (nr B) p.vl p.vq p.va p.vw va W ⟨_,_,_,rfl,(h.dz.at k).bq,(h.dz.at k).bF,(h.dz.at k).ab⟩ (h.dz.at k).dy ha ja.2.2 (λx t=>wX (hG.cR t).1) ⟨E7,E7⟩ hG.Cq (by have:=ag5 B;omega)
 have HM:=aY h.low;have hs1:=bH h.dz.now.bq;have jI:=bH h.dz.now.bF;have jY:=bH h.dz.now.ab;have hs4:=bH h.dz.now.dy;have q:=h.q;obtain⟨op,hop⟩:∃op,op=(qH B.st B.dy (nr B)).1:=⟨_,rfl⟩;obtain⟨z,yP⟩:∃z,z=(qH B.st B.dy (nr B)).2:=⟨_,rfl⟩;simp only[<- hop,<- yP]at C2 HO HWL HWD;clear hop yP ja h hG;generalize PO:iL B=WB at *;clear PO;obtain⟨g,gl,gd,gr,gt,vd,vr,vp,vh,vl,vq,va,vt,nc,vw,kr⟩:=p;simp only at q C1 C2 hs1 jI jY hs4;obtain⟨Al,cl,rfl⟩:=hs1;obtain⟨Aq,cq,rfl⟩:=jI;obtain⟨Aa,ca,rfl⟩:=jY;obtain⟨Aw,cw,rfl⟩:=hs4;go_in;go_wp2;go_step3;go_wp2_with fail
 apply bW C0.aX;intro w1 k1;clear C0;cases anR:ot B
 .have HF:Hid (WB=B):=aY alG;have HN:=aY (H.aX.n k1);clear HR;go_wp2;rw[jE];refine aM (results_none rfl _ _ _) rfl ?_;exact ZZ
 have Ml:Hid (WB={ (sk B).1 with dy:=(sk B).2 }):=aY alG;have q1:=λW (k:K w1 W)=>q W (k1.tr k)
 clear HR q anR;go_upto_region 2 with fail;have qs:=q1;refine Ro 16 [([],[]),([0],[(23,0)]),([1],[(24,1)]),([2],[(25,2)]),([],[]),([4],[(27,4)]),([5],[(28,5)]),([6],[(29,6)]),([],[]),([8],[(31,8)]),([3,7,9],[(26,3),(30,7),(32,9)]),([10],[(33,10)]),([11],[(22,11)]),([11],[(22,11)]),([12],[(34,12)]),([13],[(35,13)])] 94 ?_;iterate 9 refine bB.i ?_
 refine bB.op (Kh M (nr B)) (OO _ _) (λV W A hp=>?_) ?_
 ·(try simp only[dN,bZ,cC,dK,dL,bS]at hp)
  simp[dI,bR,aC,hp,fk,aL,bT,q1,go_sem];apply dP (C1.aX W (k1.tr A));rintro v4 w4⟨hF,k4⟩;exact⟨_,rfl,hF,k4⟩
 refine bB.op (Un M op z) (alF _ _ _) (λV W A hp=>?_) ?_
 .simp only[dN,bZ,cC,dK,dL,bS]at hp;obtain⟨e3,e7,h9,-⟩:=hp;simp[dI,bR,aC,e3,e7,fk,aL,bT,go_sem];refine (C2.aX W (k1.tr A) (V 9) (Fx.now h9)).mono ?_;rintro e w4⟨v1,v2,rfl,hT,k4⟩;refine⟨_,rfl,⟨v1,v2,rfl,?_,?_⟩,k4⟩;exact (hT.a.less (Y':=M) λk hk=>aI (cZ (HM.aX k hk) (k1.tr A).size)).fx λk hk=>cZ (HM.aX k hk) (k1.tr A).size
  exact (hT.b.less (Y':=M) λk hk=>aI (cZ (HM.aX k hk) (k1.tr A).size)).fx λk hk=>cZ (HM.aX k hk) (k1.tr A).size
 refine bB.op (Un M op z) (alF _ _ _) (λV W A hp=>?_) ?_
 .simp only[dN,bZ,cC,dK,dL,bS]at hp;obtain⟨⟨v1,v2,e,h1,h2⟩,-⟩:=hp;simp[dI,bR,aC,e,fk,aL,bT,eP,go_sem];exact⟨v1,v2,rfl,h1,h2⟩
 refine bB.op (Kh M op) (OO _ _) (λV W A hp=>?_) ?_
 .simp only[dN,bZ,cC,dK,dL,bS]at hp;obtain⟨⟨v1,v2,e,h1,h2⟩,-⟩:=hp;simp[dI,bR,aC,e,fk,aL,bT,eP,go_sem];exact h1
 refine bB.op (Kh M z) (OO _ _) (λV W A hp=>?_) ?_
 .simp only[dN,bZ,cC,dK,dL,bS]at hp;obtain⟨⟨v1,v2,e,h1,h2⟩,-⟩:=hp;simp[dI,bR,aC,e,fk,aL,bT,eP,go_sem];exact h2
 refine bB.op (Kh M op) (OO _ _) (λV W A hp=>?_) ?_;exact alH;refine bB.op (Kh M z) (OO _ _) (λV W A hp=>?_) ?_;exact alH;clear qs;intro V W A hA;simp only[bZ,cC,dF,bS,Nat.reduceAdd]at hA;refine bN.h ?_;obtain⟨-,-,-,-,-,-,-,-,-,-,-,-,-,-,h14,Ki,-⟩:=hA;have kA:=k1.tr A;have hb0:=H.aX.st kA;have hL4:=Fx.fix h14 bG TL;have hL5:=Fx.fix Ki bG TL;generalize V 14=v14 at *;generalize V 15=v15 at *;obtain⟨A4,c4,rfl⟩:=hL4.slice;obtain⟨A5,c5,rfl⟩:=hL5.slice;have VB:=aY hL4;have wO:=aY hL5;have Bm:=aY hb0;have FD:=hb0.n (K.rf W);have VH:=aY kA;have hlb:=HO.aX.2.2.2;have gj:=HO.aX.2.2.1;clear h14 Ki hL4 hL5 C1 C2 q1 A k1 hb0 kA;go_wp2_with fail
 go_loopw [7,38] (fun _ i wr=>∃j:Nat,j<=Z z/\i=G J j/\fG M ⟨g,gl,gd,gr,gt,vd,vr,vp,vh,F Al (Z B.st.bq) cl,F Aq (Z B.st.bF) cq,F Aa (Z B.st.ab) ca,vt,nc,F Aw (Z B.dy) cw,kr⟩ ((z.take j).foldl (fun b x=>(nM b x).1) B) W wr) (fun _ i _=>Z z-(aO i).toNat)
 case atStart=>exact⟨0,aZ,rfl,by simpa using FD⟩
 case round =>
  clear FD;obtain⟨j,hj,rfl,p',O,u,N,Y⟩:=hrel;by_cases hlt:j<Z z
  .have cE:(j:Int)<Z z:=aZ;obtain⟨b1,o1,c1,cs1,e9,fR,hcl,hF,hcell⟩:=wO.aX.at j hlt bG;injection e9 with e9 _ iV;subst e9 iV;have HF:=aY (fold_succ (λb x=>(nM b x).1) z B j hlt);have hm:=HO.aX.2.1 _ (dJ hlt);have zu:=KJ HG.aX (l:=z.take j) λx t=>(HO.aX.2.1 x (oW t)).2
   generalize z[j]=x at *;generalize (z.take j).foldl (λb x=>(nM b x).1) B=Bj at *;have uM:=u.more Bm.aX.sub;have wQ:=hcell wr uM;obtain⟨vf,ve,rfl,hf,he⟩:=hF wr uM;have q9:∀i,i<8->wr.cell? ⟨b1,o1+j*8+i,U⟩=(cB x vf ve)[i]?:=λi hi=>(wQ i hi).trans aD
   have q0:wr.cell? ⟨b1,o1+j*8,U⟩=I (G J x.bA):=q9 0 bG;have HE:Hid (∀W,K wr W->fM x (av (cB x vf ve)) W):=aY λW k=>⟨_,_,rfl,fO _ _ _ _ hf k,cM he k⟩
   have t:=bn.new wr 128 (cB x vf ve);have k3:=t.cG;obtain⟨Af,cf,rfl⟩:=dX hf;obtain⟨Ae,ce,rfl⟩:=bH he;clear hcell wQ hF hcl fR hf he;go_upto_region 6 with fail;generalize wr.alloc _=w3 at *;clear q9 q0;have q8:=t.cell;have C3:=aY (afz (O.st k3) zu.1 x _ (HE.aX w3 k3) hm.2 (wX hm.1));simp only[EF N]at C3;have u3:=u.tr (bf.cz k3 _);have EN:=aY Y;have EC:=aY N;clear O zu N Y;go_wp2_with fail
   apply bW C3.aX;intro w4 hN;have Ie:=fG.tr u3 EC.aX EN.aX (λk hk=>aI hk) hN;rw[<- HF.aX]at Ie;clear C3 q8 t hN;go_wp2;go_roundw
   case rel=>exact⟨j+1,aZ,dh,Ie⟩
   case measure=>simp[aO];omega
  have cE:¬(j:Int)<Z z:=aZ;obtain rfl:j=Z z:=aZ;rw[pL,<- HWL.aX]at O;have hg1:=KJ HG.aX (l:=z) λx t=>(HO.aX.2.1 x t).2
  rw[<- HWL.aX]at hg1;obtain⟨hg1,hs1⟩:=hg1;have aE1:=aY (awJ hs1);generalize Cb B=B1 at *;have C3:=aY (Xa O hg1);rw[aE1.aX]at C3;simp only[EF N]at C3;have tv:=ag6 HG.aX;have QC:∀m∈fK B,Z m.eE<=1000000:=λm hm=>by have:=(HG.aX.last hm).2.1;omega
  have aE2:=aY (λW' (k:K wr W')=>cM ((VB.aX.fx bG) wr (u.more Bm.aX.sub)) k);have P7:=aY hg1;have J8:=aY O;have EN:=aY Y;have EC:=aY N;have vE:=λx t=>wX (HO.aX.1 x t).1
  have C4:=aY λW' (k:K wr W') vk (hk:bD Bv (fK B) vk W')=>at7 op (fK B) _ vk W' (aE2.aX W' k) hk vE gj aZ QC
  clear O hg1 hs1 Y N QC vE;go_wp2_with fail
  apply dP C3.aX;rintro vk w6⟨hFk,k6⟩;have Kj:=hFk.now;have C5:=aY (C4.aX w6 k6 vk Kj);obtain⟨Ak,ck,rfl⟩:=bH Kj;clear C3 C4 hFk Kj;go_wp2_with fail
  refine C5.aX.mono ?_;rintro e C⟨vy,vn,vz,rfl,MI,Kj,k7⟩;have Hv:=k6.tr k7;have hB7:=J8.aX.st Hv;have hBl:=J8.aX.low;have u7:=u.tr (bf.cz Hv _);have AL:=k6.size;have HL7:Hid (iw (λk=>M k\/cY p' k) cL op (F A4 (Z op) c4) C):=aY (VB.aX.to u7 Bm.aX.sub (λk hk t=>by
   rcases t with h|h;exact h;exact Bm.aX.sub k ((EN.aX k h).resolve_right aZ)) bG)
  have HY:=aY MI;have HN:=aY Kj;have HBS:=aY (λk (hk:cY p' k)=>cZ (hBl k (aJ hk)) AL);obtain⟨Ay,cy,hy⟩:=bH MI.now;obtain⟨An,cn,hn⟩:=bH Kj.now;subst hy hn;have JY:Z (G0 op (fK B))<=1000000:=cQ (oo _ _) gj;have hnl:Z (FX op (fK B))<=1000000:=by unfold FX;rw[List.length_map];exact cQ (oo _ _) gj
  have MC:=aY u7;have wN:df (λk=>((M k\/cY p' k)\/aW (F U 0 0)=I k)\/cY p' k) p' B1 C:=hB7.less (λk hk=>aJ hk) λk hk=>by rcases hk with (h|h)|h;exact h;simp[Value.ownBlock]at h;exact aJ h
  have kH:=bK.nil (λk=>(M k\/cY p' k)\/D (L C)<=k) (D (L C)) 128 cL C;clear C5 MI Kj k7 hB7 hBl u u7;go_wp2_with fail
  go_step3;go_wp2_with fail
  go_loopw [11,13,14,56] (fun o _ _ i wr=>∃(j:Nat) (p'':qu),j<=Z op/\i=G J j/\df (fun k=>((M k\/cY p' k)\/aW o=I k)\/cY p'' k) p'' ((op.take j).foldl (lJ (fK B)) (B1,[])).1 wr/\bf (cY p') C wr/\p''.key=(g,gd)/\(∀k,cY p'' k->cY p' k\/D (L C)<=k)/\(∀k,aW o=I k->¬cY p'' k)/\bK (fun k=>(M k\/cY p' k)\/D (L C)<=k) (D (L C)) 128 cL ((op.take j).foldl (lJ (fK B)) (B1,[])).2 o wr) (fun _ _ _ i _=>Z op-(aO i).toNat)
  case atStart=>exact⟨0,p',aZ,rfl,wN,bf.rf _ _,EC.aX,λk hk=>aI hk,λk hk=>alD,kH⟩
  case round =>
   clear wN kH;obtain⟨j,p2,hj,rfl,O,u,N,Y,MJ,T⟩:=hrel;by_cases hlt:j<Z op
   .have cE:(j:Int)<Z op:=aZ;obtain⟨b1,o1,c1,cs1,e9,fR,hcl,hF,hcell⟩:=HL7.aX.at j hlt bG;injection e9 with e9 _ iV;subst e9 iV;have MK:=aY (fold_succ (lJ (fK B)) op (B1,[]) j hlt);have hm:=HO.aX.1 _ (dJ hlt);have hyh:=aBS (kids:=fK B) (dJ hlt);have QG:=aC7 (kids:=fK B) (dJ hlt);have zu:=Nu (kids:=fK B) (p:=(B1,[])) (l:=op.take j) P7.aX λx t=>(HO.aX.1 x (oW t)).2
    have VC:=zu.2.2.2;replace zu:=zu.1;generalize op[j]=x at *;generalize (op.take j).foldl (lJ (fK B)) (B1,[])=Q at *;obtain⟨P',jJ⟩:∃P',Hid (P'=(op.take (j+1)).foldl (lJ (fK B)) (B1,[])):=⟨_,aY rfl⟩;replace MK:Hid (P'=lJ (fK B) Q x):=aY (jJ.aX.trans MK.aX);obtain⟨Bj,lj⟩:=Q;simp only at O T zu VC;have uM:bf (λk=>M k\/cY p' k) C wr:=u.more λk hk=>aJ hk
    have wQ:=hcell wr uM;obtain⟨vf,ve,rfl,hf,he⟩:=hF wr uM;have oN:Fx (λk=>(M k\/cY p' k)\/D (L C)<=k) (λW=>cL.rel x (cB x vf ve).toList W) wr:=hF.to uM (λ_ h=>h) λk hk t=>t.resolve_right aZ
    have q9:∀i,i<8->wr.cell? ⟨b1,o1+j*8+i,U⟩=(cB x vf ve)[i]?:=λi hi=>(wQ i hi).trans aD
    have q0:wr.cell? ⟨b1,o1+j*8,U⟩=I (G J x.bA):=q9 0 bG;have HE:Hid (∀W,K wr W->fM x (av (cB x vf ve)) W):=aY λW k=>⟨_,_,rfl,fO _ _ _ _ hf k,cM he k⟩
    have t:=bn.new wr 128 (cB x vf ve);have k3:=t.cG;have dR:=T.blk;obtain⟨Af,cf,rfl⟩:=dX hf;obtain⟨Ae,ce,rfl⟩:=bH he;obtain⟨Ao,co,rfl⟩:=T.slice;have VI:=aY oN;have mg:=u.size;have HYr:=aY (λW' (k:K wr W')=>cM (HY.aX wr (u.more HBS.aX)) k);have HNr:=aY (λW' (k:K wr W')=>cM (HN.aX wr (u.more HBS.aX)) k);have HBr:=aY O;have VJ:=aY u;have Uo:=aY N;have Kk:=aY Y;have Dp:=aY MJ;have HOr:=aY T;have HBL:=aY dR;clear hcell wQ hF hcl fR hf he oN uM O u N Y MJ T dR;go_upto_region 13 with fail;generalize wr.alloc _=w8 at *;obtain⟨ga,pA⟩:∃ga,Hid (ga=D (L wr)):=⟨_,aY rfl⟩;rw[<- pA.aX]at t|-;clear q9 q0;have C6:=aY (Rx (G0 op (fK B)) _ (ko (bE x)) 218 #[aj (I ⟨ga,0,U⟩)] w8 (HYr.aX w8 k3) JY (λ_ _=>dH) (λW k y _ u hu=>au6 y x u _ _ ga W hu (t.bM k)));have Kg:Hid ((G0 op (fK B)).any (ko (bE x))=decide (lB (fK B) (bE x)=1)):=aY hyh;rw[Kg.aX]at C6;clear hyh Kg;go_wp2_with fail
    apply eu C6.aX k3;intro w9 k9 xR;have rQ:=t.bM k9;have q8:=rQ.cell;have hE9:=HE.aX w9 xR;have xP:=HBr.aX.st xR;have mh:=kg Uo.aX;have abJ:=ag7 (fK B) (bE x);have VK:Hid (P'=if lB (fK B) (bE x)=1 then (if (nM Bj x).2 then ((nM Bj x).1,lj)else (Bj,lj++[x]))else if lB (fK B) (bE x)=2 then (if (oU Bj (bE x)).2 then ((oU Bj (bE x)).1,lj)else (Bj,lj++[x]))else (Bj,lj++[x])):=aY MK.aX;clear C6 t MK;generalize lB (fK B) (bE x)=sx at *;rcases abJ with rfl|rfl|rfl
    .have HQ:Hid (P'=(Bj,lj++[x])):=aY Z0;have R:=aY λW (k:K w9 W)=>Iw (FX op (fK B)) (bE x) _ W (HNr.aX W (xR.tr k)) hnl
     rw[QG]at R;clear VK QG;go_wp2_with fail
     apply eu (R.aX w9 (K.rf _)) xR;intro Bz VL Uq;have Ct:=HBr.aX.st Uq;have uR:=VJ.aX.tr (bf.cz Uq _);have G4:=Uo.aX;have G5:=Kk.aX;have GV:=Dp.aX;have qP:=HOr.aX.st Uq;clear R mh;have Ps:=rQ.bM VL;have tK:=Ps.cell;have HFa:=aY (VI.aX.k Uq);have kA:=K.new Bz (aq (cB x (F Af (Z x.f) cf) (F Ae (Z x.es) ce)) 128);have Ic:=qP.st kA;have Ur:=qP.blk;have hr:=fL.new (S:=cL) (e:=128) (v:=av (cB x (F Af (Z x.f) cf) (F Ae (Z x.es) ce))) HFa.aX 0 (fw _);have Pt:=Ct.st kA;have Us:=uR.size;have Dq:=aY (aB Ct (aB uR (aB G4 (aB G5 (aB GV qP)))));have LA:=aY Pt;have aE3:Z lj<=1000000:=by simp at VC;omega
     clear Ct uR G4 G5 GV qP Pt xP q8;go_wp2_with (at_builtin;refine j0 rfl _ _ 59 rfl _ 8 96 tH rfl rfl Ic _ rfl x ?p1 ?p2 ?p3 ?_)
     case p1 => exact alI
     case p2=>omega
     case p3=>exact cQ Us kA.size
     intro v11 VM D8 AB I9 LC;have aoQ:=aY D8;have hBw:df (λk=>((M k\/cY p' k)\/aW v11=I k)\/cY p2 k) p2 Bj VM:=LA.aX.far (X:=λk=>aW (F Ao (Z lj) co)=I k) (bf.gy AB λk e=>e) (λk hk=>aI (aJ hk)) (λk hk=>Dq.aX.2.2.2.2.1 k hk) (λk hk h=>by
      rcases h with (h|h)|h;exact aI (aI h);exact alJ;exact aJ h) (λk hk=>aJ hk) (λk hk=>by
      rcases hk with (h|h)|h;exact alK;exact (D8.blk k h).2;exact cZ (LA.aX.low k (aJ h)) AB.size)
     have O3:∀k,aW v11=I k->¬cY p2 k:=λk hk h=>by exact alL
     have u11:=(Dq.aX.2.1.tr (bf.cz kA _)).ir (bf.gy (X:=λk=>aW (F Ao (Z lj) co)=I k) AB λk e=>e) λk hk h=>by have:=(Ur k h).1;omega
     have HH:=aY (aB hBw (aB u11 (aB Dq.aX.2.2.1 (aB Dq.aX.2.2.2.1 O3))));clear hBw u11 O3 hr Ic D8 AB I9 LC tK Ps;go_wp2;go_roundw
     case rel=>exact⟨j+1,p2,aZ,dh,Z3,HH.aX.2.1,HH.aX.2.2.1,HH.aX.2.2.2.1,HH.aX.2.2.2.2,alM⟩
     case measure=>simp[aO];omega
    .have R:=aY (afz (M:=λk=>((M k\/cY p' k)\/aW (F Ao (Z lj) co)=I k)\/cY p2 k) xP zu x _ hE9 hm.2 (wX hm.1));simp only[mh]at R;have vF:Hid ((nM Bj x).2=az->(nM Bj x).1=Bj):=aY ahS;clear QG mh;generalize nM Bj x=LB at *;obtain⟨L1,L2⟩:=LB;simp only at R vF VK;go_wp2_with fail
     apply bW R.aX;intro Bz hN;obtain⟨p3,sF,u3,kJ,QH⟩:=hN;have qv:=xR.size;have uR:=(VJ.aX.tr (bf.cz xR _)).ir u3 λk hk h=>(Kk.aX k h).resolve_right aZ
     have G5:∀k,cY p3 k->cY p' k\/D (L C)<=k:=λk hk=>by exact alN
     have GV:∀k,aW (F Ao (Z lj) co)=I k->¬cY p3 k:=λk hk h=>by exact alO
     have qP:=(HOr.aX.st xR).to (Y':=λk=>(M k\/cY p' k)\/D (L C)<=k) u3 (λk hk=>(Kk.aX k hk).imp aJ id) (λk hk h=>Dp.aX k hk h) λk _ hk=>aI hk
     have Ct:df (λk=>((M k\/cY p' k)\/aW (F Ao (Z lj) co)=I k)\/cY p3 k) p3 L1 Bz:=sF.less (λk hk=>aJ hk) λk hk=>by exact alP
     have G4:=kJ.trans Uo.aX;clear R;exact alQ
    have R:=aY λW (k:K w9 W)=>Iw (FX op (fK B)) (bE x) _ W (HNr.aX W (xR.tr k)) hnl
    rw[QG]at R;clear QG;go_wp2_with fail
    apply bW (R.aX w9 (K.rf _));intro w9' k9';replace xR:=xR.tr k9';replace rQ:=rQ.bM k9';replace q8:=rQ.cell;replace xP:=xP.st k9';have C8:=aY (ate (M:=λk=>((M k\/cY p' k)\/aW (F Ao (Z lj) co)=I k)\/cY p2 k) xP zu (bE x) ⟨hm.2.2.1,hm.2.2.2.2.1,hm.2.2.2.2.2.1⟩);simp only[mh]at C8;have vF:Hid ((oU Bj (bE x)).2=az->(oU Bj (bE x)).1=Bj):=aY λh=>by
     unfold oU at h|-;split
     .rename_i hh;rw[bV hh]at h;cases h
     rfl
    clear mh R;generalize oU Bj (bE x)=LB at *;obtain⟨L1,L2⟩:=LB;simp only at C8 vF VK;go_wp2_with fail
    apply bW C8.aX;intro Bz hN;obtain⟨p3,sF,u3,kJ,QH⟩:=hN;have qv:=xR.size;have uR:=(VJ.aX.tr (bf.cz xR _)).ir u3 λk hk h=>(Kk.aX k h).resolve_right aZ
    have G5:∀k,cY p3 k->cY p' k\/D (L C)<=k:=λk hk=>by exact alN
    have GV:∀k,aW (F Ao (Z lj) co)=I k->¬cY p3 k:=λk hk h=>by exact alO
    have qP:=(HOr.aX.st xR).to (Y':=λk=>(M k\/cY p' k)\/D (L C)<=k) u3 (λk hk=>(Kk.aX k hk).imp aJ id) (λk hk h=>Dp.aX k hk h) λk _ hk=>aI hk
    have Ct:df (λk=>((M k\/cY p' k)\/aW (F Ao (Z lj) co)=I k)\/cY p3 k) p3 L1 Bz:=sF.less (λk hk=>aJ hk) λk hk=>by exact alP
    have G4:=kJ.trans Uo.aX;clear C8;exact alQ
   have cE:¬(j:Int)<Z op:=aZ;obtain rfl:j=Z op:=aZ;rw[pL,<- HWD.aX]at O T;have uf:=MC.aX.ir u λk hk h=>(EN.aX k h).resolve_right aZ
   have Ig:=MC.aX.size;have hX9:∀k,cY p2 k->cY ⟨g,gl,gd,gr,gt,vd,vr,vp,vh,F Al (Z B.st.bq) cl,F Aq (Z B.st.bF) cq,F Aa (Z B.st.ab) ca,vt,nc,F Aw (Z B.dy) cw,kr⟩ k\/D (L W)<=k:=λk hk=>by rcases Y k hk with h|h;exact EN.aX k h;exact aJ aZ
   obtain⟨Ao,co,rfl⟩:=T.slice;have dR:=T.blk;have hMl:=HM.aX;have pr:=VH.aX.size;have aoR:iw (λk=>M k\/cY p2 k) cL (sk B).2 _ wr:=T.Dk (λk hk=>by
    rcases hk with h|h;exact aI (aI (aI h));rcases Y k h with h|h;exact aI (aI (aJ h));exact aI (aJ h)) (λk hk h=>by
    rcases h with h|h;have:=hMl k h;have:=(dR k hk).1;have:=MC.aX.size;omega;exact MJ k hk h)
   have hb2:df (λk=>M k\/cY p2 k) p2 (sk B).1 wr:=O.less (λk hk=>aJ hk) λk hk=>by rcases hk with h|h;exact aI (aI (aI h));exact aJ h
   have hfin:=hb2.aEE (aoR.fx bG);have u9:bf (cY p2) wr (aV wr ⟨p2.g,13,U⟩ (F Ao (Z (sk B).2) co)):=bf.dx (X:=cY p2) (aI rfl) 13 _;have HF:Hid (∀W9,W9=wr.setCell ⟨p2.g,13,U⟩ (F Ao (Z (sk B).2) co)->df (λk=>M k\/cY p2 k) { p2 with vw:=F Ao (Z (sk B).2) co } { (sk B).1 with dy:=(sk B).2 } W9):=aY λW9 e=>e▸hfin
   rw[kg N]at u9;have JT:=aY (uf.ir u9 λk hk h=>(hX9 k h).resolve_right aZ);have HX9:=aY hX9;have aoS:=aY N;have qg:=hb2.blk.cell;have zg:=hb2.blk.frozen;rw[kg N]at qg zg;clear O Y MJ T dR hMl pr aoR hb2 hfin u9 uf hX9 N u Ig;go_wp2;first|go_end0|(rw[Exit.noGoto_normal];go_end0)|(simp only[Exit.noGoto];go_end0)
   refine⟨rfl,?_⟩;rw[Ml.aX];have hN:fG M ⟨g,gl,gd,gr,gt,vd,vr,vp,vh,F Al (Z B.st.bq) cl,F Aq (Z B.st.bF) cq,F Aa (Z B.st.ab) ca,vt,nc,F Aw (Z B.dy) cw,kr⟩ { (sk B).1 with dy:=(sk B).2 } W (aV wr ⟨g,13,U⟩ (F Ao (Z (sk B).2) co)):=⟨{ p2 with vw:=F Ao (Z (sk B).2) co },HF.aX _ (by rw[kg aoS.aX]),JT.aX,aoS.aX,HX9.aX⟩;exact hN.F6 VH.aX λk hk=>HM.aX k (Bm.aX.sub k hk)
structure wR(M:Nat->Prop)(p:qu)(w w9:aP)(o9:aQ)(p2:qu)(B:cJ)(l:List bY)(o:aQ)(W:aP):Prop where
 br:df (λk=>(M k\/aW o=I k)\/cY p2 k) p2 B W
 uw:bf (cY p) w W
 u9:bf (λk=>cY p k\/aW o9=I k) w9 W
 key:p2.key=p.key
 new:∀k,cY p2 k->cY p k\/D (L w9)<=k
 no:∀k,aW o=I k->¬cY p2 k
 VN:∀k,aW o=I k->aW o9=I k\/D (L w9)<=k
 own:bK (λ_=>True) (D (L w)) 42 dQ l o W
 hz:D (L w)<=D (L w9)
 low:∀k,cY p k->k<D (L w)
 Ut:∀k,M k->k<D (L w)
section
variable {M:Nat->Prop}{p p2:qu}{w w9 W W':aP}{o9 o:aQ}{B B':cJ}{l l':List bY}
theorem bK.anT{Y base e}(h:bK Y base e dQ l o W):bK (λ_=>True) base e dQ l o W:=by obtain⟨y,j,t,z⟩:=h;exact⟨y,j,t,λ_ _=>z W (bf.rf _ _)⟩
theorem bK.aoT{N base e}(h:bK (λ_=>True) base e dQ l o W)(u:bf N W W')(A:∀k,aW o=I k->¬N k):bK (λ_=>True) base e dQ l o W':=by obtain⟨C,y,t,z⟩:=h;exact⟨C,kj y u A,t,λB j=>z B ((u.more λ_ _=>aI trivial).tr j)⟩
theorem wR.start(h:df M p B w)(k:K w w9)(A:bK (λ_=>True) (D (L w)) 42 dQ l o9 w9):wR M p w w9 o9 p B l o9 w9:=by
 have:=A.blk;have z:=λk C=>h.low k (h.sub k C)
 refine⟨h.far (X:=λ_=>False) (bf.cz k _) (λ_ h=>h.elim) (λ_ h=>h.elim) (λj t y=>?_) (λj t=>aJ t) (λj t=>?_),bf.cz k _,bf.rf _ _,rfl,λ_ h=>aI h,λj t y=>bL,λ_ h=>aI h,A,k.size,z,h.low⟩;rcases y with (y|y)|y;exact y
 .grind
 exact h.sub j y;rcases t with (t|t)|t;exact cZ (h.low j t) k.size
 .grind
 exact cZ (z j t) k.size
theorem wR.st(h:wR M p w w9 o9 p2 B l o W)(k:K W W'):wR M p w w9 o9 p2 B l o W' :=
 ⟨h.br.st k,h.uw.tr (bf.cz k _),h.u9.tr (bf.cz k _),h.key,h.new,h.no,h.VN,h.own.st k,h.hz,h.low,h.Ut⟩
theorem wR.note(h:wR M p w w9 o9 p2 B l o W)(N:fG (λk=>(M k\/aW o=I k)\/cY p2 k) p2 B' W W'):∃z,wR M p w w9 o9 z B' l o W':=by obtain⟨z,C,u,H,A⟩:=N;have:=h.u9.size;have:=h.hz;have:=h.own.blk;refine⟨z,C.less (λk j=>aJ j) (λk j=>j.imp aI λh=>h),h.uw.ir u λk j y=>(h.new k y).resolve_right aZ,h.u9.ir u λk j y=>(h.new k y).imp (λh=>h) λh=>aZ,H.trans h.key,λk j=>?_,λk j y=>?_,h.VN,h.own.aoT u λk j=>h.no k j,h.hz,h.low,h.Ut⟩;rcases A k j with t|t;exact h.new k t;omega;rcases A k y with t|t;exact h.no k j t;grind
theorem wR.push(h:wR M p w w9 o9 p2 B l o W){o'}(A:bK (λ_=>True) (D (L w)) 42 dQ l' o' W')(hg:W.grownBy W' (aW o))(O:aW o'=aW o\/aW o'=I (D (L W))):wR M p w w9 o9 p2 B l' o' W':=by
 have u:=bf.gy hg λk e=>e
 have:=h.own.blk;have:=A.blk;have:=h.u9.size;have z:∀k,aW o'=I k->aW o=I k\/D (L W)<=k:=λk j=>by grind
 refine⟨h.br.far u (λk j=>aI (aJ j)) (λk j=>h.no k j) (λk j t=>?_) (λk j=>aJ j) (λk j=>?_),h.uw.ir u λk j t=>bL,h.u9.ir u λk j t=>(h.VN k t).elim aJ λh=>aZ,h.key,h.new,λk j t=>?_,λk j=>?_,A,h.hz,h.low,h.Ut⟩
 .grind
 rcases j with (j|j)|j;exact cZ (h.br.low k (aI (aI j))) u.size
 .grind
 exact cZ (h.br.low k (aJ j)) u.size;rcases z k j with y|y;exact h.no k y t;have:=h.br.low k (aJ t);omega;rcases z k j with y|y;exact h.VN k y;omega
theorem wR.fin(h:wR M p w w9 o9 p2 B l o W):fG M p { B with jn:=l } w (aV W ⟨p.g,11,U⟩ o):=by
 have z:=EF h.key;have C:=h.own.blk;have O:Fx (λk=>M k\/cY p2 k) (λW=>bD dQ l o W) W:=λQ u=>(h.own.aoT u λk j t=>by
  rcases t with t|t;have:=(C k j).1;have:=h.Ut k t;omega;exact h.no k j t).bD
 have H:df (λk=>M k\/cY p2 k) p2 B W:=h.br.less (λk j=>aJ j) λk j=>j.imp aI λh=>h
 have A:=H.aEF O;rw[<- z];have N:∀k,cY { p2 with vf:=o } k->cY p2 k:=λk j=>j
 refine⟨{ p2 with vf:=o },A,h.uw.ir (bf.dx (X:=λk=>k=p2.g) rfl 11 o) λk j e=>aI (e.trans z),h.key,λk j=>?_⟩;rcases h.new k (N k j)with y|y;exact aI y;have:=h.hz;exact aJ aZ
end
def yJ(cA:List bY)(p:List bY×List bU)(x:bU):List bY×List bU:=if fJ cA (bE x)then (p.1++[bE x],p.2)else (p.1,p.2++[x])
theorem aC8 B l:l.foldl (yJ B.cA) ([],[])=(wi B l,nR B l):=by
 have key:∀(l:List bU) (p:List bY×List bU),l.foldl (yJ B.cA) p=(p.1++wi B l,p.2++nR B l):=by
  intro l;induction l with
  | nil=>intro p;simp[wi,nR]
  | cons x l j => grind [yJ,wi,nR,fJ,bE]
 simpa using key l ([],[])
theorem aBT cA:∀(l:List bU) (p:List bY×List bU),Z (l.foldl (yJ cA) p).1<=Z p.1+Z l/\Z (l.foldl (yJ cA) p).2<=Z p.2+Z l:=by
 intro l;induction l with
 | nil=>intro p;simp
 | cons x l j => grind [yJ]
theorem aff{s y}:∀ {l:List bU} {p:List bU×List bY},y∈(l.foldl (lT s) p).1->y∈p.1\/y∈l:=by
 intro l;induction l with
 | nil=>intro p h;exact aI h
 | cons x l j => grind [lT]
theorem ag8{B r}(h:(eQ B r).2=az):(eQ B r).1=B:=by grind [eQ]
theorem ave{p x}(h:dq p.1)(j:dZ x):dq (km p x).1:=by unfold km;split;exact KH h ⟨Td,BX,j,Td,BX,BX⟩;exact h
theorem agh{l:List bU}:∀ {p:cJ×List bY},dq p.1->(∀x∈l,dZ x)->dq (l.foldl km p).1/\Z (l.foldl km p).2<=Z p.2+Z l:=by
 induction l with
 | nil=>intro p h _;exact⟨h,bu⟩
 | cons x l j => grind [ave,km,gH]
theorem asM{M p B w}(h:df M p B w)(hG:dq B) l va(hl:Fx M (λW=>bD cL l va W) w)(hok:∀x∈l,dE x=aA/\dZ x)(hlen:Z l<=16) :aK aR 250 #[aj (I ⟨p.g,0,U⟩),va] w λe w'=>e=ak (au #[])/\fG M p (yx B l) w w':=by
 have HR:Hid (yx B l={ (vV B l).1 with jn:=(vV B l).2 }):=aY rfl;have HPD:Hid (vV B l=(pG B.st (nR B l)).1.foldl km (B,wi B l++(pG B.st (nR B l)).2)):=aY rfl;have HME:=aY (aC8 B l);have Cs:=aY λj=>aBT B.cA (l.take j) ([],[])
 have nT:=aY hok;have H:=aY h;have HG:=aY hG;have Q1:=aY λW (k:K w W) a=>(E0 T7 underlying160 (Zv W) (h.zk.st k) a).1
 simp only[af7]at Q1;have Qx:=Li hl.now;have hs1:=bH h.dz.now.bq;have jI:=bH h.dz.now.bF;have jY:=bH h.dz.now.ab;have hs4:=bH h.dz.now.iy;have CP:=aY λW (k:K w W) ml vm (hm:bD cL ml vm W) (h1:∀x∈ml,gu x) (h2:Z ml<=500000)=>ath B.st ml p.vl p.vq p.va vm W ⟨_,_,_,rfl,(h.dz.at k).bq,(h.dz.at k).bF,(h.dz.at k).ab⟩ hm h1 ⟨E7,E7,E7⟩ h2
 have q:=h.q;generalize yx B l=R at *;obtain⟨g,gl,gd,gr,gt,vd,vr,vp,vh,vl,vq,vab,vt,nc,vw,kr⟩:=p;simp only at q Q1 hs1 jI jY hs4 CP;obtain⟨Al,cl,rfl⟩:=hs1;obtain⟨Aq,cq,rfl⟩:=jI;obtain⟨Ab,cb,rfl⟩:=jY;obtain⟨Ar,cr,rfl⟩:=hs4;obtain⟨A,c,rfl⟩:=Qx.slice;have HLA:=aY Qx;obtain⟨QI,abK⟩:∃n:Nat,Hid (n=0):=⟨0,aY rfl⟩;have UM:nO QI (D (L w)) 42 dQ ([]:List bY) (F U 0 0) 128 cL ([]:List bU) (F U 0 0) w:=nO.abp (bK.nil _ _ _ _ _) (by rw[abK.aX];exact fw _);have kk:=K.rf w;go_in;go_wp2_with fail
 go_loopw [5,6,8,9,10,19] (fun o1 o2 _ _ _ i W=>∃j:Nat,j<=Z l/\i=G J j/\nO QI (D (L w)) 42 dQ ((l.take j).foldl (yJ B.cA) ([],[])).1 o1 128 cL ((l.take j).foldl (yJ B.cA) ([],[])).2 o2 W/\K w W) (fun _ _ _ _ _ i _=>Z l-(aO i).toNat)
 case atStart=>exact⟨0,aZ,rfl,by simpa using UM,kk⟩
 case round =>
  obtain⟨j,hj,rfl,Y,lA⟩:=hrel;by_cases hlt:j<Z l
  .have cE:(j:Int)<Z l:=aZ;obtain⟨b1,off,c1,cs1,e9,fR,mR,hF,hcell⟩:=HLA.aX.at j hlt bG;injection e9 with e9 _ iV;subst e9 iV;have HF:=aY (fold_succ (yJ B.cA) l ([],[]) j hlt);have hpl:=Cs.aX j;generalize l[j]=x at *;generalize (l.take j).foldl (yJ B.cA) ([],[])=P at *;obtain⟨Q,jJ⟩:∃Q,Hid (Q=(l.take (j+1)).foldl (yJ B.cA) ([],[])):=⟨_,aY rfl⟩;replace HF:Hid (Q=yJ B.cA P x):=aY (jJ.aX.trans HF.aX);have Ly:Z P.1<=500000:=Oy;have Po:Z P.2<=500000:=Oy;obtain⟨P1,P2⟩:=P;simp only at Y Ly Po;have uM:bf (λk=>D (L w)<=k) w wr:=bf.cz lA _;have wQ:=hcell wr uM;have VI:=aY hF;obtain⟨vf,ve,rfl,hf,he⟩:=hF wr uM;have q9:∀i,i<8->wr.cell? ⟨b1,off+j*8+i,U⟩=(cB x vf ve)[i]?:=λi hi=>(wQ i hi).trans aD
   have q0:wr.cell? ⟨b1,off+j*8,U⟩=I (G J x.bA):=q9 0 bG;have z:=bn.new wr 128 (cB x vf ve);have k3:=z.cG;obtain⟨Af,cf,rfl⟩:=dX hf;obtain⟨Ae,ce,rfl⟩:=bH he;obtain⟨A1,c1',rfl⟩:=Y.a.slice;obtain⟨A3,c3,rfl⟩:=Y.b.slice;go_upto_region 6 with fail;have Qy:=Y.st k3;have eA:=lA.tr k3;generalize wr.alloc _=w3 at *;have q8:=z.cells;have q1:=λW (k:K w3 W)=>q W (eA.tr k)
   obtain⟨vz,hvz⟩:∃vz,vz=(eX (sw B.cA) (bE x)).getD (G J 0):=⟨_,rfl⟩;have ql:∀W,K w3 W->(Instr.lookup 160 (.map (I gt)) (av #[G J x.br,G E x.life,G E x.eY]) aA).run aR W=.ok (au #[vz,ar (fJ B.cA (bE x))]) W:=λW k=>by rw[hvz];exact Q1.aX W (eA.tr k) (bE x)
   have qs:=aB q1 (aB q8 ql);refine fD 12 ?_;iterate 12 refine bB.i ?_
   intro V W kW hA;simp only[bZ,cC,dF,bS,Nat.reduceAdd]at hA;refine bN.h ?_;have EL:=Qy.st kW;have iX:=eA.tr kW;have eF:=z.bM kW;have wP:=EL.a.blk;have gY:=EL.b.blk;generalize W=w4 at *;have q9:=eF.cell;cases ht:fJ B.cA (bE x)
   .have HP:Hid (Q=(P1,P2++[x])):=aY alR;have oN:Fx (λk=>(k<QI\/aW (F A1 (Z P1) c1')=I k)\/aW (F A3 (Z P2) c3)=I k) (λW=>cL.rel x (av (cB x (F Af (Z x.f) cf) (F Ae (Z x.es) ce))).cells.toList W) w4:=λW' u=>VI.aX W' ((bf.cz iX _).ir u λk t h=>by
     rcases h with (h|h)|h;have:=abK.aX;omega;exact (wP k h).1;exact (gY k h).1)
    have hr:=fL.new (S:=cL) (e:=128) (v:=av (cB x (F Af (Z x.f) cf) (F Ae (Z x.es) ce))) oN 0 (fw _);have kA:=K.new w4 (aq (cB x (F Af (Z x.f) cf) (F Ae (Z x.es) ce)) 128);have uz:=EL.st kA;have kL:=iX.tr kA;have qv:=kL.size;go_wp2_with (at_builtin;refine j0 rfl _ _ 59 rfl _ 8 96 tH rfl rfl uz.b _ rfl x ?p1 ?p2 ?X ?_)
    case p1=>exact hr
    case p2=>omega
    case X=>simpa using qv
    exact ZS
   have HP:Hid (Q=(P1++[bE x],P2)):=aY alR;have hr:=fL.new (S:=dQ) (e:=42) (x:=bE x) (v:=av (eI (bE x))) (w:=w4) (N:=λk=>(k<QI\/aW (F A3 (Z P2) c3)=I k)\/aW (F A1 (Z P1) c1')=I k) (λW u=>rfl) 0 (fw _);have kA:=K.new w4 (aq (eI (bE x)) 42);have uz:=EL.st kA;have kL:=iX.tr kA;have qv:=kL.size;go_wp2_with (at_builtin;refine j0 rfl _ _ 53 rfl _ 3 24 sK rfl rfl uz.a _ rfl (bE x) ?p1 ?p2 ?X ?_)
   case p1=>exact hr
   case p2=>omega
   case X=>simpa using qv
   exact alS
  have cE:¬(j:Int)<Z l:=aZ;obtain rfl:j=Z l:=aZ;rw[pL,HME.aX]at Y;simp only at Y;have yL:∀x∈nR B l,dE x=aA/\dZ x:=λx z=>nT.aX x (List.mem_filter.1 z).1
  have AU:Z (nR B l)<=16:=cQ (oo _ _) hlen;have hrn:Z (wi B l)<=16:=by unfold wi;rw[List.length_map];exact cQ (oo _ _) hlen
  have C2:=aY (CP.aX wr lA (nR B l) _ Y.b.bD (λx z=>wX (yL x z).1) aZ);have hpm:∀y∈(pG B.st (nR B l)).1,dE y=aA/\dZ y:=λy hy=>yL y ((aff hy).resolve_left bu)
  have hpn:=afG B.st (nR B l) ([],[]);have HPM:=aY hpm;obtain⟨A3,c3,e3⟩:=Y.b.slice;have hTa:=Y.a;have sF:=λk t=>(Y.b.blk k (e3▸t)).2
  generalize wi B l=rB at *;generalize nR B l=mB at *;have QJ:Z (pG B.st mB).1<=16:=alT;have wS:Z (pG B.st mB).2<=16:=alT;generalize pG B.st mB=PV at *;obtain⟨O,PV2⟩:=PV;simp only at C2 HPD HPM QJ wS;have q1:=q wr lA;subst e3;obtain⟨A1,c1',rfl⟩:=hTa.slice;generalize wr=w5 at *;go_wp2_with fail
  refine C2.aX.mono ?_;rintro e w6⟨v1,v2,rfl,xQ,k6⟩;have Ge:=hTa.st k6;have wP:=hTa.blk;have tB:=lA.size;have cK:=xQ.a.blk;have hb2:=xQ.b.blk;have kO:iw (λk=>(k<QI\/aW (F A3 (Z mB) c3)=I k)\/aW (F A1 (Z rB) c1')=I k) dQ PV2 v2 w6:=xQ.b.anT.Dk (λ_ _=>aI trivial) λk t z=>by have h1:=(hb2 k t).1;rcases z with (z|z)|z;have:=abK.aX;omega;have:=Ge.slice;exact absurd h1 (by have:=sF k z;omega);have:=(wP k z).2;omega
  have k06:=lA.tr k6;obtain⟨Av1,cv1,e1⟩:=xQ.a.slice;have aE4:=xQ.a;go_wp2_with (at_builtin;refine W6 rfl _ _ 53 rfl _ 3 24 sK rfl rfl Ge _ rfl kO ?p2 ?X ?_)
  case p2=>omega
  case X=>exact k06.size
  intro v9 w9 cX dW gD cV;have k09:=k06.trans cV;have C:=wR.start H.aX k09 cX.anT;have u19:=bf.gy dW λk e=>e
  have Dn:=aE4.to (Y':=λk=>k<D (L w5)\/D (L w6)<=k) u19 (λk t=>aI (wP k t).2) (λk h1 h2=>by have:=(cK k h1).1;have:=(wP k h2).2;omega) (λk h1 t=>t.elim (λh=>aI (aI h)) λh=>aZ);have HV1:=aY (Dn.Dk (N:=λk=>cY ⟨g,gl,gd,gr,gt,vd,vr,vp,vh,F Al (Z B.st.bq) cl,F Aq (Z B.st.bF) cq,F Ab (Z B.st.ab) cb,vt,F Ar (Z B.jn) cr,vw,kr⟩ k\/aW v9=I k) (λk t=>aI (by
   rcases t with t|t;have:=C.low k t;exact aI aZ
   .rcases gD with e|e;exact aI ((wP k (e▸t)).2);rw[e]at t;injection t with t;exact aJ aZ)) λk h1 t=>by
   have:=cK k h1;rcases t with t|t;have:=C.low k t;omega;rcases gD with e|e;have:=(wP k (e▸t)).2;omega;rw[e]at t;injection t with t;omega)
  subst e1;obtain⟨T,P4⟩:∃T,Hid (T=rB++PV2):=⟨_,aY rfl⟩;rw[<- P4.aX]at cX C;have hl9:Z T<=32:=by rw[P4.aX];simp;omega
  have aE5:Hid (vV B l=O.foldl km (B,T)):=aY (by rw[HPD.aX,P4.aX]);obtain⟨A9,c9,rfl⟩:=cX.slice;obtain⟨P0,Hp⟩:∃P0:qu,Hid (P0=⟨g,gl,gd,gr,gt,vd,vr,vp,vh,F Al (Z B.st.bq) cl,F Aq (Z B.st.bF) cq,F Ab (Z B.st.ab) cb,vt,F Ar (Z B.jn) cr,vw,kr⟩):=⟨_,aY rfl⟩;rw[<- Hp.aX]at C HV1;have Vi:Hid (P0.g=g):=aY (by rw[Hp.aX]);go_wp2_with fail
  go_loopw [5,14,58] (fun o _ i W=>∃(j:Nat) (p2:qu),j<=Z O/\i=G J j/\wR M P0 w w9 (F A9 (Z T) c9) p2 ((O.take j).foldl km (B,T)).1 ((O.take j).foldl km (B,T)).2 o W) (fun _ _ i _=>Z O-(aO i).toNat)
  case atStart=>exact⟨0,P0,aZ,rfl,by simpa using C⟩
  case round =>
   obtain⟨j,p2,hj,rfl,C⟩:=hrel;have mh:=(EF C.key).trans Vi.aX;have HP:=aY C;by_cases hlt:j<Z O
   .have cE:(j:Int)<Z O:=aZ;obtain⟨b1,o1,c1,cs1,e9,fR,mR,hF,hcell⟩:=HV1.aX.at j hlt bG;injection e9 with e9 _ iV;subst e9 iV;have HF:=aY (fold_succ km O (B,T) j hlt);have hm:=HPM.aX _ (dJ hlt);have zu:=agh (p:=(B,T)) HG.aX (l:=O.take j) λx z=>(HPM.aX x (oW z)).2
    generalize O[j]=x at *;generalize (O.take j).foldl km (B,T)=P at *;obtain⟨Q,jJ⟩:∃Q,Hid (Q=(O.take (j+1)).foldl km (B,T)):=⟨_,aY rfl⟩;replace HF:Hid (Q=km P x):=aY (jJ.aX.trans HF.aX);obtain⟨Bj,rj⟩:=P;simp only at C HP zu;have hrl:Z rj<=100:=by have:=zu.2;simp at this;omega
    have wQ:=hcell wr C.u9;obtain⟨vf,ve,rfl,hf,he⟩:=hF wr C.u9;have q9:∀i,i<8->wr.cell? ⟨b1,o1+j*8+i,U⟩=(cB x vf ve)[i]?:=λi hi=>(wQ i hi).trans aD
    have q0:wr.cell? ⟨b1,o1+j*8,U⟩=I (G J x.bA):=q9 0 bG;have z:=bn.new wr 128 (cB x vf ve);have k3:=z.cG;have Db:∀W,K wr W->tC (xE x) (av (jf (xE x) vf ve)) W:=λW k=>⟨_,_,rfl,fO _ _ _ _ hf k,cM he k⟩
    obtain⟨Af,cf,rfl⟩:=dX hf;obtain⟨Ae,ce,rfl⟩:=bH he;have Ey:=aY Db;obtain⟨Ao,co,rfl⟩:=C.own.slice;go_upto_region 16 with fail;have QK:=C.st k3;generalize wr.alloc _=w3 at *;have hxe:¬cY p2 (D (L wr)):=λh=>by have:=C.br.low _ (aJ h);omega
    generalize Gc:D (L wr)=gx at *;have q8:=z.cell;have C3:=aY (Nj QK.br zu.1 (xE x) _ (Ey.aX w3 k3) ⟨Td,BX,hm.2,Td,BX,BX⟩ (wX hm.1));simp only[mh]at C3;have vF:Hid ((eQ Bj (xE x)).2=az->(eQ Bj (xE x)).1=Bj):=aY ag8;have ML:Hid (Q=if (eQ Bj (xE x)).2 then ((eQ Bj (xE x)).1,rj)else (Bj,rj++[bE x])):=aY HF.aX;generalize eQ Bj (xE x)=NB at *;obtain⟨N1,N2⟩:=NB;simp only at C3 vF ML;go_wp2_with fail
    apply bW C3.aX;intro w4 hN;obtain⟨X,QM⟩:=QK.note hN;obtain⟨_,_,uN,_⟩:=hN;have eF:=z.cF uN hxe;cases N2
    .have MJ:=vF.aX rfl;subst MJ;have HQ:Hid (Q=(N1,rj++[bE x])):=aY (by rw[ML.aX];rfl);have tK:=eF.cell;have hr:=fL.new (S:=dQ) (e:=42) (x:=bE x) (v:=av (eI (bE x))) (w:=w4) (N:=λk=>True\/aW (F Ao (Z rj) co)=I k) (λW u=>rfl) 0 (fw _);have kA:=K.new w4 (aq (eI (bE x)) 42);have hP5:=QM.st kA;have gL:=hP5.own;have tB:=hP5.uw.size;go_wp2_with (at_builtin;refine j0 rfl _ _ 53 rfl _ 3 24 sK rfl rfl gL _ rfl (bE x) ?p1 ?p2 ?X ?_)
     case p1=>exact hr.less λk _=>aI trivial
     case p2=>omega
     case X=>simpa using tB
     intro v9 Bz cX dW gD cV;have Ia:=hP5.push (cX.less λ_ _=>trivial) dW BS;go_wp2;go_roundw
     case rel=>exact⟨j+1,X,aZ,dh,by rw[<- jJ.aX,HQ.aX];exact Ia⟩
     case measure=>simp[aO];omega
    have HQ:Hid (Q=(N1,rj)):=aY (by rw[ML.aX];rfl);go_wp2;go_roundw
    case rel=>exact⟨j+1,X,aZ,dh,by rw[<- jJ.aX,HQ.aX];exact QM⟩
    case measure=>simp[aO];omega
   have cE:¬(j:Int)<Z O:=aZ;obtain rfl:j=Z O:=aZ;rw[pL,<- aE5.aX]at C;have xP:=C.fin;rw[Vi.aX]at xP;obtain⟨Ao,co,e8⟩:=C.own.slice;have qg:=C.br.blk.cell;have zg:=C.br.blk.frozen;rw[mh]at qg zg;subst e8;have Df:=aY xP;rw[Hp.aX]at Df;go_wp2;go_end0;refine⟨rfl,?_⟩;rw[HR.aX];exact Df.aX
theorem aeW{M p B w}(h:df M p B w)(hG:dq B) a(fa:ew a) Q gn(hb:bn w Q 114 #[aj (I ⟨p.g,0,U⟩)])(hn:bn w gn 226 #[.func (.func 247) #[aj (I ⟨p.g,0,U⟩)] #[]]) :aK aR 248 #[dD a,aj (I ⟨Q,0,U⟩),aj (I ⟨gn,0,U⟩)] w λe w'=>e=ak (au #[])/\fG M p (jC B a) w w':=by
 have Y:Hid (jC B a=if dM B.st.bF a then (eQ B (lE 5 a)).1 else B):=aY rfl;have hlo:=λk hk=>h.low k (h.sub k hk)
 have z:=bn.new w 42 (eI a);have k1:=z.cG;have N:=hb.bM k1;have S:=hn.bM k1;have H:=aY h;have yU:=aY hlo;have C1:=aY λW (k:K w W)=>M8 B.st a (av (eO B.st p.vl p.vq p.va)) W ⟨_,_,_,rfl,(h.dz.at k).bq,(h.dz.at k).bF,(h.dz.at k).ab⟩ E7
 have Db:∀W,tC (lE 5 a) (av (jf (lE 5 a) (F U 0 0) (F U 0 0))) W:=λW=>⟨_,_,rfl,⟨U,0,rfl,Reads.nil _ _ _ _⟩,iJ _ _⟩
 have C:=aY λW (k:K w W)=>Nj (h.st k) hG (lE 5 a) _ (Db W) (Yc tQ fa) ⟨by simp[lE,fS],by simp[lE,fS],by simp[lE,fS]⟩
 have hs1:=bH h.dz.now.bq;have X:=bH h.dz.now.bF;have A:=bH h.dz.now.ab;have q:=h.q;generalize jC B a=R at *;obtain⟨g,gl,gd,gr,gt,vd,vr,vp,vh,vl,vq,va,vt,vf,vw,kr⟩:=p;simp only at q C1 C hs1 X A N S;obtain⟨Al,cl,rfl⟩:=hs1;obtain⟨Ap,cp,rfl⟩:=X;obtain⟨Aa,ca,rfl⟩:=A;go_in;go_upto_region 1 with fail;generalize w.alloc _=w1 at *;generalize D (L w)=ga at z|-;have qa:=z.cells;have O:=N.cells;have T:=λW (k:K w1 W)=>q W (k1.tr k)
 have qs:=aB T (aB qa O);refine fD 6 ?_;iterate 5 refine bB.i ?_
 refine bB.is (ar (dM B.st.bF a)) (λV W t j=>?_) ?_
 ·(try simp only[dN,bZ,cC,dK,dL,bS]at j)
  simp[dI,bR,aC,j,fk,aL,bT,bS,T,qa,O,go_sem];apply bW (C1.aX W (k1.tr t));intro w4 k4;grind
 intro V W t hA;simp only[bZ,cC,dF,bS,Nat.reduceAdd]at hA;refine bN.h ?_;have y:=k1.tr t;have:=S.cells W t;generalize W=w2 at *;cases j:dM B.st.bF a
 .have HF:Hid (R=B):=aY (by rw[Y.aX,j];rfl);have HN:=aY (H.aX.n y);go_wp2;go_end0;exact ZZ
 have HF:Hid (R=(eQ B (lE 5 a)).1):=aY (by rw[Y.aX,j];rfl);have C3:=aY (C.aX w2 y);go_wp2_with fail
 apply bW C3.aX;intro w3 hN;have HN:=aY (hN.F6 y yU.aX);go_wp2;go_end0;exact ZZ
theorem Yd{α}[DecidableEq α]{k}:∀ {bC:List (α×aQ)} {i:Nat},(∀p∈bC,p.1≠k)->i6 k bC i=U
 | [],_,_=>rfl
 | p :: r,i,h=>by unfold i6;have j:=h p bu;simp only[j,if_false];exact Yd λq t=>h q (by simp[t])
theorem awK{l a}(h:fJ l a=az):uK (sw l) a (G J (Z l))=sw (l++[a]):=by grind [sw,List.fst_mem_of_mem_zipIdx,fJ,uK,Yd]
theorem df.tell{M p B w w'}(h:df M p B w){a}(hm:fP oy w' p.gt (sw (B.cA++[a])))(hg:w.grownBy w' (I p.gt)):df M p { B with cA:=B.cA++[a] } w':=by
 obtain⟨N,A,O,H,C⟩:=h.apart;have u:bf (λk=>k=p.gt) w w':=bf.gy hg λk e=>bL
 have z:=u.more λk t=>h.sub k (t▸aJ (aJ (aI rfl)))
 refine⟨h.blk.cF u A,h.lg.cF u λk t e=>C (e▸t),h.rep.cF u h.ne,hm,λW y=>?_,h.sub,λk t=>cZ (h.low k t) u.size,h.ne⟩;have j:=h.dz W (z.tr y);exact⟨j.par,j.bj,j.bq,j.bF,j.ab,j.bI,j.iy,j.dy,j.dm⟩
theorem aAF{M p B w}(h:df M p B w){a}(z:fJ B.cA a=az) :∃j,(Instr.mapUpdate 160 (.map (I p.gt)) (av (eI a)) (G J (Z B.cA))).run aR w=.ok () j/\df M p { B with cA:=B.cA++[a] } j/\bf (λk=>k=p.gt) w j:=by obtain⟨j,A,t,y⟩:=Gy T7 underlying160 h.zk a (G J (Z B.cA));rw[awK z]at t;exact⟨j,A,h.tell t y,bf.gy y λk e=>bL⟩
theorem fP.len{α enc P w b}{bC:List (α×aQ)}(h:fP enc w b bC){t ty k e}(y:P.underlying t=some (.map k e)):(Builtin.len_ #[t] ty #[.map (I b)]).run P w=.ok (G J (Z bC)) w:=by
 obtain⟨es,c,z,j,-⟩:=h;have A:P.underlying t=some (.map (P.mapKeyOf t) (P.mapElemOf t)):=by unfold Program.mapKeyOf Program.mapElemOf;rw[y]
 have:=congrArg Z j;simp only[List.length_map,Array.length_toList]at this;rw[run_len_map w t ty b es c A z,this];rfl
theorem df.aBU{M p B w}(h:df M p B w):∀W,K w W->∀ty,(Builtin.len_ #[160] ty #[.map (I p.gt)]).run aR W=.ok (G J (Z B.cA)) W:=λW k ty=>by have:=(h.zk.st k).len (ty:=ty) underlying160;rw[this];simp[sw]
@[local go_sem] theorem aJ6 {P:Program} {w:aP} (a:Addr) (m:Mode) (f:Fn) (bs cs:Array aQ):(store a (.func f bs cs) m).run P w=stored P w a (.func f bs cs) m:=run_store P w a _ m rfl
theorem alU:∀(x:bY) (j:List aQ) (W:aP),dQ.rel x j W->j[0]?≠I (ar aA):=λx j W h=>by have:j=gF x:=h;rw[this];simp
theorem awL{B n j}{l:List bU}(h:j<Z l):lC B ((n+j)%18446744073709551616) (l.drop j)=if (n+j)%18446744073709551616=Z B.st.bq then (if (eQ B (pc ((n+j)%18446744073709551616) l[j])).2 then lC (eQ B (pc ((n+j)%18446744073709551616) l[j])).1 ((n+(j+1))%18446744073709551616) (l.drop (j+1))else B)else lC B ((n+(j+1))%18446744073709551616) (l.drop (j+1)):=by
 have e:((n+j)%18446744073709551616+1)%18446744073709551616=(n+(j+1))%18446744073709551616:=aZ;rw[List.drop_eq_getElem_cons h];conv=>lhs;unfold lC
 rw[e]
theorem aC9(n:Nat):E.wrap (n:Int)=((n%18446744073709551616:Nat):Int):=by rfl
theorem Te{m}(h:fT m=aA)(j:pU m):(∀x∈m.eM,dE x=aA/\dZ x)/\Z m.eM<=16/\(∀x∈m.gq,dE x=aA/\dZ x)/\Z m.gq<=16/\(∀a∈m.fc,ew a)/\Z m.fc<=16/\(∀a∈m.fQ,ew a)/\Z m.fQ<=16/\m.got<18446744073709551616:=by grind [fT,pU,dE,dZ,ew,mS]
theorem RI:∀ {l:List bU} {B:cJ} {n:Nat},dq B->n<18446744073709551616->(∀x∈l,dZ x)->dq (lC B n l)
 | [],B,n,h,_,_=>h
 | x :: l,B,n,h,hn,hl=>by
  unfold lC;have j:=KH h (Sh hn (hl x bu));have hm:(n+1)%18446744073709551616<18446744073709551616:=Nat.mod_lt _ bG;split;split;exact RI j hm λy hy=>hl y K6
  exact h;exact RI h hm λy hy=>hl y K6
theorem Rq{B a}(h:dq B)(j:ew a):dq (jC B a)/\(jC B a).cA=B.cA:=by unfold jC;split;exact⟨KH h (Yc tQ j),(Gt yi).cA⟩;grind
theorem Xk{B a}(h:dq B)(hl:Z B.cA+1<=1000000):dq { B with cA:=B.cA++[a],bI:=gU B.bI a } :=
 ⟨h.tr,h.me,h.hm,h.dk,h.tx.settle _,h.calls,h.dm,YG,h.iy,h.dy,h.Cq⟩
theorem RK:∀ {l:List bU} {B:cJ} {n:Nat},(lC B n l).cA=B.cA
 | [],B,n=>rfl
 | x :: l,B,n=>by unfold lC;split;split;exact RK.trans (Gt yh).cA;rfl;exact RK
theorem avf{M p B w}(h:df M p B w)(hG:dq B) m v1 v2 v3 v4 v5 v6(h1:bD qV m.eE v1 w)(h2:bD cL m.cR v2 w)(h3:Fx M (λW=>bD cL m.eM v3 W) w)(h4:Fx M (λW=>bD cL m.gq v4 W) w)(h5:Fx M (λW=>bD dQ m.fc v5 W) w)(h6:Fx M (λW=>bD dQ m.fQ v6 W) w)(hok:fT m=aA)(hfit:pU m)(gT:Z B.cA+Z m.fc<=1000000) :aK aR 171 #[aj (I ⟨p.g,0,U⟩),av (nh m v1 v2 v3 v4 v5 v6)] w λe w'=>e=ak (au #[])/\fG M p (sY B m) w w':=by
 have HR:Hid (sY B m=yx (m.fQ.foldl jC (m.fc.foldl lU (lC B m.got m.eM))) m.gq):=aY rfl;have HL3:=aY (Fx.fix h3 bG TL);have wO:=aY (Fx.fix h5 bG alU);have HL6:=aY (Fx.fix h6 bG alU);have H4:=aY h4;have H:=aY h;have HG:=aY hG;have hlo:=λk Q=>h.low k (h.sub k Q)
 have yU:=aY hlo;have nT:=aY hok;have HTL:=aY gT;have Co:=aY hfit;have hs4:=bH h4.now;obtain⟨A1,c1,rfl⟩:=bH h1;obtain⟨A2,c2,rfl⟩:=bH h2;obtain⟨A3,c3,rfl⟩:=bH h3.now;obtain⟨A4,c4,rfl⟩:=hs4;obtain⟨A5,c5,rfl⟩:=bH h5.now;obtain⟨A6,c6,rfl⟩:=bH h6.now;generalize sY B m=R at *;obtain⟨g,hg⟩:∃g,Hid (g=p.g):=⟨_,aY rfl⟩;rw[<- hg.aX];generalize hma:nh m (F A1 (Z m.eE) c1) (F A2 (Z m.cR) c2) (F A3 (Z m.eM) c3) (F A4 (Z m.gq) c4) (F A5 (Z m.fc) c5) (F A6 (Z m.fQ) c6)=ma at *;have k1:=K.ou w (aq #[aj (I ⟨g,0,U⟩)] 114) (aq ma 239);have hb:=(bn.new w 114 #[aj (I ⟨g,0,U⟩)]).alloc (aq ma 239);have hc:=bn.new (aU w (aq #[aj (I ⟨g,0,U⟩)] 114)) 239 ma;have hz1:D (L (aU w (aq #[aj (I ⟨g,0,U⟩)] 114)))=D (L w)+1:=bu;rw[hz1]at hc;subst hma;go_in;go_upto_region 1 with fail;generalize ay (ay w _) _=w1 at *;generalize pz:D (L w)=lo at hb hc|-;have pA:=aY pz;have qb:=hb.cells;have qc:=hc.cells;have:=qb w1 (K.rf _);have hd:=bn.new w1 226 #[.func (.func 247) #[aj (I ⟨g,0,U⟩)] #[]];go_step3;go_wp2_with fail
 have k2:=K.new w1 (aq #[.func (.func 247) #[aj (I ⟨g,0,U⟩)] #[]] 226);have hb2:=hb.bM k2;have jR:=hc.bM k2;have hz1:=hc.lt;generalize ay w1 _=w2 at *;generalize hgd:D (L w1)=gd at hd hz1|-;have HGD:=aY hgd;have dt:=k1.tr k2;have hnX:∀k,lo<=k->¬cY p k:=λk Q C=>by have:=yU.aX k C;have:=pA.aX;omega
 have N:=aY hnX;have EA:=H.aX.st dt;have En:Hid (∀W,bf (cY p) w2 W->bf M w W):=aY λW u=>(bf.cz dt M).tr (u.more λk Q=>H.aX.sub k Q)
 have:=jR.cells w2 (K.rf _);go_step3;go_upto_block 0 with fail;obtain⟨AX,yT,QJ,wS,sI,vA,Kl,QN,Uu⟩:=Te nT.aX Co.aX;have QO:=aY (RI HG.aX Uu λx C=>(AX x C).2);obtain⟨BE,hBE⟩:∃BE,Hid (BE=lC B m.got m.eM):=⟨_,aY rfl⟩;rw[<- hBE.aX]at HR QO;have HE1:=aY AX;have zj:=aY QJ;have Kg:=aY sI;have CM:=aY Kl;have FD:=EA.now rfl (λk Q=>aI Q) (bf.rf _ w2);go_cut [5,6,7]from 18 to 43 (fun _ _ _ W=>fG M p BE w2 W)
 case first =>
  go_wp2_with fail
  go_loopw [5,6,7,18] (fun _ _ _ i W=>∃(j:Nat) (t:cJ),j<=Z m.eM/\i=G J j/\fG M p t w2 W/\dq t/\BE=lC t ((m.got+j)%18446744073709551616) (m.eM.drop j)) (fun _ _ _ i _=>Z m.eM-(aO i).toNat)
  case atStart=>exact⟨0,B,aZ,rfl,FD,HG.aX,by rw[hBE.aX,List.drop_zero,Nat.add_zero,Nat.mod_eq_of_lt Uu]⟩
  case round =>
   obtain⟨j,t,hj,rfl,hN,z,QP⟩:=hrel;obtain⟨p2,hV,y,O,S⟩:=hN;have mh:=(EF O).trans hg.aX.symm;by_cases hlt:j<Z m.eM
   .have cE:(j:Int)<Z m.eM:=aZ;obtain⟨b1,o1,c1',cs1,Y,fR,mR,hF,hcell⟩:=HL3.aX.at j hlt bG;injection Y with Y _ iV;subst Y iV;have HST:=aY (QP.trans (awL hlt));have hx1:=HE1.aX _ (dJ hlt);have:=cZ hlt yT;generalize m.eM[j]=x at *;have hcw:=hcell wr (En.aX wr y);obtain⟨vf,ve,rfl,hf,he⟩:=hF wr (En.aX wr y);have q9:∀i,i<8->wr.cell? ⟨b1,o1+j*8+i,U⟩=(cB x vf ve)[i]?:=λi hi=>(hcw i hi).trans aD
    have q0:wr.cell? ⟨b1,o1+j*8,U⟩=I (G J x.bA):=q9 0 bG;obtain⟨Af,cf,rfl⟩:=dX hf;obtain⟨Ae,ce,rfl⟩:=bH he;have C:=bn.new wr 128 (cB x (F Af (Z x.f) cf) (F Ae (Z x.es) ce));have k3:=C.cG;have Db:∀n W,K wr W->tC (pc n x) (av (jf (pc n x) (F Af (Z x.f) cf) (F Ae (Z x.es) ce))) W:=λn W k=>⟨_,_,rfl,fO _ _ _ _ hf k,cM he k⟩
    have Ey:=aY Db;go_upto_region 5 with fail;have T:=hV.st k3;have A:=y.tr (bf.cz k3 _);generalize ay wr _=w3 at *;generalize Gc:D (L wr)=gx at *;have dB:=hb2.cF A (N.aX lo (bP _));have qX:=jR.cF A (N.aX (lo+1) aZ);have hd3:=hd.cF A (N.aX gd aZ);have qb:=dB.cell;have qc:=qX.cell;have:=hd3.cell;have qx:=C.cell;have:=z.dk.len;have:E.wrap (j:Int)=j:=alV;have:E.wrap ((m.got:Int)+j)=(((m.got+j)%18446744073709551616:Nat):Int):=dH;generalize hn:(m.got+j)%18446744073709551616=n at *;have LS:n<18446744073709551616:=aZ;have:E.wrap (Z t.st.bq:Int)=Z t.st.bq:=alV;have:=aY hV;have HV3:=aY T;have anU:=aY λ(e:n=Z t.st.bq) W (k:K w3 W)=>Nj (T.st k) z (pc n x) _ (Ey.aX n W (k3.tr k)) (Sh LS hx1.2) (wX hx1.1)
    have qB:=T.blk.cell;obtain⟨Al,cl,el⟩:=bH T.dz.now.bq;have aE6:=hx1.2;have QQ:=aY (show fG M p t w2 w3 from ⟨p2,T,A,O,S⟩);have HKEY:=aY O;obtain⟨g',gl,gd',gr,gt,vd,vr,vp,vh,vl,vq,va,vt,nc,vw,kr⟩:=p2;simp only at mh qB el anU HKEY;subst mh;subst el;have HG2:=aY (KH z (Sh LS aE6));have vF:Hid ((eQ t (pc n x)).2=az->(eQ t (pc n x)).1=t):=aY ag8;by_cases hnl:n=Z t.st.bq
    .have HC:=aY (anU.aX hnl w3 (K.rf _));have Pu:=aY (HST.aX.trans (bV hnl));have HNN:=aY hnl;generalize eQ t (pc n x)=NB at *;obtain⟨N1,N2⟩:=NB;simp only at HC Pu HG2 vF;go_wp2_with fail
     rw[HNN.aX]at HC;apply bW HC.aX;intro w4 Ie;have xT:=aY (fG.tr A HKEY.aX S (λ_ h=>aI h) Ie);cases N2
     .have e1:=vF.aX rfl;subst e1;have HF:Hid (BE=N1):=aY (by rw[Pu.aX];rfl);go_wp2;go_meet;rw[HF.aX];exact xT.aX
     have HF:Hid (BE=lC N1 ((m.got+(j+1))%18446744073709551616) (m.eM.drop (j+1))):=aY (by rw[Pu.aX];rfl);go_wp2;go_roundw
     case rel=>exact⟨j+1,N1,aZ,dh,xT.aX,HG2.aX,HF.aX⟩
     case measure=>simp[aO];omega
    have Pu:=aY (HST.aX.trans (bQ hnl));go_wp2;go_roundw
    case rel=>exact⟨j+1,t,aZ,dh,QQ.aX,z,Pu.aX⟩
    case measure=>simp[aO];omega
   obtain rfl:j=Z m.eM:=aZ;have cE:¬(Z m.eM:Int)<Z m.eM:=aZ;have HF:Hid (BE=t):=aY (by rw[QP,List.drop_length];rfl);have xT:=aY (show fG M p t w2 wr from ⟨p2,hV,y,O,S⟩);go_wp2;go_meet;rw[HF.aX];exact xT.aX
 generalize wc=w3 at *;have HTB:Hid (Z BE.cA+Z m.fc<=1000000):=aY (by rw[hBE.aX,RK];exact HTL.aX);obtain⟨BA,hBA⟩:∃BA,Hid (BA=m.fc.foldl lU BE):=⟨_,aY rfl⟩;rw[<- hBA.aX]at HR;have xU:=aY hcut;obtain⟨_,_,A,_⟩:=hcut;have qX:=jR.cF A (N.aX (lo+1) aZ);have qc:=qX.cell;go_upto_block 2 with fail;go_wp2_with fail
 go_loopw [10,48] (fun _ i W=>∃(j:Nat) (t:cJ),j<=Z m.fc/\i=G J j/\fG M p t w2 W/\dq t/\Z t.cA<=Z BE.cA+j/\BA=(m.fc.drop j).foldl lU t) (fun _ i _=>Z m.fc-(aO i).toNat)
 case atStart=>exact⟨0,BE,aZ,rfl,xU.aX,QO.aX,aZ,iF⟩
 case round =>
  obtain⟨j,t,hj,rfl,hN,z,htj,QP⟩:=hrel;obtain⟨p2,hV,y,O,S⟩:=hN;have mh:=(EF O).trans hg.aX.symm;by_cases hlt:j<Z m.fc
  .have cE:(j:Int)<Z m.fc:=aZ;obtain⟨b1,o1,c1',cs1,Y,fR,mR,hF,hcell⟩:=wO.aX.at j hlt bG;injection Y with Y _ iV;subst Y iV;have HST:Hid (BA=(m.fc.drop (j+1)).foldl lU (lU t m.fc[j])):=aY alW;have hx1:=Kg.aX _ (dJ hlt);have gT:Z t.cA+1<=1000000:=by have:=HTB.aX;omega
   generalize m.fc[j]=a at *;have hcw:=hcell wr (En.aX wr y);have hcs:cs1=gF a:=hF wr (En.aX wr y);have q9:∀i,i<3->wr.cell? ⟨b1,o1+j*3+i,U⟩=(eI a)[i]?:=λi hi=>(hcw i hi).trans (by rw[hcs];exact aD)
   have q0:wr.cell? ⟨b1,o1+j*3,U⟩=I (G J a.1):=q9 0 bG;have C:=bn.new wr 42 (eI a);have k3:=C.cG;go_upto_region 13 with fail;have T:=hV.st k3;have A:=y.tr (bf.cz k3 _);have hpx:=λk Q=>hV.low k (aJ Q)
   have wy:∀ {k},k=lo\/k=gd\/k=D (L wr)->¬cY p2 k:=λ{k} e Q=>by have h1:=hb2.lt;have h2:=hd.lt;have h3:=HGD.aX;have h4:=hpx k Q;rcases S k Q with h|h;rcases e with e|e|e;exact N.aX k aZ h;exact N.aX k aZ h;omega;omega
   generalize ay wr _=w3 at *;generalize Gc:D (L wr)=gx at *;have dB:=hb2.cF A (N.aX lo (bP _));have hd3:=hd.cF A (N.aX gd aZ);have qb:=dB.cell;have qx:=C.cell;have QQ:=aY (show fG M p t w2 w3 from ⟨p2,T,A,O,S⟩);have HKEY:=aY O;have HV3:=aY T;have C3:=WA T z a;have VO:=aY (Rq (Xk (a:=a) z gT) hx1);have aE7:=aY gT;have HX1:=aY hx1;have HOA:Hid (lU t a=if vO t a then t else jC { t with cA:=t.cA++[a],bI:=gU t.bI a } a):=aY rfl;rw[mh]at C3;generalize lU t a=BO at *;go_wp2_with fail
   apply bW C3;intro w4 k4;cases hab:vO t a
   .have HOB:Hid (BO=jC { t with cA:=t.cA++[a],bI:=gU t.bI a } a):=aY alX;have hnt:fJ t.cA a=false:=by unfold vO at hab;simp only[Bool.or_eq_false_iff]at hab;exact hab.1
    have MM:=HV3.aX.st k4;have hu4:=A.tr (bf.cz k4 _);have HV4:=aY MM;have HNT:=aY hnt;have HU4:=aY hu4;have EO:=dB.bM k4;have qx4:=C.bM k4;have qt4:=MM.aBU;have qd4:=hd3.bM k4;have Dp:Hid (∀ {k},k=lo\/k=gd\/k=gx->¬cY p2 k):=aY wy;have Cp:=aY S;have qB4:=MM.q;have q1:=EO.cells;have q2:=qx4.cells;obtain⟨g',gl,gd',gr,gt,vd,vr,vp,vh,vl,vq,va,vt,nc,vw,kr⟩:=p2;simp only at mh qB4 qt4 HKEY;subst mh;go_wp2_with fail
    have qs:=aB q1 (aB q2 (aB qB4 qt4));refine fD 10 ?_;iterate 10 refine bB.i ?_
    intro V W kW hA;simp only[bZ,cC,dF,bS,Nat.reduceAdd]at hA;obtain⟨d0,d1,d2,d3,d4,d5,d6,d7,d8,d9,-⟩:=hA;obtain⟨w5,lG,VP,Ih⟩:=aAF (HV4.aX.st kW) HNT.aX;simp only at lG;refine bN.skip w5 rfl (by simp[bR,aC,d0,d1,d2,d3,d4,d5,d6,d7,d8,d9,aL,bT,lG,go_sem]) ?_;refine bN.e ?_;have qi:=(EO.bM kW).cF Ih λe=>Dp.aX (aI rfl) (e▸aJ (aJ (aI rfl)))
    have F4:=(qx4.bM kW).cF Ih λe=>Dp.aX (aJ (aJ rfl)) (e▸aJ (aJ (aI rfl)))
    have hdW:=(qd4.bM kW).cF Ih λe=>Dp.aX (aJ (aI rfl)) (e▸aJ (aJ (aI rfl)))
    have HU5:=aY ((HU4.aX.tr (bf.cz kW _)).ir Ih λk _ e=>(Cp.aX k (e▸aJ (aJ (aI rfl)))).resolve_right aZ);have MN:=aY VP;have C5:=aY λW (k:K w5 W)=>RH t.bI a vt W (VP.dz.at k).bI z.tx.small z.tx.AA
    have hs4:=bH VP.dz.now.bI;have q2:=VP.q;have qb:=qi.cells;have qx:=F4.cells;simp only at q2 C5 hs4;obtain⟨At,ct,rfl⟩:=hs4;go_wp2_with fail
    have qs:=aB q2 (aB qb qx);refine fD 7 ?_;iterate 6 refine bB.i ?_
    refine bB.op (λv W'=>cW (D (L w5)) (D (L w5)) 178 fe (gU t.bI a) v W') (λ_ _ _ h k=>h.st k) (λV W kW hp=>?_) ?_
    ·(try simp only[dN,bZ,cC,dK,dL,bS]at hp)
     simp[dI,bR,aC,hp,fk,aL,bT,q2,qb,qx,go_sem];apply dP (C5.aX W kW);rintro v4 w4⟨hO,k4⟩;exact alY
    intro V W kW hA;simp only[bZ,cC,dF,bS,Nat.reduceAdd]at hA;obtain⟨d0,d1,d2,d3,d4,d5,kH,-⟩:=hA;generalize J7:V 6=v8 at *;have wN:=MN.aX.st kW;have lO:=kH.Qg MN.aX.low;obtain⟨A8,c8,rfl⟩:=bH kH.bD;have q8:=wN.blk.cell;have z8:=wN.blk.frozen;simp only at q8 z8;iterate 2 (apply bN.pure;rfl;(simp[bR,aC,cP,d0,J7,aL,bT,go_sem];rfl))
    refine bN.skip (aV W ⟨g',8,U⟩ (F A8 (Z (gU t.bI a)) c8)) rfl ZF ?_;refine bN.e ?_;have Ia:=wN.Pj lO;have uS:bf (λk=>k=g') W (aV W ⟨g',8,U⟩ (F A8 (Z (gU t.bI a)) c8)):=bf.dx (X:=λk=>k=g') rfl 8 _;have cV:=(qi.bM kW).cF uS λe=>Dp.aX (aI rfl) (aI e)
    have rQ:=(F4.bM kW).cF uS λe=>Dp.aX (aJ (aJ rfl)) (aI e)
    have Bg:=(hdW.bM kW).cF uS λe=>Dp.aX (aJ (aI rfl)) (aI e)
    have JT:=aY ((HU5.aX.tr (bf.cz kW _)).ir uS λk _ e=>(Cp.aX k (aI e)).resolve_right aZ);have C7:=aY (aeW Ia (Xk (a:=a) z aE7.aX) a HX1.aX lo gd cV Bg);have q9:=rQ.cell;generalize ax _ _ _=w6 at *;go_wp2_with fail
    apply bW C7.aX;intro w7 hN7;have HN7:=aY (fG.tr JT.aX HKEY.aX Cp.aX (λ_ h=>aI h) hN7);go_wp2;go_roundw
    case rel=>exact⟨j+1,BO,aZ,dh,by rw[HOB.aX];exact HN7.aX,by rw[HOB.aX];exact VO.aX.1,by rw[HOB.aX,VO.aX.2];simp;omega,HST.aX⟩
    case measure=>simp[aO];omega
   have HF:Hid (BO=t):=aY alX;have xT:=aY (QQ.aX.k k4);go_wp2;go_roundw
   case rel=>exact⟨j+1,t,aZ,dh,xT.aX,z,aZ,by rw[HST.aX,HF.aX]⟩
   case measure=>simp[aO];omega
  obtain rfl:j=Z m.fc:=aZ;have cE:¬(Z m.fc:Int)<Z m.fc:=aZ;obtain rfl:BA=t:=bL;have Ie:fG M p BA w2 wr:=⟨p2,hV,y,O,S⟩;obtain⟨BD,hBD⟩:∃BD,Hid (BD=m.fQ.foldl jC BA):=⟨_,aY rfl⟩;rw[<- hBD.aX]at HR;have qX:=jR.cF y (N.aX (lo+1) aZ);have qc:=qX.cell;have xT:=aY Ie;have aE8:=aY z;generalize wr=w3 at *;go_wp2_with fail
  go_loopw [12,81] (fun _ i W=>∃(j:Nat) (t:cJ),j<=Z m.fQ/\i=G J j/\fG M p t w2 W/\dq t/\BD=(m.fQ.drop j).foldl jC t) (fun _ i _=>Z m.fQ-(aO i).toNat)
  case atStart=>exact⟨0,BA,aZ,rfl,xT.aX,aE8.aX,iF⟩
  case round =>
   obtain⟨j,t,hj,rfl,hN,z,QP⟩:=hrel;obtain⟨p2,hV,y,O,S⟩:=hN;have mh:=(EF O).trans hg.aX.symm;by_cases hlt:j<Z m.fQ
   .have cE:(j:Int)<Z m.fQ:=aZ;obtain⟨b1,o1,c1',cs1,Y,fR,mR,hF,hcell⟩:=HL6.aX.at j hlt bG;injection Y with Y _ iV;subst Y iV;have HST:Hid (BD=(m.fQ.drop (j+1)).foldl jC (jC t m.fQ[j])):=aY alW;have hx1:=CM.aX _ (dJ hlt);generalize m.fQ[j]=a at *;have hcw:=hcell wr (En.aX wr y);have hcs:cs1=gF a:=hF wr (En.aX wr y);have q9:∀i,i<3->wr.cell? ⟨b1,o1+j*3+i,U⟩=(eI a)[i]?:=λi hi=>(hcw i hi).trans (by rw[hcs];exact aD)
    have q0:wr.cell? ⟨b1,o1+j*3,U⟩=I (G J a.1):=q9 0 bG;have C:=bn.new wr 42 (eI a);have k3:=C.cG;go_upto_region 21 with fail;have T:=hV.st k3;have A:=y.tr (bf.cz k3 _);generalize ay wr _=w3 at *;generalize Gc:D (L wr)=gx at *;have dB:=hb2.cF A (N.aX lo (bP _));have hd3:=hd.cF A (N.aX gd aZ);have qx:=C.cell;have C3:=aY (aeW T z a hx1 lo gd (by rw[mh];exact dB) (by rw[mh];exact hd3));have VO:=aY (Rq z hx1);have EP:=aY A;have HKEY:=aY O;have Cp:=aY S;generalize jC t a=BO at *;go_wp2_with fail
    apply bW C3.aX;intro w4 hN5;have HN5:=aY (fG.tr EP.aX HKEY.aX Cp.aX (λ_ h=>aI h) hN5);go_wp2;go_roundw
    case rel=>exact⟨j+1,BO,aZ,dh,HN5.aX,VO.aX.1,HST.aX⟩
    case measure=>simp[aO];omega
   obtain rfl:j=Z m.fQ:=aZ;have cE:¬(Z m.fQ:Int)<Z m.fQ:=aZ;obtain rfl:BD=t:=bL;have dB:=hb2.cF y (N.aX lo (bP _));have qX:=jR.cF y (N.aX (lo+1) aZ);have qb:=dB.cell;have qc:=qX.cell;have hfp:Fx (λk=>M k\/cY p2 k) (λW=>bD cL m.gq (F A4 (Z m.gq) c4) W) wr:=H4.aX.to (En.aX wr y) (λ_ h=>h) λk Q h=>h.elim (λh=>h) λh=>(S k h).elim (H.aX.sub k) λh=>(by have:=dt.size;omega)
   have C8:=aY (asM hV z m.gq _ hfp zj.aX wS);rw[mh]at C8;have EP:=aY y;have HKEY:=aY O;have Cp:=aY S;have iu:=aY HR.aX;go_wp2_with fail
   apply bW C8.aX;intro w4 hN5;have HN5:=aY (fG.tr EP.aX HKEY.aX Cp.aX (λ_ h=>aI h) hN5);go_wp2;rw[Exit.noGoto_normal];go_end0;refine⟨rfl,?_⟩;rw[iu.aX];exact fG.F6 HN5.aX dt yU.aX
structure mV(B:cJ):Prop where
 nd:B.cA.Nodup
 tf:∀a∈B.cA,ew a
 rf:∀a∈B.jn,ew a
 nk:(B.dm.map (·.1)).Nodup
theorem mV.same{B B'}(h:mV B)(t:B'.cA=B.cA)(j:B'.jn=B.jn/\B'.dm=B.dm):mV B':=⟨by rw[t];exact h.nd,by rw[t];exact h.tf,by rw[j.1];exact h.rf,by rw[j.2];exact h.nk⟩
theorem NF{B}(z:dq B)(h:mV B):mV (iL B):=by
 have t:=z.open';unfold iL;split;have y:=KJ z λx j=>(t.2.1 x j).2
 have A:=Nu (kids:=fK B) (p:=(Cb B,[])) y.1 λx j=>(t.1 x j).2
 have e:=y.2.tr A.2.1;exact h.same e.cA ⟨e.jn,e.dm⟩;exact h
theorem afJ B a:(jC B a).jn=B.jn/\(jC B a).dm=B.dm:=by unfold jC;split;have h:=Gt (B:=B) (r:=lE 5 a) yi;exact⟨h.jn,h.dm⟩;simp
theorem XE:∀ {l:List bU} {B:cJ} {n:Nat},(lC B n l).jn=B.jn/\(lC B n l).dm=B.dm
 | [],B,n=>⟨rfl,rfl⟩
 | x :: l,B,n=>by unfold lC;split;split;have h:=Gt (B:=B) (r:=pc n x) yh;have g:=XE (l:=l) (B:=(eQ B (pc n x)).1) (n:=(n+1)%18446744073709551616);exact⟨g.1.trans h.jn,g.2.trans h.dm⟩;exact⟨rfl,rfl⟩;exact XE
theorem ayz{B a}(h:mV B)(M:dq B)(z:ew a)(A:Z B.cA+1<=1000000):mV (lU B a)/\dq (lU B a)/\Z (lU B a).cA<=Z B.cA+1:=by
 unfold lU;split
 .grind
 rename_i H;have t:=Rq (Xk (a:=a) M A) z;have y:=afJ { B with cA:=B.cA++[a],bI:=gU B.bI a } a;have C:a∉B.cA:=λN=>H (by grind [vO,NK])
 refine⟨⟨?_,?_,?_,?_⟩,t.1,?_⟩;rw[t.2];exact RA h.nd C
 .rw[t.2];intro b j;rcases List.mem_append.1 j with j|j;exact h.tf b j;grind
 rw[y.1];exact h.rf;rw[y.2];exact h.nk;grind
theorem agi:∀ {l:List bY} {B:cJ},mV B->dq B->(∀a∈l,ew a)->Z B.cA+Z l<=1000000->mV (l.foldl lU B)/\dq (l.foldl lU B)/\Z (l.foldl lU B).cA<=Z B.cA+Z l
 | [],B,h,hG,_,_=>⟨h,hG,bu⟩
 | a :: l,B,h,hG,hl,hn=>by simp only[gH]at hn;obtain⟨z,y,C⟩:=ayz h hG (hl a bu) aZ;obtain⟨t,j,H⟩:=agi (l:=l) z y (λb A=>hl b (by simp[A])) aZ;exact⟨t,j,by simp only[List.foldl_cons,gH];omega⟩
theorem afK:∀ {l:List bY} {B:cJ},mV B->dq B->(∀a∈l,ew a)->mV (l.foldl jC B)/\dq (l.foldl jC B)/\(l.foldl jC B).cA=B.cA
 | [],B,h,hG,_=>⟨h,hG,rfl⟩
 | a :: l,B,h,hG,hl=>by
  have j:=Rq hG (hl a bu);obtain⟨y,t,A⟩:=afK (l:=l) (h.same j.2 (afJ B a)) j.1 λb z=>hl b (by simp[z])
  exact⟨y,t,A.trans j.2⟩
theorem ag9{s:eT}{y:bY}:∀ {l:List bU} {p:List bU×List bY},y∈(l.foldl (lT s) p).2->y∈p.2\/∃x∈l,y=bE x
 | [],p,h=>aI h
 | x :: l,p,h=>by rcases ag9 (l:=l) h with h|⟨z,hz,e⟩;unfold lT at h;exact alZ;exact aJ ⟨z,Lb,e⟩
theorem ahV{s}:∀(l:List bU) (p:List bU×List bY),Z (l.foldl (lT s) p).1+Z (l.foldl (lT s) p).2<=Z p.1+Z p.2+Z l
 | [],p=>bu
 | x :: l,p=>by
  have:=ahV (s:=s) l (lT s p x);have:Z (lT s p x).1+Z (lT s p x).2<=Z p.1+Z p.2+1:=by unfold lT;split;omega;split <;> simp <;> omega
  simp only[List.foldl_cons,gH];omega
theorem R6{y}:∀ {l:List bU} {p:cJ×List bY},((l.foldl km p).1.cA=p.1.cA/\(l.foldl km p).1.dm=p.1.dm)/\(y∈(l.foldl km p).2->y∈p.2\/∃x∈l,y=bE x)
 | [],p=>⟨⟨rfl,rfl⟩,aI⟩
 | x :: l,p=>by
  obtain⟨t,A⟩:=R6 (y:=y) (l:=l) (p:=km p x);have j:((km p x).1.cA=p.1.cA/\(km p x).1.dm=p.1.dm)/\(y∈(km p x).2->y∈p.2\/y=bE x):=by unfold km;split;have g:=Gt (B:=p.1) (r:=xE x) BX;exact⟨⟨g.cA,g.dm⟩,aI⟩;exact⟨⟨rfl,rfl⟩,λh=>Dz⟩
  refine⟨⟨t.1.trans j.1.1,t.2.trans j.1.2⟩,λh=>?_⟩;rcases A h with h|⟨z,hz,e⟩;rcases j.2 h with h|h;exact aI h;exact aJ ⟨x,bu,h⟩;exact aJ ⟨z,Lb,e⟩
theorem Oz{x}(h:dZ x):ew (bE x):=⟨h.2.1,h.2.2.2.1,h.2.2.2.2.1⟩
theorem ayA{B l}(h:mV B)(O:dq B)(z:∀x∈l,dZ x)(hn:Z l<=16):mV (yx B l)/\dq (yx B l)/\(yx B l).cA=B.cA:=by
 have hm:∀x∈nR B l,x∈l:=λx j=>(List.mem_filter.1 j).1
 have C:∀x∈(pG B.st (nR B l)).1,x∈l:=λx j=>by rcases aff j with h|h;all_goals grind
 have H:=agh (l:=(pG B.st (nR B l)).1) (p:=(B,wi B l++(pG B.st (nR B l)).2)) O λx j=>z x (C x j)
 have M:=ahV (s:=B.st) (nR B l) ([],[]);have Q:Z (nR B l)<=Z l:=oo _ _;have P:Z (wi B l)<=Z l:=by grind [wi]
 have A:(vV B l).1.cA=B.cA:=(R6 (y:=(0,0,0))).1.1;have N:(vV B l).1.dm=B.dm:=(R6 (y:=(0,0,0))).1.2;refine⟨⟨by show (vV B l).1.cA.Nodup;rw[A];exact h.nd,by show ∀a∈(vV B l).1.cA,_;rw[A];exact h.tf,λa t=>?_,by show ((vV B l).1.dm.map (·.1)).Nodup;rw[N];exact h.nk⟩,?_,A⟩;rcases R6.2 t with t|⟨x,j,rfl⟩;rcases List.mem_append.1 t with t|t;unfold wi at t;obtain⟨x,j,rfl⟩:=List.mem_map.1 t;exact Oz (z x (List.mem_filter.1 j).1);rcases ag9 t with t|⟨x,j,rfl⟩;simp at t;exact Oz (z x (hm x j));exact Oz (z x (C x j));have g:=H.1;refine⟨g.tr,g.me,g.hm,g.dk,g.tx,g.calls,g.dm,g.cA,?_,g.dy,g.Cq⟩;have:=H.2;simp only[fg]at this;simp only[pG]at this;simp only[List.length_nil]at M;show Z (vV B l).2<=1000000;unfold vV pG;omega
theorem ayB{B m}(h:mV B)(N:dq B)(O:fT m=aA)(hfit:pU m)(gT:Z B.cA+Z m.fc<=1000000):mV (sY B m)/\dq (sY B m)/\Z (sY B m).cA<=Z B.cA+16:=by
 obtain⟨V,yT,S,y,z,X,Q,QN,T⟩:=Te O hfit;have R:=RK (l:=m.eM) (B:=B) (n:=m.got);have C:=h.same R (XE (l:=m.eM) (B:=B) (n:=m.got));have H:=RI N T λx j=>(V x j).2
 obtain⟨t,A,l2⟩:=agi C H z bL;obtain⟨M,W,l3⟩:=afK t A Q;obtain⟨Y,g4,l4⟩:=ayA M W (λx j=>(S x j).2) y;grind [fT,pU,sY,yx,jC,lU,lC]
theorem agj{l k m x}(h:x∈oT l k m):x∈l\/x=(k,m):=by grind [oT]
theorem ayC{l k m}(h:(l.map (·.1)).Nodup):((oT l k m).map (·.1)).Nodup:=by grind [oT]
theorem NG{B k m}(j:dq B)(t:fT m=aA)(hfit:pU m):dq { B with dm:=oT B.dm k m } :=⟨j.tr,j.me,j.hm,j.dk,j.tx,j.calls,λx y=>by
 rcases agj y with h|rfl;exact j.dm x h;exact⟨t,hfit⟩,j.cA,j.iy,j.dy,j.Cq⟩
theorem afL{B}(h:mV B)(C:dq B) j b(N:Z B.cA+16<=1000000):mV (jc B j b).1/\dq (jc B j b).1/\Z (jc B j b).1.cA<=Z B.cA+16:=by
 unfold jc;split
 .split
  .grind
  rename_i m hm;have t:=(ND hm).2;have y:=NM hm;split
  .have g:=NG (k:=j) C t y;have f:mV { B with dm:=oT B.dm j m }:=⟨h.nd,h.tf,h.rf,ayC h.nk⟩;refine⟨NF g f,Nv g,?_⟩;have A:=g.open';have H:=KJ g λx z=>(A.2.1 x z).2
   have M:=Nu (kids:=fK { B with dm:=oT B.dm j m }) (p:=(Cb { B with dm:=oT B.dm j m },[])) H.1 λx z=>(A.1 x z).2
   have e:(iL { B with dm:=oT B.dm j m }).cA=B.cA:=by unfold iL;split;exact (H.2.tr M.2.1).cA;rfl
   grind
  split
  .have hA:=(Te t y).2.2.2.2.2.1;obtain⟨O,Q,R⟩:=ayB h C t y aZ;grind
  grind
 grind
theorem Ye{l cs x}(h:dZ x):dZ (lX l cs x):=by grind [dZ,lX]
theorem ahW{ab:List bY}{a:bY}:∀ {l:List bU} {o:List bY},a∈l.foldl (rz ab) o->a∈o\/∃x∈l,a=bE x
 | [],o,h=>aI h
 | x :: l,o,h=>by rcases ahW (l:=l) h with h|⟨z,hz,e⟩;unfold rz at h;split at h;exact al0;exact aI h;exact aJ ⟨z,Lb,e⟩
theorem ahX{s:eT}{op:List bU}{a:bY}:∀ {l:List nD} {o:List bY},a∈l.foldl (nL s op) o->a∈o\/∃x∈l,a=x.id
 | [],o,h=>aI h
 | x :: l,o,h=>by rcases ahX (l:=l) h with h|⟨z,hz,e⟩;unfold nL at h;exact alZ;exact aJ ⟨z,Lb,e⟩
theorem agk{j:List ig}{v:nD}:∀ {l:List bU} {o:List nD},v∈l.foldl (tS j) o->v∈o\/∃x∈l,v.id=bE x
 | [],o,h=>aI h
 | x :: l,o,h=>by rcases agk (l:=l) h with h|⟨z,hz,e⟩;unfold tS at h;split at h;rcases List.mem_append.1 h with h|h;exact aI h;simp at h;exact aJ ⟨x,bu,by rw[h]⟩;exact aI h;exact aJ ⟨z,Lb,e⟩
theorem agl{v:nD}:∀ {l:List bY} {o:List nD},v∈l.foldl oR o->v∈o\/v.id∈l
 | [],o,h=>aI h
 | x :: l,o,h=>by rcases agl (l:=l) h with h|h;unfold oR at h;split at h;exact aI h;split at h;exact aI h;rcases List.mem_append.1 h with h|h;exact aI h;simp at h;exact aJ (by rw[h];simp);exact aJ KZ
theorem dq.anE{B}(t:dq B) k:(∀x∈(kZ B k).cR,dZ x)/\(∀v∈(kZ B k).eE,ew v.id)/\Z (kZ B k).cR<=16/\Z (kZ B k).eE<=16/\(kZ B k).got<18446744073709551616:=by
 rcases t.rep k with h|⟨h,f⟩
 .grind [Ck]
 simp only[fT,mS,fI,decide_eq_true_eq,yq]at h;obtain⟨⟨⟨⟨⟨⟨-,j,-⟩,y,-⟩,-⟩,-⟩,-⟩,-⟩:=h;exact⟨f.2.2.2.1,f.2.2.1,y,j,f.2.1⟩
theorem WR{B}(z:dq B) k:pU (ya B k):=by
 have H:=z.dk.inv;have C:=z.anE k;have M:=z.dk.len;refine⟨by simp[ya,dA],?_,by simp[ya],by simp[ya],λx j=>?_,λx j=>?_,λa A=>?_,λa A=>?_⟩
 .grind [pU,ya,sZ]
 have j:x∈Fo B (x9 B k) (sZ B k) (DW B.st.bq (sZ B k)):=j;unfold Fo at j;obtain⟨y,t,rfl⟩:=List.mem_map.1 j;have:=List.fst_mem_of_mem_zipIdx t;exact Ye (H.Bd _ (List.mem_of_mem_drop (oW this))).2;have j:x∈((if ot B then B.dy else B.st.bF).take 16).map (lX (nK B.st.bq) (x9 B k)):=j;obtain⟨y,t,rfl⟩:=List.mem_map.1 j;have t:=oW t;split at t;exact Ye (z.dy y t).2;exact Ye (H.CZ y t).2;rcases ahW (show a∈(kZ B k).cR.foldl (rz (DN B)) []from A)with h|⟨x,j,rfl⟩;simp at h;exact Oz (C.1 x j);rcases ahX (show a∈(kZ B k).eE.foldl (nL B.st B.dy) []from A)with h|⟨x,j,rfl⟩;simp at h;exact C.2.1 x j
theorem Xb{B}(y:dq B)(h:mV B):pU (E6 B):=by
 have z:=y.dk.inv;have:=y.dk.len;refine⟨by simp[E6,dA],by show Z B.st.bq<_;omega,λv j=>?_,λx t=>(y.cR t).2,Tf,Tf,Tf,Tf⟩;rcases agl (show v∈B.jn.foldl oR (B.st.bF.foldl (tS (fK B)) [])from j)with j|j;rcases agk j with j|⟨x,t,e⟩
 .grind
 rw[e];exact Oz (z.CZ x t).2;exact h.rf _ j
def vJ(a b:Vl):Prop:=a.1<b.1\/a.1=b.1/\(a.2.1<b.2.1\/a.2.1=b.2.1/\oH a.2.2 b.2.2=aA)
theorem RL a b:iQ a b=-1/\vJ a b\/iQ a b=0/\a=b\/iQ a b=1/\vJ b a:=by grind [iQ,kU,Cj,vJ,aiB,oH,Sr]
theorem Xl a:¬vJ a a:=by grind [vJ,Xf]
theorem Dy{a b c}(h:vJ a b)(k:vJ b c):vJ a c:=by grind [vJ,agB]
theorem NP a b:iQ a b<0↔vJ a b:=by grind [RL,Xl,Dy]
theorem KV a b:0<iQ a b↔vJ b a:=by grind [RL,Xl,Dy]
theorem R7 a b:iQ a b=0↔a=b:=by grind [RL,Xl]
theorem Z4 a b:iQ a b<=0↔vJ a b\/a=b:=by rw[<- NP,<- R7];omega
theorem Tg a b:0<=iQ a b↔vJ b a\/a=b:=by rw[<- KV,<- R7];omega
theorem ahY a b:preB a b=aA↔gE b <+: gE a:=by
 unfold preB;rw[ByteArray.toList_eq,ByteArray.toList_eq];simp only[fI,decide_eq_true_eq,beq_iff_eq,ByteArray.data_extract,Array.toList_extract,List.extract_eq_take_drop,List.drop_zero,Nat.sub_zero];have t:a.size=Z (gE a):=bu;have j:b.size=Z (gE b):=bu;rw[t,j];constructor
 .grind
 grind [List.prefix_iff_eq_take]
theorem at8{a b:List UInt8}(h:b <+: a):¬a<b:=by
 obtain⟨t,rfl⟩:=h;induction b with
 | nil=>simp
 | cons x b j=>simp only[cC,List.cons_lt_cons_iff];intro h;rcases h with h|⟨-,h⟩;exact absurd h bu;exact j h
theorem aBV{v a}(h:my v a=aA)(j:v.2.1=0)(t:a.2.1=0):¬vJ v a:=by unfold my at h;simp only[fI,beq_iff_eq]at h;obtain⟨⟨z,y⟩,A⟩:=h;grind [vJ,NZ,at8,ahY]
theorem awM{a b c}(h:my a b=aA)(k:my b c=aA):my a c=true:=by unfold my at *;simp only[fI,beq_iff_eq,ahY]at *;grind
def G6(a b:fo):Bool :=
 if a.2.1=1 then lq b a.2.2
 else if a.2.1=3 then decide ((b.2.1=3\/b.2.1=4\/b.2.1=2)/\iQ a.2.2 b.2.2<=0)
 else if a.2.1=4 then (if b.2.1=4 then decide (iQ a.2.2 b.2.2<=0)else decide ((b.2.1=3\/b.2.1=2)/\iQ a.2.2 b.2.2<0))
 else if a.2.1=5 then decide ((b.2.1=5\/b.2.1=6\/b.2.1=2)/\0<=iQ a.2.2 b.2.2)
 else if a.2.1=6 then (if b.2.1=6 then decide (0<=iQ a.2.2 b.2.2)else decide ((b.2.1=5\/b.2.1=2)/\0<iQ a.2.2 b.2.2))
 else if a.2.1=7 then (if b.2.1=7 then my a.2.2 b.2.2 else if b.2.1=6 then decide (0<=iQ a.2.2 b.2.2)else if b.2.1=5 then decide (0<iQ a.2.2 b.2.2)else if b.2.1=2 then !my b.2.2 a.2.2 else az)
 else az
def Gg(o:Int):Bool:=decide (1<=o)&&decide (o<=8)
def tu(a b:fo):Bool :=
 if a.1≠b.1\/Gg a.2.1=az\/Gg b.2.1=az then az
 else if a=b\/b.2.1=8 then aA
 else if a.2.1=8\/a.2.2.1≠b.2.2.1 then az
 else G6 a b
def rE(f g:List fo):Bool:=f.all λt=>g.any λu=>tu u t
def rF:List (List fo)->List (List fo)->List (List fo)
 | out,[]=>out
 | out,f :: r=>if out.any (λs=>rE s f)||r.any (λs=>rE s f)then rF out r else rF (out++[f]) r
def uV(l:List (List fo)):List (List fo):=rF [] l
def mA(l:List (List fo))(e:List eD):Bool:=l.any λf=>oQ f e
theorem aAG{t v}(h:lq t v=aA)(h8:t.2.1≠8):v.1=t.2.2.1:=by grind [lq]
theorem al1{v:Vl}(h:kK v.1 v.2.1 v.2.2=aA)(k:v.1=2):v.2.1=0:=by grind [kK]
theorem ayD{a b v}(ha:jh a=aA)(hb:jh b=aA)(hv:kK v.1 v.2.1 v.2.2=aA)(h:tu a b=aA)(j:lq a v=aA):lq b v=true:=by
 unfold tu at h;split at h;cases h;split at h
 .rename_i B;rcases B with rfl|B;exact j;unfold lq;simp[B]
 rename_i B;split at h;cases h;rename_i O;have N:a.2.1≠8:=λe=>O (aI e)
 have R:b.2.1≠8:=λe=>B (aJ e)
 have X:=Decidable.byContradiction λe=>O (aJ e)
 have Q:=aAG j N;have T:=(IB ha).2.2.2.2 N;have gb:=(IB hb).2.2.2.2 R;obtain⟨na,z,va⟩:=a;obtain⟨W,y,t⟩:=b;simp only at *;have i1:lq (W,y,t) v=(if y==1 then iQ v t==0 else if y==2 then iQ v t != 0 else if y==3 then decide (iQ v t<0)else if y==4 then decide (iQ v t<=0)else if y==5 then decide (0<iQ v t)else if y==6 then decide (0<=iQ v t)else if y==7 then my v t else az):=by unfold lq;simp[R,Q,X]
 have V:lq (na,z,va) v=(if z==1 then iQ v va==0 else if z==2 then iQ v va != 0 else if z==3 then decide (iQ v va<0)else if z==4 then decide (iQ v va<=0)else if z==5 then decide (0<iQ v va)else if z==6 then decide (0<=iQ v va)else if z==7 then my v va else az):=by unfold lq;simp[N,Q]
 rw[V]at j;have h3:=h;unfold G6 at h;simp only at h;split at h
 .rename_i e;simp only[e,beq_self_eq_true,if_true,beq_iff_eq,R7]at j;rw[j];exact h
 rw[i1];split at h
 .rename_i e;subst e;simp at j h;rw[NP]at j;rw[Z4]at h;have A:=h.2.elim (λk=>Dy j k) λk=>k▸j
  have M:=(NP _ _).2 A;rcases h.1 with rfl|rfl|rfl <;> simp <;> omega
 split at h
 .rename_i e;subst e;simp at j;rw[Z4]at j;split at h
  .rename_i e;subst e;simp at h|-;rw[Z4]at h|-;rcases j with j|rfl;exact aI (h.elim (λk=>Dy j k) λk=>k▸j);exact h
  simp at h;rw[NP]at h;have A:=j.elim (λk=>Dy k h.2) λk=>k▸h.2
  have M:=(NP _ _).2 A;rcases h.1 with rfl|rfl <;> simp <;> omega
 split at h
 .rename_i e;subst e;simp at j h;rw[KV]at j;rw[Tg]at h;have A:=h.2.elim (λk=>Dy k j) λk=>k▸j
  have M:=(KV _ _).2 A;rcases h.1 with rfl|rfl|rfl <;> simp <;> omega
 split at h
 .rename_i e;subst e;simp at j;rw[Tg]at j;split at h
  .rename_i e;subst e;simp at h|-;rw[Tg]at h|-;rcases j with j|rfl;exact aI (h.elim (λk=>Dy k j) λk=>k▸j);exact h
  simp at h;rw[KV]at h;have A:=j.elim (λk=>Dy h.2 k) λk=>k▸h.2
  have M:=(KV _ _).2 A;rcases h.1 with rfl|rfl <;> simp <;> omega
 split at h
 .rename_i e;subst e;simp at j;have H:=j;unfold my at H;simp only[fI,beq_iff_eq]at H;have z1:=al1 hv H.1.1;have Y:=al1 T H.1.2;have S:=aBV j z1 Y;have C:vJ va v\/va=v:=by rcases RL va v with h|h|h;exact aI h.2;exact aJ h.2;exact absurd h.2 S
  split at h
  .rename_i e;subst e;simp;exact awM j h
  split at h
  .rename_i e;subst e;simp at h|-;rw[Tg]at h|-;rcases C with C|rfl;exact aI (h.elim (λk=>Dy k C) λk=>k▸C);exact h
  split at h
  .rename_i e;subst e;simp at h|-;rw[KV]at h|-;exact C.elim (λk=>Dy h k) λk=>k▸h
  split at h
  .rename_i e;subst e;simp at h|-;intro P;rw[R7]at P;subst P;rw[j]at h;cases h
  cases h
 cases h
theorem avg{a b e}(y:jh a=aA)(hb:jh b=aA)(z:∀x∈e,mX x=aA)(h:tu a b=aA)(t:sV a e=aA):sV b e=true:=by
 have A:a.1=b.1:=by grind [jh,mX,tu,sV]
 unfold sV at *;rw[<- A];split at t
 .rename_i x hx;have hm:=List.mem_of_find?_eq_some hx;have j:=z x hm;unfold mX at j;simp only[fI]at j;exact ayD y hb j.2 h t
 cases t
theorem aha{f g e}(z:∀t∈f,jh t=aA)(hg:∀t∈g,jh t=aA)(j:∀x∈e,mX x=aA)(h:rE f g=aA)(y:oQ g e=aA):oQ f e=true:=by grind [rE,oQ,yq,List.any_eq_true,avg]
theorem Xm{e}(A:∀x∈e,mX x=aA):∀ {l out:List (List fo)},(∀f∈l,∀t∈f,jh t=aA)->(∀f∈out,∀t∈f,jh t=aA)->mA (rF out l) e=(mA out e||mA l e)
 | [],out,_,_=>by simp[rF,mA]
 | f :: r,out,hl,ho=>by
  unfold rF;have B:∀g∈r,∀t∈g,jh t=true:=λg j=>hl g (by simp[j])
  split
  .rename_i y;rw[Xm A B ho];have C:oQ f e=aA->(mA out e||mA r e)=true:=by intro hm;rw[Bool.or_eq_true]at y|-;unfold mA;simp only[List.any_eq_true]at y|-;rcases y with ⟨s,z,y⟩|⟨s,z,y⟩;exact aI ⟨s,z,aha (ho s z) (hl f bu) A y hm⟩;exact aJ ⟨s,z,aha (B s z) (hl f bu) A y hm⟩
   show _=(mA out e||(oQ f e||mA r e));cases hm:oQ f e;simp;rw[C hm];simp
  rw[Xm A B (λg j=>by
   rcases List.mem_append.1 j with j|j;exact ho g j;simp at j;subst j;exact hl g bu)]
  show (mA (out++[f]) e||mA r e)=(mA out e||(oQ f e||mA r e));unfold mA;simp[List.any_append,Bool.or_assoc]
theorem awN{l e}(y:∀f∈l,∀t∈f,jh t=aA)(j:∀x∈e,mX x=aA):mA (uV l) e=mA l e:=by grind [uV,Xm,mA]
theorem Yf{f:List fo}:∀ {l out:List (List fo)},f∈rF out l->f∈out\/f∈l
 | [],out,h=>aI h
 | g :: r,out,h=>by unfold rF at h;split at h;rcases Yf h with h|h;exact aI h;exact aJ KZ;rcases Yf h with h|h;rcases List.mem_append.1 h with h|h;exact aI h;simp at h;subst h;exact aJ bu;exact aJ KZ
theorem Yg:∀ {l out:List (List fo)},Z (rF out l)<=Z out+Z l
 | [],out=>by simp[rF]
 | g :: r,out=>by unfold rF;split;exact cQ Yg bu;exact cQ Yg cN
