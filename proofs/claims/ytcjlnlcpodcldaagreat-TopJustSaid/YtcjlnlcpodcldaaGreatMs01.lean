/-
  A region that draws its order, in few words: each operation by one step. Conditions: none.
-/
import Derived.Test.YtcjlnlcpodcldaaGreatMs00
import Derived.Test.YtcjlnlcpodcldaaGreatMsz
set_option maxRecDepth 100000
set_option maxHeartbeats 16000000
set_option linter.all false
namespace Go.Proofs.YtcjlnlcpodcldaaGreat
open Go Go.RowKit _root_.Go.Proofs.Tryz
open List renaming length→Z
open _root_.Array renaming size→D
open Go.World renaming heap→L,alloc→aU,setCell→aV
open Go.Value renaming ownBlock→aW
open Go.Value renaming int→G,slice→F,pointer→aj,bool→ar,tuple→au,agg→av,string→aw
open Go.IntKind renaming i64→J,u64→E
open Option renaming none→U,some→I
open Go.Ending renaming returned→ak
open Go.Obj renaming cells→aq
open Go.World renaming setCell→ax,alloc→ay
open Bool renaming false→az,true→aA
open And renaming intro→aB
open List renaming lookup→aC,getElem?_eq_getElem→aE,getElem?_eq_some_iff→aF
open _root_.Array renaming getElem?_toList→aD,getElem?_eq_some_iff→aG
open Nat renaming le_succ→aH
open Or renaming inl→aI,inr→aJ
open Go renaming Calls→aK,execOp→aL,bodyPost_ret→aM,World→aP,Value→aQ
open Go.RowKit renaming Below→aN,intOf→aO
open _root_.Go.Proofs.Tryz renaming prog→aR
section
variable {P:Program}{Q:Exit->Act->aP->Prop}{a0:Act}{R:aP->Prop}{aa:aP->aP->Prop}{tl:List Nat}{Fin aoh:List Oper->List (List Nat×List (Nat×Nat))->List (aQ->aP->Prop)->Prop}{ai:(Nat->aQ)->aP->Prop}{n m:Nat}{o:Oper}{r:List Oper}{x:List Nat×List (Nat×Nat)}{xs:List (List Nat×List (Nat×Nat))}{t:List (aQ->aP->Prop)}
theorem bB.imp(z:∀r xs t,Fin r xs t->aoh r xs t):∀(m:Nat) (r:List Oper) (xs:List (List Nat×List (Nat×Nat))) (t:List (aQ->aP->Prop)),bB P a0 R aa tl Fin m r xs t->bB P a0 R aa tl aoh m r xs t
 | 0,r,xs,t,h=>z r xs t h
 | m+1,[],_,_,h=>h.elim
 | m+1,_ :: _,[],_,h=>h.elim
 | m+1,o :: r,x :: xs,t,h=>by rcases h with ⟨y,ψ,j⟩|⟨y,φ,j,B,A⟩;exact aI ⟨y,ψ,bB.imp z m r xs _ j⟩;exact aJ ⟨y,φ,j,B,bB.imp z m r xs _ A⟩
theorem Kz{id:Nat}{ops:Array Oper}{w:aP}(m:Nat)(j:List Nat)(R:aP->Prop)(S:aP->aP->Prop)(y:Nat->List aQ->aP->Prop)(z:List (List Nat×List (Nat×Nat)))(n:Nat)
 (N:∀W W',R W->aN (D (L W)) W W'->R W') (O:∀W W',aN (D (L W)) W W'->S W W') (hD:∀k vs W W',y k vs W->aN (D (L W)) W W'->y k vs W') (r0:R w) (B:∀vs,y 0 vs w)
 (h:bB P a0 R S j (λr xs t=>Ls P a0 ops z R S j y t 0 j/\∀(V:Nat->aQ) (W:aP),R W->y (Z j) (j.map V) W->dF V W 0 t->bN P a0 (λV W=>Q .normal (iO V ops.toList 0 a0) W) m r xs V W) m ops.toList z [])
 (hn:a0.tmps.size=n:=by rfl) (hm:P.follows .mixedOrders=true:=by kernel_rfl) (A:rV ops n=true:=by kernel_rfl) (X:tR ops z=true:=by kernel_rfl) (H:Ff z m ops.size=true:=by kernel_rfl) (yS:Ca z j m=true:=by kernel_rfl) (C:j.Nodup:=by decide) (nB:m<=ops.size:=by decide) :
 (Code.region id ops aA).wp P Q a0 w :=
 Rh m j R S y z n [] [] N O hD r0 B (bB.imp (λr xs t h=>⟨h.1,λ_ h=>kP,λ_ h=>kP,λV W T M _ _ Y=>h.2 V W T M Y⟩) _ _ _ _ h) hn hm A X H yS C nB bu rfl rfl
theorem Ro{id:Nat}{ops:Array Oper}{w:aP}(m:Nat)(j:List (List Nat×List (Nat×Nat)))(n:Nat)
 (h:bB P a0 (K w) (λw w'=>aN (D (L w)) w w') [] (λr xs t=>∀(V:Nat->aQ) (W:aP),K w W->dF V W 0 t->bN P a0 (λV W=>Q .normal (iO V ops.toList 0 a0) W) m r xs V W) m ops.toList j [])
 (hn:a0.tmps.size=n:=by rfl) (hm:P.follows .mixedOrders=true:=by kernel_rfl) (y:rV ops n=true:=by kernel_rfl) (B:tR ops j=true:=by kernel_rfl) (z:Ff j m ops.size=true:=by kernel_rfl) (H:m<=ops.size:=by decide) :
 (Code.region id ops aA).wp P Q a0 w :=
 Kz m [] (K w) (λw w'=>aN (D (L w)) w w') (λ_ _ _=>True) j n (λ_ _ h k=>h.tr k) (λ_ _ h=>h) (λ_ _ _ _ _ _=>trivial) (K.rf w) (λ_=>trivial)
  (bB.imp (λr xs t h=>⟨trivial,λV W A _ C=>h V W A C⟩) _ _ _ _ h) hn hm y B z (by simp[Ca]) bu H
def TW(ops:Array Oper):List (List Nat×List (Nat×Nat)) :=
 ops.toList.map λo=>((List.range ops.size).filter (ahead o).contains,o.op.operands.toList.filterMap λy=>match y with
  | .tmp t=>((ahead o).find? λj=>rZ ops j==I t).map λj=>(t,j)
  | _=>U)
theorem fD{id ops w} m{j n}
 (h:bB P a0 (K w) (λw w'=>aN (D (L w)) w w') [] (λr xs t=>∀(V:Nat->aQ) (W:aP),K w W->dF V W 0 t->bN P a0 (λV W=>Q .normal (iO V ops.toList 0 a0) W) m r xs V W) m ops.toList j [])
 (C:TW ops=j:=by conv=>lhs;cbv) (hn:a0.tmps.size=n:=by rfl) (hm:P.follows .mixedOrders=true:=by kernel_rfl) (y:rV ops n=true:=by kernel_rfl) (A:tR ops j=true:=by kernel_rfl) (z:Ff j m ops.size=true:=by kernel_rfl) (B:m<=ops.size:=by decide) :
 (Code.region id ops aA).wp P Q a0 w:=Ro m j n h hn hm y A z B
theorem aeH{id:Nat}{ops:Array Oper}{w:aP}(m:Nat)(ds:List Nat)(j:List (List Nat×List (Nat×Nat)))(n:Nat)
 (h:bB P a0 (K w) (λw w'=>aN (D (L w)) w w') [] (λr xs t=>anr P a0 ops j (K w) t ds/\∀(V:Nat->aQ) (W:aP),K w W->aaU ds (λ_=>aA) V->dF V W 0 t->bN P a0 (λV W=>Q .normal (iO V ops.toList 0 a0) W) m r xs V W) m ops.toList j [])
 (hn:a0.tmps.size=n:=by rfl) (hm:P.follows .mixedOrders=true:=by kernel_rfl) (y:rV ops n=true:=by kernel_rfl) (C:tR ops j=true:=by kernel_rfl) (z:Ff j m ops.size=true:=by kernel_rfl) (N:m<=ops.size:=by decide) (H:ds.all (λk=>decide (k<m)&&!([]:List Nat).contains k)=true:=by decide) :
 (Code.region id ops aA).wp P Q a0 w :=
 Rh m [] (K w) (λw w'=>aN (D (L w)) w w') (λ_ _ _=>True) j n ds [] (λ_ _ h k=>h.tr k) (λ_ _ h=>h) (λ_ _ _ _ _ _=>trivial) (K.rf w) (λ_=>trivial)
  (bB.imp (λr xs t h=>⟨trivial,h.1,λ_ h=>kP,λV W B _ A _ M=>h.2 V W B A M⟩) _ _ _ _ h) hn hm y C z (by simp[Ca]) bu N (λ_ _ _ _ h=>h.size) H rfl
theorem bB.op(φ:aQ->aP->Prop)(st:∀v w w',φ v w->aa w w'->φ v w')
 (h:∀(V:Nat->aQ) (w:aP),R w->(∀j∈x.1,tab t j (V j) w)->if dI V o.guard=aA then fk P φ w ((aL (bR x.2 a0 V) (bT o.op o.type)).run P w)else φ undef w)
 (k:bB P a0 R aa tl Fin m r xs (t++[φ])) (e:tl.contains (Z t)=false:=by (simp only[fg,gH,List.length_nil,List.contains_nil];try rfl)):bB P a0 R aa tl Fin (m+1) (o :: r) (x :: xs) t:=aJ ⟨e,φ,st,h,k⟩
theorem bB.s(k:bB P a0 R aa tl Fin m r xs (t++[T4]))(e:tl.contains (Z t)=true:=by (simp only[fg,gH,List.length_nil,List.contains_nil];try rfl)):bB P a0 R aa tl Fin (m+1) (o :: r) (x :: xs) t:=aI ⟨e,λ_=>True,k⟩
theorem bB.kn(ψ:aQ->Prop)(k:bB P a0 R aa tl Fin m r xs (t++[λv _=>ψ v]))(e:tl.contains (Z t)=true:=by (simp only[fg,gH,List.length_nil,List.contains_nil];try rfl)):bB P a0 R aa tl Fin (m+1) (o :: r) (x :: xs) t:=aI ⟨e,ψ,k⟩
theorem aa3 c:∀v w j,bS c v w->aa w j->bS c v j:=λ_ _ _ h _=>h
theorem bB.i{c:aQ}(k:bB P a0 R aa tl Fin m r xs (t++[bS c]))(h:∀(V:Nat->aQ) (w:aP),R w->(∀j∈x.1,tab t j (V j) w)->if dI V o.guard=aA then fk P (bS c) w ((aL (bR x.2 a0 V) (bT o.op o.type)).run P w)else bS c undef w:=by
 intro V W z y;try simp only[dN,bZ,cC,dK,dL,bS]at y
 simp[dI,bR,aC,y,fk,aL,bT,bS,eP,z,qs,go_sem];rfl) (e:tl.contains (Z t)=false:=by (simp only[fg,gH,List.length_nil,List.contains_nil];try rfl)):bB P a0 R aa tl Fin (m+1) (o :: r) (x :: xs) t:=aJ ⟨e,bS c,aa3 c,h,k⟩
theorem bB.is(c:aQ)
 (h:∀(V:Nat->aQ) (w:aP),R w->(∀j∈x.1,tab t j (V j) w)->if dI V o.guard=aA then fk P (bS c) w ((aL (bR x.2 a0 V) (bT o.op o.type)).run P w)else bS c undef w)
 (k:bB P a0 R aa tl Fin m r xs (t++[bS c])) (e:tl.contains (Z t)=false:=by (simp only[fg,gH,List.length_nil,List.contains_nil];try rfl)):bB P a0 R aa tl Fin (m+1) (o :: r) (x :: xs) t:=aJ ⟨e,bS c,aa3 c,h,k⟩
theorem bB.d(φ:aQ->aP->Prop)(st:∀v w w',φ v w->aa w w'->φ v w'){f:FuncId}{args:(Nat->aQ)->Array aQ}
 (A:∀V W,R W->(∀j∈x.1,tab t j (V j) W)->aK P f (args V) W λe w'=>∃v,e=ak v/\φ v w'/\K W w') (k:bB P a0 R aa tl Fin m r xs (t++[φ]))
 (h:∀(V:Nat->aQ) (w:aP),R w->(∀j∈x.1,tab t j (V j) w)->dI V o.guard=aA/\(aL (bR x.2 a0 V) (bT o.op o.type)).run P w=.ok (.enter f (args V)) w:=by
  intro V W z y;try simp only[dN,bZ,cC,dK,dL,bS]at y
  simp[dI,bR,aC,y,aL,bT,qs,go_sem];try exact⟨rfl,rfl⟩
  all_goals fail) (e:tl.contains (Z t)=false:=by (simp only[fg,gH,List.length_nil,List.contains_nil];try rfl)):bB P a0 R aa tl Fin (m+1) (o :: r) (x :: xs) t :=
 aJ ⟨e,φ,st,λV W z y=>by rw[bV (h V W z y).1,(h V W z y).2];exact (A V W z y).mono λe w' ⟨v,B,C,k1⟩=>⟨v,B,C,k1⟩,k⟩
theorem bB.c(φ:aQ->aP->Prop)(st:∀v w w',φ v w->aa w w'->φ v w'){f:FuncId}{args:Array aQ}
 (z:∀W,R W->aK P f args W λe w'=>∃v,e=ak v/\φ v w'/\K W w') (k:bB P a0 R aa tl Fin m r xs (t++[φ]))
 (h:∀(V:Nat->aQ) (w:aP),R w->(∀j∈x.1,tab t j (V j) w)->dI V o.guard=aA/\(aL (bR x.2 a0 V) (bT o.op o.type)).run P w=.ok (.enter f args) w:=by
  intro V W A y;try simp only[dN,bZ,cC,dK,dL,bS]at y
  simp[dI,bR,aC,y,aL,bT,qs,go_sem];try exact⟨rfl,rfl⟩
  all_goals fail) (e:tl.contains (Z t)=false:=by (simp only[fg,gH,List.length_nil,List.contains_nil];try rfl)):bB P a0 R aa tl Fin (m+1) (o :: r) (x :: xs) t :=
 bB.d (args:=λ_=>args) φ st (λ_ W k _=>z W k) k h e
theorem bB.v{c:aQ}{f:FuncId}{args:Array aQ}(z:∀W,R W->aK P f args W λe w'=>e=ak c/\K W w')(k:bB P a0 R aa tl Fin m r xs (t++[bS c]))
 (h:∀(V:Nat->aQ) (w:aP),R w->(∀j∈x.1,tab t j (V j) w)->dI V o.guard=aA/\(aL (bR x.2 a0 V) (bT o.op o.type)).run P w=.ok (.enter f args) w:=by
  intro V W B y;try simp only[dN,bZ,cC,dK,dL,bS]at y
  simp[dI,bR,aC,y,aL,bT,qs,go_sem];try exact⟨rfl,rfl⟩
  all_goals fail) (e:tl.contains (Z t)=false:=by (simp only[fg,gH,List.length_nil,List.contains_nil];try rfl)):bB P a0 R aa tl Fin (m+1) (o :: r) (x :: xs) t :=
 bB.c (bS c) (aa3 c) (λW k=>(z W k).mono λe w' ⟨A,k1⟩=>⟨c,A,rfl,k1⟩) k h e
theorem bB.row{α:Type}{S:fy α}{e:TypeId}{N:Nat->Prop}(B:TypeId)(z:aQ)(size bytes:Nat)(T:gQ P B e z size bytes)(Y:S.size=size)(H:size<=16777216)(A:Operand)(y:α)(X:o.op=.buildSlice B 1 #[(0,A)])(hg:o.guard=U)(h:∀(V:Nat->aQ) (w:aP),R w->(∀j∈x.1,tab t j (V j) w)->tD N S y (bR x.2 a0 V A) w)(k:bB P a0 R aa tl Fin m r xs (t++[fL N 0 e S y]))(Q:∀v w w',fL N 0 e S y v w->aa w w'->fL N 0 e S y v w':=by exact aBn _ _ _ _ _)(W:tl.contains (Z t)=false:=by (simp only[fg,gH,List.length_nil,List.contains_nil];try rfl)):bB P a0 R aa tl Fin (m+1) (o :: r) (x :: xs) t:=by refine bB.op (fL N 0 e S y) Q (λV w O C=>?_) k W;obtain⟨h1,M⟩:=h V w O C;rw[hg,bV (show dI V U=aA from rfl),X,afm (P:=P) (w:=w) B _ z size bytes T A rfl aZ H];exact⟨fL.new M 0 (fw _),(K.rf w).al _⟩
theorem bN.p{k:Nat}{V:Nat->aQ}{w:aP}{v:aQ}(h:bN P a0 ai (k+1) r xs (cP V k v) w)(j:(aL (bR x.2 a0 V) (bT o.op o.type)).run P w=.ok (.value v) w:=by
 simp[bR,aC,cP,hA,aL,bT,qs,go_sem];try rfl) (hg:o.guard=none:=by rfl):bN P a0 ai k (o :: r) (x :: xs) V w:=bN.pure v hg j h
theorem bN.s{k:Nat}{V:Nat->aQ}{w w':aP}(h:bN P a0 ai (k+1) r xs (cP V k undef) w')(j:(aL (bR x.2 a0 V) (bT o.op o.type)).run P w=.ok .skip w':=by
 simp[bR,aC,cP,hA,aL,bT,qs,go_sem];try rfl) (hg:o.guard=none:=by rfl):bN P a0 ai k (o :: r) (x :: xs) V w:=bN.skip w' hg j h
theorem bN.e{k:Nat}{ops:List Oper}{a:Act}{V:Nat->aQ}{w:aP}(h:Q .normal a w)(e:iO V ops 0 a0=a:=by
 simp only[iO,Act.put,xm,vU,vT,Nat.reduceAdd,cP];try rfl):bN P a0 (λV W=>Q .normal (iO V ops 0 a0) W) k [] xs V w:=bN.nil (e▸h)
theorem bN.h{k:Nat}{ops:List Oper}{a:Act}{V:Nat->aQ}{w:aP}(h:Q .normal a w)(e:iO V ops 0 a0=a:=by
 simp only[iO,Act.put,xm,vU,vT,Nat.reduceAdd,cP,hA];try rfl):bN P a0 (λV W=>Q .normal (iO V ops 0 a0) W) k [] xs V w:=bN.nil (e▸h)
end
theorem xY{l v w}(n:Nat)(h:sl l v w)(hn:n<18446744073709551616)(y:Z l<=1000000000) :aK aR 202 #[v,G E n] w λe j=>∃t,e=ak t/\Own j (D (L w)) 5 t (l++bO n)/\K w j:=by obtain⟨A,c,rfl,z⟩:=h;exact zD A _ c l n hn w _ z (bP _) y
theorem R9{l b v u w}(h:sl l v w)(k:sl b u w)(y:Z l<=1000000000)(hb:Z b<=1000000000) :aK aR 204 #[v,u] w λe j=>∃t,e=ak t/\Own j (D (L w)) 5 t (l++jL b)/\K w j:=by obtain⟨A,c,rfl,z⟩:=h;obtain⟨C,d,rfl,B⟩:=k;apply dP (Rs A C _ c _ d l b w _ z B (bP _) y hb);rintro t j⟨M,H⟩;grind [sl,jL]
theorem aaV w:sl [] (F U 0 0) w:=⟨U,0,rfl,Reads.nil _ _ _ _⟩
def rW(x:bU):List UInt8:=if dE x then gB x else []
theorem agM x(h:dZ x):Z (nI x)<=54:=by obtain⟨_,_,_,j,t,y,_⟩:=h;grind [fu,cO,jm,nI,fg]
def DT(x:bU)(k:Nat):List UInt8:=nI x++bO (Z x.es)++(x.es.take k).flatMap λe=>jL (lW e)
theorem av0(x:bU)(k:Nat)(h:k<Z x.es):DT x (k+1)=DT x k++jL (lW x.es[k]):=by unfold DT;rw[iY h,List.flatMap_append,yp,List.flatMap_nil,List.append_nil];simp only[gA]
theorem axH x k(j:dZ x)(h8:Z x.es<=8)(y:∀e∈x.es,iM e=aA):Z (DT x k)<=20000:=by
 have:=agM x j;have:=fu (Z x.es) aZ;have:=afX (x.es.take k) λe t=>⟨y e (oW t),j.2.2.2.2.2.2.2 e (oW t)⟩
 have:Z (x.es.take k)<=8:=bL;unfold DT;simp only[fg];omega
theorem WG x v w(h:fM x v w)(hfit:dZ x) :aK aR 203 #[v] w λe w' =>∃z,e=ak (au #[z,G J (tW x)])/\Own w' (D (L w)) 5 z (rW x)/\K w w':=by
 have HC:=aY λW h=>Nb x v W h
 have h':=h;obtain⟨vf,ve,rfl,hf,he⟩:=h;have H:=bn.new w 128 (cB x vf ve);have k1:=H.cG;have JE:=aY (aCL h');have HF:=aY hfit;have PK:=aY (agM x hfit);obtain⟨hik,hib,hic,hil,FR,hiu,Y,aoi⟩:=hfit;cases hok:dE x
 .have HE:=aY (ID hok);have HR:Hid (rW x=[]):=aY (by simp[rW,hok]);have hne:(tW x != 0)=true:=ki;go_in;go_wp2_with fail
  generalize w.alloc _=w1 at *;refine (HC.aX _ (JE.aX _ k1)).mono ?_;rintro e w2⟨rfl,t⟩;go_wp2;go_ret2;exact⟨_,rfl,YL,k1.tr t⟩
 have HE:=aY (Ns hok);have HR:Hid (rW x=gB x):=aY (by simp[rW,hok]);have hne:(tW x != 0)=false:=ki;obtain⟨-,-,hkk⟩:=Gs hok;have HH:Hid (nI x=bO (cO x.bA)++iG (x.br,x.life,x.eY)++bO (cO x.cl)++bO x.sub):=aY (by simp[nI,iG]);have B:x.bA=1->Z x.es<=8/\∀e∈x.es,iM e=true:=by grind
 have PL:x.bA=2->okF x.f=true:=by grind
 have lY:x.bA=1\/x.bA=2\/x.bA=3:=aZ;have H1:=aY λh=>YD (x:=x) h
 have H2:=aY λh=>YE (x:=x) h
 have H3:=aY λh1 h2=>aiW (x:=x) h1 h2
 have HU:=aY (av0 x);have HUL:=aY λk h=>axH x k HF.aX (B h).1 (B h).2
 have En:Hid (DT x 0=nI x++bO (Z x.es)):=aY (by simp[DT]);have HUE:Hid (DT x (Z x.es)=nI x++bO (Z x.es)++x.es.flatMap λe=>jL (lW e)):=aY (by simp[DT]);obtain⟨k,b,l,s,cl,u,f,es⟩:=x;simp only at H k1 hf he hik hib hic hil FR hiu Y aoi B PL lY HH H1 H2 H3 HU HUL En HUE hne HE HR HC JE PK|-;generalize nI ⟨k,b,l,s,cl,u,f,es⟩=hd at *;generalize DT ⟨k,b,l,s,cl,u,f,es⟩=up at *;generalize rW ⟨k,b,l,s,cl,u,f,es⟩=R at *;generalize gB ⟨k,b,l,s,cl,u,f,es⟩=ai at *;generalize tW ⟨k,b,l,s,cl,u,f,es⟩=C at *;go_in;go_wp2_with fail
 generalize w.alloc _=w1 at *;generalize D (L w)=g at H|-;have qx:=H.cells;have wq:=fO _ _ _ _ hf k1;have LQ:=cM he k1;refine (HC.aX _ (JE.aX _ k1)).mono ?_;rintro e w2⟨rfl,t⟩;go_upto_region 4 with fail;have qx2:=λW (kW:K w2 W)=>qx W (t.tr kW)
 have p0:=fu (cO k) (jm k);have pi0:Z (iG (b,l,s))<=27:=by have g2:=fu (cO b) (jm b);have g3:=fu l hil;have g4:=fu s FR;simp only[iG,fg];omega
 have qs:=aB qx2 (Gw k);refine fD 7 ?_;iterate 3 refine bB.i ?_
 refine bB.c (sl (bO (cO k))) (qK _) (λW _=>(xY (cO k) (aaV W) (jm k) bu).mono λe w'' ⟨z,e1,X,T⟩=>⟨z,e1,gS (bZ (bO _)▸X),T⟩) ?_;iterate 2 refine bB.i ?_
 refine bB.op (sl (bO (cO k)++iG (b,l,s))) (qK _) (λV W kW hp=>?_) ?_
 .simp only[dN,bZ,cC,dK,dL,bS]at hp;simp[dI,bR,aC,hp,fk,aL,bT,go_sem];refine (aeP _ _ (b,l,s) W hp.1 aZ ⟨hib,hil,FR⟩).mono ?_;rintro e w''⟨z,rfl,X,T⟩;exact⟨z,rfl,gS X,T⟩
 intro V w3 k3 hA;simp only[bZ,cC,dF,bS,Nat.reduceAdd]at hA;refine bN.p (bN.h ?_);have h7:=hA.2.2.2.2.2.2.1;generalize V 6=v3 at *;replace t:=t.tr k3;have mf:Z (bO (cO k)++iG (b,l,s))<=100:=cN;generalize bO (cO k)++iG (b,l,s)=b3 at *;go_wp2_with fail
 rw[Gw cl];refine (xY (cO cl) h7 (jm cl) aZ).mono ?_;rintro e w4⟨v4,rfl,iA,k4⟩;have h4:=gS iA;replace t:=t.tr k4;have oI:Z (b3++bO (cO cl))<=110:=by have:=fu (cO cl) (jm cl);simp;omega
 generalize b3++bO (cO cl)=b4 at *;go_wp2_with fail
 refine (xY u h4 hiu aZ).mono ?_;rintro e w5⟨v5,rfl,S,k5⟩;rw[<- HH.aX]at S;have h5:=gS S;have hrow:=wZ (base:=D (L w)) (cQ k1.size t.size) S rfl;replace t:=t.tr k5;have LX:=k1.tr t;obtain rfl|rfl|rfl:=lY
 .obtain⟨B,hall⟩:=B rfl;obtain⟨aS,d,rfl,hes,hd⟩:=LQ;have rL:=PK.aX;go_wp2_with fail
  refine (xY (Z es) h5 aZ aZ).mono ?_;rintro e w6⟨v6,rfl,A,O⟩;rw[<- En.aX]at A;have TR:=wZ (base:=D (L w)) (cQ k1.size t.size) A rfl;replace t:=t.tr O;go_wp2_with fail
  go_loopw [5,7,8,9,46] (fun o _ _ _ i wr=>∃j:Nat,j<=Z es/\i=G J j/\Own wr (D (L w)) 5 o (up j)/\K w1 wr) (fun _ _ _ _ i _=>Z es-(aO i).toNat)
  case atStart=>exact⟨0,aZ,rfl,TR,t⟩
  case round =>
   obtain⟨j,hj,rfl,hown,kr⟩:=hrel;by_cases M:j<Z es
   .have cE:(j:Int)<Z es:=aZ;obtain⟨b1,off,cs,rfl,cK,hcl,⟨ve,rfl,jH⟩,hcell⟩:=Lg hes j M bG;have d0:wr.cell? ⟨b1,off+j,U⟩=I ve:=YM;have Jj:=mq _ _ _ _ jH kr;have hs:=HU.aX j M;have abk:=hall _ (dJ M);have rI:=aoi _ (dJ M);have hl9:=HUL.aX j NY;have hle:=XQ abk rI;generalize es[j]=ej at *;have hc1:mP ej=0:=by simp[mP,abk]
    have jR:Fs ej=lW ej:=by simp[Fs,abk]
    have HS:=aY hs;go_wp2_with fail
    refine (avY Jj rI).mono ?_;rintro e w7⟨v7,rfl,y,N⟩;rw[jR]at y;have h7:=gS y;have h57:=qK _ _ _ _ (gS hown) N;have Q:=kr.tr N;go_wp2_with fail
    refine (R9 h57 h7 aZ aZ).mono ?_;rintro e w8⟨v8,rfl,ho8,k8⟩;rw[<- HS.aX]at ho8;have aDz:=wZ (base:=D (L w)) (cQ k1.size Q.size) ho8 rfl;replace Q:=Q.tr k8;go_wp2;go_roundw
    case rel=>exact⟨j+1,aZ,dh,aDz,Q⟩
    case measure=>simp[aO];omega
   have cE:¬(j:Int)<Z es:=aZ;obtain rfl:j=Z es:=aZ;have hfin:Own wr (D (L w)) 5 u5 R:=by rw[HR.aX,H1.aX NY,<- gA,<- HUE.aX];exact hown
   go_wp2;go_ret2;exact⟨_,ki,hfin,k1.tr kr⟩
 .have abl:=PL rfl;have rL:=PK.aX;have hc1:pT f=0:=by simp[pT,abl]
  have jR:Fm f=lK f:=by simp[Fm,abl]
  have hlf:=agF abl Y;have HIF:=aY Y;go_wp2_with fail
  refine (auA (fO _ _ _ _ wq t) HIF.aX).mono ?_;rintro e w6⟨v6,rfl,A,O⟩;rw[jR]at A;have h6:=gS A;have h56:=qK _ _ _ _ h5 O;replace t:=t.tr O;go_wp2_with fail
  refine (R9 h56 h6 aZ aZ).mono ?_;rintro e w7⟨v7,rfl,y,N⟩;rw[<- H2.aX NY]at y;rw[<- HR.aX]at y;have aDA:=wZ (base:=D (L w)) (cQ k1.size t.size) y rfl;replace t:=t.tr N;go_wp2;go_ret2;exact⟨_,ki,aDA,k1.tr t⟩
 have hfin:Own w5 (D (L w)) 5 v5 R:=by rw[HR.aX,H3.aX bG bG];exact hrow
 go_wp2;go_ret2;simp_all
theorem atF A n c b w B(hR:Reads w B 1 A n (fW b))(hB:B<=D (L w))(hn:n<=1000000000) :aK aR 197 #[F A n c] w λe O =>∃v',e=ak (au #[v',G J (Ci b)])/\s8 O (D (L w)) v' (Ch b)/\aN (D (L w)) w O:=by
 have dR:Z b=n:=IL;have hle:Z b<=1000000000:=aZ;clear dR;go_in;go_wp2_with fail
 refine (Ny A n c b w B hR hB hn).mono ?_;rintro e z⟨g,rfl,S,hr1,cK⟩;go_wp2_with fail
 refine (vN g b az z hr1).mono ?_;rintro e w2⟨rfl,dC,gh⟩;have V:=hr1.lt;have hz2:=gh.size;have fY:=cK.trans (nj gh S cK.size);have hlt:=qG b az;have abb:=qF b az;have M:Hid (vY b=if decide ((bJ b az).1<=16)&&!(iZ (bJ b az).1 (bJ b az).2.1 (bJ b az).2.2).2.2&&(iZ (bJ b az).1 (bJ b az).2.1 (bJ b az).2.2).2.1.isEmpty&&iM (iZ (bJ b az).1 (bJ b az).2.1 (bJ b az).2.2).1 then I (iZ (bJ b az).1 (bJ b az).2.1 (bJ b az).2.2).1 else U):=aY rfl;generalize bJ b az=a at *;obtain⟨m,l,bad⟩:=a;simp only at dC hlt abb M|-;clear hr1 cK hR;by_cases lF:m<=16;rotate_left;have Cg:(16:Int)<(m:Int):=aZ;have HE:Hid (Ci b=40):=aY (by have:=M.aX;simp[lF]at this;simp[Ci,this]);have HL:Hid (Ch b=[]):=aY (by have:=M.aX;simp[lF]at this;simp[Ch,this]);exact aiO;have Cg:¬(16:Int)<(m:Int):=aZ;go_wp2_with fail
 go_loopw [6,7,15] (fun v _ i j=>∃k:Nat,k<=m/\i=G E k/\s8 j (D (L z)) v (iZ k l bad).1/\Rd j g (iZ k l bad).2.1 (iZ k l bad).2.2/\aN (D (L w)) w j/\D (L z)<=D (L j)) (fun _ _ i _=>m-(aO i).toNat)
 case atStart=>exact⟨0,aZ,rfl,oV _ _ _ _,dC,fY,hz2⟩
 case round =>
  obtain⟨k,hk,rfl,C,N,hb,hz⟩:=hrel;by_cases hlt:k<m
  .have gW:(k:Int)<m:=aZ;have H:=XP k l bad;have X:∀s,iZ k l bad=s->iZ (k+1) l bad=(s.1++[(wu s.2.1 s.2.2).1],(wu s.2.1 s.2.2).2):=λs e=>by subst e;rfl
   generalize hs:iZ k l bad=s at *;have X:=X s rfl;obtain⟨y,t,j⟩:=s;simp only at C N H;obtain⟨aEc,abc⟩:=H;have aEd:Z y<=16:=aZ;clear abc;have C1:=aY (Rk g t j 16 wr N aZ aZ aZ);have lM:=GD 16 t j;have T:Hid (iZ (k+1) l bad=(y++[((⟨(cD 16 t j).1.toArray⟩,(iz (cD 16 t j).2.1 (cD 16 t j).2.2).1.1,(iz (cD 16 t j).2.1 (cD 16 t j).2.2).1.2.1,⟨(iz (cD 16 t j).2.1 (cD 16 t j).2.2).1.2.2.toArray⟩):eD)],(iz (cD 16 t j).2.1 (cD 16 t j).2.2).2)):=aY X;clear X hs;have gK:=St (cD 16 t j).2.1 (cD 16 t j).2.2;have R:Hid (∀W,Rd W g (cD 16 t j).2.1 (cD 16 t j).2.2->aK aR 260 #[aj (I ⟨g,0,U⟩)] W λe O=>e=ak (vd (iz (cD 16 t j).2.1 (cD 16 t j).2.2).1)/\qL g (iz (cD 16 t j).2.1 (cD 16 t j).2.2).2.1 (iz (cD 16 t j).2.1 (cD 16 t j).2.2).2.2 W O):=aY λW hW=>ae4 g _ _ W hW aZ
   generalize cD 16 t j=sb at *;obtain⟨nm,lb,wb⟩:=sb;simp only at C1 R T lM gK;generalize iz lb wb=sv at *;obtain⟨⟨vk,vn,vt⟩,lv,wv⟩:=sv;simp only[vd]at R T gK;go_wp2_with fail
   refine C1.aX.mono ?_;rintro e w3⟨v3,rfl,jk,gX,Y⟩;have hst:=str (gS jk);have mg:=Y.size;have GM:=N0 C Y V;have dB:=hb.trans (nj Y S hb.size);clear C N Y hb C1;go_wp2_with fail
   refine (R.aX _ gX).mono ?_;rintro e w4⟨rfl,iq,hg4⟩;have lr:=hg4.size;have I4:=N0 GM hg4 V;have hb4:=dB.trans (nj hg4 S dB.size);clear GM gX hg4 dB R hst jk;go_wp2_with (at_builtin;refine nZ rfl _ _ 35 rfl (D (L z)) 88 _ 4 48 TE _ _ _ rfl (xj I4 _) (D (L w4)+1) _ 1 1 (nu (⟨nm.toArray⟩,vk,vn,⟨vt.toArray⟩)) rfl ?c1 ?c2 ?c3 ?c5 ?_)
   case c1=>exact Reads.new w4 (nu (⟨nm.toArray⟩,vk,vn,⟨vt.toArray⟩)) 88 4 1 rfl
   case c2=>exact ahz _
   case c3=>omega
   case c5=>simp;omega
   intro v5 w5 OX pY aoj Q;have TQ:s8 w5 (D (L z)) v5 (iZ (k+1) l bad).1:=by rw[T.aX];unfold s8;grind
   have lG:Rd w5 g (iZ (k+1) l bad).2.1 (iZ (k+1) l bad).2.2:=by rw[T.aX];exact (iq.bM (Below.alloc (eP _ _) (bP _) _)).below Q V
   have aEn:=(hb4.alloc hb4.size _).trans (Q.mono aZ);have tB:D (L z)<=D (L w5):=by have:=Q.size;simp at this;omega
   clear OX pY aoj Q iq I4 hb4;go_wp2;go_roundw
   case rel=>exact⟨k+1,aZ,dh,TQ,lG,aEn,tB⟩
   case measure=>simp[aO];omega
  have gW:¬(k:Int)<m:=aZ;obtain rfl:k=m:=aZ;clear hlt hk;have H:=(XP k l bad).2;generalize iZ k l bad=s at *;obtain⟨y,t,j⟩:=s;simp only at C N M H;clear H;have OY:∀x:Bool,x=(!j&&t.isEmpty&&iM y)->Hid (Ci b=(if x then 0 else 40))/\Hid (Ch b=if x then y else []):=by
   intro x hx;have h:=M.aX;rw[show (decide (k<=16))=aA by simp;omega]at h;cases x with
   | true=>rw[Bool.true_and,<- hx]at h;exact⟨aY (by simp[Ci,h]),aY (by simp[Ch,h])⟩
   | false=>rw[Bool.true_and,<- hx]at h;exact⟨aY (by simp[Ci,h]),aY (by simp[Ch,h])⟩
  have UH:=aY OY;clear OY;go_wp2_with fail
  refine (Nn g _ _ wr N).mono ?_;rintro e O⟨rfl,rfl⟩;cases hd:(!j&&t.isEmpty);exact aiS;obtain⟨A',c',rfl,hR',_,_⟩:=C.slice;have hrow:=pF (cQ S (Nat.le_of_lt V)) C;go_wp2_with fail
  refine (WN A' c' y wr (D (L wr)) hR' (bP _)).mono ?_;rintro e w6⟨rfl,ky⟩;have abe:=hb.trans (ky.mono hb.size);have TR:=sU hrow ky;cases hok:iM y;have hne:(mP y != 0)=true:=SG;exact aiT;have hne:(mP y != 0)=false:=SG;exact aiU
section
variable {l la lb:List eD}{b:List UInt8}{v va vb:aQ}{w:aP}
theorem axI(h:sl b v w)(hn:Z b<=1000000000):aK aR 197 #[v] w λe j =>∃t,e=ak (au #[t,G J (Ci b)])/\s8 j (D (L w)) t (Ch b)/\aN (D (L w)) w j:=by obtain⟨A,c,rfl,y⟩:=h;exact atF A _ c b w _ y (bP _) hn
end
structure DS(w0:aP)(t:TypeId)(z:Array aQ)(r g h:Nat)(l:List UInt8)(wr:Bool)(cs:Array aQ)(W:aP):Prop where
 rd:Rd W g l wr
 x:bn W h t cs
 rv:bn W r t z
 k:K w0 W
 o:D (L w0)<=r/\r<g/\g<h
section
variable {w0 W W':aP}{t:TypeId}{z cs:Array aQ}{r g h:Nat}{l l':List UInt8}{wr wr':Bool}{row:Option Nat}
theorem DS.went(j:DS w0 t z r g h l wr cs W)(H:qL g l' wr' W W'):DS w0 t z r g h l' wr' cs W':=by have o:=j.o;exact⟨H.1,j.x.went H aZ,j.rv.went H aZ,j.k.trans (nj H.2 aZ j.k.size),o⟩
theorem DS.set(j:DS w0 t z r g h l wr cs W) i u:DS w0 t z r g h l wr (cs.setIfInBounds i u) (aV W ⟨h,i,U⟩ u):=by have o:=j.o;exact⟨j.rd.set aZ i u,j.x.cH i u,j.rv.far bL u,j.k.setCell bL u,o⟩
theorem DS.gr(j:DS w0 t z r g h l wr cs W)(k:K W W'):DS w0 t z r g h l wr cs W' :=
 ⟨j.rd.bM k,j.x.bM k,j.rv.bM k,j.k.tr k,j.o⟩
theorem DS.mut(j:DS w0 t z r g h l wr cs W)(m:W.grownBy W' row)(B:∀b,row=I b->h<b):DS w0 t z r g h l wr cs W':=by have o:=j.o;have y:aN (h+1) W W':=⟨m.os,m.tape,m.output,m.size,λi A=>m.block i (cZ A j.x.lt) bL⟩;exact⟨j.rd.below y aZ,j.x.below y aZ,j.rv.below y aZ,j.k.trans (y.mono aZ),o⟩
theorem cI.went{lo}(H:qL g l' wr' W W')(hg:g<lo):cI lo U W W':=(cI.gy H.2 lo).more (bP _) (λk j _=>cN)
theorem cI.set{lo b}(hb:b<lo) i u:cI lo U W (aV W ⟨b,i,U⟩ u) :=
 ⟨rfl,rfl,rfl,SC,λk j _ _=>Below.heap_setCell W ⟨b,i,U⟩ u k cN⟩
end
theorem K.set{w0 W r}(h:K w0 W)(j:D (L w0)<=r) i u:K w0 (aV W ⟨r,i,U⟩ u):=h.setCell j u
theorem K.sets{w0:aP}{r:Nat}(j:D (L w0)<=r):∀(us:List aQ) (q:Nat) (W:aP),K w0 W->K w0 (ei W r q us)
 | [],_,_,h=>h
 | u :: us,q,W,h=>K.sets j us _ _ (h.set j q u)
theorem cI.sets{lo b:Nat}(hb:b<lo):∀(us:List aQ) (q:Nat) (W:aP),cI lo U W (ei W b q us)
 | [],_,_=>cI.rf _ _ _
 | u :: us,q,W=>(cI.set hb q u).tr (cI.sets hb us _ _)
section
variable {w0 W:aP}{t:TypeId}{z:Array aQ}{r g h:Nat}{l:List UInt8}{wr:Bool}
theorem DS.sets:∀(q:Nat) (us:List aQ) {W:aP} {cs:Array aQ},DS w0 t z r g h l wr cs W->DS w0 t z r g h l wr (ry cs.toList q us).toArray (ei W h q us)
 | q,[],W,cs,aS=>by simpa [ry,ei]using aS
 | q,u :: us,W,cs,aS=>by have:=(aS.set q u).sets (q+1) us;simpa [ry,ei,Array.toList_setIfInBounds]using this
theorem DS.put{cs}(aS:DS w0 t z (D (L w0)) g h l wr cs W) us(j:Z us=z.size):bn (ei W (D (L w0)) 0 us) (D (L w0)) t us.toArray/\K w0 (ei W (D (L w0)) 0 us)/\cI (h+1) U W (ei W (D (L w0)) 0 us) :=
 ⟨DD aS.rv j,K.sets (bP _) _ _ _ aS.k,cI.sets YN _ _ _⟩
end
theorem s8.rel{w B v l}(h:s8 w B v l):∀j,cI B U w j->eB.rel l [v] j:=by intro j u;refine⟨v,rfl,aiF (base:=B) ⟨h.1,h.2.imp id ?_⟩⟩;exact YF
theorem lV.rel{w B v l}(h:lV w B v l):∀j,cI B U w j->fZ l v j:=by intro j u;refine BQ (base:=B) ⟨h.1,h.2.imp id ?_⟩;exact YF
abbrev zEL:List aQ:=[G J 0,G J 0,G E 0,G E 0,G J 0,G E 0,F U 0 0,F U 0 0]
abbrev jx:Array aQ:=#[G J 0,G J 0,G E 0,G E 0,G J 0,G E 0,F U 0 0,F U 0 0]
theorem aCN:(prog.info? 35).map (λi=>(i.zero,i.size,i.bytes))=I (I (F U 0 0),1,24):=by rfl
theorem FT:gQ aR 43 35 (F U 0 0) 1 24:=⟨underlying43,aCN,rfl,bG⟩
theorem NA g l wr j w(h:Rd w g l wr)(B:Z l<=1000000000)(C:-9223372036854775808<=j)(z:j<=9223372036854775807) :
 aK aR 136 #[aj (I ⟨g,0,U⟩),G J j] w λe t=>∃v,e=ak v/\sl (cD j l wr).1 v t/\qL g (cD j l wr).2.1 (cD j l wr).2.2 w t :=
 (Rk g l wr j w h B C z).mono λ_ _ ⟨v,e,A,y⟩=>⟨v,e,gS A,y⟩
theorem axJ{n l wr}(h:vY (cD n l wr).1=U):(ox n l wr).2.2=true:=by grind [ox]
theorem axK{n l wr e}(h:vY (cD n l wr).1=I e):ox n l wr=(e,(cD n l wr).2):=by grind [ox]
theorem axL{n l wr}(h:tU (cD n l wr).1=U):(s9 n l wr).2.2=true:=by grind [s9]
theorem axM{n l wr e}(h:tU (cD n l wr).1=I e):s9 n l wr=(e,(cD n l wr).2):=by grind [s9]
theorem axN{b}(h:vY b=U):Ci b=40/\Ch b=[]:=by simp[Ci,Ch,h]
theorem axO{b l}(h:vY b=I l):Ci b=0/\Ch b=l:=by simp[Ci,Ch,h]
theorem av1{b}(h:tU b=U):yo b=50/\ym b=[]:=by simp[yo,ym,h]
theorem av2{b l}(h:tU b=I l):yo b=0/\ym b=l:=by simp[yo,ym,h]
theorem auB b k br j y cl t l wr(h:jt b az=((k,br,j,y,cl,t),l,wr)) :(min k 4=1->∀m A z,bJ l wr=(m,A,z)->j8 b=if !(fH (ox (Z b)) (min m 9) A z).2.2&&(fH (ox (Z b)) (min m 9) A z).2.1.isEmpty&&dE { rA (k,br,j,y,cl,t)with es:=(fH (ox (Z b)) (min m 9) A z).1 }then I { rA (k,br,j,y,cl,t)with es:=(fH (ox (Z b)) (min m 9) A z).1 }else U) /\(min k 4=2->j8 b=if !(s9 (Z b) l wr).2.2&&(s9 (Z b) l wr).2.1.isEmpty&&dE { rA (k,br,j,y,cl,t)with f:=(s9 (Z b) l wr).1 }then I { rA (k,br,j,y,cl,t)with f:=(s9 (Z b) l wr).1 }else U) /\(min k 4≠1->min k 4≠2->j8 b=if !wr&&l.isEmpty&&dE (rA (k,br,j,y,cl,t))then I (rA (k,br,j,y,cl,t))else U):=by refine⟨λC m A z H=>?_,λB=>?_,λC B=>?_⟩;unfold j8 tc;rw[h];simp only[C,H,if_true];unfold j8 tc;rw[h];simp only[B,if_true,show ¬((2:Nat)=1) by decide,if_false];unfold j8 tc;rw[h];simp only[C,B,if_false]
theorem Rz{b}(h:j8 b=U):B6 b=110/\om b=fS:=by simp[B6,om,h]
theorem Xi{b x}(h:j8 b=I x):B6 b=0/\om b=x:=by simp[B6,om,h]
theorem WH b v w(h:sl b v w)(hn:Z b<=1000000000) :aK aR 135 #[v] w λe w' =>∃v',e=ak (au #[v',G J (B6 b)])/\(∀W,cI (D (L w)) U w' W->fM (om b) v' W)/\K w w':=by
 obtain⟨A,c,rfl,hR⟩:=h;have fU:=bn.new w 128 jx;have k0:=fU.cG;have AW:=(hR.below k0 (bP _)).more k0.size;obtain⟨k,l1,e1,sI⟩:∃k l1 e1,bJ b az=(k,l1,e1):=⟨_,_,_,rfl⟩;obtain⟨br,l2,e2,vA⟩:∃k l2 e2,bJ l1 e1=(k,l2,e2):=⟨_,_,_,rfl⟩;obtain⟨t,l3,e3,UQ⟩:∃k l3 e3,bJ l2 e2=(k,l3,e3):=⟨_,_,_,rfl⟩;obtain⟨y,l4,e4,UR⟩:∃k l4 e4,bJ l3 e3=(k,l4,e4):=⟨_,_,_,rfl⟩;obtain⟨cl,l5,e5,US⟩:∃k l5 e5,bJ l4 e4=(k,l5,e5):=⟨_,_,_,rfl⟩;obtain⟨H,C,N,PM⟩:∃k C N,bJ l5 e5=(k,C,N):=⟨_,_,_,rfl⟩;have HP:=auB b k br t y cl H C N (by simp only[jt,sI,vA,UQ,UR,US,PM]);have UT:Z C<=Z b:=by have g1:=qF b az;have g2:=qF l1 e1;have g3:=qF l2 e2;have g4:=qF l3 e3;have g5:=qF l4 e4;have g6:=qF l5 e5;rw[sI]at g1;rw[vA]at g2;rw[UQ]at g3;rw[UR]at g4;rw[US]at g5;rw[PM]at g6;simp only at g1 g2 g3 g4 g5 g6;omega
 have C1:=λg W h=>Ni g b az 4 W h aZ
 have C2:=λg W h=>ae5 g l1 e1 W h
 have C3:=λg W h=>Ni g l4 e4 32 W h aZ
 have C4:=λg W h=>vN g l5 e5 W h
 simp only[Fv,sI,vA,UQ,UR,US,PM]at C1 C2 C3 C4;clear sI vA UQ UR US PM;replace HP:=aY HP;replace C1:=aY C1;replace C2:=aY C2;replace C3:=aY C3;replace C4:=aY C4;have hk4:min k 4<=4:=aZ;generalize hkk:min k 4=kk at *;generalize rG:min br 16=O at *;generalize Eo:min cl 32=R at *;have HX:Hid (rA (k,br,t,y,cl,H)=⟨kk,O,t,y,R,H,[],[]⟩):=aY (by simp only[rA,hkk,rG,Eo]);clear hkk rG Eo;generalize rA (k,br,t,y,cl,H)=X0 at *;go_in;go_wp2_with fail
 generalize w.alloc _=w1 at *;refine (Ny A _ c b w1 _ AW (bP _) hn).mono ?_;rintro e w2⟨g,rfl,hg,nA,k2⟩;have dC:=fU.bM k2;have hrg:=cZ fU.lt hg;replace k0:=k0.tr k2;clear hR AW hg k2 fU;go_wp2_with fail
 refine (C1.aX g w2 nA).mono ?_;rintro e w3⟨rfl,hw3⟩;have gX:=dC.went hw3 aZ;have k3:K w w3:=k0.trans (nj hw3.2 aZ k0.size);have xI:=hw3.1;have Pc:=xI.lt;clear nA dC hw3 k0;go_wp2_with fail
 have aS:DS w 128 jx (D (L w)) g (D (L w3)) l1 e1 #[G J kk,G J 0,G E 0,G E 0,G J 0,G E 0,F U 0 0,F U 0 0]
  (aU w3 (aq #[G J kk,G J 0,G E 0,G E 0,G J 0,G E 0,F U 0 0,F U 0 0] 128)) :=
  ⟨xI.al _,bn.new _ _ _,gX.alloc _,k3.al _,bP _,hrg,Pc⟩
 clear xI gX k3 Pc hrg;generalize w3.alloc _=w4 at *;generalize D (L w3)=h at *;refine (C2.aX g w4 aS.rd).mono ?_;rintro e w5⟨rfl,PN⟩;replace aS:=aS.went PN;clear PN;have q:=aS.x.cell;have z:=aS.x.frozen;go_upto_region 4 with fail;replace aS:DS w 128 jx (D (L w)) g h l4 e4 #[G J kk,G J O,G E t,G E y,G J 0,G E 0,F U 0 0,F U 0 0] (((aV w5 ⟨h,1,U⟩ (G J O)).setCell ⟨h,2,U⟩ (G E t)).setCell ⟨h,3,U⟩ (G E y)):=((((((aS).set 1 (G J O))).set 2 (G E t))).set 3 (G E y));clear q z;generalize (((aV w5 _ _).setCell _ _).setCell _ _)=w6 at *;go_wp2_with fail
 refine (C3.aX g w6 aS.rd).mono ?_;rintro e w7⟨rfl,hw7⟩;replace aS:=aS.went hw7;clear hw7;have q:=aS.x.cell;have z:=aS.x.frozen;go_upto_region 5 with fail;replace aS:DS w 128 jx (D (L w)) g h l5 e5 #[G J kk,G J O,G E t,G E y,G J R,G E 0,F U 0 0,F U 0 0] (aV w7 ⟨h,4,U⟩ (G J R)):=((aS).set 4 (G J R));clear q z;generalize w7.setCell _ _=w8 at *;go_wp2_with fail
 refine (C4.aX g w8 aS.rd).mono ?_;rintro e w9⟨rfl,hw9⟩;replace aS:=aS.went hw9;clear hw9;have q:=aS.x.cell;have z:=aS.x.frozen;go_upto_region 6 with fail;replace aS:DS w 128 jx (D (L w)) g h C N #[G J kk,G J O,G E t,G E y,G J R,G E H,F U 0 0,F U 0 0] (aV w9 ⟨h,5,U⟩ (G E H)):=((aS).set 5 (G E H));clear q z C1 C2 C3 C4;generalize w9.setCell _ _=wa at *;have UE:=aS.o;have HM:=aY (λ(l:List UInt8) wr=>KR (Z b:Int) l wr);have Pd:((Z b:Nat):Int)<=9223372036854775807:=aZ;have q:=aS.x.cell;go_upto_block 0 with fail;go_cut [6,7,8,9]from 26 to 64 (fun _ _ _ _ W=>∃(X:bU) (l:List UInt8) (e:Bool) (vf ve:aQ),DS w 128 jx (D (L w)) g h l e (cB X vf ve) W /\
  (∀W',cI (h+1) U W W'->fZ X.f vf W')/\(∀W',cI (h+1) U W W'->bD eB X.es ve W')/\Hid (j8 b=if !e&&l.isEmpty&&dE X then I X else U))
 case first =>
  by_cases iN:kk=1
  .subst iN;replace aS:DS w 128 jx (D (L w)) g h C N #[G J (1:Int),G J O,G E t,G E y,G J R,G E H,F U 0 0,F U 0 0] wa:=aS;obtain⟨m,l7,e7,UU⟩:∃k la ea,bJ C N=(k,la,ea):=⟨_,_,_,rfl⟩;rw[show ((1:Nat):Int)=1 from rfl]at HX;have CM:=aY (HP.aX.1 rfl m l7 e7 UU);rw[HX.aX]at CM;have Hj:Z l7<=Z b:=by have:=qF C N;rw[UU]at this;simp only at this;omega
   have C7:=λg W h=>Ni g C N 9 W h aZ
   simp only[UU]at C7;clear UU HP HX;have hm9:min m 9<=9:=aZ;generalize min m 9=M at *;go_wp2_with fail
   clear q;refine (C7 g wa aS.rd).mono ?_;rintro e wb⟨rfl,PO⟩;replace aS:=aS.went PO;clear PO C7;have HQ:=aY (λk l wr=>N5 (Nq (Z b:Int)) k l wr);have aok:=aY (λk (hk:k<=M) (hb:(fH (ox (Z b:Int)) k l7 e7).2.2=aA)=>show B6 b=110/\om b=fS from Rz (by
    have:=Yw (Nq (Z b:Int)) hb (M-k);rw[show k+(M-k)=M by omega]at this;rw[CM.aX,this];rfl))
   go_wp2_with fail
   go_loopw [6,7,30] (fun _ _ i W=>∃j:Nat,j<=M/\i=G J j/\∃es ve T S,Hid (fH (ox (Z b:Int)) j l7 e7=(es,T,S)) /\
    DS w 128 jx (D (L w)) g h T S #[G J (1:Int),G J O,G E t,G E y,G J R,G E H,F U 0 0,ve] W /\
    cW (h+1) (h+1) 35 eB es ve W) (λ_ _ i _=>M-(aO i).toNat)
   case atStart=>exact⟨0,aZ,rfl,[],_,l7,e7,aY rfl,aS,cW.nil _ _ _ _ _⟩
   case round =>
    clear aS;obtain⟨j,hj,rfl,es,ve,T,S,HJ,aS,hO⟩:=hrel;have hlq:=HQ.aX j l7 e7;rw[HJ.aX]at hlq;simp only at hlq;obtain⟨aKj,aEo⟩:=hlq;have aKk:Z es<=9:=aZ;clear aEo;by_cases hlt:j<M
    .have cE:(j:Int)<M:=aZ;go_wp2_with fail
     refine (NA g T S (Z b:Int) wr aS.rd aZ aZ Pd).mono ?_;rintro e wc⟨vb,rfl,qR,hwc⟩;replace aS:=aS.went hwc;replace hO:=hO.up (bP _) (cI.went hwc YN);have hlb:=HM.aX T S;have aEp:=GD (Z b:Int) T S;have AX:=aY (@axJ (Z b:Int) T S);have yT:=aY (λe h=>@axK (Z b:Int) T S e h);have Er:Hid (fH (ox (Z b:Int)) (j+1) l7 e7=(es++[(ox (Z b:Int) T S).1],(ox (Z b:Int) T S).2)):=aY (by
      have:=HJ.aX;rw[fH,this])
     clear hwc;generalize cD (Z b:Int) T S=B at *;obtain⟨bs,lk,ek⟩:=B;simp only at qR aS hO hlb aEp AX yT;go_wp2_with fail
     refine (axI qR aZ).mono ?_;rintro e wd⟨v9,rfl,Y,k9⟩;have vB:=aS.x.lt;have AY:=hO.blk;replace aS:=aS.gr k9;replace hO:=hO.st k9;clear qR;cases mH:vY bs with
     | none => have Q:=axN mH;have HN:=aY (aok.aX (j+1) aZ (by rw[Er.aX];exact AX.aX mH));rw[Q.1];clear mH Q Y;exact SI
     | some ev =>
      have Q:=axO mH;rw[Q.1];rw[Q.2]at Y;have Hm:Hid (fH (ox (Z b:Int)) (j+1) l7 e7=(es++[ev],lk,ek)):=aY (by rw[Er.aX,yT.aX _ mH]);clear mH Q Er AX yT HJ;have UW:=aY Y.rel;obtain⟨A9,V,rfl⟩:=tN (aiF Y);clear Y;obtain⟨bw,hown,hcl,xM⟩:=hO;have q:=aS.x.cell;have kA:=K.new wd (aq #[F A9 (Z ev) V] 35);have hbase:h+1<=D (L (aU wd (aq #[F A9 (Z ev) V] 35))):=by have:=kA.size;have:=aS.x.lt;omega
      go_wp2_with (at_builtin;refine nZ rfl _ _ 43 rfl (h+1) 35 _ 1 24 FT _ _ _ rfl (xj hown _) (D (L wd)+1) _ 1 1 [F A9 (Z ev) V] rfl ?c1 ?c2 ?c3 hbase ?_)
      case c1=>exact Reads.new wd [F A9 (Z ev) V] 35 1 1 rfl
      case c2=>intro u hu;simp at hu;subst hu;rfl
      case c3=>omega
      intro v9 w9 mw dW gD _;have DA:=aS.gr kA;replace DA:=DA.mut dW (λb0 hb0=>(AY b0 hb0).1);have cX:=cW.snoc hcl (λw' u=>xM w' (cI.tr (cI.cz kA _ _) u)) mw dW BS
       (λw' u=>UW.aX w' ((cI.tr (cI.cz kA _ _) u).more aZ (λk hk _ e=>by have:=(AY k e.symm).2;omega)))
      clear mw dW gD hown xM aS q;obtain⟨LY,LZ,rfl,-⟩:=cX.slice;have q:=DA.x.cell;have z:=DA.x.frozen;go_upto_region 14 with fail;have hsz:Z (es++[ev])=Z es+1:=bu;rw[hsz]at cX;clear hsz q z;replace DA:DS w 128 jx (D (L w)) g h lk ek #[G J (1:Int),G J O,G E t,G E y,G J R,G E H,F U 0 0,F LY (Z es+1) LZ] (aV w9 ⟨h,7,U⟩ (F LY (Z es+1) LZ)):=DA.set 7 (F LY (Z es+1) LZ);replace cX:=cX.up (w':=w9.setCell ⟨h,7,U⟩ (F LY (Z es+1) LZ)) (bP _) (cI.set aZ 7 _);generalize w9.setCell _ _=wt at *;go_wp2;go_roundw
      case rel=>exact⟨j+1,aZ,dh,es++[ev],_,lk,ek,Hm,DA,cX⟩
      case measure=>simp[aO];omega
    have cE:¬(j:Int)<M:=aZ;obtain rfl:j=M:=aZ;have HD:=CM.aX;rw[HJ.aX]at HD;simp only at HD;replace HD:=aY HD;obtain⟨LY,LZ,rfl,-⟩:=hO.slice;have HF:∀W',cI (h+1) U wr W'->fZ [] (F U 0 0) W':=λ_ _=>⟨U,0,rfl,Reads.nil _ _ _ _⟩
    have HE:∀W',cI (h+1) U wr W'->bD eB es (F LY (Z es) LZ) W':=λW' u=>(hO.up (bP _) u).bD
    clear aok CM HJ HQ hO;go_wp2;go_meet
    case rel=>exact⟨⟨1,O,t,y,R,H,[],es⟩,T,S,_,_,aS,HF,HE,HD⟩
  by_cases hk2:kk=2
  .subst hk2;replace aS:DS w 128 jx (D (L w)) g h C N #[G J (2:Int),G J O,G E t,G E y,G J R,G E H,F U 0 0,F U 0 0] wa:=aS;rw[show ((2:Nat):Int)=2 from rfl]at HX;have CM:=aY (HP.aX.2.1 rfl);rw[HX.aX]at CM;clear HP HX;go_wp2_with fail
   clear q;refine (NA g C N (Z b:Int) wa aS.rd aZ aZ Pd).mono ?_;rintro e wc⟨vb,rfl,qR,hwc⟩;replace aS:=aS.went hwc;have hlb:=HM.aX C N;have AX:=aY (@axL (Z b:Int) C N);have yT:=aY (λe h=>@axM (Z b:Int) C N e h);clear hwc;generalize cD (Z b:Int) C N=B at *;obtain⟨bs,lk,ek⟩:=B;simp only at qR aS hlb AX yT;have vB:=aS.x.lt;go_wp2_with fail
   refine (avR qR aZ).mono ?_;rintro e wd⟨v9,rfl,Y,k9⟩;replace aS:=aS.gr k9;clear qR;cases mH:tU bs with
   | none => have Q:=av1 mH;have HN:=aY (show B6 b=110/\om b=fS from Rz (by rw[CM.aX,AX.aX mH];rfl));rw[Q.1];clear mH Q Y;exact SI
   | some fl =>
    have Q:=av2 mH;rw[Q.1];rw[Q.2]at Y;have HD:=CM.aX;rw[yT.aX _ mH]at HD;simp only at HD;replace HD:=aY HD;clear mH Q AX yT CM;have HFl:=aY Y.rel;obtain⟨A9,V,rfl⟩:=dX (BQ Y);clear Y;have q:=aS.x.cell;have z:=aS.x.frozen;go_upto_region 20 with fail;replace aS:DS w 128 jx (D (L w)) g h lk ek #[G J (2:Int),G J O,G E t,G E y,G J R,G E H,F A9 (Z fl) V,F U 0 0] (aV wd ⟨h,6,U⟩ (F A9 (Z fl) V)):=((aS).set 6 (F A9 (Z fl) V));have HF:∀W',cI (h+1) U (aV wd ⟨h,6,U⟩ (F A9 (Z fl) V)) W'->fZ fl (F A9 (Z fl) V) W':=λW' u =>
     HFl.aX W' ((cI.tr (cI.set aZ 6 _) u).more aZ (λ_ _ _=>bu))
    have HE:∀W',cI (h+1) U (aV wd ⟨h,6,U⟩ (F A9 (Z fl) V)) W'->bD eB [] (F U 0 0) W':=λ_ _=>iJ eB _
    clear HFl q z;generalize wd.setCell _ _=wt at *;go_wp2;go_meet
    case rel=>exact⟨⟨2,O,t,y,R,H,fl,[]⟩,lk,ek,_,_,aS,HF,HE,HD⟩
  have HD:=aY (HP.aX.2.2 iN hk2);rw[HX.aX]at HD;clear HP;have HF:∀W',cI (h+1) U wa W'->fZ [] (F U 0 0) W':=λ_ _=>⟨U,0,rfl,Reads.nil _ _ _ _⟩
  have HE:∀W',cI (h+1) U wa W'->bD eB [] (F U 0 0) W':=λ_ _=>iJ eB _
  have g1:((kk:Int)==1)=false:=cN;have g2:((kk:Int)==2)=false:=cN;go_wp2;go_meet
  case rel=>exact⟨⟨kk,O,t,y,R,H,[],[]⟩,C,N,_,_,aS,HF,HE,HD⟩
 case rest =>
 clear aS q;obtain⟨X,l,e,vf,ve,aS,HF,HE,HD⟩:=hcut;obtain⟨A6,c6,rfl⟩:=dX (HF _ (cI.rf _ _ _));obtain⟨A7,c7,rfl⟩:=bH (HE _ (cI.rf _ _ _));have af:=cI.rf (h+1) U wc;have Es:Hid ((∀W',cI (h+1) U wc W'->fZ X.f (F A6 (Z X.f) c6) W')/\∀W',cI (h+1) U wc W'->bD eB X.es (F A7 (Z X.es) c7) W'):=aY ⟨HF,HE⟩;clear HF HE;go_wp2_with fail
 refine (Nn g _ _ _ aS.rd).mono ?_;rintro e w'⟨rfl,rfl⟩;have HB:Hid ((!e&&l.isEmpty&&dE X)=az->B6 b=110/\om b=fS):=aY λh=>Rz SJ
 have HG:Hid ((!e&&l.isEmpty&&dE X)=aA->B6 b=0/\om b=X):=aY λh=>Xi SJ
 clear HD;cases hd:(!e&&l.isEmpty);have HN:=aY (HB.aX YP);exact SI;have q:=aS.x.cell;go_wp2_with fail
 refine (Nb X _ _ ⟨_,_,rfl,Es.aX.1 _ af,Es.aX.2 _ af⟩).mono ?_;rintro e wz⟨rfl,kz⟩;replace aS:=aS.gr kz;replace af:=af.tr (cI.cz kz _ _);cases hok:dE X;have HN:=aY (HB.aX K2);have hne:(tW X != 0)=true:=by rw[ID hok];rfl
 clear q;exact SI;have HN:=aY (HG.aX K2);have hne:(tW X != 0)=false:=by rw[Ns hok];rfl
 clear q;have q:=aS.rv.cell;have z:=aS.rv.frozen;have q2:=aS.x.cell;go_wp2;have P9:=aS.put [G J X.bA,G J X.br,G E X.life,G E X.eY,G J X.cl,G E X.sub,F A6 (Z X.f) c6,F A7 (Z X.es) c7] rfl;simp only[ei,Nat.reduceAdd,mr]at P9;clear q q2 z;generalize ax _ _ _=W9 at *;have e9:=P9.1.cell;have U9:=af.tr P9.2.2;refine aM (v:=au #[av (cB X (F A6 (Z X.f) c6) (F A7 (Z X.es) c7)),G J 0]) ajt rfl ?_;exact aju
def uD(x:Rec):Int:=if fV x then 0 else 110
def zI(x:Rec):List UInt8:=if fV x then dG x else []
theorem agN{x}(h:x.bA=2\/x.bA=3):dG x=bO (cO x.bA)++bO x.n++jL (gB x.e):=by grind [dG]
theorem axP{x}(h:x.bA=4\/x.bA=5):dG x=bO (cO x.bA)++bO x.n++iG (x.br,x.life,x.eY):=by grind [dG,bO,cO,iG]
theorem azS{x}(h:x.bA=1):dG x=bO (cO x.bA)++bO x.n:=by grind [dG,bO,cO]
def owA(l:List UInt8)(v:aQ)(w:aP):Prop:=∃B,Own w B 5 v l
theorem aCO{l v w}(h:owA l v w):sl l v w:=gS h.choose_spec
def PQ(lo:Nat)(l:List UInt8)(v:aQ)(w:aP):Prop:=Own w lo 5 v l
theorem aCP lo l:∀v w j,PQ lo l v w->aN (D (L w)) w j->PQ lo l v j:=λ_ _ _ h k=>sU h k
theorem XT x v w(h:tC x v w)(hfit:lP x) :aK aR 140 #[v] w λe w' =>∃y,e=ak (au #[y,G J (uD x)])/\Own w' (D (L w)) 5 y (zI x)/\K w w':=by
 have B:=aY λW h=>agK x v W h
 have h':=h;obtain⟨vf,ve,rfl,hf,he⟩:=h;have M:=bn.new w 171 (jf x vf ve);have k1:=M.cG;have JE:=aY (aCM h');obtain⟨hik,hin,X,hib,hil,FR⟩:=hfit;cases hok:fV x
 .have HE:Hid (uD x=110):=aY (by simp[uD,hok]);have HR:Hid (zI x=[]):=aY (by simp[zI,hok]);rw[hok]at B;go_in;go_wp2_with fail
  generalize w.alloc _=w1 at *;refine (B.aX _ (JE.aX _ k1)).mono ?_;rintro e w2⟨rfl,t⟩;go_wp2;go_ret2;exact⟨_,ki,YL,k1.tr t⟩
 have HE:Hid (uD x=0):=aY (by simp[uD,hok]);have HR:Hid (zI x=dG x):=aY (by simp[zI,hok]);have hkk:=EY hok;rw[hok]at B;have H1:=aY λh=>azS (x:=x) h
 have H2:=aY λh=>agN (x:=x) h
 have H4:=aY λh=>axP (x:=x) h
 obtain⟨k,n,x,b,l,s⟩:=x;simp only at M k1 hf he hik hin X hib hil FR hkk HE HR B JE H1 H2 H4|-;generalize zI ⟨k,n,x,b,l,s⟩=R at *;generalize dG ⟨k,n,x,b,l,s⟩=ai at *;generalize uD ⟨k,n,x,b,l,s⟩=C at *;have Hi:∀W,K w W->fM x (av (cB x vf ve)) W:=λW k=>⟨vf,ve,rfl,fO _ _ _ _ hf k,cM he k⟩
 have hk5:k=1\/(k=2\/k=3)\/k=4\/k=5:=aZ;have Et:k=2\/k=3->dE x=true:=by grind
 go_in;go_wp2_with fail
 generalize w.alloc _=w1 at *;have hz1:=k1.size;obtain⟨lo,A⟩:∃lo,Hid (lo=D (L w)):=⟨_,aY rfl⟩;rw[<- A.aX]at hz1;have HG:Hid (∀W,K w W->lo<=D (L W)):=aY λW k=>by rw[A.aX];exact k.size
 generalize D (L w)=g at M|-;have qx:=M.cells;refine (B.aX _ (JE.aX _ k1)).mono ?_;rintro e w2⟨rfl,t⟩;go_upto_region 3 with fail;have qx2:=λW (Q:K w2 W)=>qx W (t.tr Q)
 have hz2:=cQ hz1 t.size;have:=fu (cO k) (jm k);have:=fu n hin;have qs:=aB qx2 (Gw k);refine fD 7 ?_;iterate 3 refine bB.i ?_
 refine bB.c (sl (bO (cO k))) (qK _) (λW _=>(xY (cO k) (aaV W) (jm k) bu).mono λe w'' ⟨y,e1,ho,T⟩=>⟨y,e1,gS (bZ (bO _)▸ho),T⟩) ?_;iterate 2 refine bB.i ?_
 refine bB.op (PQ lo (bO (cO k)++bO n)) (aCP _ _) (λV W Q hp=>?_) ?_
 .simp only[dN,bZ,cC,dK,dL,bS]at hp;simp[dI,bR,aC,hp,fk,aL,bT,go_sem];exact (xY n hp.1 hin aZ).mono λe w'' ⟨y,e1,ho,T⟩=>⟨y,e1,pF (cQ hz2 Q.size) ho,T⟩
 intro V w3 k3 hA;simp only[bZ,cC,dF,bS,Nat.reduceAdd]at hA;refine bN.p (bN.h ?_);have z:=hA.2.2.2.2.2.2.1;generalize V 6=v3 at *;have h7o:=aY z;replace z:=gS z;have:Z (bO (cO k)++bO n)<=100:=cN;have j:=k1.tr (t.tr k3);replace t:=t.tr k3;generalize bO (cO k)++bO n=b3 at *;obtain iN|S|aol:=hk5
 .subst iN;have N:=h7o.aX;rw[<- H1.aX rfl,<- HR.aX]at N;have N:=aY N;go_wp2;go_ret2;exact⟨_,ki,by rw[<- A.aX];exact N.aX,j⟩
 .have abn:=Et S;have iu:=aY (HR.aX.trans (H2.aX S));have:=Ns abn;have jR:rW x=gB x:=by simp[rW,abn]
  have:=Nz abn X;go_upto_region 5 with fail;rcases S with rfl|rfl;all_goals
   go_wp2_with fail
   refine (WG x _ _ (Hi _ j) X).mono ?_
   rintro e w4⟨v4,rfl,H,O⟩
   rw[jR]at H
   have Y:=gS H
   have h74:=qK _ _ _ _ z O
   replace j:=j.tr O
   go_wp2_with fail
   refine (R9 h74 Y aZ aZ).mono ?_
   rintro e w5⟨v5,rfl,tF,k5⟩
   have kb5:=j
   rw[<- iu.aX]at tF
   have h5:=aY (show PQ lo R v5 w5 from pF (HG.aX _ kb5) tF)
   replace j:=j.tr k5
   go_wp2
   go_ret2
   exact⟨_,ki,by rw[<- A.aX];exact h5.aX,j⟩
 have iu:=aY (HR.aX.trans (H4.aX aol));go_upto_region 5 with fail;rcases aol with rfl|rfl;all_goals
  go_wp2_with fail
  refine (aeP _ _ (b,l,s) _ z aZ ⟨hib,hil,FR⟩).mono ?_
  rintro e w4⟨v4,rfl,H,O⟩
  have kb5:=j
  rw[<- iu.aX]at H
  have Y:=aY (show PQ lo R v4 w4 from pF (HG.aX _ kb5) H)
  replace j:=j.tr O
  go_wp2
  go_ret2
  exact⟨_,ki,by rw[<- A.aX];exact Y.aX,j⟩
theorem azT x v w(h:tC x v w)(hfit:lP x) :
 aK aR 140 #[v] w λe t =>
  ∃j,e=ak (au #[j,G J (uD x)])/\owA (zI x) j t/\K w t :=
 (XT x v w h hfit).mono λe t ⟨j,y,h,k⟩=>⟨j,y,⟨_,h⟩,k⟩
theorem av3 x v w(h:tC x v w)(hfit:lP x) :aK aR 140 #[v] w λe j =>∃t,e=ak (au #[t,G J (uD x)])/\sl (zI x) t j/\K w j:=by refine (azT x v w h hfit).mono ?_;rintro e j⟨t,rfl,h,k⟩;grind [aCO]
abbrev ud:Array aQ:=#[G J 0,G E 0,G J 0,G J 0,G E 0,G E 0,G J 0,G E 0,F U 0 0,F U 0 0,G J 0,G E 0,G E 0]
abbrev zRL:List aQ:=[G J 0,G E 0,G J 0,G J 0,G E 0,G E 0,G J 0,G E 0,F U 0 0,F U 0 0,G J 0,G E 0,G E 0]
theorem azU w:tC Lr (av ud) w:=⟨_,_,rfl,⟨U,0,rfl,Reads.nil _ _ _ _⟩,iJ _ _⟩
theorem afo{b}(h:pK b=U):xd b=110/\xc b=Lr:=by simp[xd,xc,h]
theorem WW{b x}(h:pK b=I x):xd b=0/\xc b=x:=by simp[xd,xc,h]
theorem atG b k n R y O z(S:bJ b az=(k,R,O))(Q:bJ R O=(n,y,z)) j(hk:min k 6=j) :((j=2\/j=3)->∀bs N H,cD (Z b) y z=(bs,N,H)->(j8 bs=U->pK b=U)/\∀e,j8 bs=I e->pK b=if !H&&N.isEmpty&&fV ⟨j,n,e,0,0,0⟩then I ⟨j,n,e,0,0,0⟩else U) /\((j=4\/j=5)->∀br t B M C,Fv y z=((br,t,B),M,C)->pK b=if !C&&M.isEmpty&&fV ⟨j,n,fS,br,t,B⟩then I ⟨j,n,fS,br,t,B⟩else U) /\(¬(j=2\/j=3)->¬(j=4\/j=5)->pK b=if !z&&y.isEmpty&&fV ⟨j,n,fS,0,0,0⟩then I ⟨j,n,fS,0,0,0⟩else U):=by
 subst hk;refine⟨λh bs N H X=>⟨λT=>?_,λe W=>?_⟩,λh br t B M C A=>?_,λh V=>?_⟩
 .grind [bJ,cD,j8,pK,fV,Fv,fS,pM]
 .grind [pK,pM]
 have T:¬(min k 6=2\/min k 6=3):=aZ;simp only[Fv,Prod.mk.injEq]at A;obtain⟨⟨rfl,rfl,rfl⟩,A⟩:=A;unfold pK pM;simp only[S,Q,T,if_false,h,if_true,A];unfold pK pM;simp only[S,Q,h,V,if_false]
theorem atH b v w(h:sl b v w)(hn:Z b<=1000000000) :aK aR 91 #[v] w λe w' =>∃v',e=ak (au #[v',G J (xd b)])/\(∀W,cI (D (L w)) U w' W->tC (xc b) v' W)/\K w w':=by
 obtain⟨A,c,rfl,hR⟩:=h;have fU:=bn.new w 171 ud;have k0:=fU.cG;have AW:=(hR.below k0 (bP _)).more k0.size;obtain⟨k,l1,e1,sI⟩:∃k l1 e1,bJ b az=(k,l1,e1):=⟨_,_,_,rfl⟩;obtain⟨n,y,H,vA⟩:∃k y H,bJ l1 e1=(k,y,H):=⟨_,_,_,rfl⟩;have:min k 6<=6:=aZ;have C1:=λg W h=>Ni g b az 6 W h aZ
 have C2:=λg W h=>vN g l1 e1 W h
 have M:=atG b k n l1 y e1 H sI vA;have:Z y<=Z b:=by have g1:=qF b az;have g2:=qF l1 e1;rw[sI]at g1;rw[vA]at g2;simp only at g1 g2;omega
 simp only[sI,vA]at C1 C2;clear sI vA;generalize hkk:min k 6=Q at *;replace M:=aY (M Q rfl);replace C1:=aY C1;replace C2:=aY C2;clear hkk;go_in;go_wp2_with fail
 generalize w.alloc _=w1 at *;refine (Ny A _ c b w1 _ AW (bP _) hn).mono ?_;rintro e w2⟨g,rfl,hg,nA,k2⟩;have dC:=fU.bM k2;have hrg:=cZ fU.lt hg;replace k0:=k0.tr k2;clear hR AW hg k2 fU;go_wp2_with fail
 refine (C1.aX g w2 nA).mono ?_;rintro e w3⟨rfl,hw3⟩;have gX:=dC.went hw3 aZ;have k3:K w w3:=k0.trans (nj hw3.2 aZ k0.size);have xI:=hw3.1;have Pc:=xI.lt;clear nA dC hw3 k0;go_wp2_with fail
 have aS:DS w 171 ud (D (L w)) g (D (L w3)) l1 e1 #[G J Q,G E 0,G J 0,G J 0,G E 0,G E 0,G J 0,G E 0,F U 0 0,F U 0 0,G J 0,G E 0,G E 0] (aU w3 (aq #[G J Q,G E 0,G J 0,G J 0,G E 0,G E 0,G J 0,G E 0,F U 0 0,F U 0 0,G J 0,G E 0,G E 0] 171)) :=
  ⟨xI.al _,bn.new _ _ _,gX.alloc _,k3.al _,bP _,hrg,Pc⟩
 clear xI gX k3 Pc hrg;generalize w3.alloc _=w4 at *;generalize D (L w3)=h at *;refine (C2.aX g w4 aS.rd).mono ?_;rintro e w5⟨rfl,PN⟩;replace aS:=aS.went PN;clear PN;have q:=aS.x.cell;have z:=aS.x.frozen;go_upto_region 4 with fail;replace aS:DS w 171 ud (D (L w)) g h y H #[G J Q,G E n,G J 0,G J 0,G E 0,G E 0,G J 0,G E 0,F U 0 0,F U 0 0,G J 0,G E 0,G E 0] _:=aS.sets 1 [G E n];simp only[ei,Nat.reduceAdd]at aS;clear q z C1 C2;generalize w5.setCell _ _=Y at *;have UE:=aS.o;have Pd:((Z b:Nat):Int)<=9223372036854775807:=aZ;have q:=aS.x.cell;go_upto_block 0 with fail;go_cut [6,7]from 18 to 39 (fun _ _ W=>∃(X:Rec) (l:List UInt8) (e:Bool) (vf ve:aQ),DS w 171 ud (D (L w)) g h l e (jf X vf ve) W /\
  (∀W',cI (h+1) U W W'->fZ X.e.f vf W')/\(∀W',cI (h+1) U W W'->bD eB X.e.es ve W')/\Hid (pK b=if !e&&l.isEmpty&&fV X then I X else U))
 case first =>
  by_cases hk2:Q=2
  .subst hk2;replace aS:DS w 171 ud (D (L w)) g h y H #[G J 2,G E n,G J 0,G J 0,G E 0,G E 0,G J 0,G E 0,F U 0 0,F U 0 0,G J 0,G E 0,G E 0] Y:=aS;replace M:=aY (M.aX.1 bG);simp only[show ((2:Nat):Int)=2 from rfl]at M;go_wp2_with fail
   clear q;refine (NA g y H (Z b:Int) Y aS.rd aZ aZ Pd).mono ?_;rintro e wc⟨vb,rfl,qR,S⟩;replace aS:=aS.went S;have hlb:=KR (Z b:Int) y H;obtain⟨bs,R,V,hB⟩:∃bs R V,cD (Z b:Int) y H=(bs,R,V):=⟨_,_,_,rfl⟩;have HQ:=aY (M.aX bs R V hB);rw[hB]at qR aS hlb;simp only at qR aS hlb;clear S hB M;have vB:=aS.x.lt;go_wp2_with fail
   refine (WH bs _ _ qR aZ).mono ?_;rintro e wd⟨v9,rfl,hen,k9⟩;replace aS:=aS.gr k9;clear qR;obtain⟨vf,ve,rfl,Jz,Eu⟩:=hen _ (cI.rf _ _ _);obtain⟨t,c6,rfl⟩:=dX Jz;obtain⟨j,c7,rfl⟩:=bH Eu;clear Jz Eu;have pZ:=aY hen;clear hen;have hx:=bn.new wd 128 (cB (om bs) (F t (Z (om bs).f) c6) (F j (Z (om bs).es) c7));have kE:=hx.cG;have DE:=aS.gr kE;cases mH:j8 bs with
   | none => exact ajv
   | some en =>
    have iB:=Xi mH;rw[iB.2]at hx kE DE pZ;rw[iB.1,iB.2];have HD:=aY (HQ.aX.2 en mH);clear mH iB HQ aS;go_upto_region 10 with fail;generalize wd.alloc _=we at *;have aS:=DE;clear DE;have q2:=hx.cell;have q:=aS.x.cell;have z:=aS.x.frozen;go_wp2;replace aS:DS w 171 ud (D (L w)) g h R V #[G J 2,G E n,G J en.bA,G J en.br,G E en.life,G E en.eY,G J en.cl,G E en.sub,F t (Z en.f) c6,F j (Z en.es) c7,G J 0,G E 0,G E 0] _:=aS.sets 2 [G J en.bA,G J en.br,G E en.life,G E en.eY,G J en.cl,G E en.sub,F t (Z en.f) c6,F j (Z en.es) c7];simp only[ei,Nat.reduceAdd]at aS;have UX:=(cI.cz kE (h+1) U).tr (cI.sets (Nat.lt_succ_self h) [G J en.bA,G J en.br,G E en.life,G E en.eY,G J en.cl,G E en.sub,F t (Z en.f) c6,F j (Z en.es) c7] 2 _);simp only[ei,Nat.reduceAdd]at UX;have abo:Hid (∀W',cI (h+1) U wd W'->fM en (av (cB en (F t (Z en.f) c6) (F j (Z en.es) c7))) W'):=aY λW' u=>pZ.aX W' (u.more aZ (λ_ _ _=>bu))
    clear q q2 z pZ hx;generalize ax _ _ _=T at *;have N:∀W',cI (h+1) U T W'->fZ en.f (F t (Z en.f) c6) W':=λW' u=>by exact ajw
    have O:∀W',cI (h+1) U T W'->bD eB en.es (F j (Z en.es) c7) W':=λW' u=>by exact ajx
    go_wp2;go_meet
    case rel=>exact⟨(⟨2,n,en,0,0,0⟩:Rec),R,V,F t (Z en.f) c6,F j (Z en.es) c7,aS,N,O,HD⟩
  by_cases lY:Q=3
  .subst lY;replace aS:DS w 171 ud (D (L w)) g h y H #[G J 3,G E n,G J 0,G J 0,G E 0,G E 0,G J 0,G E 0,F U 0 0,F U 0 0,G J 0,G E 0,G E 0] Y:=aS;replace M:=aY (M.aX.1 bG);simp only[show ((3:Nat):Int)=3 from rfl]at M;go_wp2_with fail
   clear q;refine (NA g y H (Z b:Int) Y aS.rd aZ aZ Pd).mono ?_;rintro e wc⟨vb,rfl,qR,S⟩;replace aS:=aS.went S;have hlb:=KR (Z b:Int) y H;obtain⟨bs,R,V,hB⟩:∃bs R V,cD (Z b:Int) y H=(bs,R,V):=⟨_,_,_,rfl⟩;have HQ:=aY (M.aX bs R V hB);rw[hB]at qR aS hlb;simp only at qR aS hlb;clear S hB M;have vB:=aS.x.lt;go_wp2_with fail
   refine (WH bs _ _ qR aZ).mono ?_;rintro e wd⟨v9,rfl,hen,k9⟩;replace aS:=aS.gr k9;clear qR;obtain⟨vf,ve,rfl,Jz,Eu⟩:=hen _ (cI.rf _ _ _);obtain⟨t,c6,rfl⟩:=dX Jz;obtain⟨j,c7,rfl⟩:=bH Eu;clear Jz Eu;have pZ:=aY hen;clear hen;have hx:=bn.new wd 128 (cB (om bs) (F t (Z (om bs).f) c6) (F j (Z (om bs).es) c7));have kE:=hx.cG;have DE:=aS.gr kE;cases mH:j8 bs with
   | none => exact ajv
   | some en =>
    have iB:=Xi mH;rw[iB.2]at hx kE DE pZ;rw[iB.1,iB.2];have HD:=aY (HQ.aX.2 en mH);clear mH iB HQ aS;go_upto_region 10 with fail;generalize wd.alloc _=we at *;have aS:=DE;clear DE;have q2:=hx.cell;have q:=aS.x.cell;have z:=aS.x.frozen;go_wp2;replace aS:DS w 171 ud (D (L w)) g h R V #[G J 3,G E n,G J en.bA,G J en.br,G E en.life,G E en.eY,G J en.cl,G E en.sub,F t (Z en.f) c6,F j (Z en.es) c7,G J 0,G E 0,G E 0] _:=aS.sets 2 [G J en.bA,G J en.br,G E en.life,G E en.eY,G J en.cl,G E en.sub,F t (Z en.f) c6,F j (Z en.es) c7];simp only[ei,Nat.reduceAdd]at aS;have UX:=(cI.cz kE (h+1) U).tr (cI.sets (Nat.lt_succ_self h) [G J en.bA,G J en.br,G E en.life,G E en.eY,G J en.cl,G E en.sub,F t (Z en.f) c6,F j (Z en.es) c7] 2 _);simp only[ei,Nat.reduceAdd]at UX;have abo:Hid (∀W',cI (h+1) U wd W'->fM en (av (cB en (F t (Z en.f) c6) (F j (Z en.es) c7))) W'):=aY λW' u=>pZ.aX W' (u.more aZ (λ_ _ _=>bu))
    clear q q2 z pZ hx;generalize ax _ _ _=T at *;have N:∀W',cI (h+1) U T W'->fZ en.f (F t (Z en.f) c6) W':=λW' u=>by exact ajw
    have O:∀W',cI (h+1) U T W'->bD eB en.es (F j (Z en.es) c7) W':=λW' u=>by exact ajx
    go_wp2;go_meet
    case rel=>exact⟨(⟨3,n,en,0,0,0⟩:Rec),R,V,F t (Z en.f) c6,F j (Z en.es) c7,aS,N,O,HD⟩
  obtain⟨⟨br,B,C⟩,l5,e5,hI⟩:∃(i:bY) (l5:List UInt8) (e5:Bool),Fv y H=(i,l5,e5):=⟨_,_,_,rfl⟩;have C5:=λW h=>ae5 g y H W h
  have JH:=aY λh=>M.aX.2.1 h br B C l5 e5 hI
  rw[hI]at C5;simp only at C5;replace C5:=aY C5;clear hI;by_cases hk4:Q=4
  .subst hk4;replace aS:DS w 171 ud (D (L w)) g h y H #[G J 4,G E n,G J 0,G J 0,G E 0,G E 0,G J 0,G E 0,F U 0 0,F U 0 0,G J 0,G E 0,G E 0] Y:=aS;have HD:=aY (JH.aX bG);simp only[show ((4:Nat):Int)=4 from rfl]at HD;go_wp2_with fail
   clear q;refine (C5.aX Y aS.rd).mono ?_;rintro e wc⟨rfl,S⟩;replace aS:=aS.went S;clear S M JH C5;have q:=aS.x.cell;have z:=aS.x.frozen;go_wp2;replace aS:DS w 171 ud (D (L w)) g h l5 e5 #[G J 4,G E n,G J 0,G J 0,G E 0,G E 0,G J 0,G E 0,F U 0 0,F U 0 0,G J br,G E B,G E C] _:=aS.sets 10 [G J br,G E B,G E C];simp only[ei,Nat.reduceAdd]at aS;clear q z;generalize ax _ _ _=T at *;have N:∀W',cI (h+1) U T W'->fZ fS.f (F U 0 0) W':=λ_ _=>⟨U,0,rfl,Reads.nil _ _ _ _⟩
   have O:∀W',cI (h+1) U T W'->bD eB fS.es (F U 0 0) W':=λ_ _=>iJ eB _
   go_wp2;go_meet
   case rel=>exact⟨(⟨4,n,fS,br,B,C⟩:Rec),l5,e5,F U 0 0,F U 0 0,aS,N,O,HD⟩
  by_cases hk5:Q=5
  .subst hk5;replace aS:DS w 171 ud (D (L w)) g h y H #[G J 5,G E n,G J 0,G J 0,G E 0,G E 0,G J 0,G E 0,F U 0 0,F U 0 0,G J 0,G E 0,G E 0] Y:=aS;have HD:=aY (JH.aX bG);simp only[show ((5:Nat):Int)=5 from rfl]at HD;go_wp2_with fail
   clear q;refine (C5.aX Y aS.rd).mono ?_;rintro e wc⟨rfl,S⟩;replace aS:=aS.went S;clear S M JH C5;have q:=aS.x.cell;have z:=aS.x.frozen;go_wp2;replace aS:DS w 171 ud (D (L w)) g h l5 e5 #[G J 5,G E n,G J 0,G J 0,G E 0,G E 0,G J 0,G E 0,F U 0 0,F U 0 0,G J br,G E B,G E C] _:=aS.sets 10 [G J br,G E B,G E C];simp only[ei,Nat.reduceAdd]at aS;clear q z;generalize ax _ _ _=T at *;have N:∀W',cI (h+1) U T W'->fZ fS.f (F U 0 0) W':=λ_ _=>⟨U,0,rfl,Reads.nil _ _ _ _⟩
   have O:∀W',cI (h+1) U T W'->bD eB fS.es (F U 0 0) W':=λ_ _=>iJ eB _
   go_wp2;go_meet
   case rel=>exact⟨(⟨5,n,fS,br,B,C⟩:Rec),l5,e5,F U 0 0,F U 0 0,aS,N,O,HD⟩
  have HD:=aY (M.aX.2.2 aZ aZ);clear M JH C5;have N:∀W',cI (h+1) U Y W'->fZ fS.f (F U 0 0) W':=λ_ _=>⟨U,0,rfl,Reads.nil _ _ _ _⟩
  have O:∀W',cI (h+1) U Y W'->bD eB fS.es (F U 0 0) W':=λ_ _=>iJ eB _
  have g2:((Q:Int)==2)=false:=cN;have:((Q:Int)==3)=false:=cN;have:((Q:Int)==4)=false:=cN;have:((Q:Int)==5)=false:=cN;go_wp2;go_wp2;go_meet
  case rel=>exact⟨(⟨Q,n,fS,0,0,0⟩:Rec),y,H,F U 0 0,F U 0 0,aS,N,O,HD⟩
 case rest =>
 clear aS q;obtain⟨⟨k',n',en,br,B,C⟩,l,e,vf,ve,aS,N,O,HD⟩:=hcut;obtain⟨t,c6,rfl⟩:=dX (N _ (cI.rf _ _ _));obtain⟨j,c7,rfl⟩:=bH (O _ (cI.rf _ _ _));have UE:=aS.o;simp only at aS N O;have af:=cI.rf (h+1) U wc;have Es:Hid ((∀W',cI (h+1) U wc W'->fZ (Rec.e (⟨k',n',en,br,B,C⟩:Rec)).f (F t (Z en.f) c6) W')/\∀W',cI (h+1) U wc W'->bD eB (Rec.e (⟨k',n',en,br,B,C⟩:Rec)).es (F j (Z en.es) c7) W'):=aY ⟨N,O⟩;clear N O;go_wp2_with fail
 refine (Nn g _ _ _ aS.rd).mono ?_;rintro e w'⟨rfl,rfl⟩;have HB:Hid ((!e&&l.isEmpty&&fV (⟨k',n',en,br,B,C⟩:Rec))=az->xd b=110/\xc b=Lr):=aY λh=>afo SJ
 have HG:Hid ((!e&&l.isEmpty&&fV (⟨k',n',en,br,B,C⟩:Rec))=aA->xd b=0/\xc b=(⟨k',n',en,br,B,C⟩:Rec)):=aY λh=>WW SJ
 clear HD;cases hd:(!e&&l.isEmpty);have HN:=aY (HB.aX YP);have q:=aS.rv.cell;have z:=aS.rv.frozen;exact YQ;have q:=aS.x.cell;go_wp2_with fail
 refine (agK (⟨k',n',en,br,B,C⟩:Rec) _ _ ⟨_,_,rfl,Es.aX.1 _ af,Es.aX.2 _ af⟩).mono ?_;rintro e wz⟨rfl,kz⟩;replace aS:=aS.gr kz;replace af:=af.tr (cI.cz kz _ _);cases hok:fV (⟨k',n',en,br,B,C⟩:Rec);have HN:=aY (HB.aX K2);clear q;have q:=aS.rv.cell;have z:=aS.rv.frozen;exact YQ;have HN:=aY (HG.aX K2);clear q;have q:=aS.rv.cell;have z:=aS.rv.frozen;have q2:=aS.x.cell;go_wp2;have P9:=aS.put [G J k',G E n',G J en.bA,G J en.br,G E en.life,G E en.eY,G J en.cl,G E en.sub,F t (Z en.f) c6,F j (Z en.es) c7,G J br,G E B,G E C] rfl;simp only[ei,Nat.reduceAdd,mr]at P9;clear q q2 z;generalize ax _ _ _=W9 at *;have e9:=P9.1.cell;have U9:=af.tr P9.2.2;refine aM (v:=au #[av #[G J k',G E n',G J en.bA,G J en.br,G E en.life,G E en.eY,G J en.cl,G E en.sub,F t (Z en.f) c6,F j (Z en.es) c7,G J br,G E B,G E C],G J 0]) ajy rfl ?_;exact aju
def gu(x:bU):Prop:=Z x.f<=1000000/\Z x.es<=1000000/\∀e∈x.es,Z e<=1000000
structure eT where
 life:Nat
 bq:List bU
 bF:List bU
 ab:List bY
def eZ:eT:=⟨0,[],[],[]⟩
def bE(x:bU):bY:=(x.br,x.life,x.eY)
def jT(x:Rec):bY:=(x.br,x.life,x.eY)
def dM(l:List bU)(a:bY):Bool:=l.any λx=>decide (bE x=a)
def fJ(l:List bY)(a:bY):Bool:=l.any λx=>decide (x=a)
def kQ(l:List bU)(a:bY):List bU:=l.filter λx=>!decide (bE x=a)
def CQ(s:eT)(r:Rec):Option eT:=if r.n<=s.life then U else I ⟨r.n,s.bq,s.bF,s.ab⟩
def yV(s:eT)(r:Rec):Option eT:=if ¬r.n=Z s.bq then U else if dM s.bq (bE r.e)then U else if fJ s.ab (bE r.e)then U else I ⟨s.life,s.bq++[r.e],kQ s.bF (bE r.e),s.ab⟩
def yX(s:eT)(r:Rec):Option eT:=if dM s.bq (bE r.e)then U else if dM s.bF (bE r.e)then U else if fJ s.ab (bE r.e)then U else I ⟨s.life,s.bq,s.bF++[r.e],s.ab⟩
def yY(s:eT)(r:Rec):Option eT:=if dM s.bq (jT r)then U else if fJ s.ab (jT r)then U else I ⟨s.life,s.bq,kQ s.bF (jT r),s.ab++[jT r]⟩
def AZ(s:eT)(r:Rec):Option eT:=if dM s.bF (jT r)then I ⟨s.life,s.bq,kQ s.bF (jT r),s.ab⟩else U
def fX(s:eT)(r:Rec):Option eT:=if r.bA=1 then CQ s r else if r.bA=2 then yV s r else if r.bA=3 then yX s r else if r.bA=4 then yY s r else AZ s r
def oX(s:eT)(r:Rec):eT×Int:=if fV r then (match fX s r with|none=>(s,160)|some t=>(t,0))else (s,110)
structure eU where
 e:bU
 eC:Bool
 deriving DecidableEq
def o6(x:bU):bY:=(x.br,x.life,x.eY)
def anN(x:bU):List UInt8:=if dE x then gB x else []
def uL(x:bU):Bool:=decide (3000<Z (anN x))
def tg(a:bY)(t:eU):Bool:=decide (o6 t.e=a)
def lR(l:List eU)(a:bY):Option Nat:=l.findIdx? (tg a)
def uH(l:List eU)(a:bY):Int:=match lR l a with|some k=>(k:Int)|none=>-1
def sf(l:List eU)(a:bY):Option Nat:=match lR l a with|some k=>if (l[k]?.map eU.eC)=I aA then U else I k|none=>U
def DU(l:List eU)(a:bY):Int:=match sf l a with|some k=>(k:Int)|none=>-1
def uO(l:List eU)(t:eU):List eU×Int :=
 if (lR l (o6 t.e)).isSome then (l,170)else if dE t.e=az then (l,110)else if 8<=Z l then (l,171)else if uL t.e then (l,172)else (l++[t],0)
def xD(a:bY)(c:Int):bU:=⟨1,a.1,a.2.1,a.2.2,c,0,[],[]⟩
def zL(l:List eU)(a:bY)(c:Int):List eU×Int:=uO l ⟨xD a c,az⟩
def oY(x:bU)(e:List eD):bU:={ x with es:=x.es++[e] }
def ij(l:List eU)(a:bY)(e:List eD):List eU×Int :=
 match sf l a with
 | none=>(l,170)
 | some k=>match l[k]? with
  | none=>(l,170)
  | some t=>if iM e=az then (l,40)else if 8<=Z t.e.es then (l,171)else if uL (oY t.e e)then (l,172)else (l.set k ⟨oY t.e e,t.eC⟩,0)
def iK(l:List eU)(a:bY):List eU×Int :=
 match sf l a with
 | none=>(l,170)
 | some k=>match l[k]? with
  | none=>(l,170)
  | some t=>(l.set k ⟨t.e,aA⟩,0)
def gU(l:List eU)(a:bY):List eU:=match lR l a with|none=>l|some k=>l.eraseIdx k
def jD(l:List eU)(a:bY):List eU×Int:=if (sf l a).isSome then (gU l a,0)else (l,170)
def qN(l:List eU)(x:bU):List eU×Int:=uO l ⟨x,aA⟩
def lI(l:List eU):List bU:=((l.filter eU.eC).map eU.e).take 4
def yE:eU:=⟨fS,az⟩
def zQ(l:List eU)(a:bY):eU×Bool:=match l.find? (tg a)with|some t=>(t,aA)|none=>(yE,az)
structure aDB where
 bA:Int
 id:bY
 cl:Int
 e:List eD
 x:bU
def anO(l:List eU)(c:aDB):List eU×Int :=
 if c.bA=1 then zL l c.id c.cl else if c.bA=2 then ij l c.id c.e else if c.bA=3 then iK l c.id else if c.bA=4 then jD l c.id
 else if c.bA=5 then qN l c.x else if c.bA=6 then (gU l c.id,0)else (l,0)
structure lH(l:List eU):Prop where
 len:Z l<=8
 each:∀t∈l,dE t.e=aA/\dZ t.e/\uL t.e=az
 sJ:∀(i j:Nat) (s t:eU),l[i]?=I s->l[j]?=I t->o6 s.e=o6 t.e->i=j
theorem Nt{l a k}(h:lR l a=I k):∃t,l[k]?=I t/\o6 t.e=a/\∀j,j<k->∀s,l[j]?=I s->o6 s.e≠a:=by grind [lR,List.findIdx?_eq_some_iff_getElem,aE,tg]
theorem af0{l a}(h:lR l a=U):∀t∈l,o6 t.e≠a:=by grind [lR,o6,tg]
theorem av4{l a}(h:∀t∈l,o6 t.e≠a):zQ l a=(yE,az):=by grind [o6,zQ,yE,tg]
theorem IA{l a k}(h:sf l a=I k):∃t,l[k]?=I t/\o6 t.e=a/\t.eC=az/\lR l a=I k:=by grind [sf,Nt]
theorem lH.nil:lH []:=⟨bu,bu,bu⟩
theorem lH.set{l}(A:lH l){k t u}(hk:l[k]?=I t)(T:o6 u.e=o6 t.e)(M:dE u.e=aA/\dZ u.e/\uL u.e=az):lH (l.set k u):=by
 have:=(aF.1 hk).1;refine⟨by simpa using A.len,λs y=>?_,λi j s r y C S=>?_⟩;rcases List.mem_or_eq_of_mem_set y with y|rfl;exact A.each s y;exact M;have key:∀(i:Nat) (s:eU),(l.set k u)[i]?=I s->∃z,l[i]?=I z/\o6 z.e=o6 s.e:=by grind
 obtain⟨z,H,Q⟩:=key i s y;obtain⟨B,N,R⟩:=key j r C;exact A.sJ i j z B H N bL
theorem lH.snoc{l}(z:lH l){t}(h8:Z l<8)(hn:∀s∈l,o6 s.e≠o6 t.e)(H:dE t.e=aA/\dZ t.e/\uL t.e=az):lH (l++[t]):=by
 refine⟨bL,λs y=>?_,λi j s r y A C=>?_⟩
 .rcases List.mem_append.1 y with y|y;exact z.each s y;grind
 have key:∀(i:Nat) (s:eU),(l++[t])[i]?=I s->(i<Z l/\l[i]?=I s)\/(i=Z l/\s=t):=by grind
 rcases key i s y with ⟨M,B⟩|⟨rfl,rfl⟩
 .rcases key j r A with ⟨hj,h2⟩|⟨rfl,rfl⟩;exact z.sJ i j s r B h2 C;grind
 grind
theorem lH.erase{l}(y:lH l) k:lH (l.eraseIdx k):=by
 refine⟨cQ (List.length_eraseIdx_le l k) y.len,λs t=>y.each s (List.mem_of_mem_eraseIdx t),λi j s r t z A=>?_⟩;rw[List.getElem?_eraseIdx]at t z;split at t <;> split at z
 exact y.sJ i j s r t z A;have:=y.sJ i (j+1) s r t z A;omega;have:=y.sJ (i+1) j s r t z A;omega;have:=y.sJ (i+1) (j+1) s r t z A;omega
theorem SK{l}(j:lH l) t(y:dZ t.e):lH (uO l t).1:=by unfold uO;split;exact j;rename_i H;split;exact j;rename_i A;split;exact j;split;exact j;rename_i B C;have z:lR l (o6 t.e)=none:=GA;exact j.snoc aZ (af0 z) ⟨bL,y,bL⟩
theorem axQ{x e}(h:dE x=aA)(hk:x.bA=1)(h8:Z x.es<8)(j:iM e=aA):dE (oY x e)=true:=by grind [dE,iM,oY]
theorem XU{l}(hl:lH l) c(hi:dA c.id.1/\c.id.2.1<18446744073709551616/\c.id.2.2<18446744073709551616)(hc:dA c.cl)(he:∀a∈c.e,nv a)(S:dZ c.x)(H:∀t∈l,t.eC=az->t.e.bA=1):lH (anO l c).1:=by
 unfold anO;split;exact SK hl _ aBr;split
 .unfold ij;split;exact hl;rename_i k y;obtain⟨t,j,A,z,_⟩:=IA y;rw[j];simp only;split;exact hl;rename_i Et;split;exact hl;rename_i h8;split;exact hl;rename_i Y;obtain⟨O,M,o3⟩:=hl.each t (List.mem_of_getElem? j);refine hl.set j rfl ⟨axQ O (H t (List.mem_of_getElem? j) z) aZ bL,?_,bL⟩;obtain⟨C,T,W,V,Q,R,B,X⟩:=M;refine⟨C,T,W,V,Q,R,B,?_⟩;intro e N;rcases List.mem_append.1 N with h|h;all_goals grind
 split
 .unfold iK;split;exact hl;rename_i k y;obtain⟨t,j,A,z,_⟩:=IA y;rw[j];exact hl.set j rfl (hl.each t (List.mem_of_getElem? j))
 split;unfold jD;exact ajz;split;exact SK hl _ S;exact ajz
section
open Go Go.RowKit Go.ChangeShapes Go.WideShapes Go.ChangeAt
abbrev jz(t:eU)(vf ve:aQ):Array aQ:=#[G J t.e.bA,G J t.e.br,G E (t.e.life:Int),G E (t.e.eY:Int),G J t.e.cl,G E (t.e.sub:Int),vf,ve,ar t.eC]
def fe:fy eU where
 size:=9
 rel t cs w:=∃vf j,cs=(jz t vf j).toList/\fZ t.e.f vf w/\bD eB t.e.es j w
 len:=by rintro _ _ _⟨vf,j,rfl,_⟩;rfl
 one:=by rintro x _ _⟨vf,j,rfl,⟨A,c,rfl,_⟩,⟨B,d,rfl,_⟩⟩ u hu;exact ajA
 st:=by rintro _ _ _ _⟨vf,j,rfl,z,y⟩ k;exact⟨vf,j,rfl,fO _ _ _ _ z k,cM y k⟩
def PR(t:eU)(v:aQ)(w:aP):Prop:=∃vf j,v=av (jz t vf j)/\fZ t.e.f vf w/\bD eB t.e.es j w
end
def yF(B:Nat)(x:bU)(v:aQ)(w:aP):Prop:=∃vf j,v=av (cB x vf j)/\lV w B vf x.f/\cW B B 35 eB x.es j w
theorem aBs{B x v w}(h:yF B x v w):∀j,cI B U w j->yF B x v j:=by obtain⟨vf,y,e,t,z⟩:=h;exact λj u=>⟨vf,y,e,t.up u,z.up (bP _) u⟩
theorem azV{B x v w}(h:yF B x v w):fM x v w:=by obtain⟨vf,t,e,j,y⟩:=h;exact⟨vf,t,e,BQ j,y.bD⟩
theorem Nc x v w(h:fM x v w)(hs:gu x) :aK aR 151 #[v] w λe w'=>∃t,e=ak t/\yF (D (L w)) x t w'/\K w w':=by have zF:=aY func151;have zN:=aY ntmps151;have zR:=aY results151;exact Od
theorem Ru x v w(h:fM x v w)(hs:gu x) :aK aR 144 #[v] w λe w'=>∃t,e=ak t/\yF (D (L w)) x t w'/\K w w':=by have zF:=aY func144;have zN:=aY ntmps144;have zR:=aY results144;exact Od
section
variable {α β:Type}{S:fy α}{S2:fy β}{Y Y' X:Nat->Prop}{base lo:Nat}{e e2:TypeId}{l:List α}{l2:List β}{v v2:aQ}{w w':aP}
theorem bK.to(h:bK Y base e S l v w)(u:bf X w w')(M:∀k,X k->Y k)(hn:∀k,aW v=I k->¬X k)(P:∀k,k<D (L w)->Y' k->Y k\/aW v=I k):bK Y' base e S l v w':=by obtain⟨H,A,y,C⟩:=h;exact⟨H,kj A u λb z B=>hn b z B,y,λN O=>C N ((u.more λk t=>aI (M k t)).ir O λk t j=>j.elim (λj=>P k t j) aJ)⟩
structure nO(lo base:Nat)(e:TypeId)(S:fy α)(l:List α)(v:aQ)(e2:TypeId)(S2:fy β)(l2:List β)(v2:aQ)(w:aP):Prop where
 a:bK (λk=>k<lo\/aW v2=I k) base e S l v w
 b:bK (λk=>k<lo\/aW v=I k) base e2 S2 l2 v2 w
 ne:∀k,aW v=I k->aW v2=I k->False
 lo:lo<=base
theorem nO.st(h:nO lo base e S l v e2 S2 l2 v2 w)(k:K w w'):nO lo base e S l v e2 S2 l2 v2 w':=⟨h.a.st k,h.b.st k,h.ne,h.lo⟩
theorem nO.low{base'}(h:nO lo base e S l v e2 S2 l2 v2 w)(hb:base'<=base)(j:lo<=base'):nO lo base' e S l v e2 S2 l2 v2 w:=⟨h.a.low hb,h.b.low hb,h.ne,j⟩
theorem nO.swap(h:nO lo base e S l v e2 S2 l2 v2 w):nO lo base e2 S2 l2 v2 e S l v w:=⟨h.b,h.a,λk j t=>h.ne k t j,h.lo⟩
theorem nO.abp(h:bK (λk=>k<lo) base e S l v w)(j:lo<=base):nO lo base e S l v e2 S2 ([]:List β) (F U 0 0) w :=
 ⟨h.less (Y':=λk=>k<lo\/aW (F U 0 0)=I k) λk t=>t.elim id λh=>IV,bK.nil _ _ _ _ _,λk _ h=>IV,j⟩
theorem nO.push(h:nO lo base e S l v e2 S2 l2 v2 w){j A}(h9:bK (λk=>k<lo\/aW v2=I k) base e S A j w')(hg:w.grownBy w' (aW v))(hb:aW j=aW v\/aW j=I (D (L w))):nO lo base e S A j e2 S2 l2 v2 w':=by
 have hz:=h.b.blk;refine⟨h9,h.b.to (X:=λk=>aW v=I k) (bf.gy hg λk e=>e) (λk z=>aJ z) (λk y t=>h.ne k t y) (λk z B=>?_),λk y t=>?_,h.lo⟩
 .grind
 rcases hb with hb|hb;exact h.ne k (hb▸y) t;grind
end
section
variable {α:Type}{S:fy α}{Y N:Nat->Prop}{base lo:Nat}{e:TypeId}{l:List α}{v:aQ}{x:α}{w w' W:aP}
theorem bK.own(h:bK Y base e S l v w){b}(hb:aW v=I b):base<=b/\b<D (L w)/\∃cur,bn w b e cur :=
 ⟨(h.blk b hb).1,(h.blk b hb).2,h.elim λ_ h=>pH h.1 hb⟩
theorem fL.mut{row u}(h:fL N lo e S x u w)(k:w.grownBy w' row)(B:∀b,row=I b->N b/\b<lo):fL N lo e S x u w':=by obtain⟨g,y,j,z,t,A⟩:=h;exact⟨g,y,j,z,t.grown k λh=>bL,A.up (bf.gy (X:=λb=>row=I b) k λ_ h=>h) λb h=>(B b h).1⟩
theorem tD.mut{row u}(h:tD N S x u w)(k:w.grownBy w' row)(j:∀b,row=I b->N b):tD N S x u w' :=
 ⟨h.1,h.2.up (bf.gy (X:=λb=>row=I b) k λ_ h=>h) j⟩
abbrev o8(v:aQ)(w W:aP):Prop:=bf (λk=>aW v=I k) w W
theorem Gq{P:Program}{Q:Exit->Act->aP->Prop}{id:Nat}{ops:Array Oper}{A:Act}(m z:Nat)(l:List α)(v:aQ)(x:α)(O:TypeId){zv:aQ}{size bytes:Nat}(T:gQ P O e zv size bytes){s u:Operand}{o:Oper}{H:List Nat×List (Nat×Nat)}(C:List (List Nat×List (Nat×Nat)))(n:Nat)
 (hO:bK Y base e S l v w) (hb:base<=D (L w)) (hl:(Z l+1)*(bytes+1)<=140737488355328)
 (h:bB P A (o8 v w) (λW W'=>W.grownBy W' (aW v)) [z] (λr xs t=>(∀v W,tab t z v W)/\(∀V W,o8 v w W->(∀j∈H.1,tab t j (V j) W)->bR H.2 A V s=v/\fL (λk=>Y k\/aW v=I k) 0 e S x (bR H.2 A V u) W) /\
  ∀V W,o8 v w W->bK Y base e S (l++[x]) (V z) W->(∀b,aW (V z)=I b->aW v=I b\/D (L w)<=b)->dF V W 0 t->bN P A (λV W=>Q .normal (iO V ops.toList 0 A) W) m r xs V W) m ops.toList C [])
 (hz:ops[z]?=I o:=by rfl) (hx:C[z]?=I H:=by rfl) (hop:o.op=.call { callee:=.builtin .append,args:=#[s,u],argTypes:=#[O,O] }:=by rfl) (hg:o.guard=none:=by rfl) (hS:S.size=size:=by rfl)
 (hn:A.tmps.size=n:=by rfl) (hm:P.follows .mixedOrders=true:=by kernel_rfl) (hok:rV ops n=true:=by kernel_rfl) (hpl:tR ops C=true:=by kernel_rfl) (gT:Ff C m ops.size=true:=by kernel_rfl) (yS:Ca C [z] m=true:=by kernel_rfl) (nB:m<=ops.size:=by decide) :
 (Code.region id ops aA).wp P Q A w :=
 Kz m [z] (o8 v w) (λW W'=>W.grownBy W' (aW v)) (λk vs W=>if k=0 then bK Y base e S l v W else ∃y,vs=[y]/\bK Y base e S (l++[x]) y W/\∀b,aW y=I b->aW v=I b\/D (L w)<=b) C n
  (λ_ _ h k=>h.tr (bf.cz k _)) (λ_ _ h=>zC h _) (λk vs W W' h kW=>by
   split at h
   .next M=>rw[bV M];exact h.st kW
   next M =>
   rw[bQ M];obtain⟨y,B,X,R⟩:=h;exact⟨y,B,X.st kW,R⟩) (bf.rf _ _) (λ_=>hO)
  (bB.imp (λr xs t ⟨M,X,R⟩=>⟨⟨⟨o,H,hz,hx,hg,λV W hW hD hp=>by
   obtain⟨B,hr⟩:=X V W hW hp
   obtain⟨y,w',hrun,g1,N,g3,-⟩:=agJ (P:=P) (ρ:=bR H.2 A V) s u O o.type zv size bytes T hS B hD _ rfl x hr hl (cQ hb hW.size)
   rw[hop,hrun]
   exact⟨hW.tr (bf.gy N λ_ h=>h),N,⟨y,rfl,g1,λb hb=>g3.elim (λh=>aI (h▸hb)) λh=>aJ ajB⟩,M _ _⟩⟩,trivial⟩,
   λV W hW ⟨y,B,g1,N⟩ hA=>by
    injection B with B;subst B;exact R V W hW g1 N hA⟩) _ _ _ _ h) hn hm hok hpl gT yS bu nB
end
theorem bB.GZ{P:Program}{A:Act}{R:aP->Prop}{B:List Nat}{Q:List Oper->List (List Nat×List (Nat×Nat))->List (aQ->aP->Prop)->Prop}{m:Nat}{o:Oper}{r:List Oper}{C:List Nat×List (Nat×Nat)}{xs:List (List Nat×List (Nat×Nat))}{t:List (aQ->aP->Prop)}{row:Option Nat}{α:Type}{S:fy α}{e:TypeId}{N:Nat->Prop}(lo:Nat){M:TypeId}{z:aQ}{size bytes:Nat}(T:gQ P M e z size bytes){H:Operand}(y:α)(hR:∀W,R W->lo<=D (L W))(hN:∀b,row=I b->N b/\b<lo)(h:∀(V:Nat->aQ) (w:aP),R w->(∀j∈C.1,tab t j (V j) w)->tD N S y (bR C.2 A V H) w)(k:bB P A R (λW W'=>W.grownBy W' row) B Q m r xs (t++[fL N lo e S y]))(hop:o.op=.buildSlice M 1 #[(0,H)]:=by rfl)(hg:o.guard=none:=by rfl)(hS:S.size=size:=by rfl)(Y:size<=16777216:=by decide)(ec:B.contains (Z t)=false:=by (simp only[fg,gH,List.length_nil,List.contains_nil];try rfl)) :bB P A R (λW W'=>W.grownBy W' row) B Q (m+1) (o :: r) (C :: xs) t:=by refine bB.op (fL N lo e S y) (λ_ _ _ h k=>h.mut k hN) (λV w O X=>?_) k ec;obtain⟨h1,h2⟩:=h V w O X;rw[hg,bV (show dI V U=aA from rfl),hop,afm (P:=P) (w:=w) M _ z size bytes T H rfl aZ Y];exact⟨fL.new h2 lo (hR w O),(K.rf w).al _⟩
theorem E5{B x v w}(h:yF B x v w):∃vf j,v=av (cB x vf j)/\Fx (λk=>k<B) (λW=>cL.rel x (cB x vf j).toList W) w:=by have t:=h;obtain⟨vf,j,e,-,-⟩:=h;refine⟨vf,j,e,λW u=>?_⟩;obtain⟨C,A,y,z,t⟩:=azV (aBs t W (u.vu λk z _ _ t=>aZ));rw[e]at y;injection y with y;exact⟨C,A,congrArg Array.toList y,z,t⟩
theorem SL{B x v w N}(h:yF B x v w)(j:∀k,N k->k<B):tD N cL x v w:=by obtain⟨vf,y,rfl,t⟩:=E5 h;exact⟨rfl,t.less j⟩
theorem aCQ:(prog.info? 128).map (λi=>(i.zero,i.size,i.bytes))=I (I (av jx),8,96):=by rfl
theorem tH:gQ aR 59 128 (av jx) 8 96:=⟨underlying59,aCQ,rfl,bG⟩
theorem aCR:(prog.info? 42).map (λi=>(i.zero,i.size,i.bytes))=I (I (av #[G J 0,G E 0,G E 0]),3,24):=by rfl
theorem sK:gQ aR 53 42 (av #[G J 0,G E 0,G E 0]) 3 24:=⟨underlying53,aCR,rfl,bG⟩
abbrev eO(s:eT)(vl vp va:aQ):Array aQ:=#[G E (s.life:Int),vl,vp,va]
def p6(s:eT)(v:aQ)(w:aP):Prop:=∃vl vp va,v=av (eO s vl vp va)/\bD cL s.bq vl w/\bD cL s.bF vp w/\bD dQ s.ab va w
theorem OK{s v w w'}(h:p6 s v w)(k:K w w'):p6 s v w':=by obtain⟨vl,vp,va,e,j,t,y⟩:=h;exact⟨vl,vp,va,e,cM j k,cM t k,cM y k⟩
theorem ahI(l:List bY):(l.map gF).flatten=l.flatMap gF:=by rfl
theorem Sa l W:Each dQ l (l.map gF) W:=⟨bu,λi h j=>by simp[dQ]⟩
def nC(M:Nat->Prop)(s:eT)(vl vp va:aQ)(w:aP):Prop:=Fx M (λW=>bD cL s.bq vl W/\bD cL s.bF vp W/\bD dQ s.ab va W) w
theorem nC.sl{M s vl vp va w}(h:nC M s vl vp va w):(∃A c,vl=F A (Z s.bq) c)/\(∃A c,vp=F A (Z s.bF) c)/\∃A c,va=F A (Z s.ab) c:=⟨bH h.now.1,bH h.now.2.1,bH h.now.2.2⟩
def j9(base g:Nat)(vl vp va:aQ)(k:Nat):Prop:=k<base\/k=g\/aW vl=I k\/aW vp=I k\/aW va=I k
structure gN(base g:Nat)(s:eT)(vl vp va:aQ)(W:aP):Prop where
 blk:bn W g 61 (eO s vl vp va)
 low:base<=g
 l:bK (j9 base g vl vp va) base 128 cL s.bq vl W
 p:bK (j9 base g vl vp va) base 128 cL s.bF vp W
 a:bK (j9 base g vl vp va) base 42 dQ s.ab va W
 ne:∀b,aW vl=I b->aW vp≠I b
def CY(base g:Nat)(s:eT)(W:aP):Prop:=∃vl vp va,gN base g s vl vp va W
section
variable {base g:Nat}{s:eT}{vl vp va v':aQ}{W W':aP}
theorem gN.st(h:gN base g s vl vp va W)(k:K W W'):gN base g s vl vp va W':=⟨h.blk.bM k,h.low,h.l.st k,h.p.st k,h.a.st k,h.ne⟩
theorem gN.lt(h:gN base g s vl vp va W)(hb:base<=D (L W)) k(hk:j9 base g vl vp va k):k<D (L W):=by have:=h.blk.lt;have:=h.l.blk;have:=h.p.blk;have:=h.a.blk;unfold j9 at hk;grind
theorem gN.p6(h:gN base g s vl vp va W):p6 s (av (eO s vl vp va)) W:=⟨vl,vp,va,rfl,h.l.bD,h.p.bD,h.a.bD⟩
theorem gN.sep(h:gN base g s vl vp va W) b:(aW vl=I b->base<=b/\b≠g/\aW vp≠I b/\aW va≠I b)/\(aW vp=I b->base<=b/\b≠g/\aW vl≠I b/\aW va≠I b)/\(aW va=I b->base<=b/\b≠g/\aW vl≠I b/\aW vp≠I b):=by
 have:=λe=>h.l.own (b:=b) e
 have:=λe=>h.p.own (b:=b) e
 have:=λe=>h.a.own (b:=b) e
 have:=h.ne b;have:=h.blk;have:∀ {cur cs},bn W b 128 cur->¬bn W b 42 cs:=λh k=>absurd (h.jK k) bG
 have:∀ {cur cs},bn W b 128 cur->¬bn W b 61 cs:=λh k=>absurd (h.jK k) bG
 have:∀ {cur cs},bn W b 42 cur->¬bn W b 61 cs:=λh k=>absurd (h.jK k) bG
 grind
theorem gN.Bb{t y j X α S e}{l:List α}{v}(h:bK (j9 base g vl vp va) base e S l v W)(u:bf X W W')(H:∀k,X k->j9 base g vl vp va k)(z:∀k,aW v=I k->¬X k)(B:∀b,aW t=I b->aW vl=I b\/D (L W)<=b\/aW v=I b)(A:∀b,aW y=I b->aW vp=I b\/D (L W)<=b\/aW v=I b)(C:∀b,aW j=I b->aW va=I b\/D (L W)<=b\/aW v=I b):bK (j9 base g t y j) base e S l v W' :=h.to u H z λk M N=>by unfold j9 at *;have:=B k;have:=A k;have:=C k;grind
theorem gN.Lt(h:gN base g s vl vp va W)(u:o8 vl W W'){l}(A:bK (j9 base g vl vp va) base 128 cL l v' W')(z:∀b,aW v'=I b->aW vl=I b\/D (L W)<=b):gN base g ⟨s.life,l,s.bF,s.ab⟩ v' vp va (aV W' ⟨g,1,U⟩ v'):=by
 have y:bf (λk=>aW vl=I k\/k=g) W (aV W' ⟨g,1,U⟩ v'):=(u.more λ_ h=>aI h).tr (bf.dx (X:=λk=>aW vl=I k\/k=g) (aJ rfl) _ _);have B:=h.sep;have:=h.blk.lt;have:=h.p.blk;refine⟨(h.blk.cF u λe=>((B g).1 e).2.1 rfl).cH 1 _,h.low,gN.Bb A (bf.dx (X:=λk=>k=g) rfl _ _) (λk e=>aJ (aI e)) (λk j t=>?_) (λb e=>aJ (aJ e)) (λb e=>aI e) λb e=>aI e,gN.Bb h.p y (λk e=>?_) (λk j t=>?_) (λb e=>(z b e).imp id aI) (λb e=>aI e) λb e=>aI e,gN.Bb h.a y (λk e=>?_) (λk j t=>?_) (λb e=>(z b e).imp id aI) (λb e=>aI e) λb e=>aI e,λb j t=>?_⟩;all_goals unfold j9 at *
 all_goals grind
theorem gN.abq(h:gN base g s vl vp va W)(u:o8 vp W W'){l}(A:bK (j9 base g vl vp va) base 128 cL l v' W')(z:∀b,aW v'=I b->aW vp=I b\/D (L W)<=b):gN base g ⟨s.life,s.bq,l,s.ab⟩ vl v' va (aV W' ⟨g,2,U⟩ v'):=by
 have y:bf (λk=>aW vp=I k\/k=g) W (aV W' ⟨g,2,U⟩ v'):=(u.more λ_ h=>aI h).tr (bf.dx (X:=λk=>aW vp=I k\/k=g) (aJ rfl) _ _);have B:=h.sep;have:=h.blk.lt;have:=h.l.blk;refine⟨(h.blk.cF u λe=>((B g).2.1 e).2.1 rfl).cH 2 _,h.low,gN.Bb h.l y (λk e=>?_) (λk j t=>?_) (λb e=>aI e) (λb e=>(z b e).imp id aI) λb e=>aI e,gN.Bb A (bf.dx (X:=λk=>k=g) rfl _ _) (λk e=>aJ (aI e)) (λk j t=>?_) (λb e=>aI e) (λb e=>aJ (aJ e)) λb e=>aI e,gN.Bb h.a y (λk e=>?_) (λk j t=>?_) (λb e=>aI e) (λb e=>(z b e).imp id aI) λb e=>aI e,λb j t=>?_⟩;all_goals unfold j9 at *
 all_goals grind
theorem gN.aEq(h:gN base g s vl vp va W)(u:o8 va W W'){l}(A:bK (j9 base g vl vp va) base 42 dQ l v' W')(y:∀b,aW v'=I b->aW va=I b\/D (L W)<=b):gN base g ⟨s.life,s.bq,s.bF,l⟩ vl vp v' (aV W' ⟨g,3,U⟩ v'):=by
 have j:bf (λk=>aW va=I k\/k=g) W (aV W' ⟨g,3,U⟩ v'):=(u.more λ_ h=>aI h).tr (bf.dx (X:=λk=>aW va=I k\/k=g) (aJ rfl) _ _);have B:=h.sep;have:=h.blk.lt;refine⟨(h.blk.cF u λe=>((B g).2.2 e).2.1 rfl).cH 3 _,h.low,gN.Bb h.l j (λk e=>?_) (λk t z=>?_) (λb e=>aI e) (λb e=>aI e) λb e=>(y b e).imp id aI,gN.Bb h.p j (λk e=>?_) (λk t z=>?_) (λb e=>aI e) (λb e=>aI e) λb e=>(y b e).imp id aI,gN.Bb A (bf.dx (X:=λk=>k=g) rfl _ _) (λk e=>aJ (aI e)) (λk t z=>?_) (λb e=>aI e) (λb e=>aI e) λb e=>aJ (aJ e),h.ne⟩;all_goals unfold j9 at *
 all_goals grind
theorem gN.aBt(h:gN base g s vl vp va W) n:gN base g ⟨n,s.bq,s.bF,s.ab⟩ vl vp va (aV W ⟨g,0,U⟩ (G E n)):=by have u:bf (λk=>k=g) W (aV W ⟨g,0,U⟩ (G E n)):=bf.dx (X:=λk=>k=g) rfl _ _;have:=h.sep g;refine⟨h.blk.cH 0 _,h.low,gN.Bb h.l u (λk e=>aJ (aI e)) (λk t j=>?_) (λb e=>aI e) (λb e=>aI e) λb e=>aI e,gN.Bb h.p u (λk e=>aJ (aI e)) (λk t j=>?_) (λb e=>aI e) (λb e=>aI e) λb e=>aI e,gN.Bb h.a u (λk e=>aJ (aI e)) (λk t j=>?_) (λb e=>aI e) (λb e=>aI e) λb e=>aI e,h.ne⟩;all_goals grind
theorem gN.fx(h:gN base g s vl vp va W):nC (λk=>k<base) s vl vp va W:=λz u =>
 have t:=h.l.blk
 have j:=h.p.blk
 have y:=h.a.blk
 ⟨(h.l.to u (λk e=>aI e) (λk e h=>by have:=t k e;omega) (λ_ _ h=>aI h)).bD,(h.p.to u (λk e=>aI e) (λk e h=>by have:=j k e;omega) (λ_ _ h=>aI h)).bD,(h.a.to u (λk e=>aI e) (λk e h=>by have:=y k e;omega) (λ_ _ h=>aI h)).bD⟩
theorem gN.nil{n l}(hb:bn W g 61 (eO ⟨n,[],[],l⟩ (F U 0 0) (F U 0 0) va))(hg:base<=g)(j:bK (j9 base g (F U 0 0) (F U 0 0) va) base 42 dQ l va W):gN base g ⟨n,[],[],l⟩ (F U 0 0) (F U 0 0) va W :=
 ⟨hb,hg,bK.nil _ _ _ _ _,bK.nil _ _ _ _ _,j,λb h=>IV⟩
theorem gN.slices(h:gN base g s vl vp va W):(∃A c,vl=F A (Z s.bq) c)/\(∃A c,vp=F A (Z s.bF) c)/\∃A c,va=F A (Z s.ab) c:=⟨h.l.slice,h.p.slice,h.a.slice⟩
theorem OL{w cs} s vl vp va(h:bn W g 61 cs)(j:cs.size=4)(k:K w W)(hg:D (L w)<=g):bn ((((aV W ⟨g,0,U⟩ (G E s.life)).setCell ⟨g,1,U⟩ vl).setCell ⟨g,2,U⟩ vp).setCell ⟨g,3,U⟩ va) g 61 (eO s vl vp va)/\K w ((((aV W ⟨g,0,U⟩ (G E s.life)).setCell ⟨g,1,U⟩ vl).setCell ⟨g,2,U⟩ vp).setCell ⟨g,3,U⟩ va)/\bf (λk=>k=g) W ((((aV W ⟨g,0,U⟩ (G E s.life)).setCell ⟨g,1,U⟩ vl).setCell ⟨g,2,U⟩ vp).setCell ⟨g,3,U⟩ va) :=
 have u:=bf.sets (X:=λk=>k=g) rfl [G E s.life,vl,vp,va] 0 W
 ⟨DD (us:=[G E s.life,vl,vp,va]) h j.symm,u.k k λk e=>e▸hg,u⟩
end
theorem BI{α:Type}(p:α->Bool)(l:List α)(j:Nat)(t:j<Z l):(l.take (j+1)).any p=((l.take j).any p||p l[j]):=by rw[iY t,List.any_append];simp
theorem BJ{α:Type} p(l:List α) j(h:(l.take j).any p=aA):l.any p=true:=by grind
theorem ahJ l a v w(h:bD cL l v w)(hlen:Z l<=1000000) :aK aR 52 #[v,dD a] w λe S=>e=ak (ar (dM l a))/\K w S:=by
 obtain⟨aS,d,rfl,hl,-⟩:=h;have O:Hid (dM l a=l.any λx=>decide (bE x=a)):=aY rfl;generalize dM l a=R at *;have B:=bn.new w 42 #[G J a.1,G E a.2.1,G E a.2.2];have k1:=B.cG;go_in;go_upto_region 1 with fail;generalize w.alloc _=C at *;generalize D (L w)=g at B|-;have qx:=B.cells;have T:=K.rf C;go_wp2_with fail
 go_loopw [5,8] (fun _ i wr=>∃j:Nat,j<=Z l/\i=G J j/\Hid ((l.take j).any (fun x=>decide (bE x=a))=az)/\K C wr) (fun _ i _=>Z l-(aO i).toNat)
 case atStart=>exact⟨0,aZ,rfl,aY bu,T⟩
 case round =>
  obtain⟨j,hj,rfl,HT,kr⟩:=hrel;by_cases H:j<Z l
  .have N:(j:Int)<Z l:=aZ;obtain⟨z,A,cs1,rfl,mR,hr1,d0,dd⟩:=fE hl j H bG;have HB:=aY (BI (λx=>decide (bE x=a)) l j H);have Y:=aY (BJ (λx=>decide (bE x=a)) l (j+1));generalize l[j]=x at *;obtain⟨Ev,Ew,rfl,wq,Bc⟩:=hr1 w (K.rf w);have qr:=λW (t:K wr W)=>qx W (kr.tr t)
   have p1:∀W,K wr W->W.cell? ⟨z,A+j*8+1,U⟩=I (G J (bE x).1):=λW t=>dd W (k1.tr (kr.tr t)) 1 bG
   have p2:∀W,K wr W->W.cell? ⟨z,A+j*8+2,U⟩=I (G E ((bE x).2.1:Int)):=λW t=>dd W (k1.tr (kr.tr t)) 2 bG
   have Q:∀W,K wr W->W.cell? ⟨z,A+j*8+3,U⟩=I (G E ((bE x).2.2:Int)):=λW t=>dd W (k1.tr (kr.tr t)) 3 bG
   go_upto_region 4 with fail;have qs:=aB p1 (aB p2 (aB Q (aB qr N)));refine fD 7 ?_;iterate 6 refine bB.i ?_
   refine bB.is (ar (decide (bE x=a))) (λV W t M=>?_) ?_
   .simp only[dN,bZ,cC,dK,dL,bS]at M;simp[dI,bR,aC,M,fk,aL,bT,bS,eP,go_sem];by_cases y:(bE x).1=a.1
    .by_cases h2:(bE x).2.1=a.2.1
     .by_cases h3:(bE x).2.2=a.2.2;rw[show decide (bE x=a)=aA from decide_eq_true (Prod.ext y (Prod.ext h2 h3))];simp[y,h2,h3,eP];rw[show decide (bE x=a)=az from decide_eq_false (λe=>h3 K3)];try simp only[y,h2,if_true]
      exact SN
     rw[show decide (bE x=a)=az from decide_eq_false (λe=>h2 K3)];try simp only[y,if_true]
     exact SN
    rw[show decide (bE x=a)=az from decide_eq_false (λe=>y K3)];simp[y,eP]
   intro V W t hA;simp only[bZ,cC,dF,bS,Nat.reduceAdd]at hA;refine bN.h ?_;have Ma:=kr.tr t;generalize X:decide (bE x=a)=q at *;have:=aY X;cases q;have qh:Hid ((l.take (j+1)).any (λx=>decide (bE x=a))=az):=aY ajC;exact YR;have HR:Hid (R=aA):=aY (by rw[O.aX];exact Y.aX (by rw[HB.aX];simp));go_wp2;go_ret;exact⟨jB,k1.tr Ma⟩
  have N:¬(j:Int)<Z l:=aZ;have HR:Hid (R=az):=aY (by
   have y:=HT.aX;rw[jq aZ]at y;rw[O.aX,y])
  go_wp2;go_ret;exact⟨jB,k1.tr kr⟩
theorem aBu{l a k}(hk:k<Z l)(h:l[k]=a):fJ l a=true:=by grind [fJ]
theorem azW{l a}(h:∀x∈l,x≠a):fJ l a=false:=by grind [fJ]
theorem atI l a v w(h:bD dQ l v w)(hlen:Z l<=1000000) :aK aR 265 #[v,dD a] w λe S=>∃i:Int,e=ak (G J i)/\K w S/\fJ l a=decide (0<=i):=by
 obtain⟨aS,d,rfl,hl,-⟩:=h;have T:=aY (@azW l a);have HH:=aY λk X=>@aBu l a k X
 have z:=bn.new w 42 #[G J a.1,G E a.2.1,G E a.2.2];have k1:=z.cG;go_in;go_upto_region 1 with fail;generalize w.alloc _=H at *;generalize D (L w)=g at z|-;have qx:=z.cells;have Y:=K.rf H;go_wp2_with fail
 go_loopw [5,8] (fun _ i wr=>∃j:Nat,j<=Z l/\i=G J j/\Hid (∀x∈l.take j,x≠a)/\K H wr) (fun _ i _=>Z l-(aO i).toNat)
 case atStart=>exact⟨0,aZ,rfl,aY bu,Y⟩
 case round =>
  obtain⟨j,hj,rfl,Q,kr⟩:=hrel;by_cases A:j<Z l
  .have O:(j:Int)<Z l:=aZ;obtain⟨B,C,cs1,rfl,mR,hr1,d0,dd⟩:=fE hl j A bG;have HB:Hid (l[j]≠a->∀x∈l.take (j+1),x≠a):=by
    refine aY λh x z=>?_
    rw[iY A]at z;rcases List.mem_append.1 z with z|z;exact Q.aX x z;grind
   have HA:=aY (HH.aX j A);generalize l[j]=x at *;obtain rfl:=hr1 w (K.rf w);have qr:=λW (t:K wr W)=>qx W (kr.tr t)
   have p1:∀W,K wr W->W.cell? ⟨B,C+j*3,U⟩=I (G J x.1):=λW t=>d0 W (k1.tr (kr.tr t))
   have p2:∀W,K wr W->W.cell? ⟨B,C+j*3+1,U⟩=I (G E x.2.1):=λW t=>dd W (k1.tr (kr.tr t)) 1 bG
   have R:∀W,K wr W->W.cell? ⟨B,C+j*3+2,U⟩=I (G E x.2.2):=λW t=>dd W (k1.tr (kr.tr t)) 2 bG
   go_upto_region 4 with fail;have qs:=aB p1 (aB p2 (aB R (aB qr O)));refine fD 6 ?_;iterate 5 refine bB.i ?_
   refine bB.is (ar (decide (a=x))) (λV W t N=>?_) ?_
   .simp only[dN,bZ,cC,dK,dL,bS]at N;simp[dI,bR,aC,N,fk,aL,bT,bS,eP,go_sem];by_cases y:a.1=x.1
    .by_cases h2:a.2.1=x.2.1
     .by_cases h3:a.2.2=x.2.2;rw[show decide (a=x)=aA from decide_eq_true (Prod.ext y (Prod.ext h2 h3))];simp[y,h2,h3,eP];rw[show decide (a=x)=az from decide_eq_false (λe=>h3 K3)];try simp only[y,h2,if_true]
      exact SN
     rw[show decide (a=x)=az from decide_eq_false (λe=>h2 K3)];try simp only[y,if_true]
     exact SN
    rw[show decide (a=x)=az from decide_eq_false (λe=>y K3)];simp[y,eP]
   intro V W t hA;simp only[bZ,cC,dF,bS,Nat.reduceAdd]at hA;refine bN.h ?_;have Ma:=kr.tr t;generalize hq:decide (a=x)=q at *;have M:=aY hq;cases q;have qh:=aY (HB.aX λe=>by have:=of_decide_eq_false M.aX;exact this e.symm);exact YR;have HR:=aY (HA.aX (of_decide_eq_true M.aX).symm);go_wp2;go_ret;exact⟨_,rfl,k1.tr Ma,iF⟩
  have O:¬(j:Int)<Z l:=aZ;have HR:=aY (T.aX (by
   have y:=Q.aX;rw[jq aZ]at y;exact y))
  go_wp2;go_ret;exact⟨_,rfl,k1.tr kr,iF⟩
theorem Iw l a v w(h:bD dQ l v w)(H:Z l<=1000000) :aK aR 206 #[v,dD a] w λe A=>e=ak (ar (fJ l a))/\K w A:=by
 have y:=h;obtain⟨Q,d,rfl,O,-⟩:=h;have N:=bn.new w 42 #[G J a.1,G E a.2.1,G E a.2.2];have k1:=N.cG;have B:=aY λW (z:K w W)=>atI l a _ W (cM y z) H
 go_in;go_wp2_with fail
 generalize w.alloc _=j at *;refine (B.aX j k1).mono ?_;rintro e R⟨i,rfl,t,M⟩;have C:=aY M;go_wp2;go_ret;exact⟨by rw[C.aX];rfl,k1.tr t⟩
theorem Dx s a v w(h:p6 s v w)(z:Z s.bq<=1000000) :aK aR 22 #[v,dD a] w λe t=>e=ak (ar (dM s.bq a))/\K w t:=by
 obtain⟨vl,vp,va,rfl,y,A,B⟩:=h;have C1:=aY λW (j:K w W)=>ahJ s.bq a _ W (cM y j) z
 exact YS
theorem M8 s a v w(h:p6 s v w)(z:Z s.bF<=1000000) :aK aR 147 #[v,dD a] w λe y=>e=ak (ar (dM s.bF a))/\K w y:=by
 obtain⟨vl,vp,va,rfl,B,j,A⟩:=h;have C1:=aY λW (t:K w W)=>ahJ s.bF a _ W (cM j t) z
 exact YS
theorem KB s a v w(h:p6 s v w)(z:Z s.ab<=1000000) :aK aR 143 #[v,dD a] w λe t=>e=ak (ar (fJ s.ab a))/\K w t:=by
 obtain⟨vl,vp,va,rfl,B,A,y⟩:=h;have C1:=aY λW (j:K w W)=>Iw s.ab a _ W (cM y j) z
 exact YS
def ko(a:bY)(x:bU):Bool:=decide (bE x=a)
theorem agO a x:ko a x=(decide (x.br=a.1)&&decide (x.life=a.2.1)&&decide (x.eY=a.2.2)):=by grind [ko,bE]
theorem aeQ x a v g w(h:fM x v w)(hg:bn w g 42 #[G J a.1,G E a.2.1,G E a.2.2]) :aK aR 208 #[v,aj (I ⟨g,0,U⟩)] w λe j=>e=ak (ar (ko a x))/\K w j:=YT
theorem aso A c l a g w(h:yO cL l A w)(hlen:Z l<=1000000)(hg:bn w g 42 #[G J a.1,G E a.2.1,G E a.2.2]) :aK aR 266 #[F A (Z l) c,.func (Fn.func 208) #[] #[aj (I ⟨g,0,U⟩)]] w λe N=>∃i:Int,e=ak (G J i)/\K w N/\((i=-1/\∀x∈l,ko a x=az)\/∃k:Nat,k<Z l/\i=(k:Int)/\(∀x∈l.take k,ko a x=az)/\∀x,l[k]?=I x->ko a x=aA):=by
 have O:=K.rf w;go_in;go_wp2_with fail
 go_loopw [5,8] (fun _ i wr=>∃k:Nat,k<=Z l/\i=G J k/\Hid (∀t∈l.take k,ko a t=az)/\K w wr) (fun _ i _=>Z l-(aO i).toNat)
 case atStart=>exact⟨0,aZ,rfl,aY bu,O⟩
 case round =>
  obtain⟨k,hk,rfl,hall,kr⟩:=hrel;by_cases hlt:k<Z l
  .have M:(k:Int)<Z l:=aZ;obtain⟨z,C,cs,rfl,hcl,R,B,d⟩:=fE h k hlt bG;have Y:Hid (ko a l[k]=az->∀t∈l.take (k+1),ko a t=az):=ajD;have S:Hid (ko a l[k]=aA->∀x,l[k]?=I x->ko a x=aA):=aY λh x hx=>by grind
   generalize l[k]=t at *;obtain⟨vf,H,rfl,Q,V⟩:=R wr kr;have B:∀W,K w W->W.cell? ⟨z,C+k*8,U⟩=I (G J t.bA):=B;have d:∀W,K w W->∀i,i<8->W.cell? ⟨z,C+k*8+i,U⟩=(cB t vf H)[i]?:=λW j X=>λT=>(d W j X T).trans aD
   go_wp2_with fail
   apply eu (aeQ t a _ g wr ⟨vf,H,rfl,Q,V⟩ (hg.bM kr)) kr;intro w2 k2 kW;cases hx:ko a t;have rN:=aY (Y.aX hx);exact K4;have y:=aY (S.aX hx);go_wp2;go_ret;exact⟨_,rfl,kW,aJ ⟨k,hlt,rfl,hall.aX,y.aX⟩⟩
  have M:¬(k:Int)<Z l:=aZ;have y:=aY (by
   have:=hall.aX;rw[jq aZ]at this;exact this)
  go_wp2;go_ret;exact⟨_,rfl,kr,aI ⟨rfl,y.aX⟩⟩
def GS(a:bY)(z:List (bU×List aQ)):List (bU×List aQ):=z.filter λp=>!ko a p.1
theorem YU{α β:Type}:∀(l:List α) (m:List β),Z m=Z l->(l.zip m).map (·.1)=l
 | [],[],_=>rfl
 | _ :: _,[],h=>zH
 | [],_ :: _,h=>zH
 | x :: l,y :: m,h=>by simp at h;simp[YU l m h]
theorem ajE{α β:Type}:∀(l:List α) (m:List β),Z m=Z l->(l.zip m).map (·.2)=m
 | [],[],_=>rfl
 | _ :: _,[],h=>zH
 | [],_ :: _,h=>zH
 | x :: l,y :: m,h=>by simp at h;simp[ajE l m h]
theorem azX{α S W}:∀(z:List (α×List aQ)),(∀p∈z,S.rel p.1 p.2 W)->Each S (z.map (·.1)) (z.map (·.2)) W:=by intro z h;refine⟨bu,λi t j=>?_⟩;grind
theorem auC{α S W}{l:List α}{j}(h:Each S l j W):∀p∈l.zip j,S.rel p.1 p.2 W:=by intro p t;obtain⟨i,y,rfl⟩:=List.mem_iff_getElem.1 t;simp only[List.getElem_zip];have:=h.1;rw[List.length_zip]at y;exact h.2 i aZ aZ
theorem ahK{l j}(t:Z j=Z l) a:(GS a (l.zip j)).map (·.1)=kQ l a:=by unfold GS kQ;rw[show (λp:bU×List aQ=>!ko a p.1)=(λx=>!decide (bE x=a)) ∘ (·.1)from rfl,<- List.filter_map,YU l j t]
theorem ahL:∀(us xs:List aQ) (q:Nat),q+Z us<=Z xs->ry xs q us=xs.take q++us++xs.drop (q+Z us)
 | [],xs,q,_=>by simp[ry]
 | u :: us,xs,q,h=>by simp only[gH]at h;rw[ry,ahL us _ (q+1) cN];rw[iY cN,List.take_set_of_le (bP _),List.drop_set_of_lt aZ];simp[Nat.add_assoc,Nat.add_comm 1]
theorem as3{P w t e z cur}(O:P.underlying t=some (.slice e))(M:∀w,(zeroValue e).run P w=.ok z w) g o m(hb:bn w g e cur)(R:o+m*z.cells.size<=cur.size)(T:0<m)(S:∀u∈z.cells.toList,u.oneCell'=aA)(hz:0<z.cells.size) :∃j y,(∀C c,(Builtin.clear_ #[t] C #[F (I ⟨g,o,U⟩) m c]).run P w=.ok (au #[]) j)/\bn j g e y/\y.size=cur.size/\y.toList.take o=cur.toList.take o/\w.grownBy j (I g):=by
 have:Z (Builtin.zeroCells z.cells m).toList=m*z.cells.size:=by simp[Builtin.zeroCells]
 have N:∀u∈(Builtin.zeroCells z.cells m).toList,u.oneCell'=true:=by intro u B;simp only[Builtin.zeroCells,Array.toList_map,List.mem_map]at B;obtain⟨i,W,rfl⟩:=B;grind [Nat.mod_lt]
 have A:=run_storeCells_at P g o e (Builtin.zeroCells z.cells m).toList 0 cur w hb aZ N;simp only[Nat.add_zero]at A;refine⟨_,(cur.toList.take o++(Builtin.zeroCells z.cells m).toList++cur.toList.drop (o+Z (Builtin.zeroCells z.cells m).toList)).toArray,λC c=>?_,setRow_heap w g cur _ e _ hb,?_,?_,⟨rfl,rfl,rfl,bu,λk Q H=>setRow_other w g k _ (λe=>H IW)⟩⟩
 .cases m with
  | zero=>omega
  | succ m=>simp[Builtin.clear_,run_underlying O,M,A]
 all_goals grind
theorem aeI{α:Type}{n}:∀(bw:List (List α)),(∀j∈bw,Z j=n)->∀k,(bw.take k).flatten=bw.flatten.take (k*n)
 | [],_,k=>bu
 | c :: bw,h,0=>bu
 | c :: bw,h,k+1=>by have hc:=h c bu;have ih:=aeI bw (λx hx=>h x K0) k;exact ajF
theorem aCS W:(zeroValue 128).run aR W=.ok (av jx) W:=by rfl
theorem aDD{α:Type}(l:List α)(h:Z l=8):∃j c1 c2 c3 c4 c5 c6 c7,l=[j,c1,c2,c3,c4,c5,c6,c7]:=by
 match l,h with
 | [j,c1,c2,c3,c4,c5,c6,c7],_=>exact⟨_,_,_,_,_,_,_,_,rfl⟩
structure DV(l:List bU)(bw:List (List aQ))(a:bY)(j i:Nat)(cur:List (List aQ)):Prop where
 len:Z cur=Z l
 lens:∀cs∈cur,Z cs=8
 pre:cur.take i=(GS a ((l.zip bw).take j)).map (·.2)
 post:cur.drop j=bw.drop j
 lt:i<j
theorem DV.cut{l t cur a j i}(A:Z t=Z l)(h:DV l t a j i cur)(z:j<Z l)(y:ko a l[j]=aA):DV l t a (j+1) i cur:=by refine⟨h.len,h.lens,?_,?_,by have:=h.lt;omega⟩;rw[h.pre,iY bL];simp[GS,y];exact ajG
theorem DV.at{l t cur a j i}(_:Z t=Z l)(h:DV l t a j i cur)(_:j<Z l)(y:j<Z cur)(z:j<Z t):cur[j]=t[j]:=by have:=congrArg (λx=>x[0]?) h.post;grind
theorem DV.keep{l:List bU}{t cur:List (List aQ)}{a:bY}{j i:Nat}(N:Z t=Z l)(h:DV l t a j i cur)(C:j<Z l)(B:ko a l[j]=az)(z:Z (t[j]'aZ)=8):DV l t a (j+1) (i+1) (cur.set i (t[j]'aZ)):=by have H:=h.len;have O:=h.lt;refine⟨bL,λM A=>?_,?_,?_,aZ⟩;rcases List.mem_or_eq_of_mem_set A with y|rfl;exact h.lens _ y;exact z;rw[iY bL,List.take_set_of_le (bP _),h.pre,iY bL];simp[GS,B];rw[List.drop_set_of_lt aZ];exact ajG
theorem asm l a g0 base v y w(hown:w.ownsRow base 128 8 v (Z l) y.flatten)(H:Z y=Z l)(hE:∀W,bf (λk=>aW v=I k) w W->Each cL l y W)(hg:bn w g0 42 #[G J a.1,G E a.2.1,G E a.2.2])(hlen:Z l<=1000000) :aK aR 207 #[v,.func (Fn.func 208) #[] #[aj (I ⟨g0,0,U⟩)]] w λe w'=>∃v' C,e=ak v'/\w'.ownsRow base 128 8 v' (Z (kQ l a)) C.flatten/\Z C=Z (kQ l a)/\aW v'=aW v/\w.grownBy w' (aW v)/\∀W,Each cL l y W->Each cL (kQ l a) C W:=by
 have Mb:=hE w (bf.rf _ _);have aEr:=Ry (S:=cL) hown Mb;obtain⟨A,c,rfl,hl,hc⟩:=aEr;have C1:=aY (aso A c l a g0 w hl hlen hg);have HN:Hid ((∀x∈l,ko a x=az)->kQ l a=l):=aY λh=>by unfold kQ;rw[List.filter_eq_self];intro x hx;have:=h x hx;simpa [ko]using this
 have HO:=aY hown;have HC:=aY hE;have c8:=aY Mb.lens;clear hown hE Mb hl;go_in;go_wp2_with fail
 refine C1.aX.mono ?_;rintro e w2⟨i0,rfl,k2,hi⟩;rcases hi with ⟨rfl,hall⟩|⟨k,hk,rfl,hall,hit⟩
 .have N:=aY (HN.aX hall);clear hall;go_wp2;go_ret;refine⟨_,y,rfl,by rw[N.aX];exact sU HO.aX k2,by rw[N.aX];exact H,rfl,zC k2 _,λW h=>by rw[N.aX];exact h⟩
 have sL:Hid (DV l y a (k+1) k y):=aY (by
  refine⟨H,c8.aX,?_,rfl,aZ⟩;rw[iY bL];have h1:=hit _ (aE hk);have h2:GS a ((l.zip y).take k)=(l.zip y).take k:=by unfold GS;rw[List.filter_eq_self];intro p hp;have this:p.1∈((l.zip y).take k).map (·.1):=List.mem_map_of_mem hp;rw[List.map_take,YU l y H]at this;simp[hall p.1 this]
  unfold GS at h2|-;rw[List.filter_append,h2];simp[h1];rw[ajE l y H])
 clear hall hit HN;rcases HO.aX.2 with ⟨h0,Cx⟩|⟨g,M,cur,e0,g1,g2,g3,g4,g5,g6⟩;omega;obtain⟨rfl,e3⟩:A=I ⟨g,0,U⟩/\M=c:=bL;subst e3;have hg0:w.grownBy w2 (I g):=zC k2 _;have dC:=aY (sU HO.aX k2);have hgg:g0≠g:=by rintro rfl;exact absurd ((show bn w g0 _ cur from g2).jK hg) bG
 have HG:=aY hg;have hcm:M<=9223372036854775807:=g4;have tv:(k:Int)+1<=(Z l:Int):=aZ;clear HO k2 g5 g6 g2 hg g4 C1;go_wp2_with fail
 go_loopw [5,6,7] (fun i j _ W=>∃(j' i':Nat) (B:List (List aQ)),j=G J j'/\i=G J i'/\j'<=Z l/\i'<j'/\Hid (DV l y a j' i' B)/\Hid (W.ownsRow base 128 8 (F (I ⟨g,0,U⟩) (Z l) M) (Z l) B.flatten)/\w.grownBy W (I g)) (fun _ j _ _=>Z l-(aO j).toNat)
 case atStart=>exact⟨k+1,k,y,dh,rfl,aZ,aZ,sL,dC,hg0⟩
 case round =>
  clear sL dC hg0;obtain⟨j,i,B,rfl,rfl,hj,hij,N,HR,kr⟩:=hrel;by_cases hlt:j<Z l
  .have cE:(j:Int)<Z l:=aZ;have xJ:(i:Int)<Z l:=aZ;have hrel:=(HC.aX wr (bf.gy kr (λ_ h=>h))).2 j hlt aZ;have c8j:=c8.aX _ (dJ (show j<Z y by omega));have z:=N.aX;have HK:=aY (z.keep H hlt);have HX:=aY (z.cut H hlt);have hat:=z.at H hlt (by rw[z.len];exact hlt) aZ;obtain⟨hcell,hfz⟩:=Dw HR.aX;have dU:=HR.aX.1;have aKl:=z.len;have TJ:=z.lens;generalize hx:l[j]=x at *;obtain⟨vf,ve,hcs,hf,he⟩:=hrel;have d:∀i,i<8->wr.cell? ⟨g,j*8+i,U⟩=(cB x vf ve)[i]?:=λi hi=>by rw[hcell _ aZ,zE 8 B TJ j i aZ hi,aE (show j<Z B by omega),Option.getD_some,hat,hcs];exact aD
   have d0:wr.cell? ⟨g,j*8,U⟩=I (G J x.bA):=d 0 aZ;have hEv:Hid (∀W,K wr W->fM x (av (cB x vf ve)) W):=aY λW k=>⟨_,_,rfl,fO _ _ _ _ hf k,cM he k⟩
   have hgr:=HG.aX.grown kr (λe=>hgg (by injection e));obtain⟨T,R,rfl⟩:=dX hf;obtain⟨V,Y,rfl⟩:=bH he;have gJ:=bn.new wr 128 (cB x (F T (Z x.f) R) (F V (Z x.es) Y));have k5:=gJ.cG;clear hcell hf he hat z;go_upto_region 8 with fail;have HG5:=hgr.bM k5;have oJ:=rm kr (zC k5 (I g));have lG:=sU HR.aX k5;have hE5:=hEv.aX _ k5;clear d d0;generalize wr.alloc _=w5 at *;generalize D (L wr)=g5 at *;have q5:=gJ.cell;go_wp2_with fail
   refine (aeQ x a _ g0 w5 hE5 HG5).mono ?_;rintro e w6⟨rfl,k6⟩;have um:=sU lG k6;have qU:=rm oJ (zC k6 (I g));have q6:=(gJ.bM k6).cell;clear q5 lG;cases hq:ko a x
   .have JK:=HK.aX hq c8j;have mw:=R8 (cB x (F T (Z x.f) R) (F V (Z x.es) Y)).toList _ (i*8) w6 um (by rw[dU];show i*8+8<=_;omega);have e9:=Rl 8 (cB x (F T (Z x.f) R) (F V (Z x.es) Y)).toList B TJ i 0 aZ bu;rw[Nat.add_zero]at e9;rw[e9,ahL _ _ _ GA]at mw;have iV:(B[i]'aZ).take 0++(cB x (F T (Z x.f) R) (F V (Z x.es) Y)).toList++(B[i]'aZ).drop (0+Z (cB x (F T (Z x.f) R) (F V (Z x.es) Y)).toList)=y[j]'aZ:=by simp_all
    rw[iV]at mw;have Q:bf (λk=>k=g) w6 (ei w6 g (i*8) (cB x (F T (Z x.f) R) (F V (Z x.es) Y)).toList):=bf.sets (X:=λk=>k=g) (g:=g) rfl _ _ _;have kL:=rm qU ⟨Q.os,Q.tape,Q.output,Q.size,λk hk hne=>Q.block k hk bL⟩;obtain⟨hcell,hfz⟩:=Dw um;obtain⟨c0,c1,c2,c3,c4,c5,c6,c7,hci⟩:=aDD (B[i]'aZ) (TJ _ (dJ _));have d6:∀t,t<8->w6.cell? ⟨g,i*8+t,U⟩=#[c0,c1,c2,c3,c4,c5,c6,c7][t]?:=λt ht=>by rw[hcell _ aZ,zE 8 B TJ i t aZ ht,aE (show i<Z B by omega),Option.getD_some,hci];exact aD
    have d60:w6.cell? ⟨g,i*8,U⟩=I c0:=d6 0 aZ;have z6:=λt=>hfz (i*8+t)
    have z60:=hfz (i*8);have UZ:=aY JK;have HR9:=aY mw;clear mw Q hcell hfz e9 iV hci HK HX JK hcs um;go_wp2;go_roundw
    case rel =>
     (repeat apply Exists.intro)
     refine⟨?_,rfl⟩
     exact⟨j+1,i+1,_,dh,dh,aZ,aZ,UZ,HR9,kL⟩
    case measure=>simp[aO];omega
   have HX3:=aY (HX.aX hq);have HR9:=aY um;clear HK HX hcs um;go_wp2;go_roundw
   case rel =>
    (repeat apply Exists.intro)
    refine⟨?_,rfl⟩
    exact⟨j+1,i,_,dh,rfl,aZ,aZ,HX3,HR9,qU⟩
   case measure=>simp[aO];omega
  have cE:¬(j:Int)<Z l:=aZ;obtain rfl:j=Z l:=aZ;have z:=N.aX;have dU:=HR.aX.1;rcases HR.aX.2 with ⟨h0,Cx⟩|⟨g',cap',cur,e0,r1,r2,r3,r4,r5,r6⟩;cases h0;injection e0 with O _ e3;injection O with O;injection O with O;subst O e3;have hcz:(av jx).cells.size=8:=rfl;obtain⟨W2,Ua,aEs,hb2,jI,ht2,gh⟩:=as3 (P:=aR) (w:=wr) (t:=59) (e:=128) underlying59 aCS g (i*8) (Z l-i) r2 bL aZ bG bG;have kL:=rm kr gh;have Az:=z.pre;rw[jq (l:=l.zip y) bL]at Az;have tv:Z (kQ l a)=i:=by rw[<- ahK H a,List.length_map,<- List.length_map (f:=λx:bU×List aQ=>x.2),<- Az,sc,z.len];omega
  have HF:Hid (∃C,W2.ownsRow base 128 8 (F (I ⟨g,0,U⟩) i M) i C.flatten/\Z C=i/\∀W,Each cL l y W->Each cL (kQ l a) C W):=aY (by
   refine⟨B.take i,?_,by rw[sc,z.len];omega,λW hW=>?_⟩
   .refine⟨?_,aJ ⟨g,M,Ua,rfl,r1,hb2,aZ,r4,aZ,?_⟩⟩;rw[EX 8 _ (λcs h=>z.lens cs (oW h)),sc,z.len];rw[Nat.min_eq_left aZ];rw[ht2];have O:=r6;have e2:=aeI B z.lens i;grind
   rw[Az,<- ahK H a];exact azX _ λp hp=>auC hW p (List.mem_filter.1 hp).1)
  have xJ:(i:Int)<=Z l:=aZ;have hic:i<=M:=aZ;have hnc:¬M=i:=aZ;have aKm:(i:Int)<=M:=aZ;clear z Az r5 r6 r2 N HR dU hb2 ht2 HC;go_wp2;go_ret;obtain⟨C,f1,f2,f3⟩:=HF.aX;exact⟨_,rfl,C,f1,f2,rfl,kL,f3⟩
theorem WO s a base g w(h:CY base g s w)(Y:Z s.bF<=1000000)(O:base<=D (L w)) :aK aR 145 #[aj (I ⟨g,0,U⟩),dD a] w λe M=>e=ak (au #[])/\CY base g ⟨s.life,s.bq,kQ s.bF a,s.ab⟩ M/\aN base w M:=by
 obtain⟨vl,vp,va,h⟩:=h;have B:=bn.new w 42 #[G J a.1,G E a.2.1,G E a.2.2];have k1:=B.cG;go_in;go_upto_region 1 with fail;have t:=h.st k1;generalize w.alloc _=H at *;generalize D (L w)=X at B|-;have q:=t.blk.cell;have z:=t.blk.frozen;obtain⟨bw,hr,C,y⟩:=t.p;have C1:=aY (asm s.bF a X base vp bw H hr C (λW u=>y W (u.more λk e=>aJ e)) B Y);have A:=aY t;have HE:=aY y;go_wp2_with fail
 refine C1.aX.mono ?_;rintro e S⟨v',V,rfl,ho,C,R,gh,y⟩;have j:o8 vp H S:=bf.gy gh λ_ h=>h
 have N:=A.aX.abq j (v':=v') ⟨V,ho,C,λW u=>y W (HE.aX W ((j.more λ_ h=>aJ h).ir u λk _ h=>by rwa [R]at h))⟩ λb e=>aI (R▸e)
 have Q:=λb=>(A.aX.sep b).2.1
 have T:=A.aX.blk.cF j λe=>(Q g e).2.1 rfl
 have kb:aN base w (aV S ⟨g,2,U⟩ v'):=((k1.mono O).trans (j.low (λk e=>(Q k e).1) (cQ O k1.size))).setCell A.aX.low _;have q:=T.cell;have z:=T.frozen;have HH:=aY N;obtain⟨A',c',rfl⟩:=N.p.slice;go_wp2;go_end0;exact⟨rfl,⟨_,_,_,HH.aX⟩,kb⟩
def abr(g:Nat)(vl vp va:aQ)(k:Nat):Prop:=k=g\/aW vl=I k\/aW vp=I k\/aW va=I k
structure sM(base g gs gr:Nat)(s:eT)(r:Rec)(vl vp va vf ve:aQ)(w:aP):Prop where
 st:gN base g s vl vp va w
 bs:bn w gs 175 #[aj (I ⟨g,0,U⟩)]
 br:bn w gr 171 (jf r vf ve)
 en:Fx (abr g vl vp va) (λW=>fM r.e (av (cB r.e vf ve)) W) w
 low:base<=D (L w)
 sz:Z s.bq<=900000/\Z s.bF<=900000/\Z s.ab<=900000
 sm:gu r.e
def GI(base g:Nat)(s:eT)(o:Option eT)(w:aP)(e:Ending)(w':aP):Prop:=e=ak (ar o.isSome)/\CY base g (o.getD s) w'/\aN base w w'
section
variable {base g gs gr:Nat}{s:eT}{r:Rec}{vl vp va vf ve:aQ}{w w' W:aP}{o:Option eT}{t:eT}
theorem sM.k(h:sM base g gs gr s r vl vp va vf ve w)(k:K w W):sM base g gs gr s r vl vp va vf ve W :=
 ⟨h.st.st k,h.bs.bM k,h.br.bM k,h.en.k k,cQ h.low k.size,h.sz,h.sm⟩
theorem sM.up{X}(h:sM base g gs gr s r vl vp va vf ve w)(j:¬X g/\¬X gs/\¬X gr):∀W,bf X w W->(∀i,W.cell? ⟨g,i,U⟩=(eO s vl vp va)[i]?)/\(∀i,W.cell? ⟨gs,i,U⟩=#[aj (I ⟨g,0,U⟩)][i]?)/\∀i,W.cell? ⟨gr,i,U⟩=(jf r vf ve)[i]? :=
 λ_ u=>⟨(h.st.blk.cF u j.1).cell,(h.bs.cF u j.2.1).cell,(h.br.cF u j.2.2).cell⟩
theorem sM.q(h:sM base g gs gr s r vl vp va vf ve w) W(k:K w W):(∀i,W.cell? ⟨g,i,U⟩=(eO s vl vp va)[i]?)/\(∀i,W.cell? ⟨gs,i,U⟩=#[aj (I ⟨g,0,U⟩)][i]?)/\∀i,W.cell? ⟨gr,i,U⟩=(jf r vf ve)[i]? :=
 h.up (X:=λ_=>False) ⟨id,id,id⟩ W (bf.cz k _)
theorem Ex.no(e:o=U)(h:gN base g s vl vp va w')(b:aN base w w'):GI base g s o w (ak (ar az)) w':=by subst e;exact⟨rfl,⟨_,_,_,h⟩,b⟩
theorem Ex.yes(e:o=I t)(h:CY base g t w')(b:aN base w w'):GI base g s o w (ak (ar aA)) w':=by subst e;exact⟨rfl,h,b⟩
end
theorem axR{base g A gr s r vl vp va vf ve} w(h:sM base g A gr s r vl vp va vf ve w) :aK aR 141 #[aj (I ⟨gr,0,U⟩),aj (I ⟨A,0,U⟩)] w λe C=>GI base g s (CQ s r) w e C:=by
 have B:Hid (CQ s r=if r.n<=s.life then U else I ⟨r.n,s.bq,s.bF,s.ab⟩):=aY rfl;generalize CQ s r=R at *;have qs:=h.q;have H:=aY h;go_in;go_upto_region 1 with fail;refine fD 7 ?_;iterate 7 refine bB.i ?_
 intro V W t hA;simp only[bZ,cC,dF,bS,Nat.reduceAdd]at hA;refine bN.h ?_;have y:=aY (H.aX.k t);have kb:=t.mono H.aX.low;obtain⟨N,O,M⟩:=qs W t;have:=y.aX.st.blk.frozen;by_cases j:r.n<=s.life
 .rw[decide_eq_true j];go_wp2;go_ret;exact Ex.no (by rw[B.aX,bV j]) y.aX.st kb
 rw[decide_eq_false j];go_wp2;go_ret;exact Ex.yes (by rw[B.aX,bQ j]) ⟨_,_,_,y.aX.st.aBt r.n⟩ (kb.setCell H.aX.st.low _)
theorem axS{base g y gr s r vl vp va vf ve} w(h:sM base g y gr s r vl vp va vf ve w) :aK aR 149 #[aj (I ⟨y,0,U⟩),aj (I ⟨gr,0,U⟩)] w λe A=>GI base g s (AZ s r) w e A:=by
 have z:Hid (AZ s r=if dM s.bF (jT r)then I ⟨s.life,s.bq,kQ s.bF (jT r),s.ab⟩else U):=aY rfl;generalize AZ s r=R at *;have qs:=aB h.q (show jT r=(r.br,r.life,r.eY)from rfl);have H:=aY h;have N:=aY λW (j:K w W)=>M8 s (jT r) _ W (h.st.st j).p6 YV
 go_in;go_upto_region 1 with fail;generalize dM s.bF (jT r)=B at *;refine fD 7 ?_;iterate 5 refine bB.i ?_
 refine bB.v N.aX ?_;refine bB.i ?_;intro V W j hA;simp only[bZ,cC,dF,bS,Nat.reduceAdd]at hA;refine bN.h ?_;have t:=aY (H.aX.k j);have kb:=j.mono H.aX.low;have C:=aY (WO s (jT r) base g W ⟨_,_,_,t.aX.st⟩ (by have:=H.aX.sz;omega) t.aX.low);obtain⟨T,Y,X⟩:=qs.1 W j;cases B
 .go_wp2;go_ret;exact Ex.no z.aX t.aX.st kb
 go_wp2_with fail
 apply bW C.aX;rintro S⟨Q,M⟩;have O:=aY Q;go_wp2;go_ret;exact Ex.yes z.aX O.aX (kb.trans M)
section
variable {base g gs gr:Nat}{s:eT}{r:Rec}{vl vp va vf ve:aQ}{w W:aP}
theorem sM.ns(h:sM base g gs gr s r vl vp va vf ve w){v}(y:v=vl\/v=vp\/v=va):¬aW v=I g/\¬aW v=I gs/\¬aW v=I gr:=by
 have key:∀ {b e cs},bn w b e cs->aW v=I b->e=128\/e=42:=λt j=>by rcases y with rfl|rfl|rfl;exact aI ((h.st.l.own j).2.2.elim λ_ k=>t.jK k);exact aI ((h.st.p.own j).2.2.elim λ_ k=>t.jK k);exact aJ ((h.st.a.own j).2.2.elim λ_ k=>t.jK k)
 exact⟨λe=>absurd (key h.st.blk e) bG,λe=>absurd (key h.bs e) bG,λe=>absurd (key h.br e) bG⟩
theorem sM.far(h:sM base g gs gr s r vl vp va vf ve w){v}(z:v=vl\/v=vp\/v=va)(u:o8 v w W) i x{b e cs}(hb:bn w b e cs)(j:e≠128/\e≠42/\e≠61):bn (aV W ⟨g,i,U⟩ x) b e cs:=by
 have A:¬aW v=I b:=λt=>by rcases z with rfl|rfl|rfl;exact j.1 ((h.st.l.own t).2.2.elim λ_ k=>hb.jK k);exact j.1 ((h.st.p.own t).2.2.elim λ_ k=>hb.jK k);exact j.2.1 ((h.st.a.own t).2.2.elim λ_ k=>hb.jK k)
 exact (hb.cF u A).far (λy=>j.2.2 (hb.jK (by rw[y];exact h.st.blk))) x
theorem sM.abt(h:sM base g gs gr s r vl vp va vf ve w){v}(j:v=vl\/v=vp\/v=va)(u:o8 v w W) i x:aN base w (aV W ⟨g,i,U⟩ x) :=
 (u.low (λk e=>by have:=h.st.sep k;rcases j with rfl|rfl|rfl <;> grind) h.low).setCell h.st.low _
end
theorem axT{base g C gr s r vl vp va vf ve} w(h:sM base g C gr s r vl vp va vf ve w) :aK aR 148 #[aj (I ⟨C,0,U⟩),aj (I ⟨gr,0,U⟩)] w λe Y=>GI base g s (yY s r) w e Y:=by
 have HR:Hid (yY s r=if dM s.bq (jT r)then U else if fJ s.ab (jT r)then U else I ⟨s.life,s.bq,kQ s.bF (jT r),s.ab++[jT r]⟩):=aY rfl;generalize yY s r=R at *;have qs:=aB h.q (show jT r=(r.br,r.life,r.eY)from rfl);have H:=aY h;have C1:=aY λW (j:K w W)=>Dx s (jT r) _ W (h.st.st j).p6 YV
 have C2:=aY λW (j:K w W)=>KB s (jT r) _ W (h.st.st j).p6 YV
 generalize dM s.bq (jT r)=A at *;generalize fJ s.ab (jT r)=Q at *;go_in;go_upto_region 1 with fail;rcases (show (A=aA\/A=az/\Q=aA)\/A=az/\Q=az by grind)with (rfl|⟨rfl,rfl⟩)|⟨rfl,rfl⟩;all_goals
  refine fD 14 ?_
  iterate 14 first|refine bB.i ?_|refine bB.v C1.aX ?_|refine bB.v C2.aX ?_
  intro V W j hA
  simp only[bZ,cC,dF,bS,Nat.reduceAdd]at hA
  refine bN.h ?_
  have HW:=aY (H.aX.k j)
  have kb:=j.mono H.aX.low
  obtain⟨q1,q2,q3⟩:=qs.1 W j
 iterate 2
  (go_wp2
   go_ret
   exact Ex.no HR.aX HW.aX.st kb)
 generalize W=T at *;go_upto_region 3 with fail;have ns:=HW.aX.ns (aJ (aJ rfl));have qs:=aB (HW.aX.up (X:=λk=>aW va=I k) ns) (show jT r=(r.br,r.life,r.eY)from rfl);refine Gq 11 8 s.ab va (jT r) 53 sK [([],[]),([],[]),([1],[(18,1)]),([2],[(19,2)]),([3],[(20,3)]),([],[]),([5],[(22,5)]),([6],[(23,6)]),([4,7],[(21,4),(24,7)]),([0],[(17,0)]),([9],[(26,9)]),([10,8],[(27,10),(25,8)])] 32 HW.aX.st.a HW.aX.low (by have:=HW.aX.sz;omega) ?_;iterate 7 refine bB.i ?_
 refine bB.GZ (S:=dQ) (N:=λk=>j9 base g vl vp va k\/aW va=I k) (D (L T)) sK (jT r) (λ_ h=>h.size) (λb hb=>⟨aJ hb,(HW.aX.st.a.own hb).2.1⟩) (λV W hW hp=>?_) ?_;simp only[dN,bZ,cC,dK,dL,bS]at hp;show tD _ _ _ (V 6) _;rw[hp.1];exact⟨rfl,λ_ _=>rfl⟩;refine bB.s ?_;iterate 2 refine bB.i ?_
 refine⟨λ_ _=>trivial,λV W hW hp=>?_,λV W hW M hv hA=>?_⟩;exact K5;simp only[bZ,cC,dF,bS,Nat.reduceAdd]at hA;have O:=HW.aX.st.aEq hW M hv;obtain⟨z,t,B⟩:=M.slice;rw[B]at O;generalize Z (s.ab++[jT r])=y at *;have hA:=aB B hA;have hb:=HW.aX.st.blk.cF hW ns.1;have qs:=aB hb.cell hb.frozen;refine bN.s ?_;refine bN.h ?_;have q2:=(HW.aX.far (aJ (aJ rfl)) hW 3 (F z y t) HW.aX.bs bG).cell;have q3:=(HW.aX.far (aJ (aJ rfl)) hW 3 (F z y t) HW.aX.br bG).cell;have U0:=kb.trans (HW.aX.abt (aJ (aJ rfl)) hW 3 (F z y t));have C3:=aY (WO ⟨s.life,s.bq,s.bF,s.ab++[jT r]⟩ (jT r) base g _ ⟨_,_,_,O⟩ (by show Z s.bF<=1000000;have:=HW.aX.sz;omega) ajH);exact ajI
theorem axU{base g T gr s r vl vp va vf ve} w(h:sM base g T gr s r vl vp va vf ve w) :aK aR 146 #[aj (I ⟨gr,0,U⟩),aj (I ⟨T,0,U⟩)] w λe O=>GI base g s (yX s r) w e O:=by
 have HR:Hid (yX s r=if dM s.bq (bE r.e)then U else if dM s.bF (bE r.e)then U else if fJ s.ab (bE r.e)then U else I ⟨s.life,s.bq,s.bF++[r.e],s.ab⟩):=aY rfl;generalize yX s r=R at *;have:=h.sz;have hlow:=h.low;have C1:=aY λW (t:K w W)=>Dx s (bE r.e) _ W (h.st.st t).p6 aZ
 have C2:=aY λW (t:K w W)=>M8 s (bE r.e) _ W (h.st.st t).p6 aZ
 have C3:=aY λW (t:K w W)=>KB s (bE r.e) _ W (h.st.st t).p6 aZ
 generalize dM s.bq (bE r.e)=A at *;generalize dM s.bF (bE r.e)=M at *;generalize fJ s.ab (bE r.e)=B3 at *;have C:=bn.new w 42 #[G J r.e.br,G E r.e.life,G E r.e.eY];have k1:=C.cG;have H:=aY (h.k k1);have q:=h.br.cell;go_in;go_upto_region 2 with fail;generalize w.alloc _=B at *;generalize D (L w)=gi at C|-;have qs:=aB H.aX.q (aB C.cells (show bE r.e=(r.e.br,r.e.life,r.e.eY)from rfl));rcases (show (A=aA\/A=az/\M=aA\/A=az/\M=az/\B3=aA)\/A=az/\M=az/\B3=az by grind)with (rfl|⟨rfl,rfl⟩|⟨rfl,rfl,rfl⟩)|⟨rfl,rfl,rfl⟩;all_goals
  refine fD 19 ?_
  iterate 19 first|refine bB.i ?_|refine bB.v (λW k=>C1.aX W (k1.tr k)) ?_|refine bB.v (λW k=>C2.aX W (k1.tr k)) ?_|refine bB.v (λW k=>C3.aX W (k1.tr k)) ?_
  intro V W t hA
  simp only[bZ,cC,dF,bS,Nat.reduceAdd]at hA
  refine bN.h ?_
  have j:=aY (H.aX.k t)
  have kb:=(k1.tr t).mono hlow
  obtain⟨q1,q2,q3⟩:=qs.1 W t
 iterate 3
  (go_wp2
   go_ret
   exact Ex.no (HR.aX.trans dH) j.aX.st kb)
 generalize W=B at *;go_upto_region 4 with fail;have ns:=j.aX.ns (v:=vp) (aJ (aI rfl));have hN:∀k,(j9 base g vl vp va k\/aW vp=I k)->k<D (L B):=λk h=>h.elim (j.aX.st.lt j.aX.low k) λh=>(j.aX.st.p.own h).2.1
 have qs:=j.aX.up (X:=λk=>aW vp=I k) ns;refine Gq 12 9 s.bF vp r.e 59 tH [([],[]),([],[]),([1],[(27,1)]),([2],[(28,2)]),([3],[(29,3)]),([],[]),([5],[(31,5)]),([6],[(32,6)]),([7],[(33,7)]),([4,8],[(30,4),(34,8)]),([0],[(26,0)]),([10],[(36,10)]),([11,9],[(37,11),(35,9)])] 38 j.aX.st.p j.aX.low aZ ?_;iterate 7 refine bB.i ?_
 refine bB.c (tD (λk=>j9 base g vl vp va k\/aW vp=I k) cL r.e) (λ_ _ _ h k=>h.mut k λ_ h=>aJ h) (λW' u=>(Ru r.e _ W' (j.aX.en W' (u.more λk h=>aJ (aJ (aI h)))) j.aX.sm).mono λe O ⟨v,e1,ho,k⟩=>⟨v,e1,SL ho λk h=>cZ (hN k h) u.size,k⟩) ?_;refine bB.GZ (S:=cL) (N:=λk=>j9 base g vl vp va k\/aW vp=I k) (D (L B)) tH r.e (λ_ h=>h.size) (λb y=>⟨aJ y,hN b (aJ y)⟩) (λV W z hp=>?_) ?_;exact SP;refine bB.s ?_;iterate 2 refine bB.i ?_
 refine⟨λ_ _=>trivial,λV W z hp=>?_,λV W z Y hv hA=>?_⟩;exact K5;simp only[bZ,cC,dF,bS,Nat.reduceAdd]at hA;have hS:=j.aX.st.abq z Y hv;obtain⟨A9,c9,Q⟩:=Y.slice;rw[Q]at hS;generalize Z (s.bF++[r.e])=n9 at *;have hA:=aB Q hA;have y:=j.aX.st.blk.cF z ns.1;have qs:=aB y.cell y.frozen;refine bN.s ?_;refine bN.h ?_;have U0:=kb.trans (j.aX.abt (aJ (aI rfl)) z 2 (F A9 n9 c9));have HS:=aY hS;go_wp2;go_ret;exact Ex.yes HR.aX ⟨_,_,_,HS.aX⟩ U0
theorem axV{base g gs gr s r vl vp va vf ve} w(h:sM base g gs gr s r vl vp va vf ve w) :aK aR 142 #[aj (I ⟨gr,0,U⟩),aj (I ⟨gs,0,U⟩)] w λe Y=>GI base g s (yV s r) w e Y:=by
 have HR:Hid (yV s r=if ¬r.n=Z s.bq then U else if dM s.bq (bE r.e)then U else if fJ s.ab (bE r.e)then U else I ⟨s.life,s.bq++[r.e],kQ s.bF (bE r.e),s.ab⟩):=aY rfl;generalize yV s r=R at *;obtain⟨j,cl,rfl⟩:=h.st.l.slice;have:=h.sz;have hlow:=h.low;have C1:=aY λW (t:K w W)=>Dx s (bE r.e) _ W (h.st.st t).p6 aZ
 have C2:=aY λW (t:K w W)=>KB s (bE r.e) _ W (h.st.st t).p6 aZ
 generalize dM s.bq (bE r.e)=O at *;generalize fJ s.ab (bE r.e)=T at *;have M:=bn.new w 42 #[G J r.e.br,G E r.e.life,G E r.e.eY];have k1:=M.cG;have H:=aY (h.k k1);have q:=h.br.cell;go_in;go_upto_region 2 with fail;generalize w.alloc _=z at *;generalize D (L w)=gi at M|-;have hwr:E.wrap (Z s.bq:Int)=Z s.bq:=by rw[IntKind.wrap_u64];omega
 obtain⟨y,JL⟩:∃b,((r.n:Int) != (Z s.bq:Int))=b:=⟨_,rfl⟩;replace HR:=aY (show R=if y=aA then U else if O=aA then U else if T=aA then U else I ⟨s.life,s.bq++[r.e],kQ s.bF (bE r.e),s.ab⟩ by rw[HR.aX,<- JL];by_cases h:r.n=Z s.bq <;> simp[h,Int.ofNat_inj]);have qs:=aB H.aX.q (aB M.cells (aB hwr (aB (show bE r.e=(r.e.br,r.e.life,r.e.eY)from rfl) JL)));rcases (show (y=aA\/y=az/\O=aA\/y=az/\O=az/\T=aA)\/y=az/\O=az/\T=az by grind)with (rfl|⟨rfl,rfl⟩|⟨rfl,rfl,rfl⟩)|⟨rfl,rfl,rfl⟩;all_goals
  refine fD 23 ?_
  iterate 23 first|refine bB.i ?_|refine bB.v (λW k=>C1.aX W (k1.tr k)) ?_|refine bB.v (λW k=>C2.aX W (k1.tr k)) ?_
  intro V W t hA
  simp only[bZ,cC,dF,bS,Nat.reduceAdd]at hA
  refine bN.h ?_
  have HW:=aY (H.aX.k t)
  have kb:=(k1.tr t).mono hlow
  obtain⟨q1,q2,q3⟩:=qs.1 W t
  have Q:=M.bM t
 iterate 3
  (go_wp2
   go_ret
   exact Ex.no (HR.aX.trans dH) HW.aX.st kb)
 generalize W=z at *;go_upto_region 4 with fail;have ns:=HW.aX.ns (v:=(F j (Z s.bq) cl)) (aI rfl);have hN:∀k,(j9 base g (F j (Z s.bq) cl) vp va k\/aW (F j (Z s.bq) cl)=I k)->k<D (L z):=λk h=>h.elim (HW.aX.st.lt HW.aX.low k) λh=>(HW.aX.st.l.own h).2.1
 have qs:=HW.aX.up (X:=λk=>aW (F j (Z s.bq) cl)=I k) ns;refine Gq 12 9 s.bq (F j (Z s.bq) cl) r.e 59 tH [([],[]),([],[]),([1],[(31,1)]),([2],[(32,2)]),([3],[(33,3)]),([],[]),([5],[(35,5)]),([6],[(36,6)]),([7],[(37,7)]),([4,8],[(34,4),(38,8)]),([0],[(30,0)]),([10],[(40,10)]),([11,9],[(41,11),(39,9)])] 45 HW.aX.st.l HW.aX.low aZ ?_;iterate 7 refine bB.i ?_
 refine bB.c (tD (λk=>j9 base g (F j (Z s.bq) cl) vp va k\/aW (F j (Z s.bq) cl)=I k) cL r.e) (λ_ _ _ h k=>h.mut k λ_ h=>aJ h) (λW' u=>(Ru r.e _ W' (HW.aX.en W' (u.more λk h=>aJ (aI h))) HW.aX.sm).mono λe Y ⟨v,e1,ho,k⟩=>⟨v,e1,SL ho λk h=>cZ (hN k h) u.size,k⟩) ?_;refine bB.GZ (S:=cL) (N:=λk=>j9 base g (F j (Z s.bq) cl) vp va k\/aW (F j (Z s.bq) cl)=I k) (D (L z)) tH r.e (λ_ h=>h.size) (λb hb=>⟨aJ hb,hN b (aJ hb)⟩) (λV W hW hp=>?_) ?_;exact SP;refine bB.s ?_;iterate 2 refine bB.i ?_
 refine⟨λ_ _=>trivial,λV W hW hp=>?_,λV W hW hO hv hA=>?_⟩;exact K5;simp only[bZ,cC,dF,bS,Nat.reduceAdd]at hA;have hS:=HW.aX.st.Lt hW hO hv;obtain⟨C,A,e9⟩:=hO.slice;rw[e9]at hS;generalize Z (s.bq++[r.e])=B at *;have hA:=aB e9 hA;have hb:=HW.aX.st.blk.cF hW ns.1;have qs:=aB hb.cell hb.frozen;refine bN.s ?_;refine bN.h ?_;have U0:=kb.trans (HW.aX.abt (aI rfl) hW 1 (F C B A));have q2:=(HW.aX.far (aI rfl) hW 1 (F C B A) HW.aX.bs bG).cell;have q3:=(HW.aX.far (aI rfl) hW 1 (F C B A) HW.aX.br bG).cell;have:=((Q.cF hW λe=>absurd ((HW.aX.st.l.own e).2.2.elim λ_ k=>Q.jK k) bG).far (p:=⟨g,1,U⟩) (λe=>absurd (Q.jK (show bn z gi 61 _ by rw[show gi=g from e];exact HW.aX.st.blk)) bG) (F C B A)).cell;have C3:=aY (WO ⟨s.life,s.bq++[r.e],s.bF,s.ab⟩ (bE r.e) base g _ ⟨_,_,_,hS⟩ bL ajH);exact ajI
theorem axW{s r}(h:fV r=az):oX s r=(s,110):=by simp[oX,h]
def aom(s:eT):Option eT->eT×Int
 | none=>(s,160)
 | some t=>(t,0)
theorem ahM{s r o}(h:fV r=aA)(e:fX s r=o):oX s r=aom s o:=by grind [fV,fX,oX,aom]
theorem aDE{s r}(h:r.bA=1):fX s r=CQ s r:=by simp[fX,h]
theorem aDF{s r}(h:r.bA=2):fX s r=yV s r:=by simp[fX,h]
theorem aDG{s r}(h:r.bA=3):fX s r=yX s r:=by simp[fX,h]
theorem aDH{s r}(h:r.bA=4):fX s r=yY s r:=by simp[fX,h]
theorem aDI{s r}(h:r.bA=5):fX s r=AZ s r:=by simp[fX,h]
theorem azY{r}(h:fV r=aA):r.bA=1\/r.bA=2\/r.bA=3\/r.bA=4\/r.bA=5:=by grind [fV]
structure PS(base g:Nat)(s:eT)(r:Rec)(vl vp va v:aQ)(w:aP):Prop where
 st:gN base g s vl vp va w
 rc:Fx (abr g vl vp va) (λW=>tC r v W) w
 low:base<=D (L w)
 sz:Z s.bq<=900000/\Z s.bF<=900000/\Z s.ab<=900000
 sm:gu r.e
 fit:lP r
theorem PS.onV{base g j gr s r vl vp va vf ve w}(h:PS base g s r vl vp va (av (jf r vf ve)) w){W}(k:K w W)(y:bn W j 175 #[aj (I ⟨g,0,U⟩)])(A:bn W gr 171 (jf r vf ve)) :sM base g j gr s r vl vp va vf ve W:=by refine⟨h.st.st k,y,A,(h.rc.k k).mono λH h=>?_,cQ h.low k.size,h.sz,h.sm⟩;obtain⟨C,B,e,t,z⟩:=h;injection e with e;have e:=congrArg Array.toList e;simp at e;obtain⟨rfl,rfl⟩:=e;exact⟨_,_,rfl,t,z⟩
theorem ahN{base g s r vl vp va v} w(h:PS base g s r vl vp va v w) :aK aR 92 #[aj (I ⟨g,0,U⟩),v] w λe R=>e=ak (G J (oX s r).2)/\CY base g (oX s r).1 R/\aN base w R:=by
 obtain⟨vf,O,rfl,-,-⟩:=h.rc.now;have H:=aY h;have C1:=aY λW (k:K w W)=>av3 r (av (jf r vf O)) W (h.rc.at k) h.fit
 have A:=(bn.new w 175 #[aj (I ⟨g,0,U⟩)]).alloc (aq (jf r vf O) 171);have y:=bn.new (aU w (aq #[aj (I ⟨g,0,U⟩)] 175)) 171 (jf r vf O);have j:=K.ou w (aq #[aj (I ⟨g,0,U⟩)] 175) (aq (jf r vf O) 171);rw[World.size_alloc]at y;have:=@run_makeMap aR;have M:∀W:aP,(zeroValue 22).run aR W=.ok .nilFunc W:=λW=>gP
 go_in;go_wp2_with fail
 generalize ay (ay w _) _=V at *;generalize mh:D (L w)=gs at *;refine (C1.aX V j).mono ?_;rintro e C⟨vb,rfl,-,Q⟩;replace j:=j.tr Q;replace A:=A.bM Q;replace y:=y.bM Q;cases hok:fV r
 .rw[show uD r=110 by simp[uD,hok]];have HQ:=aY (axW (s:=s) hok);have HS:=aY (H.aX.st.st j);have kb:=j.mono H.aX.low;go_wp2;go_ret;exact⟨ru,by rw[HQ.aX];exact⟨_,_,_,HS.aX⟩,kb⟩
 rw[show uD r=0 by simp[uD,hok]];have T:=aY hok;have z:=Ft.new C;have:=y.lt;replace A:=A.alloc (.map #[] 0);replace y:=y.alloc (.map #[] 0);replace j:=j.al (.map #[] 0);go_wp2_with (with_reducible refine zB _ rfl (.tmp 17) (.const (G J 1)) (.tmp 18) 229 rfl 3 22 underlying229 underlying3 (D (L C)) _ rfl z 1 rfl _ rfl rfl ?_)
 intro W z t;replace j:K w W:=j.trans (nj t aZ j.size);replace A:=A.grown t cN;replace y:=y.grown t cN;go_wp2_with (with_reducible refine zB _ rfl (.tmp 17) (.const (G J 2)) (.tmp 19) 229 rfl 3 22 underlying229 underlying3 (D (L C)) _ rfl z 2 rfl _ rfl rfl ?_)
 intro W z t;replace j:K w W:=j.trans (nj t aZ j.size);replace A:=A.grown t cN;replace y:=y.grown t cN;go_wp2_with (with_reducible refine zB _ rfl (.tmp 17) (.const (G J 3)) (.tmp 20) 229 rfl 3 22 underlying229 underlying3 (D (L C)) _ rfl z 3 rfl _ rfl rfl ?_)
 intro W z t;replace j:K w W:=j.trans (nj t aZ j.size);replace A:=A.grown t cN;replace y:=y.grown t cN;go_wp2_with (with_reducible refine zB _ rfl (.tmp 17) (.const (G J 4)) (.tmp 21) 229 rfl 3 22 underlying229 underlying3 (D (L C)) _ rfl z 4 rfl _ rfl rfl ?_)
 intro W z t;replace j:K w W:=j.trans (nj t aZ j.size);replace A:=A.grown t cN;replace y:=y.grown t cN;go_wp2_with (with_reducible refine zB _ rfl (.tmp 17) (.const (G J 5)) (.tmp 22) 229 rfl 3 22 underlying229 underlying3 (D (L C)) _ rfl z 5 rfl _ rfl rfl ?_)
 intro W z t;replace j:K w W:=j.trans (nj t aZ j.size);replace A:=A.grown t cN;replace y:=y.grown t cN;have:W.cell? ⟨gs+1,0,U⟩=I (G J r.bA):=y.cell 0;have N:=aY (H.aX.onV j A y);have kb:=j.mono H.aX.low;obtain⟨f,c1,c2,hf,hlk,X⟩:∃(f:Nat) (c1 c2:aQ),(∀S W,(callFunc f S).run aR W=.ok (.enter f S) W)/\(Instr.lookup 229 (.map (I (D (L C)))) (G J r.bA) aA).run aR W=.ok (au #[Value.func (Fn.func f) #[] #[c1,c2],ar aA]) W/\Hid (aK aR f #[c1,c2] W (GI base g s (fX s r) W)):=by
  rcases azY T.aX with B|B|B|B|B <;> rw[B]
  .exact⟨_,_,_,λ_ _=>dH,xX underlying229 underlying3 (M W) z 1,by rw[aDE B];exact aY (axR W N.aX)⟩
  .exact⟨_,_,_,λ_ _=>dH,xX underlying229 underlying3 (M W) z 2,by rw[aDF B];exact aY (axV W N.aX)⟩
  .exact⟨_,_,_,λ_ _=>dH,xX underlying229 underlying3 (M W) z 3,by rw[aDG B];exact aY (axU W N.aX)⟩
  .exact⟨_,_,_,λ_ _=>dH,xX underlying229 underlying3 (M W) z 4,by rw[aDH B];exact aY (axT W N.aX)⟩
  exact⟨_,_,_,λ_ _=>dH,xX underlying229 underlying3 (M W) z 5,by rw[aDI B];exact aY (axS W N.aX)⟩
 have HQ:=aY (ahM (s:=s) T.aX rfl);go_wp2_with fail
 refine X.aX.mono ?_;rintro e w9⟨rfl,hS,Y⟩;have HS:=aY hS;generalize fX s r=o at *;have rG:=kb.trans Y;cases o;exact ajJ;exact ajJ
theorem agP{l A w}(h:yO dQ l A w):Reads w (D (L w)) 3 A (Z l) (l.flatMap gF):=by
 obtain⟨z,j,t⟩:=h;have:z=l.map gF:=by
  refine List.ext_getElem (by simpa using j.1) λi y B=>?_
  rw[List.getElem_map];exact j.2 i bL y
 rw[this,ahI]at t;exact t
theorem SQ(l:List bY):∀u∈l.flatMap gF,u.oneCell'=true:=by intro u t;obtain⟨a,-,j⟩:=List.mem_flatMap.1 t;simp at j;rcases j with rfl|rfl|rfl <;> rfl
theorem gN.lower{base base' g s vl vp va W}(h:gN base g s vl vp va W)(hb:base'<=base):gN base' g s vl vp va W:=by
 have j:∀b,j9 base' g vl vp va b->j9 base g vl vp va b:=λb h=>by grind [j9]
 exact⟨h.blk,cQ hb h.low,(h.l.less j).low hb,(h.p.less j).low hb,(h.a.less j).low hb,h.ne⟩
def Pe(base:Nat)(s:eT)(vl vp va:aQ)(W:aP):Prop:=∀j,bf (λk=>k<base) W j->gN base (D (L j)) s vl vp va (aU j (aq (eO s vl vp va) 61))
theorem gN.r{base g s vl vp va W}(h:gN base g s vl vp va W)(hb:base<=D (L W)):Pe base s vl vp va W:=λy u=>by
 have j:=K.new y (aq (eO s vl vp va) 61);have hz:=u.size;have t:∀b,b<D (L W)->j9 base (D (L y)) vl vp va b->j9 base g vl vp va b:=λb hb h=>by unfold j9 at *;grind
 have A:=h.l.blk;have z:=h.p.blk;have B:=h.a.blk;exact⟨bn.new _ _ _,cQ hb hz,(h.l.to u (λ_ h=>aI h) (λk e _=>by have:=A k e;omega) λb hb h=>aI (t b hb h)).st j,(h.p.to u (λ_ h=>aI h) (λk e _=>by have:=z k e;omega) λb hb h=>aI (t b hb h)).st j,(h.a.to u (λ_ h=>aI h) (λk e _=>by have:=B k e;omega) λb hb h=>aI (t b hb h)).st j,h.ne⟩
theorem Pe.to{base base' s vl vp va W W'}(h:Pe base s vl vp va W)(u:bf (λk=>k<base) W W')(hb:base'<=base):Pe base' s vl vp va W' :=
 λt j=>(h t (u.tr (j.more λ_ h=>cZ h hb))).lower hb
abbrev oK:Array aQ:=#[G E 0,F U 0 0,F U 0 0,F U 0 0]
def aEt(base:Nat)(v:aQ)(W:aP):Prop:=∃b,v=aj (I ⟨b,0,U⟩)/\base<=b/\bn W b 61 oK
theorem azZ{P t z}(T:gQ P t 42 z 3 24){ρ} s x(N:ρ s=F U 0 0){l u}(Q:ρ x=u){w}(h:bD dQ l u w)(R:Z l<=1000000) base(hb:base<=D (L w)) Y ty :∃B j,(aL ρ (bT (.call { callee:=.builtin .append,args:=#[s,x],argTypes:=#[t,t] }) ty)).run P w=.ok (.value B) j/\bK Y base 42 dQ l B j/\K w j:=by obtain⟨A,c,rfl,M,-⟩:=h;obtain⟨B,j,C,H,y,-,-⟩:=GC (P:=P) w base t ty 42 z 3 24 T (F U 0 0) 0 [] (oV _ _ _ _) _ A (Z l) c _ (agP M) (SQ _) aZ hb;exact⟨B,j,by simp only[aL,bT,resolve,invoke,builtin,Sem.run_bind,Sem.run_pure,Result.andThen_ok,List.map_toArray,mN,List.map_nil,N,Q,C],⟨l.map gF,by rw[ahI];simpa [show dQ.size=3 from rfl]using H,bu,λW _=>Sa l W⟩,⟨y.os,y.tape,y.output,y.size,λi O=>y.block i O (by simp[Value.ownBlock])⟩⟩
theorem atJ s v w(h:p6 s v w)(ja:∀x∈s.bq,gu x)(hsp:∀x∈s.bF,gu x)(hz:Z s.bq<=900000/\Z s.bF<=900000/\Z s.ab<=900000) :aK aR 317 #[v] w λe w'=>∃vl vp va,e=ak (av (eO s vl vp va))/\Pe (D (L w)) s vl vp va w'/\K w w':=by
 obtain⟨vl,vp,va,rfl,hl,hp,ha⟩:=h;have HA:=aY ha;obtain⟨Al,cl,rfl,hl,-⟩:=hl;obtain⟨Ap,cp,rfl,hp,-⟩:=hp;obtain⟨Aa,ca,rfl⟩:=bH ha;have gI:=(bn.new w 61 (eO s (F Al (Z s.bq) cl) (F Ap (Z s.bF) cp) (F Aa (Z s.ab) ca))).alloc (aq oK 61);have fU:=bn.new (aU w (aq (eO s (F Al (Z s.bq) cl) (F Ap (Z s.bF) cp) (F Aa (Z s.ab) ca)) 61)) 61 oK;have k0:=K.ou w (aq (eO s (F Al (Z s.bq) cl) (F Ap (Z s.bF) cp) (F Aa (Z s.ab) ca)) 61) (aq oK 61);rw[World.size_alloc]at fU;have ja:=aY ja;have hsp:=aY hsp;have HL:=aY hl;have HP:=aY hp;go_in;go_upto_region 1 with fail;generalize ay (ay w _) _=Y at *;obtain⟨t,hbase⟩:∃b,b=D (L Y):=⟨_,rfl⟩;have kM:D (L w)+1<t:=by rw[hbase];exact fU.lt
 generalize ia:D (L w)=gp at gI fU kM|-;have qs:=gI.cells;refine fD 7 ?_;iterate 4 refine bB.i ?_
 refine bB.op (λv W=>bK (λ_=>True) t 42 dQ s.ab v W) (λ_ _ _ h k=>h.st k) (λV W kW hp=>?_) ?_;simp only[dN,bZ,cC,dK,dL,bS]at hp;obtain⟨v',w',hrun,h1,h2⟩:=azZ (P:=aR) sK (ρ:=bR [(11,3)] _ V) (.const (F U 0 0)) (.tmp 11) rfl hp.1 (cM HA.aX (k0.tr kW)) aZ t ajK (λ_=>True) 53;change fk _ _ _ ((aL (bR [(11,3)] _ V) (bT (.call { callee:=.builtin .append,args:=#[.const (F U 0 0),.tmp 11],argTypes:=#[53,53] }) 53)).run _ _);rw[hrun];exact⟨h1,h2⟩;refine bB.op (λv W=>∃va,v=av (eO ⟨s.life,[],[],s.ab⟩ (F U 0 0) (F U 0 0) va)/\bK (λ_=>True) t 42 dQ s.ab va W) (λ_ _ _ ⟨va,e,h⟩ k=>⟨va,e,h.st k⟩) (λV W kW hp=>?_) ?_
 .simp only[dN,bZ,cC,dK,dL,bS]at hp;obtain⟨h1,h4,-⟩:=hp;obtain⟨A4,c4,e4⟩:=h4.slice;simp[h1,e4,dI,bR,aC,fk,aL,bT,eP,go_sem];rw[<- e4];exact h4
 refine bB.op (aEt t) (λv w w' ⟨b,e,h1,h2⟩ k=>⟨b,e,h1,h2.bM k⟩) (λV W kW _=>?_) ?_
 .simp[dI,fk,aL,bT,go_sem];exact⟨⟨D (L W),rfl,ajK,bn.new _ _ _⟩,(K.rf W).al _⟩
 intro V W kW hA;simp only[bZ,cC,dF,bS,Nat.reduceAdd]at hA;obtain⟨-,-,-,-,-,⟨va9,e5,H⟩,⟨g,e6,hg,B⟩,-⟩:=hA;have hA:=aB e6 e5;obtain⟨R,O,rfl⟩:=H.slice;have u9:bf (λk=>k=g) W (ei W g 0 [G E s.life,F U 0 0,F U 0 0,F R (Z s.ab) O]):=bf.sets (X:=λk=>k=g) rfl _ _ _;have Mc:Hid (CY t g ⟨s.life,[],[],s.ab⟩ (ei W g 0 [G E s.life,F U 0 0,F U 0 0,F R (Z s.ab) O])):=aY ⟨_,_,_,gN.nil (DD B rfl) hg (H.to u9 (λ_ _=>trivial) (λk h e=>absurd ((H.own h).2.2.elim λ_ k=>k.jK (e▸B)) bG) λ_ _ _=>aI trivial)⟩;have qq:=B.cell;have zz:=B.frozen;refine bN.skip (ei W g 0 [G E s.life,F U 0 0,F U 0 0,F R (Z s.ab) O]) rfl (by simp[bR,aC,cP,e5,e6,aL,bT,ei,qq,zz,go_sem]) ?_;refine bN.h ?_;have kk:=u9.k kW λk e=>aZ
 generalize ei _ _ _ _=W1 at *;have:=gI.cells;go_wp2_with fail
 go_loopw [5,17] (fun _ i W=>∃j:Nat,j<=Z s.bq/\i=G J j/\Hid (CY t g ⟨s.life,s.bq.take j,[],s.ab⟩ W)/\K Y W) (fun _ i _=>Z s.bq-(aO i).toNat)
 case atStart=>exact⟨0,aZ,rfl,aY iF,kk⟩
 case round =>
  obtain⟨j,hj,rfl,wH,kr⟩:=hrel;by_cases hlt:j<Z s.bq
  .have cE:(j:Int)<Z s.bq:=aZ;obtain⟨b1,off,cs,rfl,hcl,hrl,d0,d⟩:=fE HL.aX j hlt bG;have HT:Hid (s.bq.take (j+1)=s.bq.take j++[s.bq[j]]):=aY bu;have hxs:=ja.aX _ (dJ hlt);generalize s.bq[j]=x at *;obtain⟨vf,ve,rfl,hf,he⟩:=hrl w (K.rf w);have pZ:Hid (∀W,K w W->fM x (av (cB x vf ve)) W):=aY λW k=>⟨_,_,rfl,fO _ _ _ _ hf k,cM he k⟩
   have FU:=k0.tr kr;have d0:wr.cell? ⟨b1,off+j*8,U⟩=I (G J x.bA):=d0 wr FU;have d:∀i,i<8->wr.cell? ⟨b1,off+j*8+i,U⟩=(cB x vf ve)[i]?:=λi hi=>(d wr FU i hi).trans aD
   obtain⟨Af,cf,rfl⟩:=dX hf;obtain⟨Ae,ce,rfl⟩:=bH he;have Q:=bn.new wr 128 (cB x (F Af (Z x.f) cf) (F Ae (Z x.es) ce));have k5:=Q.cG;go_upto_region 5 with fail;obtain⟨vl,vp,va,A⟩:=wH.aX;have hne:aW vl≠I (D (L wr)):=λe=>by have:=(A.l.own e).2.1;omega
   have y:=aY (A.st k5);generalize wr.alloc _=M at *;generalize D (L wr)=ge at Q hne|-;replace kr:=kr.tr k5;have fY:t<=D (L M):=YW;have hN:∀k,(j9 t g vl vp va k\/aW vl=I k)->k<D (L M):=λk h=>h.elim (y.aX.lt fY k) λh=>(y.aX.l.own h).2.1
   have PW:aW vl≠I g:=λe=>((y.aX.sep g).1 e).2.1 rfl
   have qs:∀W,o8 vl M W->(∀i,W.cell? ⟨g,i,U⟩=(eO ⟨s.life,s.bq.take j,[],s.ab⟩ vl vp va)[i]?)/\(∀i,W.cell? ⟨ge,i,U⟩=(cB x (F Af (Z x.f) cf) (F Ae (Z x.es) ce))[i]?):=λW u=>⟨(y.aX.blk.cF u PW).cell,(Q.cF u hne).cell⟩
   have hro:∀k,aW vl=I k->D (L Y)<=k:=λk e=>by rw[<- hbase];exact ((y.aX.sep k).1 e).1
   refine Gq 7 5 (s.bq.take j) vl x 59 tH [([],[]),([0],[(21,0)]),([],[]),([2],[(23,2)]),([3],[(24,3)]),([1,4],[(22,1),(25,4)]),([],[]),([6,5],[(27,6),(26,5)])] 45 y.aX.l fY cN ?_;iterate 3 refine bB.i ?_
   refine bB.c (tD (λk=>j9 t g vl vp va k\/aW vl=I k) cL x) (λ_ _ _ h k=>h.mut k λ_ h=>aJ h) (λW' u=>(Ru x _ W' (pZ.aX W' (k0.tr (u.k kr hro))) hxs).mono λe w' ⟨v,e1,ho,k⟩=>⟨v,e1,SL ho λk h=>cZ (hN k h) u.size,k⟩) ?_;refine bB.GZ (S:=cL) (N:=λk=>j9 t g vl vp va k\/aW vl=I k) (D (L M)) tH x (λ_ h=>h.size) (λb B=>⟨aJ B,hN b (aJ B)⟩) (λV W C hp=>?_) ?_;exact SP;refine bB.s ?_;refine bB.i ?_;refine⟨λ_ _=>trivial,λV W C hp=>?_,λV W C H hv hA=>?_⟩;exact K5;simp only[bZ,cC,dF,bS,Nat.reduceAdd]at hA;have A:=y.aX.Lt C H hv;obtain⟨R,O,T⟩:=H.slice;rw[T]at A;generalize Z (s.bq.take j++[x])=n9 at *;rw[<- HT.aX]at A;have hA:=aB T hA;have B:=y.aX.blk.cF C PW;have qs:=aB B.cell B.frozen;refine bN.s ?_;refine bN.h ?_;have HS9:=aY A;have k9:K Y (aV W ⟨g,1,U⟩ (F R n9 O)):=(C.k kr hro).setCell bL _;exact ajL
  have cE:¬(j:Int)<Z s.bq:=aZ;rw[jq aZ]at wH;have Mc:=wH;have kk:=kr;generalize wr=wa at *;go_wp2_with fail
  go_loopw [7,32] (fun _ i W=>∃j:Nat,j<=Z s.bF/\i=G J j/\Hid (CY t g ⟨s.life,s.bq,s.bF.take j,s.ab⟩ W)/\K Y W) (fun _ i _=>Z s.bF-(aO i).toNat)
  case atStart=>exact⟨0,aZ,rfl,aY iF,kk⟩
  case round =>
   obtain⟨j,hj,rfl,wH,kr⟩:=hrel;by_cases hlt:j<Z s.bF
   .have cE:(j:Int)<Z s.bF:=aZ;obtain⟨b1,off,cs,rfl,hcl,hrl,d0,d⟩:=fE HP.aX j hlt bG;have HT:Hid (s.bF.take (j+1)=s.bF.take j++[s.bF[j]]):=aY bu;have hxs:=hsp.aX _ (dJ hlt);generalize s.bF[j]=x at *;obtain⟨vf,ve,rfl,hf,he⟩:=hrl w (K.rf w);have pZ:Hid (∀W,K w W->fM x (av (cB x vf ve)) W):=aY λW k=>⟨_,_,rfl,fO _ _ _ _ hf k,cM he k⟩
    have FU:=k0.tr kr;have d0:wr.cell? ⟨b1,off+j*8,U⟩=I (G J x.bA):=d0 wr FU;have d:∀i,i<8->wr.cell? ⟨b1,off+j*8+i,U⟩=(cB x vf ve)[i]?:=λi hi=>(d wr FU i hi).trans aD
    obtain⟨Af,cf,rfl⟩:=dX hf;obtain⟨Ae,ce,rfl⟩:=bH he;have Q:=bn.new wr 128 (cB x (F Af (Z x.f) cf) (F Ae (Z x.es) ce));have k5:=Q.cG;go_upto_region 10 with fail;obtain⟨vl,vp,va,A⟩:=wH.aX;have hne:aW vp≠I (D (L wr)):=λe=>by have:=(A.p.own e).2.1;omega
    have y:=aY (A.st k5);generalize wr.alloc _=M at *;generalize D (L wr)=ge at Q hne|-;replace kr:=kr.tr k5;have fY:t<=D (L M):=YW;have hN:∀k,(j9 t g vl vp va k\/aW vp=I k)->k<D (L M):=λk h=>h.elim (y.aX.lt fY k) λh=>(y.aX.p.own h).2.1
    have PW:aW vp≠I g:=λe=>((y.aX.sep g).2.1 e).2.1 rfl
    have qs:∀W,o8 vp M W->(∀i,W.cell? ⟨g,i,U⟩=(eO ⟨s.life,s.bq,s.bF.take j,s.ab⟩ vl vp va)[i]?)/\(∀i,W.cell? ⟨ge,i,U⟩=(cB x (F Af (Z x.f) cf) (F Ae (Z x.es) ce))[i]?):=λW u=>⟨(y.aX.blk.cF u PW).cell,(Q.cF u hne).cell⟩
    have hro:∀k,aW vp=I k->D (L Y)<=k:=λk e=>by rw[<- hbase];exact ((y.aX.sep k).2.1 e).1
    refine Gq 7 5 (s.bF.take j) vp x 59 tH [([],[]),([0],[(36,0)]),([],[]),([2],[(38,2)]),([3],[(39,3)]),([1,4],[(37,1),(40,4)]),([],[]),([6,5],[(42,6),(41,5)])] 45 y.aX.p fY cN ?_;iterate 3 refine bB.i ?_
    refine bB.c (tD (λk=>j9 t g vl vp va k\/aW vp=I k) cL x) (λ_ _ _ h k=>h.mut k λ_ h=>aJ h) (λW' u=>(Ru x _ W' (pZ.aX W' (k0.tr (u.k kr hro))) hxs).mono λe w' ⟨v,e1,ho,k⟩=>⟨v,e1,SL ho λk h=>cZ (hN k h) u.size,k⟩) ?_;refine bB.GZ (S:=cL) (N:=λk=>j9 t g vl vp va k\/aW vp=I k) (D (L M)) tH x (λ_ h=>h.size) (λb B=>⟨aJ B,hN b (aJ B)⟩) (λV W C hp=>?_) ?_;exact SP;refine bB.s ?_;refine bB.i ?_;refine⟨λ_ _=>trivial,λV W C hp=>?_,λV W C H hv hA=>?_⟩;exact K5;simp only[bZ,cC,dF,bS,Nat.reduceAdd]at hA;have A:=y.aX.abq C H hv;obtain⟨R,O,T⟩:=H.slice;rw[T]at A;generalize Z (s.bF.take j++[x])=n9 at *;rw[<- HT.aX]at A;have hA:=aB T hA;have B:=y.aX.blk.cF C PW;have qs:=aB B.cell B.frozen;refine bN.s ?_;refine bN.h ?_;have HS9:=aY A;have k9:K Y (aV W ⟨g,2,U⟩ (F R n9 O)):=(C.k kr hro).setCell bL _;exact ajL
   have cE:¬(j:Int)<Z s.bF:=aZ;rw[jq aZ]at wH;obtain⟨vl,vp,va,A⟩:=wH.aX;obtain⟨⟨Bl,dl,rfl⟩,⟨Bp,dp,rfl⟩,Ba,da,rfl⟩:=A.slices;have q:=A.blk.cell;have fF:=fU.bM kr;have:=fF.frozen;have:=fF.cell;obtain⟨cV,k9,u9⟩:=OL s (F Bl (Z s.bq) dl) (F Bp (Z s.bF) dp) (F Ba (Z s.ab) da) fF rfl (k0.tr kr) aZ;have H9:=aY (aB ((A.r YW).to (u9.more λk e=>show k<t by omega) (show D (L w)<=t by omega)) k9);go_wp2;generalize ax (ax (ax (ax wr _ _) _ _) _ _) _ _=W9 at *;have T:=cV.cell;refine aM (v:=av (eO s (F Bl (Z s.bq) dl) (F Bp (Z s.bF) dp) (F Ba (Z s.ab) da))) (by simp[results,results317,go_sem,T]) rfl ?_;exact⟨_,_,_,rfl,ia▸H9.aX.1,H9.aX.2⟩
theorem az0 s r v u w(h:p6 s v w)(hr:tC r u w)(hfit:lP r)(aEu:gu r.e)(ja:∀x∈s.bq,gu x)(hsp:∀x∈s.bF,gu x)(hz:Z s.bq<=900000/\Z s.bF<=900000/\Z s.ab<=900000) :aK aR 292 #[v,u] w λe w'=>∃vl vp va,e=ak (au #[av (eO (oX s r).1 vl vp va),G J (oX s r).2])/\nC (λk=>k<D (L w)) (oX s r).1 vl vp va w'/\K w w':=by
 have C1:=aY λW (k:K w W)=>atJ s v W (OK h k) ja hsp hz
 obtain⟨vl,vp,va,rfl,hl,hp,ha⟩:=h;obtain⟨Q,cl,rfl⟩:=bH hl;obtain⟨N,V,rfl⟩:=bH hp;obtain⟨C,R,rfl⟩:=bH ha;have Ey:=aY (λW (k:K w W)=>TH hr k);obtain⟨vf,ve,rfl,hf,he⟩:=hr;obtain⟨y,t,rfl⟩:=dX hf;obtain⟨A,B,rfl⟩:=bH he;have HF:=aY hfit;generalize ho:oX s r=o;have HO:=aY ho;obtain⟨j,e'⟩:=o;have HM:=aY aEu;have gI:=((bn.new w 61 (eO s (F Q (Z s.bq) cl) (F N (Z s.bF) V) (F C (Z s.ab) R))).alloc (aq (jf r (F y (Z r.e.f) t) (F A (Z r.e.es) B)) 171)).alloc (aq oK 61);have hb0:=(bn.new (aU w (aq (eO s (F Q (Z s.bq) cl) (F N (Z s.bF) V) (F C (Z s.ab) R)) 61)) 171 (jf r (F y (Z r.e.f) t) (F A (Z r.e.es) B))).alloc (aq oK 61);have O:=bn.new ((aU w (aq (eO s (F Q (Z s.bq) cl) (F N (Z s.bF) V) (F C (Z s.ab) R)) 61)).alloc (aq (jf r (F y (Z r.e.f) t) (F A (Z r.e.es) B)) 171)) 61 oK;have Y:=K.T6 w (aq (eO s (F Q (Z s.bq) cl) (F N (Z s.bF) V) (F C (Z s.ab) R)) 61) (aq (jf r (F y (Z r.e.f) t) (F A (Z r.e.es) B)) 171) (aq oK 61);simp only[World.size_alloc]at hb0 O;go_in;go_wp2_with fail
 generalize ay (ay (ay w _) _) _=w0 at *;generalize kM:D (L w)=gp at gI hb0 O|-;refine (C1.aX w0 Y).mono ?_;rintro e H⟨vl1,vp1,va1,rfl,hS,k1⟩;have hV:=hS H (bf.rf _ _);obtain⟨⟨Bl,dl,rfl⟩,⟨Bp,dp,rfl⟩,Ba,da,rfl⟩:=hV.slices;have kA:=K.new H (aq (eO s (F Bl (Z s.bq) dl) (F Bp (Z s.bF) dp) (F Ba (Z s.ab) da)) 61);have S:=k1.tr kA;have:=(hb0.bM S).cell;have HV:=aY hV;have hgr:=O.lt;have hz0:=Y.size;go_wp2_with fail
 generalize ay H _=w2 at *;generalize D (L H)=g at *;have JM:=Y.tr S;have U1:PS (D (L w0)) g s r (F Bl (Z s.bq) dl) (F Bp (Z s.bF) dp) (F Ba (Z s.ab) da) (av (jf r (F y (Z r.e.f) t) (F A (Z r.e.es) B))) w2 :=
  ⟨HV.aX,λW' u'=>Ey.aX W' (u'.k JM λk e=>by have:=HV.aX.sep k;have:=HV.aX.low;unfold abr at e;grind),S.size,hz,HM.aX,HF.aX⟩
 have M:=ahN w2 U1;rw[HO.aX]at M;have M:=aY M;apply bW M.aX;rintro w3⟨⟨vl,vp,va,T⟩,dB⟩;simp only at T|-;obtain⟨⟨El,fl,rfl⟩,⟨Ep,fp,rfl⟩,Ea,fa,rfl⟩:=T.slices;have q:=T.blk.cell;have X:=(O.bM S).below dB hgr;have:=X.frozen;have:=X.cell;obtain⟨cV,k9,u9⟩:=OL j (F El (Z j.bq) fl) (F Ep (Z j.bF) fp) (F Ea (Z j.ab) fa) X rfl (JM.trans (dB.mono hz0)) aZ;have H9:=aY (aB (T.fx.up u9 λk e=>show k<D (L w0) by omega) k9);go_wp2;generalize ax (ax (ax (ax w3 _ _) _ _) _ _) _ _=W9 at *;have e9:=cV.cell;refine aM (v:=au #[av (eO j (F El (Z j.bq) fl) (F Ep (Z j.bF) fp) (F Ea (Z j.ab) fa)),G J e']) (by simp[results,results292,go_sem,e9]) rfl ?_;exact ajM
theorem az1 n l wr:∀a∈(ox n l wr).1,nv a:=by
 simp only[ox];cases hd:vY (cD n l wr).1 with
 | none=>simp
 | some e=>exact (agD hd).2.2
theorem az2 n l wr:∀a∈(s9 n l wr).1,jN a:=by
 simp only[s9];cases hd:tU (cD n l wr).1 with
 | none=>simp
 | some e=>exact (agC hd).2.2
theorem aCT l wr:(jt l wr).1.2.2.1<18446744073709551616/\(jt l wr).1.2.2.2.1<18446744073709551616/\(jt l wr).1.2.2.2.2.2<18446744073709551616 :=
 ⟨qG _ _,qG _ _,qG _ _⟩
theorem XV a f es(A:a.2.2.1<18446744073709551616)(z:a.2.2.2.1<18446744073709551616)(B:a.2.2.2.2.2<18446744073709551616)(j:∀t∈f,jN t)(y:∀e∈es,∀a∈e,nv a) :dZ { rA a with f:=f,es:=es }:=by grind [jN,nv,dZ,rA,dA]
theorem az3 n l wr:dZ (tc n l wr).1:=by obtain⟨j,t,y⟩:=aCT l wr;unfold tc;split;exact XV _ [] _ j t y bu (aiH (λe=>∀a∈e,nv a) (az1 n) _ _ _);split;exact XV _ _ [] j t y (az2 n _ _) bu;exact XV _ [] [] j t y bu bu
theorem agQ{b x}(h:j8 b=I x):dZ x:=by grind [j8,az3]
theorem Sb:dZ fS:=by simp[dZ,fS,dA]
theorem axX n l wr:lP (pM n l wr).1:=by
 have j:∀(k m:Nat) (e:bU) (b c d:Nat),dZ e->m<18446744073709551616->c<18446744073709551616->d<18446744073709551616->lP ⟨(min k 6:Nat),m,e,(min b 16:Nat),c,d⟩:=by grind [lP,pM,dA]
 unfold pM;simp only;split
 .split;simp[lP,Lr,dA,Sb];rename_i e t;have:=j (bJ l wr).1 _ _ 0 0 0 (agQ t) (qG (bJ l wr).2.1 (bJ l wr).2.2) aZ aZ;simpa using this
 split;exact j _ _ _ _ _ _ Sb (qG _ _) (qG _ _) (qG _ _);have:=j (bJ l wr).1 _ _ 0 0 0 Sb (qG (bJ l wr).2.1 (bJ l wr).2.2) aZ aZ;simpa using this
theorem av5{b x}(h:pK b=I x):lP x:=by unfold pK at h;split at h;injection h with h;rw[<- h];exact axX _ _ _;cases h
def ng:fy (List UInt8) where
 size:=1
 rel l cs w:=∃v,cs=[v]/\sl l v w
 len:=by rintro _ _ _⟨v,rfl,_⟩;rfl
 one:=by rintro _ _ _⟨v,rfl,A,c,rfl,_⟩ u j;simp at j;subst j;rfl
 st:=by rintro _ _ _ _⟨v,rfl,h⟩ k;exact⟨v,rfl,qK _ _ _ _ h k⟩
def uP(s:eT)(b:List UInt8):eT×Int:=if xd b=0 then oX s (xc b)else (s,xd b)
def jV:eT->List (List UInt8)->eT×Int
 | s,[]=>(s,0)
 | s,b :: l=>if (uP s b).2=0 then jV (uP s b).1 l else uP s b
def vZ(l:List (List UInt8)):eT×Int:=if (jV eZ l).2=0 then jV eZ l else (eZ,(jV eZ l).2)
theorem axY l b:∀s,(jV s l).2=0->jV s (l++[b])=uP (jV s l).1 b:=by
 induction l with
 | nil => grind [jV,uP]
 | cons c l j => grind [jV,uP]
theorem az4 l m:∀s,(jV s l).2≠0->jV s (l++m)=jV s l:=by
 induction l with
 | nil=>intro s h;simp[jV]at h
 | cons c l j => grind [jV]
theorem av6{b}(h:xd b=0):∃x,pK b=I x/\xc b=x:=by
 unfold xd at h;cases hd:pK b with
 | none=>simp[hd]at h
 | some x=>exact⟨x,rfl,by simp[xc,hd]⟩
theorem aCU{l}(h:iM l=aA):Z l<=16:=by grind [iM]
theorem wX{x}(h:dE x=aA):gu x:=by
 unfold dE at h;simp only[fI,decide_eq_true_eq]at h;obtain⟨-,h⟩:=h;split at h;simp only[fI,decide_eq_true_eq,List.isEmpty_iff]at h;obtain⟨⟨⟨-,j⟩,y⟩,z⟩:=h;exact⟨bL,aZ,λe t=>by grind [aCU,yq]⟩;split at h
 .grind [dE,gu]
 split at h;simp only[fI,List.isEmpty_iff]at h;exact⟨by grind [Gv],bL,bL⟩;cases h
theorem af1:gu fS:=by simp[gu,fS]
theorem auD{x}(h:fV x=aA):gu x.e:=by
 rcases EY h with ⟨-,e,-⟩|⟨-,e,-⟩|⟨-,-,-,e⟩
 .grind [af1]
 exact wX e;grind [af1]
theorem ant s t r(h:fX s r=I t):Z t.bq<=Z s.bq+1/\Z t.bF<=Z s.bF+1/\Z t.ab<=Z s.ab+1:=by
 have j:∀(l:List bU) a,Z (kQ l a)<=Z l:=λl a=>oo _ _
 have:=j s.bF (bE r.e);have:=j s.bF (jT r);unfold fX CQ yV yX yY AZ at h;grind
theorem az5 s r:Z (oX s r).1.bq<=Z s.bq+1/\Z (oX s r).1.bF<=Z s.bF+1/\Z (oX s r).1.ab<=Z s.ab+1:=by
 unfold oX;split
 .cases h:fX s r with
  | none=>simp
  | some t=>exact ant s t r h
 simp
theorem az6 s b:Z (uP s b).1.bq<=Z s.bq+1/\Z (uP s b).1.bF<=Z s.bF+1/\Z (uP s b).1.ab<=Z s.ab+1:=by grind [uP,az5]
theorem az7 l:∀s,Z (jV s l).1.bq<=Z s.bq+Z l/\Z (jV s l).1.bF<=Z s.bF+Z l/\Z (jV s l).1.ab<=Z s.ab+Z l:=by
 induction l with
 | nil=>intro s;simp[jV]
 | cons c l j => grind [az6,jV,gH,uP]
theorem agR{l:List (List UInt8)}{j}(y:j<Z l)(t:(jV eZ (l.take j)).2=0):jV eZ (l.take (j+1))=uP (jV eZ (l.take j)).1 l[j]:=by grind [iY,axY]
theorem az8{l j}(t:j<Z l)(y:(jV eZ (l.take j)).2=0){c}(hb:(uP (jV eZ (l.take j)).1 l[j]).2=c)(B:¬c=0):vZ l=(eZ,c):=by
 have:=agR t y;have:jV eZ l=jV eZ (l.take (j+1)):=by grind [List.take_append_drop,az4]
 unfold vZ;grind
theorem axZ{l}(h:(jV eZ l).2=0):vZ l=((jV eZ l).1,0):=by grind [jV,eZ,vZ]
def oz(l:List bU):List Rec:=l.zipIdx.map λp=>⟨2,p.2,p.1,0,0,0⟩
def ny(l:List bU):List Rec:=l.map λx=>⟨3,0,x,0,0,0⟩
def sA(l:List bY):List Rec:=l.map λa=>⟨4,0,fS,a.1,a.2.1,a.2.2⟩
def yG(n:Nat):List Rec:=if n=0 then []else [⟨1,n,fS,0,0,0⟩]
def fA(s:eT):List Rec:=yG s.life++oz s.bq++ny s.bF++sA s.ab
theorem ax0(l:List bU)(j:Nat)(h:j<Z l):oz (l.take (j+1))=oz (l.take j)++[⟨2,j,l[j],0,0,0⟩]:=by unfold oz;rw[iY h,List.zipIdx_append,List.map_append];simp[sc,Nat.min_eq_left (Nat.le_of_lt h)]
theorem ax1(l:List bU)(j:Nat)(h:j<Z l):ny (l.take (j+1))=ny (l.take j)++[⟨3,0,l[j],0,0,0⟩]:=by unfold ny;exact ajN
theorem ax2(l:List bY)(j:Nat)(h:j<Z l):sA (l.take (j+1))=sA (l.take j)++[⟨4,0,fS,l[j].1,l[j].2.1,l[j].2.2⟩]:=by unfold sA;exact ajN
theorem ahO n:Z (yG n)<=1:=by grind [yG]
theorem NJ l:Z (oz l)=Z l:=by simp[oz]
theorem Sc l:Z (ny l)=Z l:=by simp[ny]
theorem XX l:Z (sA l)=Z l:=by simp[sA]
theorem aBv:(prog.info? 171).map (λi=>(i.zero,i.size,i.bytes))=I (I (av ud),13,136):=by rfl
theorem Ub:gQ aR 335 171 (av ud) 13 136:=⟨underlying335,aBv,rfl,bG⟩
theorem anu:(prog.info? 118).map (λi=>(i.zero,i.size,i.bytes))=I (I (F U 0 0),1,24):=by rfl
theorem U2:gQ aR 125 118 (F U 0 0) 1 24:=⟨underlying125,anu,rfl,bG⟩
theorem anv{k n x}{a:bY}{vf ve W}(h:fM x (av (cB x vf ve)) W):Jg.rel ⟨k,n,x,a.1,a.2.1,a.2.2⟩ (jf ⟨k,n,x,a.1,a.2.1,a.2.2⟩ vf ve).toList W:=by obtain⟨j,t,e,h1,h2⟩:=h;exact YX
theorem IH{l a}:dM l a=aA ↔ ∃x∈l,bE x=a:=by simp[dM]
theorem NK{l a}:fJ l a=aA↔a∈l:=by simp[fJ]
theorem RZ{l a x}:x∈kQ l a↔x∈l/\bE x≠a:=by simp[kQ]
structure uh(s:eT):Prop where
 nl:(s.bq.map bE).Nodup
 np:(s.bF.map bE).Nodup
 na:s.ab.Nodup
 lp:∀x∈s.bq,∀y∈s.bF,bE x≠bE y
 la:∀x∈s.bq,bE x∉s.ab
 pa:∀x∈s.bF,bE x∉s.ab
 Bd:∀x∈s.bq,dE x=aA/\dZ x
 CZ:∀x∈s.bF,dE x=aA/\dZ x
 JN:∀a∈s.ab,tV a.1=aA/\ew a
 life:s.life<18446744073709551616
theorem uh.zero:uh eZ:=⟨BU,BU,BU,BU,BU,BU,BU,BU,BU,bG⟩
theorem uh.drop{s}(h:uh s) a:uh ⟨s.life,s.bq,kQ s.bF a,s.ab⟩:=by
 have hm:∀x∈kQ s.bF a,x∈s.bF:=λx j=>(RZ.1 j).1
 refine⟨h.nl,?_,h.na,λx j y t=>h.lp x j y (hm y t),h.la,λx j=>h.pa x (hm x j),h.Bd,λx j=>h.CZ x (hm x j),h.JN,h.life⟩;exact (List.Sublist.map bE List.filter_sublist).nodup h.np
theorem RA{α:Type}[DecidableEq α]{l}{a:α}(h:l.Nodup)(t:a∉l):(l++[a]).Nodup:=by rw[List.nodup_append];refine⟨h,bu,λx z y j=>?_⟩;simp at j;subst j;rintro rfl;exact t z
theorem uh.on{s t r}(h:uh s)(hok:fV r=aA)(V:lP r)(e:fX s r=I t):uh t:=by
 have hk:=EY hok;obtain⟨-,hfn,Q,S,W,Hn⟩:=V;unfold fX CQ yV yX yY AZ at e;split at e;split at e;cases e;injection e with e;subst e;exact⟨h.nl,h.np,h.na,h.lp,h.la,h.pa,h.Bd,h.CZ,h.JN,hfn⟩;rename_i iN;split at e
 .rename_i R;have O:dE r.e=true:=ajO;split at e;cases e;split at e;cases e;rename_i M;split at e;cases e;rename_i C;injection e with e;subst e;have hm:∀x∈kQ s.bF (bE r.e),x∈s.bF/\bE x≠bE r.e:=λx j=>RZ.1 j
  have H:∀x∈s.bq,bE x≠bE r.e:=λx j e=>M (IH.2 ⟨x,j,e⟩)
  have N:bE r.e∉s.ab:=λj=>C (NK.2 j)
  have A:=h.drop (bE r.e);refine⟨?_,A.np,h.na,?_,?_,A.pa,?_,A.CZ,h.JN,h.life⟩;simp only[List.map_append,mN,List.map_nil];refine RA h.nl ?_;intro j;obtain⟨x,j,e⟩:=List.mem_map.1 j;exact H x j e;intro x j y z;rcases List.mem_append.1 j with j|j;exact h.lp x j y (hm y z).1;simp at j;subst j;exact λe=>(hm y z).2 e.symm
  intro x j;rcases List.mem_append.1 j with j|j;exact h.la x j;simp at j;subst j;exact N;intro x j;rcases List.mem_append.1 j with j|j;exact h.Bd x j;simp at j;subst j;exact⟨O,Q⟩
 rename_i R;split at e
 .rename_i lY;have O:dE r.e=true:=ajO;split at e;cases e;rename_i M;split at e;cases e;rename_i X;split at e;cases e;rename_i C;injection e with e;subst e;have H:∀x∈s.bq,bE x≠bE r.e:=λx j e=>M (IH.2 ⟨x,j,e⟩)
  have Y:∀x∈s.bF,bE x≠bE r.e:=λx j e=>X (IH.2 ⟨x,j,e⟩)
  have N:bE r.e∉s.ab:=λj=>C (NK.2 j)
  refine⟨h.nl,?_,h.na,?_,h.la,?_,h.Bd,?_,h.JN,h.life⟩;simp only[List.map_append,mN,List.map_nil];refine RA h.np ?_;intro j;obtain⟨x,j,e⟩:=List.mem_map.1 j;exact Y x j e;intro x j y z;rcases List.mem_append.1 z with z|z;exact h.lp x j y z;simp at z;subst z;exact H x j;intro x j;rcases List.mem_append.1 j with j|j;exact h.pa x j;simp at j;subst j;exact N;intro x j;rcases List.mem_append.1 j with j|j;exact h.CZ x j;simp at j;subst j;exact⟨O,Q⟩
 split at e
 .rename_i hk4;have T:tV r.br=true:=by rcases hk with ⟨g,_⟩|⟨g,_⟩|⟨_,g,_⟩;omega;omega;simp[tV,g.1,g.2]
  split at e;cases e;rename_i M;split at e;cases e;rename_i C;injection e with e;subst e;have H:∀x∈s.bq,bE x≠jT r:=λx j e=>M (IH.2 ⟨x,j,e⟩)
  have N:jT r∉s.ab:=λj=>C (NK.2 j)
  have A:=h.drop (jT r);refine⟨h.nl,A.np,RA h.na N,A.lp,?_,?_,h.Bd,A.CZ,?_,h.life⟩;intro x j hm;rcases List.mem_append.1 hm with hm|hm;exact h.la x j hm;simp at hm;exact H x j hm;intro x j hm;rcases List.mem_append.1 hm with hm|hm;exact A.pa x j hm;simp at hm;exact (RZ.1 j).2 hm;intro a B;rcases List.mem_append.1 B with B|B;exact h.JN a B;simp at B;subst B;exact⟨T,S,W,Hn⟩
 split at e;injection e with e;subst e;exact h.drop _;cases e
def lD:eT->List Rec->Option eT
 | s,[]=>I s
 | s,r :: l=>(fX s r).bind λt=>lD t l
theorem Sd l m:∀s,lD s (l++m)=(lD s l).bind λt=>lD t m:=by
 induction l with
 | nil=>intro s;rfl
 | cons r l j =>
  intro s;simp only[cC,lD];cases fX s r with
  | none=>rfl
  | some t=>exact j t
theorem ahP l(h:∀r∈l,fV r=aA/\lP r):∀s t,lD s l=I t->jV s (l.map dG)=(t,0):=by
 induction l with
 | nil=>intro s t e;injection e with e;subst e;rfl
 | cons r l A =>
  intro s t e;obtain⟨y,z⟩:=h r bu;simp only[lD]at e;cases ho:fX s r with
  | none=>rw[ho]at e;cases e
  | some u =>
   rw[ho]at e;have j:=avU r y z;have B:uP s (dG r)=(u,0):=by unfold uP;rw[(WW j).1,(WW j).2,bV rfl,ahM y ho];rfl
   simp only[mN,jV,B,if_true];exact A (λx hx=>h x K0) u t e
theorem aDJ n:lD eZ (yG n)=I ⟨n,[],[],[]⟩:=by
 unfold yG;split
 .rename_i h;subst h;rfl
 rename_i h;simp[lD,fX,CQ,eZ,h]
theorem aDK n l:∀a:List bU,((a++l).map bE).Nodup->lD ⟨n,a,[],[]⟩ ((l.zipIdx (Z a)).map λp=>⟨2,p.2,p.1,0,0,0⟩)=I ⟨n,a++l,[],[]⟩:=by
 induction l with
 | nil=>intro a _;simp[lD]
 | cons x l t =>
  intro a h;have z:dM a (bE x)=false:=ajP;have j:fX ⟨n,a,[],[]⟩ ⟨2,Z a,x,0,0,0⟩=I ⟨n,a++[x],[],[]⟩:=by simp[fX,yV,z,fJ,kQ]
  simp only[List.zipIdx_cons,mN,lD,j,Option.bind_some];have:=t (a++[x]) Dz;simpa using this
theorem aDL n j l:∀a:List bU,((a++l).map bE).Nodup->(∀x∈j,∀y∈l,bE x≠bE y)->lD ⟨n,j,a,[]⟩ (ny l)=I ⟨n,j,a++l,[]⟩:=by
 induction l with
 | nil=>intro a _ _;simp[lD,ny]
 | cons x l A =>
  intro a h z;have t:dM a (bE x)=false:=ajP;have hy:dM j (bE x)=false:=by rw[Bool.eq_false_iff];intro hh;obtain⟨y,hy,e⟩:=IH.1 hh;exact z y hy x bu e
  have B:fX ⟨n,j,a,[]⟩ ⟨3,0,x,0,0,0⟩=I ⟨n,j,a++[x],[]⟩:=by simp[fX,yX,t,hy,fJ]
  simp only[ny,mN,lD,B,Option.bind_some];have:=A (a++[x]) Dz (λx t y hy=>z x t y K6);simpa [ny]using this
theorem az9{l a}(h:∀x∈l,bE x≠a):kQ l a=l:=by unfold kQ;rw[List.filter_eq_self];intro x j;simpa using h x j
theorem aDM n t P l:∀a:List bY,(a++l).Nodup->(∀x∈t,bE x∉l)->(∀x∈P,bE x∉l)->lD ⟨n,t,P,a⟩ (sA l)=I ⟨n,t,P,a++l⟩:=by
 induction l with
 | nil=>intro a _ _ _;simp[lD,sA]
 | cons x l H =>
  intro a h B A;have N:fJ a x=false:=by rw[Bool.eq_false_iff];intro z;exact (List.nodup_append.1 h).2.2 x (NK.1 z) x bu rfl
  have j:dM t x=false:=by rw[Bool.eq_false_iff];intro z;obtain⟨y,j,e⟩:=IH.1 z;exact B y j IW
  have C:kQ P x=P:=az9 λy j e=>A y j IW
  have M:fX ⟨n,t,P,a⟩ ⟨4,0,fS,x.1,x.2.1,x.2.2⟩=I ⟨n,t,P,a++[x]⟩:=by simp[fX,yY,jT,N,j,C]
  simp only[sA,mN,lD,M,Option.bind_some];have:=H (a++[x]) Dz (λy j hm=>B y j (by simp[hm])) (λy j hm=>A y j (by simp[hm]));simpa [sA]using this
theorem aAa{s}(h:uh s):lD eZ (fA s)=I s:=by unfold fA;rw[Sd,Sd,Sd,aDJ];simp only[Option.bind_some];have j:=aDK s.life s.bq [] (by simpa using h.nl);simp only[List.length_nil,bZ]at j;unfold oz;rw[j];simp only[Option.bind_some];rw[aDL s.life s.bq s.bF [] (by simpa using h.np) h.lp];simp only[Option.bind_some,bZ];rw[aDM s.life s.bq s.bF s.ab [] (by simpa using h.na) h.la h.pa];rfl
theorem II:dZ fS:=by simp[dZ,fS,dA]
theorem YY{s}(h:uh s)(hz:Z s.bq<=1000000):∀r∈fA s,fV r=aA/\lP r:=by intro r j;have z:dA 0:=tQ;unfold fA at j;simp only[r7]at j;rcases j with ((j|j)|j)|j;unfold yG at j;split at j;cases j;simp at j;subst j;exact⟨by simp[fV,zY],tQ,h.life,II,z,bu,bu⟩;unfold oz at j;obtain⟨⟨x,k⟩,A,rfl⟩:=List.mem_map.1 j;have hm:=List.mem_zipIdx A;obtain⟨y,t⟩:=h.Bd x (by have:=hm.2.2;rw[this];exact dJ _);exact⟨by simp[fV,y,zY],tQ,by simp only;omega,t,z,bu,bu⟩;unfold ny at j;obtain⟨x,A,rfl⟩:=List.mem_map.1 j;obtain⟨y,t⟩:=h.CZ x A;exact⟨by simp[fV,y,zY],tQ,bu,t,z,bu,bu⟩;unfold sA at j;obtain⟨a,B,rfl⟩:=List.mem_map.1 j;obtain⟨y,t,H,C⟩:=h.JN a B;exact⟨by simp[fV,y],tQ,bu,II,t,H,C⟩
abbrev rO(α:Type):=List UInt8->Bool->Bool->α×List UInt8×Bool×Bool
structure wg{α:Type}(enc:α->List UInt8)(ok:α->Prop)(rd:rO α):Prop where
 fwd:∀x,ok x->∀rest,rd (enc x++rest) az az=(x,rest,az,az)
 back:∀l wr bd,(rd l wr bd).2.2.1=az->(rd l wr bd).2.2.2=az->l=enc (rd l wr bd).1++(rd l wr bd).2.1/\wr=az/\bd=az
 len:∀l wr bd,Z (rd l wr bd).2.1<=Z l
def Fw:rO Nat:=λl j t=>((bJ l j).1,(bJ l j).2.1,(bJ l j).2.2,t)
def nP(y:Nat):rO Nat:=λl j t=>if (bJ l j).1<y then ((bJ l j).1,(bJ l j).2.1,(bJ l j).2.2,t)else (0,(bJ l j).2.1,(bJ l j).2.2,aA)
theorem RC:wg bO (λn=>n<18446744073709551616) Fw where
 fwd:=by intro n h A;simp only[Fw,tO n h]
 back:=by intro l j z y t;simp only[Fw]at y t|-;obtain⟨e,w⟩:=xa y;exact⟨e,w,t⟩
 len:=λl j _=>qF l j
theorem BK t(B:t<=18446744073709551616):wg bO (λn=>n<t) (nP t) where
 fwd:=by intro n h C;simp only[nP,tO n aZ];rw[bV h]
 back:=by
  intro l z A y j;simp only[nP]at y j|-;split at j
  .rename_i h;rw[bV h]at y|-;obtain⟨e,w⟩:=xa y;exact⟨e,w,j⟩
  cases j
 len:=by intro l z A;have:=qF l z;simp only[nP];split <;> exact this
theorem DF j(y:0<j) l wr t:(nP j l wr t).1<j:=by grind [nP]
def oq{α β:Type}(a:rO α)(b:rO β):rO (α×β):=λl t j =>
 (((a l t j).1,(b (a l t j).2.1 (a l t j).2.2.1 (a l t j).2.2.2).1),(b (a l t j).2.1 (a l t j).2.2.1 (a l t j).2.2.2).2)
theorem xZ{α β N eb M C z H}(A:wg N M z)(B:wg eb C H) :
 wg (λx:α×β=>N x.1++eb x.2) (λx=>M x.1/\C x.2) (oq z H) where
 fwd:=by rintro ⟨x,y⟩ ⟨t,j⟩ X;simp only[oq,gA,A.fwd x t,B.fwd y j]
 back:=by intro l S R t j;simp only[oq]at t j|-;obtain⟨Q,W,T⟩:=B.back _ _ _ t j;obtain⟨V,O,P⟩:=A.back _ _ _ W T;refine⟨?_,O,P⟩;rw[gA,<- Q];exact V
 len:=λl S R=>cQ (B.len _ _ _) (A.len _ _ _)
def GU{α β:Type}(f:α->β)(a:rO α):rO β:=λl t j=>(f (a l t j).1,(a l t j).2)
theorem agS{α β z B t}(A:wg z B t) f{eb H}(g:β->α)(R:∀y,H y->B (g y)/\f (g y)=y/\eb y=z (g y))(P:∀l wr j,eb (f (t l wr j).1)=z (t l wr j).1):wg eb H (GU f t) where
 fwd:=by intro y Q T;obtain⟨O,N,S⟩:=R y Q;simp only[GU,S,A.fwd _ O,N]
 back:=by intro l wr j M C;simp only[GU]at M C|-;rw[P];exact A.back _ _ _ M C
 len:=λl wr j=>A.len l wr j
def ji{α:Type}(rd:rO α):Nat->rO (List α)
 | 0=>λl t j=>([],l,t,j)
 | k+1=>λl t j=>((ji rd k l t j).1++[(rd (ji rd k l t j).2.1 (ji rd k l t j).2.2.1 (ji rd k l t j).2.2.2).1],(rd (ji rd k l t j).2.1 (ji rd k l t j).2.2.1 (ji rd k l t j).2.2.2).2)
section
variable {α:Type}{enc:α->List UInt8}{ok:α->Prop}{rd:rO α}
theorem NL(C:wg enc ok rd) k l wr j:Z (ji rd k l wr j).2.1<=Z l/\Z (ji rd k l wr j).1=k:=by
 induction k with
 | zero=>exact⟨bP _,rfl⟩
 | succ k t=>exact⟨cQ (C.len _ _ _) t.1,by grind [ji]⟩
theorem aAb(p:α->Prop)(t:∀l wr j,p (rd l wr j).1) k l wr j:∀x∈(ji rd k l wr j).1,p x:=by
 induction k with
 | zero=>simp[ji]
 | succ k y => grind [ji]
theorem aAc(C:wg enc ok rd)(l:List α)(h:∀x∈l,ok x) rest:∀k,k<=Z l->ji rd k (l.flatMap enc++rest) az az=(l.take k,(l.drop k).flatMap enc++rest,az,az):=by
 intro k;induction k with
 | zero=>intro _;simp[ji]
 | succ k ih => intro j;have hk':k<Z l:=aZ;have hd:l.drop k=l[k] :: l.drop (k+1):=bu;have hx:=h l[k] (dJ hk');simp only[ji];exact aiJ
theorem ax3(C:wg enc ok rd){k l wr j}(h:(ji rd k l wr j).2.2.1=az)(t:(ji rd k l wr j).2.2.2=az):l=(ji rd k l wr j).1.flatMap enc++(ji rd k l wr j).2.1/\wr=az/\j=false:=by
 induction k with
 | zero=>exact⟨dH,h,t⟩
 | succ k B => simp only[ji]at h t|-;obtain⟨A,y,z⟩:=C.back _ _ _ h t;grind
def ik(enc:α->List UInt8)(l:List α):List UInt8:=bO (Z l)++l.flatMap enc
def jy(rd:rO α):rO (List α):=λl t j=>ji rd (nP 17 l t j).1 (nP 17 l t j).2.1 (nP 17 l t j).2.2.1 (nP 17 l t j).2.2.2
theorem sS(C:wg enc ok rd):wg (ik enc) (λl=>Z l<=16/\∀x∈l,ok x) (jy rd) where
 fwd:=by rintro l⟨t,j⟩ O;simp only[jy,ik,gA,(BK 17 aZ).fwd (Z l) (by show Z l<17;omega)];rw[aAc C l j O (Z l) (bP _)];simp
 back:=by intro l B y t j;simp only[jy]at t j|-;obtain⟨H,z,A⟩:=ax3 C t j;obtain⟨Q,N,M⟩:=(BK 17 aZ).back _ _ _ z A;refine⟨?_,N,M⟩;unfold ik;rw[(NL C _ _ _ _).2,gA,<- H];exact Q
 len:=λl B y=>cQ (NL C _ _ _ _).1 ((BK 17 aZ).len _ _ _)
end
structure nD where
 id:bY
 yes:Bool
 deriving DecidableEq
structure ig where
 bA:Int
 got:Nat
 eE:List nD
 cR:List bU
 eM:List bU
 gq:List bU
 fc:List bY
 fQ:List bY
 deriving DecidableEq
def Ck:ig:=⟨0,0,[],[],[],[],[],[]⟩
def rC(a:bY):Bool:=tV a.1
def wh(v:nD):Bool:=tV v.id.1
def mS{α:Type}(p:α->Bool)(l:List α):Bool:=decide (Z l<=16)&&l.all p
def D6(m:ig):Bool:=if m.bA=1 then m.eM.isEmpty&&m.gq.isEmpty&&m.fc.isEmpty&&m.fQ.isEmpty else if m.bA=2 then m.eE.isEmpty&&m.cR.isEmpty else az
def fT(m:ig):Bool:=D6 m&&mS wh m.eE&&mS dE m.cR&&mS dE m.eM&&mS dE m.gq&&mS rC m.fc&&mS rC m.fQ
def ku(m:ig):Int:=if fT m then 0 else 130
def pU(m:ig):Prop:=dA m.bA/\m.got<18446744073709551616/\(∀v∈m.eE,ew v.id)/\(∀x∈m.cR,dZ x)/\(∀x∈m.eM,dZ x)/\(∀x∈m.gq,dZ x)/\(∀a∈m.fc,ew a)/\∀a∈m.fQ,ew a
def nJ(v:nD):List UInt8:=iG v.id++bO (if v.yes then 1 else 0)
def jd(x:bU):List UInt8:=jL (rW x)
def jO(m:ig):List UInt8:=bO (cO m.bA)++bO m.got++(if m.bA=1 then ik nJ m.eE++ik jd m.cR else ik jd m.eM++ik jd m.gq++ik iG m.fc++ik iG m.fQ)
def OZ(m:ig):List UInt8:=if fT m then jO m else []
def kp:rO bY:=GU (λx=>((x.1:Int),x.2.1,x.2.2)) (oq (nP 16) (oq Fw Fw))
def pV:rO nD:=GU (λx=>⟨x.1,decide (x.2=1)⟩) (oq kp (nP 2))
def kV(n:Int):rO bU:=λl j t=>(om (cD n l j).1,(cD n l j).2.1,(cD n l j).2.2,t||(j8 (cD n l j).1).isNone)
theorem Gr:wg iG (λa=>tV a.1=aA/\ew a) kp:=by
 refine agS (xZ (BK 16 aZ) (xZ RC RC)) _ (λa:bY=>(a.1.toNat,a.2.1,a.2.2)) ?_ ?_
 .rintro ⟨b,l,s⟩ ⟨h1,h2⟩;simp only[tV,fI,decide_eq_true_eq]at h1;refine⟨⟨aZ,h2.2.1,h2.2.2⟩,?_,?_⟩
  .grind
  grind [iG,wY]
 intro l t j;have:=DF 16 aZ l t j;simp only[oq,iG];rw[wY _ aZ aZ];simp
theorem RD:wg nJ (λv=>tV v.id.1=aA/\ew v.id) pV:=by refine agS (xZ Gr (BK 2 aZ)) _ (λv:nD=>(v.id,if v.yes then 1 else 0)) ?_ ?_;rintro ⟨a,y⟩ ⟨A,z⟩;refine⟨⟨⟨A,z⟩,bL⟩,bu,rfl⟩;intro l t j;simp only[oq,nJ];have z:=DF 2 aZ (kp l t j).2.1 (kp l t j).2.2.1 (kp l t j).2.2.2;grind
theorem Dv n:wg jd (λx=>dE x=aA/\dZ x/\(Z (gB x):Int)<=n) (kV n) where
 fwd:=by
  rintro x⟨t,j,B⟩ H;have:=Nz t j;have C:=IG n (gB x) aZ B H;have e:rW x=gB x:=by unfold rW;rw[t];rfl
  simp only[kV,jd,jL,e];rw[C];simp only[om,agE x t j];rfl
 back:=by
  intro l y O t j;simp only[kV,Bool.or_eq_false_iff]at t j|-;obtain⟨A,_,z⟩:=Gx t;cases hd:j8 (cD n l y).1 with
  | none=>rw[hd]at j;cases j.2
  | some x =>
   obtain⟨N,M⟩:=Xg hd;refine⟨?_,z,j.1⟩;have e:rW x=gB x:=by unfold rW;rw[M];rfl
   simp only[om,hd,Option.getD_some,jd,jL,e];rw[<- N];exact A
 len:=λl y _=>GD n l y
def jj:rO (Nat×Nat):=oq (nP 3) Fw
def Cl(n:Int):rO (List nD×List bU):=oq (jy pV) (jy (kV n))
def rD(n:Int):rO (List bU×List bU×List bY×List bY):=oq (jy (kV n)) (oq (jy (kV n)) (oq (jy kp) (jy kp)))
def oM(n:Int):rO ig:=λl t j =>
 if (jj l t j).1.1=1 then (⟨1,(jj l t j).1.2,(Cl n (jj l t j).2.1 (jj l t j).2.2.1 (jj l t j).2.2.2).1.1,(Cl n (jj l t j).2.1 (jj l t j).2.2.1 (jj l t j).2.2.2).1.2,[],[],[],[]⟩,(Cl n (jj l t j).2.1 (jj l t j).2.2.1 (jj l t j).2.2.2).2)
 else if (jj l t j).1.1=2 then (⟨2,(jj l t j).1.2,[],[],(rD n (jj l t j).2.1 (jj l t j).2.2.1 (jj l t j).2.2.2).1.1,(rD n (jj l t j).2.1 (jj l t j).2.2.1 (jj l t j).2.2.2).1.2.1,(rD n (jj l t j).2.1 (jj l t j).2.2.1 (jj l t j).2.2.2).1.2.2.1,(rD n (jj l t j).2.1 (jj l t j).2.2.1 (jj l t j).2.2.2).1.2.2.2⟩,(rD n (jj l t j).2.1 (jj l t j).2.2.1 (jj l t j).2.2.2).2)
 else (⟨((jj l t j).1.1:Int),(jj l t j).1.2,[],[],[],[],[],[]⟩,(jj l t j).2)
def tj(b:List UInt8):Option ig:=if !(oM (Z b) b az az).2.2.2&&(!(oM (Z b) b az az).2.2.1&&(oM (Z b) b az az).2.1.isEmpty)&&fT (oM (Z b) b az az).1 then I (oM (Z b) b az az).1 else U
def sg(b:List UInt8):ig:=(tj b).getD Ck
def zS(b:List UInt8):Int:=if (tj b).isSome then 0 else 130
theorem SR{n l y wr z j t g}(h:jj l wr z=((1,g),y,j,t)):oM n l wr z=(⟨1,g,(Cl n y j t).1.1,(Cl n y j t).1.2,[],[],[],[]⟩,(Cl n y j t).2):=by grind [oM]
theorem SS{n l y wr z j t g}(h:jj l wr z=((2,g),y,j,t)):oM n l wr z=(⟨2,g,[],[],(rD n y j t).1.1,(rD n y j t).1.2.1,(rD n y j t).1.2.2.1,(rD n y j t).1.2.2.2⟩,(rD n y j t).2):=by grind [oM]
theorem anw{n l z wr j t y k g}(h:jj l wr j=((k,g),z,t,y))(B:¬k=1)(A:¬k=2):oM n l wr j=(⟨(k:Int),g,[],[],[],[],[],[]⟩,z,t,y):=by grind [jj,oM]
theorem aAd{α p}{l:List α}:mS p l=aA↔Z l<=16/\∀x∈l,p x=true:=by grind [mS]
theorem NC{m}(h:fT m=aA):((m.bA=1/\m.eM=[]/\m.gq=[]/\m.fc=[]/\m.fQ=[])\/(m.bA=2/\m.eE=[]/\m.cR=[])) /\(Z m.eE<=16/\∀x∈m.eE,wh x=aA)/\(Z m.cR<=16/\∀x∈m.cR,dE x=aA)/\(Z m.eM<=16/\∀x∈m.eM,dE x=aA)/\(Z m.gq<=16/\∀x∈m.gq,dE x=aA) /\(Z m.fc<=16/\∀x∈m.fc,rC x=aA)/\(Z m.fQ<=16/\∀x∈m.fQ,rC x=aA):=by simp only[fT,fI,aAd]at h;obtain⟨⟨⟨⟨⟨⟨B,z⟩,t⟩,C⟩,y⟩,A⟩,j⟩:=h;grind [fT,wh,dE,rC,D6]
def Uc(n:Int)(m:ig):Prop:=(∀x∈m.cR,(Z (gB x):Int)<=n)/\(∀x∈m.eM,(Z (gB x):Int)<=n)/\∀x∈m.gq,(Z (gB x):Int)<=n
theorem aBw n m(h:fT m=aA)(hf:pU m)(hn:Uc n m) rest:oM n (jO m++rest) az az=(m,rest,az,az):=by
 obtain⟨O,C,A,M,B,H,y⟩:=NC h;obtain⟨bA,got,eE,cR,eM,gq,fc,fQ⟩:=m;obtain⟨-,z,Q,V,Y,W,S,T⟩:=hf;obtain⟨n1,n2,N⟩:=hn;simp only at O C A M B H y z Q V Y W S T n1 n2 N;have R:=xZ (BK 3 aZ) RC;rcases O with ⟨rfl,rfl,rfl,rfl,rfl⟩|⟨rfl,rfl,rfl⟩;have e:jO ⟨1,got,eE,cR,[],[],[],[]⟩++rest=(bO 1++bO got)++((ik nJ eE++ik jd cR)++rest):=by grind [jO,gA,cO]
 rw[e,SR (R.fwd (1,got) ⟨aZ,z⟩ _)];have C1:=xZ (sS RD) (sS (Dv n));have:=C1.fwd (eE,cR) ⟨⟨C.1,λv X=>⟨C.2 v X,Q v X⟩⟩,A.1,λx j=>⟨A.2 x j,V x j,n1 x j⟩⟩ rest;simp only at this;unfold Cl;rw[this];have e:jO ⟨2,got,[],[],eM,gq,fc,fQ⟩++rest=(bO 2++bO got)++((ik jd eM++(ik jd gq++(ik iG fc++ik iG fQ)))++rest):=by grind [jO,gA,cO]
 rw[e,SS (R.fwd (2,got) ⟨aZ,z⟩ _)];have C2:=xZ (sS (Dv n)) (xZ (sS (Dv n)) (xZ (sS Gr) (sS Gr)));have:=C2.fwd (eM,gq,fc,fQ) ⟨⟨M.1,λx j=>⟨M.2 x j,Y x j,n2 x j⟩⟩,⟨B.1,λx j=>⟨B.2 x j,W x j,N x j⟩⟩,⟨H.1,λa t=>⟨H.2 a t,S a t⟩⟩,y.1,λa t=>⟨y.2 a t,T a t⟩⟩ rest;simp only at this;unfold rD;rw[this]
theorem aAe n l wr j(B:(oM n l wr j).2.2.1=az)(A:(oM n l wr j).2.2.2=az)(ok:fT (oM n l wr j).1=aA):l=jO (oM n l wr j).1++(oM n l wr j).2.1/\wr=az/\j=false:=by
 have T:=xZ (BK 3 aZ) RC;obtain⟨k,g,z,t,y,C⟩:∃k g z t y,jj l wr j=((k,g),z,t,y):=⟨_,_,_,_,_,rfl⟩;have H:=T.back l wr j;rw[show oq (nP 3) Fw l wr j=((k,g),z,t,y)from C]at H;simp only at H;by_cases R:k=1;subst R;rw[SR C]at B A ok|-;simp only at B A ok|-;have V:=xZ (sS RD) (sS (Dv n));obtain⟨O,c1,c2⟩:=V.back z t y B A;obtain⟨N,c3,c4⟩:=H c1 c2;refine⟨?_,c3,c4⟩;have e:∀v a,jO ⟨1,g,v,a,[],[],[],[]⟩=(bO 1++bO g)++(ik nJ v++ik jd a):=by intro v a;simp[jO,show cO 1=1 from rfl]
 rw[e,gA (bO 1++bO g)];unfold Cl;rw[<- O];exact N;by_cases Q:k=2;subst Q;rw[SS C]at B A ok|-;simp only at B A ok|-;have S:=xZ (sS (Dv n)) (xZ (sS (Dv n)) (xZ (sS Gr) (sS Gr)));have M:=S.back z t y;rw[show oq (jy (kV n)) (oq (jy (kV n)) (oq (jy kp) (jy kp))) z t y=rD n z t y from rfl]at M;generalize rD n z t y=r at *;obtain⟨⟨W,Y,rc,rd⟩,rl,rw_,X⟩:=r;simp only at B A ok M|-;obtain⟨O,c1,c2⟩:=M B A;obtain⟨N,c3,c4⟩:=H c1 c2;refine⟨?_,c3,c4⟩;have e:∀a b c d,jO ⟨2,g,[],[],a,b,c,d⟩=(bO 2++bO g)++(ik jd a++(ik jd b++(ik iG c++ik iG d))):=by intro a b c d;simp[jO,show cO 2=2 from rfl]
 rw[e,gA (bO 2++bO g),<- O];exact N;rw[anw C R Q]at ok;have:=(NC ok).1;simp only at this;omega
theorem aAf{α} enc l(x:α)(j:x∈l):Z (enc x)<=Z (ik enc l):=by obtain⟨s,t,rfl⟩:=List.append_of_mem j;grind [ik]
theorem aAg m(h:fT m=aA):Uc (Z (jO m):Int) m:=by
 obtain⟨j,H,A,O,z,B,C⟩:=NC h;have key:∀(l:List bU),(∀x∈l,dE x=aA)->Z (ik jd l)<=Z (jO m)->∀x∈l,(Z (gB x):Int)<=(Z (jO m):Int):=by grind [aAf,jd,rW,gB,jL,fg]
 rcases j with ⟨k,t,y,M,N⟩|⟨k,t,y⟩
 .grind [fT,Uc,jO]
 grind [fT,Uc,jO]
theorem ND{b m}(h:tj b=I m):b=jO m/\fT m=true:=by
 unfold tj at h;split at h
 .rename_i hq;injection h with h;simp only[fI,Bool.not_eq_true',List.isEmpty_iff]at hq;obtain⟨⟨j,t,z⟩,y⟩:=hq;grind [aAe]
 cases h
theorem aAh m(h:fT m=aA)(j:pU m):tj (jO m)=I m:=by have t:=aBw (Z (jO m):Int) m h j (aAg m h) [];rw[List.append_nil]at t;unfold tj;grind
theorem av7 b:dZ (om b):=by
 unfold om;cases h:j8 b with
 | none=>exact Sb
 | some x=>exact agQ h
theorem XB l wr j:ew (kp l wr j).1:=by have h:=DF 16 aZ l wr j;refine⟨?_,qG _ _,qG _ _⟩;simp only[kp,GU,oq,dA];omega
theorem aAi l wr j:ew (pV l wr j).1.id:=XB l wr j
theorem XY n l wr j:dZ (kV n l wr j).1:=av7 _
theorem KT{α rd}(p:α->Prop)(t:∀l wr j,p (rd l wr j).1) l wr j:∀x∈(jy rd l wr j).1,p x:=aAb p t _ _ _ _
theorem aAj n l wr j:(∀v∈(Cl n l wr j).1.1,ew v.id)/\∀x∈(Cl n l wr j).1.2,dZ x :=
 ⟨KT (λv:nD=>ew v.id) aAi l wr j,KT dZ (XY n) _ _ _⟩
theorem aAk n l wr t:(∀x∈(rD n l wr t).1.1,dZ x)/\(∀x∈(rD n l wr t).1.2.1,dZ x)/\(∀x∈(rD n l wr t).1.2.2.1,ew x)/\∀x∈(rD n l wr t).1.2.2.2,ew x:=by
 obtain⟨z,N⟩:∃r,jy (kV n) l wr t=r:=⟨_,rfl⟩;obtain⟨j,H⟩:∃r,jy (kV n) z.2.1 z.2.2.1 z.2.2.2=r:=⟨_,rfl⟩;obtain⟨y,O⟩:∃r,jy kp j.2.1 j.2.2.1 j.2.2.2=r:=⟨_,rfl⟩;obtain⟨Q,M⟩:∃r,jy kp y.2.1 y.2.2.1 y.2.2.2=r:=⟨_,rfl⟩;have C:=KT dZ (XY n) l wr t;have B:=KT dZ (XY n) z.2.1 z.2.2.1 z.2.2.2;have P:=KT ew XB j.2.1 j.2.2.1 j.2.2.2;have A:=KT ew XB y.2.1 y.2.2.1 y.2.2.2;have e:(rD n l wr t).1=(z.1,j.1,y.1,Q.1):=by simp only[rD,oq,N,H,O,M]
 rw[e];rw[N]at C;rw[H]at B;rw[O]at P;rw[M]at A;exact⟨C,B,P,A⟩
theorem aBx n l wr j:pU (oM n l wr j).1:=by have A:(jj l wr j).1.2<18446744073709551616:=qG _ _;have C:(jj l wr j).1.1<3:=DF 3 aZ l wr j;obtain⟨k,g,z,t,y,B⟩:∃k g z t y,jj l wr j=((k,g),z,t,y):=⟨_,_,_,_,_,rfl⟩;rw[B]at A C;simp only at A C;by_cases M:k=1;subst M;rw[SR B];have:=aAj n z t y;exact⟨tQ,A,this.1,this.2,bu,bu,bu,bu⟩;by_cases H:k=2;subst H;rw[SS B];have:=aAk n z t y;exact⟨tQ,A,bu,bu,this.1,this.2.1,this.2.2.1,this.2.2.2⟩;grind [pU,oM,dA]
theorem NM{b m}(h:tj b=I m):pU m:=by grind [tj,aBx]
abbrev eI(a:bY):Array aQ:=#[G J a.1,G E (a.2.1:Int),G E (a.2.2:Int)]
abbrev jA(v:nD):Array aQ:=#[G J v.id.1,G E (v.id.2.1:Int),G E (v.id.2.2:Int),ar v.yes]
def qV:fy nD where
 size:=4
 rel v cs _:=cs=(jA v).toList
 len:=by rintro _ _ _ rfl;rfl
 one:=by rintro x _ _ rfl u j;simp at j;rcases j with rfl|rfl|rfl|rfl <;> rfl
 st:=by rintro _ _ _ _ h _;exact h
abbrev nh(m:ig)(v1 v2 v3 v4 v5 v6:aQ):Array aQ:=#[G J m.bA,G E (m.got:Int),v1,v2,v3,v4,v5,v6]
def nU(m:ig)(v:aQ)(w:aP):Prop:=∃z t j A B y,v=av (nh m z t j A B y)/\bD qV m.eE z w/\bD cL m.cR t w/\bD cL m.eM j w/\bD cL m.gq A w/\bD dQ m.fc B w/\bD dQ m.fQ y w
theorem aaW{m v w w'}(h:nU m v w)(k:K w w'):nU m v w':=by obtain⟨H,A,z,O,P,B,e,C,t,N,y,M,j⟩:=h;exact⟨H,A,z,O,P,B,e,cM C k,cM t k,cM N k,cM y k,cM M k,cM j k⟩
theorem afp a w :aK aR 274 #[av (eI a)] w λe z=>e=ak (ar (rC a))/\K w z:=by obtain⟨j,t,y⟩:=a;have k1:=K.new w (aq (eI (j,t,y)) 42);have HR:Hid (rC (j,t,y)=(decide (0<=j)&&decide (j<16))):=aY rfl;generalize rC (j,t,y)=R at *;by_cases h0:(0:Int)<=j;by_cases h1:j<(16:Int);exact ajQ;exact ajQ;go_in;go_wp2;go_ret;exact⟨by rw[HR.aX];simp;intro;omega,k1⟩
theorem auE x w :aK aR 273 #[av (jA x)] w λe j=>e=ak (ar (wh x))/\K w j:=by
 have k1:=K.new w (aq (jA x) 300);go_in;go_wp2_with fail
 generalize w.alloc _=t at *;apply bW (afp x.id t);intro z y;go_wp2;go_ret;exact⟨dH,k1.tr y⟩
theorem av8 x v w(h:fM x v w) :aK aR 275 #[v] w λe A=>e=ak (ar (dE x))/\K w A:=by
 obtain⟨vf,O,rfl,j,y⟩:=h;obtain⟨H,B,rfl⟩:=dX j;obtain⟨z,C,rfl⟩:=bH y;have k1:=K.new w (aq (cB x (F H (Z x.f) B) (F z (Z x.es) C)) 128);have M:=aY (Nb x _ _ ⟨_,_,rfl,fO _ _ _ _ j k1,cM y k1⟩);go_in;go_wp2_with fail
 generalize w.alloc _=N at *;apply bW M.aX;intro Q t;cases hok:dE x
 .rw[ID hok];go_wp2;go_ret;exact⟨by simp[hok],k1.tr t⟩
 rw[Ns hok];go_wp2;go_ret;exact⟨by simp[hok],k1.tr t⟩
theorem as4 l v w(h:bD qV l v w) :aK aR 276 #[v,.func (Fn.func 273) #[] #[]] w λe N=>e=ak (ar (mS wh l))/\K w N:=by
 obtain⟨A,c,rfl,Q,hc⟩:=h;have HI:Hid (mS wh l=(decide (Z l<=16)&&l.all wh)):=aY rfl;generalize mS wh l=R at *;have kk:=K.rf w;go_in;by_cases lF:Z l<=16;rotate_left;exact YZ;have Cg:¬(16:Int)<(Z l:Int):=aZ;go_wp2_with fail
 go_loopw [6,12] (fun _ i wr=>∃j:Nat,j<=Z l/\i=G J j/\Hid ((l.take j).all wh=aA)/\K w wr) (fun _ i _=>Z l-(aO i).toNat)
 case atStart=>exact⟨0,aZ,rfl,aY bu,kk⟩
 case round =>
  obtain⟨j,hj,rfl,HT,kr⟩:=hrel;by_cases y:j<Z l
  .have cE:(j:Int)<Z l:=aZ;obtain⟨z,H,Y,rfl,hcl,S,C,d⟩:=fE Q j y bG;have HS:=aY (Ky wh l j y);generalize l[j]=x at *;obtain rfl:=S w (K.rf w);have C:∀W,K wr W->W.cell? ⟨z,H+j*4,U⟩=I (G J x.id.1):=λW t=>C W (kr.tr t)
   have d:∀W,K wr W->∀i,i<4->W.cell? ⟨z,H+j*4+i,U⟩=(jA x)[i]?:=λW t i T=>(d W (kr.tr t) i T).trans aD
   have kk:=K.rf wr;have M:=bn.new wr 300 (jA x);have O:=M.cG;go_upto_region 6 with fail;have V:=kr.tr O;generalize wr.alloc _=B at *;generalize D (L wr)=gx at *;have q:=M.cells;have kk:=K.rf B;go_wp2_with fail
   apply eu (auE x B) V;intro X k4 xO;cases hq:wh x;have HR:Hid (R=az):=aY (by
    have h1:(l.take (j+1)).all wh=false:=Y0;rw[HI.aX,Rn wh l (j+1) h1];simp)
   exact Y2;have qh:Hid ((l.take (j+1)).all wh=aA):=aY Y4;exact Y5
  exact Y6
theorem Wx l v w(h:bD cL l v w) :aK aR 277 #[v,.func (Fn.func 275) #[] #[]] w λe Y=>e=ak (ar (mS dE l))/\K w Y:=by
 obtain⟨A,c,rfl,hl,hc⟩:=h;have HI:Hid (mS dE l=(decide (Z l<=16)&&l.all dE)):=aY rfl;generalize mS dE l=R at *;have kk:=K.rf w;go_in;by_cases lF:Z l<=16;rotate_left;exact YZ;have Cg:¬(16:Int)<(Z l:Int):=aZ;go_wp2_with fail
 go_loopw [6,12] (fun _ i wr=>∃j:Nat,j<=Z l/\i=G J j/\Hid ((l.take j).all dE=aA)/\K w wr) (fun _ i _=>Z l-(aO i).toNat)
 case atStart=>exact⟨0,aZ,rfl,aY bu,kk⟩
 case round =>
  obtain⟨j,hj,rfl,HT,kr⟩:=hrel;by_cases z:j<Z l
  .have cE:(j:Int)<Z l:=aZ;obtain⟨B,N,cs,rfl,hcl,hrl,H,d⟩:=fE hl j z bG;have HS:=aY (Ky dE l j z);generalize l[j]=x at *;obtain⟨vf,ve,rfl,M,V⟩:=hrl w (K.rf w);obtain⟨Q,O,rfl⟩:=dX M;obtain⟨T,X,rfl⟩:=bH V;have H:∀W,K wr W->W.cell? ⟨B,N+j*8,U⟩=I (G J x.bA):=λW t=>H W (kr.tr t)
   have d:∀W,K wr W->∀i,i<8->W.cell? ⟨B,N+j*8+i,U⟩=(cB x (F Q (Z x.f) O) (F T (Z x.es) X))[i]?:=λW t i hi=>(d W (kr.tr t) i hi).trans aD
   have kk:=K.rf wr;have S:=bn.new wr 128 (cB x (F Q (Z x.f) O) (F T (Z x.es) X));have kx:=S.cG;go_upto_region 6 with fail;have y:=kr.tr kx;generalize wr.alloc _=C at *;generalize D (L wr)=gx at *;have q:=S.cells;have kk:=K.rf C;go_wp2_with fail
   apply eu (av8 x _ C ⟨_,_,rfl,fO _ _ _ _ M y,cM V y⟩) y;intro w4 k4 xO;cases hq:dE x;have HR:Hid (R=az):=aY (by
    have h1:(l.take (j+1)).all dE=false:=Y0;rw[HI.aX,Rn dE l (j+1) h1];simp)
   exact Y2;have qh:Hid ((l.take (j+1)).all dE=aA):=aY Y4;exact Y5
  exact Y6
theorem afq l v w(h:bD dQ l v w) :aK aR 278 #[v,.func (Fn.func 274) #[] #[]] w λe N=>e=ak (ar (mS rC l))/\K w N:=by
 obtain⟨A,c,rfl,Q,hc⟩:=h;have HI:Hid (mS rC l=(decide (Z l<=16)&&l.all rC)):=aY rfl;generalize mS rC l=R at *;have kk:=K.rf w;go_in;by_cases lF:Z l<=16;rotate_left;exact YZ;have Cg:¬(16:Int)<(Z l:Int):=aZ;go_wp2_with fail
 go_loopw [6,12] (fun _ i wr=>∃j:Nat,j<=Z l/\i=G J j/\Hid ((l.take j).all rC=aA)/\K w wr) (fun _ i _=>Z l-(aO i).toNat)
 case atStart=>exact⟨0,aZ,rfl,aY bu,kk⟩
 case round =>
  obtain⟨j,hj,rfl,HT,kr⟩:=hrel;by_cases y:j<Z l
  .have cE:(j:Int)<Z l:=aZ;obtain⟨z,H,Y,rfl,hcl,S,C,d⟩:=fE Q j y bG;have HS:=aY (Ky rC l j y);generalize l[j]=x at *;obtain rfl:=S w (K.rf w);have C:∀W,K wr W->W.cell? ⟨z,H+j*3,U⟩=I (G J x.1):=λW t=>C W (kr.tr t)
   have d:∀W,K wr W->∀i,i<3->W.cell? ⟨z,H+j*3+i,U⟩=(eI x)[i]?:=λW t i T=>(d W (kr.tr t) i T).trans aD
   have kk:=K.rf wr;have M:=bn.new wr 42 (eI x);have O:=M.cG;go_upto_region 6 with fail;have V:=kr.tr O;generalize wr.alloc _=B at *;generalize D (L wr)=gx at *;have q:=M.cells;have kk:=K.rf B;go_wp2_with fail
   apply eu (afp x B) V;intro X k4 xO;cases hq:rC x;have HR:Hid (R=az):=aY (by
    have h1:(l.take (j+1)).all rC=false:=Y0;rw[HI.aX,Rn rC l (j+1) h1];simp)
   exact Y2;have qh:Hid ((l.take (j+1)).all rC=aA):=aY Y4;exact Y5
  exact Y6
theorem aCV{m}(h:m.bA=1):D6 m=(m.eM.isEmpty&&m.gq.isEmpty&&m.fc.isEmpty&&m.fQ.isEmpty):=by grind [D6]
theorem aCW{m}(h:m.bA=2):D6 m=(m.eE.isEmpty&&m.cR.isEmpty):=by grind [D6]
theorem aCX{m}(h:¬m.bA=1)(j:¬m.bA=2):D6 m=false:=by grind [D6]
theorem TK{α:Type}{l:List α}(h:l.isEmpty=az):((Z l:Int)==0)=false:=by simp_all
theorem Lh{α:Type}{l:List α}(h:l.isEmpty=aA):((Z l:Int)==0)=true:=by grind
theorem ae6 m v w(h:nU m v w) :aK aR 219 #[v] w λe B=>e=ak (G J (ku m))/\K w B:=by
 obtain⟨O,V,C,X,v5,H,rfl,y,h2,h3,h4,h5,h6⟩:=h;have CV:=aY λW (j:K w W)=>as4 m.eE O W (cM y j)
 have CA:=aY λW (j:K w W)=>Wx m.cR V W (cM h2 j)
 have CE:=aY λW (j:K w W)=>Wx m.eM C W (cM h3 j)
 have CP:=aY λW (j:K w W)=>Wx m.gq X W (cM h4 j)
 have CB:=aY λW (j:K w W)=>afq m.fc v5 W (cM h5 j)
 have CD:=aY λW (j:K w W)=>afq m.fQ H W (cM h6 j)
 obtain⟨N,c1,rfl⟩:=bH y;obtain⟨A2,c2,rfl⟩:=bH h2;obtain⟨Y,c3,rfl⟩:=bH h3;obtain⟨R,c4,rfl⟩:=bH h4;obtain⟨Q,c5,rfl⟩:=bH h5;obtain⟨S,c6,rfl⟩:=bH h6;have A:=bn.new w 239 (nh m (F N (Z m.eE) c1) (F A2 (Z m.cR) c2) (F Y (Z m.eM) c3) (F R (Z m.gq) c4) (F Q (Z m.fc) c5) (F S (Z m.fQ) c6));have k1:=A.cG;go_in;go_upto_region 2 with fail;generalize w.alloc _=w1 at *;have:=A.cells;have kk:=K.rf w1;generalize D (L w)=g at *;by_cases z:m.bA=1;have uZ:=aCV z;cases e3:m.eM.isEmpty;exact ajR;have z3:=Lh e3;cases e4:m.gq.isEmpty;exact ajS;have z4:=Lh e4;cases e5:m.fc.isEmpty;have M:=TK e5;have HQ:Hid (ku m=130):=aY (by unfold ku;rw[show fT m=az from by simp[fT,uZ,e5]];rfl);exact Oe;have M:=Lh e5;cases e6:m.fQ.isEmpty;have T:=TK e6;have HQ:Hid (ku m=130):=aY (by unfold ku;rw[show fT m=az from by simp[fT,uZ,e6]];rfl);exact Oe;have T:=Lh e6;have hK:D6 m=true:=bL;exact ajT;by_cases t:m.bA=2;have uZ:=aCW t;cases e3:m.eE.isEmpty;exact ajR;have z3:=Lh e3;cases e4:m.cR.isEmpty;exact ajS;have z4:=Lh e4;have hK:D6 m=true:=by rw[uZ,e3,e4];rfl
 exact ajT;have hK:=aCX z t;have HQ:Hid (ku m=130):=aY (by unfold ku;rw[show fT m=az from by simp[fT,hK]];rfl);exact Oe
def iH(p:List Int):Bool:=decide (1<=Z p)&&decide (Z p<=16)&&decide (p[0]?=I (-1))&&(List.range (Z p)).all λn=>n==0||match p[n]? with|some q=>decide (0<=q)&&decide (q<(n:Int))|none=>aA
def iW(p:List Int)(n:Int):Bool:=decide (0<=n)&&decide (n<(Z p:Int))
def uI(p:List Int)(n:Int):List Int:=((List.range (Z p)).filter λk=>decide (p[k]?=I n)).map λ(k:Nat)=>(k:Int)
def I6(p:List Int)(n:Int):List Int:=if iW p n&&iH p then uI p n else []
def FV(p:List Int)(a:Int):Nat->Int->Bool
 | 0,_=>az
 | f+1,b=>if b<0 then az else if a=b then aA else FV p a f ((p[b.toNat]?).getD (-1))
def FW(p:List Int)(a b:Int):Bool:=iW p a&&iW p b&&iH p&&FV p a (Z p+1) b
structure nQ where
 cl:Int
 sub:Nat
 f:List fo
 deriving DecidableEq
def lS(s:nQ)(x:bU):Int:=if kU s.cl x.cl != 0 then kU s.cl x.cl else kU s.sub x.sub
def xg(l:List nQ)(x:bU):List nQ :=
 if x.bA=2 then l.filter (λs=>decide (lS s x<0))++[⟨x.cl,x.sub,x.f⟩]++l.filter (λs=>decide (0<lS s x))
 else if x.bA=3 then l.filter (λs=>decide (lS s x<0))++l.filter (λs=>decide (0<lS s x))else l
def nK(l:List bU):List nQ:=l.foldl (λo x=>if x.bA=1 then o else xg o x) []
def tk(l:List nQ)(cs:List Int):List nQ:=l.filter λs=>decide (s.cl∈cs)
def anyS(l:List nQ)(e:List eD):Bool:=l.any λs=>oQ s.f e
def lX(l:List nQ)(cs:List Int)(x:bU):bU:=if x.bA=1 then { x with es:=x.es.filter (anyS (tk l cs)) }else x
def rX(l:List nQ)(c:Int)(x:bU):List (List eD):=if x.bA=1 then x.es.filter (anyS (tk l [c]))else []
def tX(k:ig)(a:bY)(y:Bool):Bool:=k.eE.any λv=>decide (v=⟨a,y⟩)
def lB(kids:List ig)(a:bY):Int:=if kids.any (λk=>tX k a az)then 2 else if kids.all (λk=>tX k a aA)then 1 else 0
def tS(kids:List ig)(o:List nD)(x:bU):List nD:=if lB kids (bE x)≠0/\Z o<16 then o++[⟨bE x,decide (lB kids (bE x)=1)⟩]else o
def oR(o:List nD)(a:bY):List nD:=if 16<=Z o then o else if o.any (λv=>decide (v.id=a))then o else o++[⟨a,az⟩]
def OM(bF:List bU)(jn:List bY)(kids:List ig):List nD:=jn.foldl oR (bF.foldl (tS kids) [])
def lT(s:eT)(p:List bU×List bY)(x:bU):List bU×List bY :=
 if dM s.bq (bE x)||dM s.bF (bE x)||fJ s.ab (bE x)||dM p.1 (bE x)||fJ p.2 (bE x)then p
 else if Z s.bF+Z p.1<6 then (p.1++[x],p.2)else (p.1,p.2++[bE x])
def pG(s:eT)(l:List bU):List bU×List bY:=l.foldl (lT s) ([],[])
def nL(s:eT)(op:List bU)(o:List bY)(v:nD):List bY :=
 if 16<=Z o then o else if fJ o v.id||dM s.bq v.id||dM s.bF v.id||dM op v.id then o else o++[v.id]
def yr(s:eT)(op:List bU)(k:ig):List bY:=k.eE.foldl (nL s op) []
def rY(s:eT)(p:List bU×List bU)(x:bU):List bU×List bU :=
 if dM s.bq (bE x)||fJ s.ab (bE x)||dM p.1 (bE x)||dM p.2 (bE x)then p
 else if x.bA≠1 then (p.1,p.2++[x])else if Z p.1<4 then (p.1++[x],p.2)else p
def qH(s:eT)(op cR:List bU):List bU×List bU:=cR.foldl (rY s) (op,[])
def G0(op:List bU)(kids:List ig):List bU:=op.filter λx=>decide (lB kids (bE x)=1)
def FX(op:List bU)(kids:List ig):List bY:=(op.filter λx=>decide (lB kids (bE x)=2)).map bE
def rz(ab:List bY)(o:List bY)(x:bU):List bY:=if Z o<16/\fJ ab (bE x)=aA/\fJ o (bE x)=az then o++[bE x]else o
def yw(ab:List bY)(cR:List bU):List bY:=cR.foldl (rz ab) []
def DW(l:List bU)(n:Nat):List bU:=(l.drop n).take 4
structure rP where
 ie:List Rec
 room:Nat
def Be(b:List UInt8):Nat:=6+Z b
def jM(l:List Rec):Nat:=(l.map λr=>Be (dG r)).sum
def xp(d:rP)(r:Rec):Bool:=decide (Z (dG r)<=4000)&&decide (jM d.ie+Be (dG r)<=d.room)
structure cJ where
 me:Int
 par:List Int
 bj:List Int
 st:eT
 bI:List eU
 calls:Nat
 dm:List (Int×ig)
 jn:List bY
 cA:List bY
 dy:List bU
 dk:rP
def Fg(B:cJ)(c:Int):Bool:=decide (0<=c)&&decide (c<(Z B.bj:Int))&&decide (B.bj[c.toNat]?=I B.me)
def ot(B:cJ):Bool:=decide (B.me=0)
def kZ(B:cJ)(k:Int):ig:=((B.dm.find? λp=>decide (p.1=k)).map (·.2)).getD Ck
def oT(l:List (Int×ig))(k:Int)(m:ig):List (Int×ig):=if l.any (λp=>decide (p.1=k))then l.map λp=>if p.1=k then (k,m)else p else l++[(k,m)]
def si(B:cJ):List Int:=I6 B.par B.me
def fK(B:cJ):List ig:=(si B).map (kZ B)
def vO(B:cJ)(a:bY):Bool:=fJ B.cA a||fJ B.st.ab a
def DN(B:cJ):List bY:=B.st.ab++B.cA
def mO(B:cJ)(o:List bU)(x:bU):List bU:=if dM o (bE x)||dM B.st.bq (bE x)||vO B (bE x)||decide (16<=Z o)then o else o++[x]
def nr(B:cJ):List bU:=(fK B).foldl (λo k=>k.cR.foldl (mO B) o) ((lI B.bI).foldl (mO B) [])
def eQ(B:cJ)(r:Rec):cJ×Bool :=
 if fV r&&xp B.dk r then (match fX B.st r with
  | none=>(B,az)
  | some t=>({ B with st:=t,dk:=⟨B.dk.ie++[r],B.dk.room⟩,bI:=if r.bA=2 then gU B.bI (bE r.e)else B.bI },aA))
 else (B,az)
def pc(n:Nat)(x:bU):Rec:=⟨2,n,x,0,0,0⟩
def lE(k:Int)(a:bY):Rec:=⟨k,0,fS,a.1,a.2.1,a.2.2⟩
def xE(x:bU):Rec:=⟨3,0,x,0,0,0⟩
def nM(B:cJ)(x:bU):cJ×Bool:=eQ B (pc (Z B.st.bq) x)
def oU(B:cJ)(a:bY):cJ×Bool:=if (eQ B (lE 4 a)).2 then ({ (eQ B (lE 4 a)).1 with bI:=gU (eQ B (lE 4 a)).1.bI a },aA)else (B,az)
def lJ(kids:List ig)(p:cJ×List bU)(x:bU):cJ×List bU :=
 if lB kids (bE x)=1 then (if (nM p.1 x).2 then ((nM p.1 x).1,p.2)else (p.1,p.2++[x]))
 else if lB kids (bE x)=2 then (if (oU p.1 (bE x)).2 then ((oU p.1 (bE x)).1,p.2)else (p.1,p.2++[x]))
 else (p.1,p.2++[x])
def Cb(B:cJ):cJ:=(qH B.st B.dy (nr B)).2.foldl (λb x=>(nM b x).1) B
def sk(B:cJ):cJ×List bU:=(qH B.st B.dy (nr B)).1.foldl (lJ (fK B)) (Cb B,[])
def iL(B:cJ):cJ:=if ot B then { (sk B).1 with dy:=(sk B).2 }else B
def lC(B:cJ)(j:Nat):List bU->cJ
 | []=>B
 | x :: r=>if j=Z B.st.bq then (if (eQ B (pc j x)).2 then lC (eQ B (pc j x)).1 ((j+1)%18446744073709551616) r else B)
  else lC B ((j+1)%18446744073709551616) r
def jC(B:cJ)(a:bY):cJ:=if dM B.st.bF a then (eQ B (lE 5 a)).1 else B
def lU(B:cJ)(a:bY):cJ:=if vO B a then B else jC { B with cA:=B.cA++[a],bI:=gU B.bI a } a
def km(p:cJ×List bY)(x:bU):cJ×List bY:=if (eQ p.1 (xE x)).2 then ((eQ p.1 (xE x)).1,p.2)else (p.1,p.2++[bE x])
def nR(B:cJ)(l:List bU):List bU:=l.filter λx=>!fJ B.cA (bE x)
def wi(B:cJ)(l:List bU):List bY:=(l.filter λx=>fJ B.cA (bE x)).map bE
def vV(B:cJ)(l:List bU):cJ×List bY:=(pG B.st (nR B l)).1.foldl km (B,wi B l++(pG B.st (nR B l)).2)
def yx(B:cJ)(l:List bU):cJ:={ (vV B l).1 with jn:=(vV B l).2 }
def sY(B:cJ)(m:ig):cJ:=yx (m.fQ.foldl jC (m.fc.foldl lU (lC B m.got m.eM))) m.gq
def yH(B:cJ):Int:=(B.par[B.me.toNat]?).getD (-1)
def jc(B:cJ)(j:Int)(b:List UInt8):cJ×Int :=
 if decide (j∈si B)||(!ot B&&decide (j=yH B))then
  (match tj b with
   | none=>(B,130)
   | some m=>if decide (j∈si B)&&decide (m.bA=1)then (iL { B with dm:=oT B.dm j m },0)
    else if (!ot B&&decide (j=yH B))&&decide (m.bA=2)then (sY B m,0)else (B,201))
 else (B,201)
def x9(B:cJ)(k:Int):List Int:=((List.range (Z B.bj)).filter λc=>match B.bj[c]? with|some h=>FW B.par k h|none=>az).map λ(c:Nat)=>(c:Int)
def Fo(B:cJ)(cs:List Int)(n:Nat)(l:List bU):List bU:=l.zipIdx.map λp=>lX (nK (B.st.bq.take (n+p.2))) cs p.1
def sZ(B:cJ)(k:Int):Nat:=min (kZ B k).got (Z B.st.bq)
def ya(B:cJ)(k:Int):ig :=
 ⟨2,sZ B k,[],[],Fo B (x9 B k) (sZ B k) (DW B.st.bq (sZ B k)),((if ot B then B.dy else B.st.bF).take 16).map (lX (nK B.st.bq) (x9 B k)),yw (DN B) (kZ B k).cR,yr B.st B.dy (kZ B k)⟩
def E6(B:cJ):ig:=⟨1,Z B.st.bq,OM B.st.bF B.jn (fK B),nr B,[],[],[],[]⟩
def mT(B:cJ):bY:=(B.me,B.st.life,B.calls+1)
def jF(B:cJ)(c:Int)(lay:List eU×Int):cJ×bY×Int :=
 if Fg B c then (if lay.2=0 then ({ B with bI:=lay.1,calls:=B.calls+1 },mT B,0)else (B,(0,0,0),lay.2))else (B,(0,0,0),200)
def zM(B:cJ)(c:Int):cJ×bY×Int:=jF B c (zL B.bI (mT B) c)
def jP(B:cJ)(k c:Int)(n:Nat)(f:List fo):bU:=⟨k,B.me,B.st.life,B.calls+1,c,n,f,[]⟩
def Cm(B:cJ)(c:Int)(n:Nat)(f:List fo):cJ×bY×Int:=jF B c (qN B.bI (jP B 2 c n f))
def B7(B:cJ)(c:Int)(n:Nat):cJ×bY×Int:=jF B c (qN B.bI (jP B 3 c n []))
def gg(B:cJ)(r:List eU×Int):cJ×Int:=if r.2=0 then ({ B with bI:=r.1 },0)else (B,r.2)
def GG(B:cJ)(a:bY):Int :=
 if dM B.st.bq a then 3 else if vO B a then 4 else if (zQ B.bI a).2 then (if (zQ B.bI a).1.eC then 2 else 1)else 0
def pN(c:Int):List bU->List nQ->Nat->List (List eD)×Nat
 | [],_,n=>([],n)
 | x :: r,s,n=>if rX s c x=[]then pN c r (if x.bA=1 then s else xg s x) (n+1)else (rX s c x,n+1)
def sq(B:cJ)(c j:Int):List (List eD)×Int×Int :=
 if Fg B c then (if 0<=j/\j<=(Z B.st.bq:Int)then ((pN c (B.st.bq.drop j.toNat) (nK (B.st.bq.take j.toNat)) j.toNat).1,((pN c (B.st.bq.drop j.toNat) (nK (B.st.bq.take j.toNat)) j.toNat).2:Int),0)else ([],0,1))else ([],0,200)
def eN(s:eT):eT:=⟨(s.life+1)%18446744073709551616,s.bq,s.bF,s.ab⟩
def mU(p bj:List Int):Bool:=decide (1<=Z bj)&&decide (Z bj<=32)&&bj.all (iW p)
theorem ax4{P} w d t e a l c(h:P.underlying t=some (.slice e)):(Op.equalIn (d+1) t (F a l c) (F U 0 0)).run P w=.ok a.isNone w:=by cases a <;> simp[Op.equalIn,run_underlying h]
theorem ax5{P} w t e a l c(h:P.underlying t=some (.slice e)):(Op.equal t (F a l c) (F U 0 0)).run P w=.ok a.isNone w:=ax4 w 9999 t e a l c h
theorem Y7{P} w t e a l c(h:P.underlying t=some (.slice e)):(binOp .eql t (F a l c) (F U 0 0)).run P w=.ok (ar a.isNone) w:=by simp[binOp,ax5 w t e a l c h]
theorem Nd A n c xs w(hR:Reads w (D (L w)) 1 A n xs)(h1:∀u∈xs,u.oneCell'=aA)(hn:n<=1000000000) :aK aR 88 #[F A n c] w λe j=>∃t,e=ak t/\j.ownsRow (D (L w)) 5 1 t n xs/\K w j:=ajU
theorem as5 A n c xs w(hR:Reads w (D (L w)) 1 A n xs)(h1:∀u∈xs,u.oneCell'=aA)(hn:n<=1000000000) :aK aR 131 #[F A n c] w λe j=>∃t,e=ak t/\j.ownsRow (D (L w)) 5 1 t n xs/\K w j:=ajU
theorem ae7 A n c xs w(hR:Reads w (D (L w)) 3 A n xs)(C:∀u∈xs,u.oneCell'=aA)(hn:n<=1000000000) :aK aR 87 #[F A n c] w λe j=>∃t,e=ak t/\j.ownsRow (D (L w)) 42 3 t n xs/\K w j:=by
 have kk:=K.rf w;have:=λ(W:aP) (a:Option Addr) (l c:Nat)=>Y7 (P:=aR) W 53 42 a l c underlying53
 go_in;cases A with
 | none => exact Y8
 | some H =>
  have y:=bn.new w 42 #[];have k1:=y.cG;have z:(aU w (aq #[] 42)).ownsRow (D (L w)) 42 3 (F (I ⟨D (L w),0,U⟩) 0 0) 0 [] :=
   ⟨rfl,aJ ⟨D (L w),0,_,rfl,bP _,y,bP _,E3,bu,bu⟩⟩
  have B:=(hR.below k1 (bP _)).more k1.size;go_wp2_with (at_builtin;refine nZ rfl _ _ 53 rfl (D (L w)) 42 _ 3 24 sK _ 0 [] rfl z _ (I H) n c xs rfl B C ?p1 k1.size ?_)
  case p1=>omega
  exact Y9
theorem ae8 A n c xs w(hR:Reads w (D (L w)) 5 A n xs)(C:∀u∈xs,u.oneCell'=aA)(hn:n<=1000000000) :aK aR 336 #[F A n c] w λe j=>∃t,e=ak t/\j.ownsRow (D (L w)) 85 5 t n xs/\K w j:=by
 have kk:=K.rf w;have:=λ(W:aP) (a:Option Addr) (l c:Nat)=>Y7 (P:=aR) W 37 85 a l c underlying37
 go_in;cases A with
 | none => exact Y8
 | some H =>
  have y:=bn.new w 85 #[];have k1:=y.cG;have z:(aU w (aq #[] 85)).ownsRow (D (L w)) 85 5 (F (I ⟨D (L w),0,U⟩) 0 0) 0 [] :=
   ⟨rfl,aJ ⟨D (L w),0,_,rfl,bP _,y,bP _,E3,bu,bu⟩⟩
  have B:=(hR.below k1 (bP _)).more k1.size;go_wp2_with (at_builtin;refine nZ rfl _ _ 37 rfl (D (L w)) 85 _ 5 56 TF _ 0 [] rfl z _ (I H) n c xs rfl B C ?p1 k1.size ?_)
  case p1=>omega
  exact Y9
theorem Iy{t y bC} a b w(hb:bn w t 153 #[.map (I y)])(hm:fP qM w y bC) :aK aR 154 #[aj (I ⟨t,0,U⟩),G J a,G J b] w λe A=>e=ak (au #[(eX bC (a,b)).getD (.chan U),G J (if (eX bC (a,b)).isSome then 0 else 140)])/\A=w:=by
 have q:=hb.cell;have j:=(E0 aoe underlying151 (z:=.chan U) dH hm (a,b)).1;unfold qM at j;simp only at j;go_in;cases h:eX bC (a,b) <;> rw[h]at j
 .simp only[Option.getD_none,Option.isSome_none]at j;go_wp2;go_ret2;exact⟨rfl,rfl⟩
 simp only[Option.getD_some,Option.isSome_some]at j;go_wp2;go_ret2;exact⟨rfl,rfl⟩
section
variable {gn gm c:Nat}{bC:List ((Int×Int)×aQ)}{l:List aQ}{w:aP}{a b:Int}
theorem aAl(hb:bn w gn 153 #[.map (I gm)])(hm:fP qM w gm bC)(hk:eX bC (a,b)=U) :aK aR 105 #[aj (I ⟨gn,0,U⟩),G J a,G J b] w λe j=>e=ak (au #[F U 0 0,G J 140])/\j=w:=by
 have t:=aY (Iy a b w hb hm);rw[hk]at t;go_in;go_wp2_with fail
 apply bW t.aX;rintro j rfl;simp only[Option.getD_none,Option.isSome_none];go_wp2;go_ret2;exact⟨rfl,rfl⟩
theorem aAm{v}(hb:bn w gn 153 #[.map (I gm)])(hm:fP qM w gm bC)(hk:eX bC (a,b)=U) :aK aR 104 #[aj (I ⟨gn,0,U⟩),G J a,G J b,v] w λe w'=>e=ak (G J 140)/\w'=w:=SU
theorem aAn(hb:bn w gn 153 #[.map (I gm)])(hm:fP qM w gm bC)(hk:eX bC (a,b)=U) :aK aR 100 #[aj (I ⟨gn,0,U⟩),G J a,G J b] w λe w'=>e=ak (G J 0)/\w'=w:=SU
theorem auF(hb:bn w gn 153 #[.map (I gm)])(hm:fP qM w gm bC)(hk:eX bC (a,b)=I (.chan (I c)))(M:mY c l w)(H:∀x∈l,∃A n d,x=F A n d) :aK aR 105 #[aj (I ⟨gn,0,U⟩),G J a,G J b] w λe j=>e=ak (au #[l.headD (F U 0 0),G J (if l=[]then 141 else 0)])/\mY c l.tail j/\bf (λk=>k=c) w j:=by
 have y:=aY (Iy a b w hb hm);have C:=aY (WU c l w M);rw[hk]at y;go_in;go_wp2_with fail
 apply bW y.aX;rintro j rfl;simp only[Option.getD_some,Option.isSome_some];go_wp2_with fail
 apply bW C.aX;rintro N⟨B,z⟩;have t:=aY (aB B z);cases l with
 | nil => go_wp2;go_ret2;exact⟨rfl,t.aX⟩
 | cons x l => obtain⟨A,n,d,rfl⟩:=H x bu;simp only[List.headD_cons,List.isEmpty_cons,Bool.not_false];go_wp2;go_ret2;exact⟨bu,t.aX⟩
theorem auG(hb:bn w gn 153 #[.map (I gm)])(hm:fP qM w gm bC)(hk:eX bC (a,b)=I (.chan (I c)))(hc:mY c l w) :aK aR 100 #[aj (I ⟨gn,0,U⟩),G J a,G J b] w λe j=>e=ak (G J (Z l))/\j=w:=by
 have t:=aY (Iy a b w hb hm);rw[hk]at t;obtain⟨s,r,hc⟩:=hc;have:∀y,(Builtin.len_ #[155] y #[.chan (I c)]).run aR w=.ok (G J (Z l)) w:=λy=>by exact ajV
 go_in;go_wp2_with fail
 apply bW t.aX;rintro j rfl;simp only[Option.getD_some,Option.isSome_some];go_wp2;go_ret;exact⟨rfl,rfl⟩
def aa4(l:List aQ)(v:aQ):List aQ:=if Z l<8 then l++[v]else l
def aa5(n:Nat):Int:=if n<8 then 0 else 141
theorem auH(hb:bn w gn 153 #[.map (I gm)])(hm:fP qM w gm bC)(hk:eX bC (a,b)=I (.chan (I c)))(hc:mY c l w) bs v(hv:sl bs v w)(hn:Z bs<=1000000000) :aK aR 104 #[aj (I ⟨gn,0,U⟩),G J a,G J b,v] w λe t=>e=ak (G J (aa5 (Z l)))/\(∃j,mY c (aa4 l j) t/\Fx (λk=>k<D (L w)) (λW=>sl bs j W) t)/\bf (λk=>k=c) w t:=by
 obtain⟨A,d,rfl,X⟩:=hv;have O:=aY (Iy a b w hb hm);have T:=aY (Nd A (Z bs) d _ w X (yd bs) hn);have H:=aY hc;rw[hk]at O;go_in;go_wp2_with fail
 apply bW O.aX;rintro t rfl;simp only[Option.getD_some,Option.isSome_some];go_wp2_with fail
 apply dP T.aX;rintro j R⟨N,Q⟩;have C3:=aY (Nr c l j R (H.aX.cF (bf.cz Q (λ_=>False)) id));have V:=aY (show Fx (λk=>k<D (L t)) (λW=>sl bs j W) R from λW u=>gS (kj N u λk e h=>by have:=(N.lt k e).1;omega));have HK:=aY Q;have S:=H.aX.lt;go_wp2_with fail
 apply bW C3.aX;rintro z⟨Y,M⟩;have C:=aY (show (∃j,mY c (aa4 l j) z/\Fx (λk=>k<D (L t)) (λW=>sl bs j W) z)/\bf (λk=>k=c) t z from ⟨⟨j,Y,V.aX.up M λk e=>e▸S⟩,(bf.cz HK.aX _).tr M⟩);by_cases y:Z l<8
 .have B:=aY (show aa5 (Z l)=0 from bV y);rw[decide_eq_true y];go_wp2;go_ret;exact⟨by rw[B.aX];rfl,C.aX⟩
 have B:=aY (show aa5 (Z l)=141 from bQ y);rw[decide_eq_false y];go_wp2;go_ret;exact⟨by rw[B.aX];rfl,C.aX⟩
end
section
open Go Go.RowKit Go.ChangeMaps
section
variable {α:Type}{enc:α->aQ}{P:Program}
def uQ(enc:α->aQ)(w:aP)(b r:Nat)(bC:List (α×aQ))(j:List α):Prop :=
 ∃(es:Array MapEntry) (c since:Nat) (seen:Array Nat) (c0:Nat),w.heap[b]?=I (.map es c)/\es.toList.map (λe=>(e.key,e.val))=bC.map (λp=>(enc p.1,p.2))/\yQ es.toList c /\
  w.heap[r]?=I (.mapIter (I b) since seen c0)/\(∀x∈es.toList,x.born<since)/\since<=c0/\since<=c/\(Go.leftOf es seen).toList.map (·.key)=j.map enc
theorem fP.range{t kt A w b bC}(h:fP enc w b bC)(H:P.underlying t=some (.map kt A)) :∃j,(Instr.range t (.map (I b))).run P w=.ok (aj (I ⟨D (L w),0,U⟩)) j/\uQ enc j b (D (L w)) bC (bC.map (·.1))/\w.grownBy j U/\D (L j)=D (L w)+1:=by
 have C:=h.lt;obtain⟨es,c,z,y,B⟩:=h;refine⟨_,run_range_map w t kt A b es c H z,⟨es,c,c,#[],c,((MapKept.heap_alloc w _).2 b C).trans z,y,B,(MapKept.heap_alloc w _).1,λx M=>B.2 _ (List.mem_map.2 ⟨x,M,rfl⟩),bP _,bP _,?_⟩,World.grownBy_alloc w _ U,bu⟩;have:=congrArg (List.map Prod.fst) y;simp only[List.map_map]at this;have e:(Go.leftOf es #[]).toList=es.toList:=by simp[Go.leftOf]
 rw[e,List.map_map];simpa [Function.comp_def]using this
theorem afr:∀(l:List MapEntry),(l.map (·.born)).Pairwise (· < ·)->∀(i:Nat) (h:i<Z l),l.filter (λx=>!(x.born==l[i].born))=l.eraseIdx i
 | [],_,i,h=>zH
 | e :: l,hp,i,h=>by
  rw[mN,List.pairwise_cons]at hp;cases i with
  | zero => rw[List.getElem_cons_zero,List.filter_cons_of_neg bu,List.eraseIdx_cons_zero,List.filter_eq_self];intro x y;have:=hp.1 x.born (List.mem_map.2 ⟨x,y,rfl⟩);have j:x.born≠e.born:=aZ;simpa using j
  | succ i => have t:i<Z l:=Dz;have:=hp.1 l[i].born (List.mem_map.2 ⟨l[i],dJ t,rfl⟩);have j:e.born≠l[i].born:=aZ;rw[List.getElem_cons_succ,List.filter_cons_of_pos (by simpa using j),List.eraseIdx_cons_succ,afr l hp.2 i t]
theorem af2{β γ:Type}(f:β->γ):∀(l:List β) (i:Nat),(l.eraseIdx i).map f=(l.map f).eraseIdx i
 | [],i=>rfl
 | x :: l,0=>rfl
 | x :: l,i+1=>by simp[af2 f l i]
theorem uQ.next{w b r bC t}(h:uQ enc w b r bC t) ty :(t=[]/\(Instr.next (aj (I ⟨r,0,U⟩)) az ty).run P w=.ok (au #[ar az]) w)\/∃(i:Nat) (z:i<Z t) (v:aQ) (w':aP),(Instr.next (aj (I ⟨r,0,U⟩)) az ty).run P w=.ok (au #[ar aA,enc t[i],v]) w'/\uQ enc w' b r bC (t.eraseIdx i)/\w.grownBy w' (I r)/\D (L w')=D (L w)/\(Instr.entry (aj (I ⟨r,0,U⟩))).run P w'=.ok (au #[enc t[i],v]) w':=by
 obtain⟨es,c,y,j,W,Q,Y,M,T,R,hsc,O,S⟩:=h;have X:r≠b:=bL;rcases run_next_at (P:=P) w ty r b y W j es c T Q R hsc with ⟨h0,hrun⟩|⟨e,B,H,C,hrun⟩
 .simp_all
 obtain⟨i,z,B⟩:=List.mem_iff_getElem.1 B;have hlen:Z t=Z (Go.leftOf es j).toList:=by have:=congrArg Z S;simpa using this.symm
 have hiL:i<Z t:=aZ;have hk:e.key=enc t[i]:=by have:=congrArg (λl=>l[i]?) S;grind
 have hr1:H.heap[r]?=I (.mapIter (I b) y j W):=by rcases C with rfl|rfl <;> exact T
 have cK:H.heap[b]?=I (.map es c):=by rcases C with rfl|rfl <;> exact Q
 have A:=MapKept.heap_set (o':=.mapIter (I b) y (j.push e.born) c) hr1;have hleft:(Go.leftOf es (j.push e.born)).toList=(Go.leftOf es j).toList.eraseIdx i:=by rw[<- afr _ (M.1.sublist ((show (Go.leftOf es j).toList.Sublist es.toList by unfold Go.leftOf;rw[Array.toList_filter];exact List.filter_sublist).map _)) i z,B];unfold Go.leftOf;grind [Array.toList_filter,List.filter_filter,List.filter_congr]
 have V:(setBlock H r (.mapIter (I b) y (j.push e.born) c)).heap[b]?=I (.map es c):=(A.2 b (λN=>X N.symm)).trans cK;have hem:e∈es.toList:=by have:e∈(Go.leftOf es j).toList:=B▸dJ z;unfold Go.leftOf at this;grind
 refine aJ ⟨i,hiL,e.val,_,bL,⟨es,c,y,j.push e.born,c,V,Y,M,A.1,R,O,O,?_⟩,?_,?_,by rw[<- hk];exact run_entry_at _ r b y j es c e A.1 V hem (M.1.imp λh=>Nat.ne_of_lt h)⟩
 .grind [af2]
 rcases C with rfl|rfl <;> exact⟨rfl,rfl,rfl,SD,λi _ z=>A.2 i (λN=>z (by rw[N]))⟩;rcases C with rfl|rfl <;> simp[setBlock]
theorem uQ.left{w b r bC j}(h:uQ enc w b r bC j):w.rangeLeft b r=Z j:=by obtain⟨es,c,A,C,M,z,B,H,y,-,-,-,t⟩:=h;simp only[World.rangeLeft,z,y];have:=congrArg Z t;simpa using this
theorem uQ.walks{w w' b r bC j}(h:uQ enc w b r bC j)(k:KeepsWalks w w'):uQ enc w' b r bC j:=by obtain⟨es,c,t,C,M,B,y,H,A,z⟩:=h;exact⟨es,c,t,C,M,k.same b _ B rfl,y,H,k.same r _ A rfl,z⟩
theorem uQ.walk{w b r bC j}(h:uQ enc w b r bC j):∃o:Obj,w.heap[r]?=I o/\o.isWalk=true:=by obtain⟨es,c,y,C,M,B,z,H,t,A⟩:=h;exact⟨_,t,rfl⟩
end
section
variable {α:Type}{enc:α->aQ}{ag:Fence}{n:Nat}{P:Program}(w:aP) {ops:Array Oper}{rest:List Oper}{o:Oper}{a:Act}{Q:Exit->Act->aP->Prop}
theorem ast(hg:o.guard=U) m t(j:o.op=Op.range t m) k e(H:P.underlying t=some (.map k e)) b bC(hm:a.eval m=.map (I b))(h:fP enc w b bC)(C:∀w',uQ enc w' b (D (L w)) bC (bC.map (·.1))->w.grownBy w' U->D (L w')=D (L w)+1->wpListIn ag n P ops Q rest (a.put o.dst (aj (I ⟨D (L w),0,U⟩))) w') :wpListIn ag n P ops Q (o :: rest) a w:=by
 refine wpListIn_plain hg λN M=>?_
 obtain⟨w',A,B,y,z⟩:=h.range H;unfold Oper.wpIn;refine⟨?_,?_⟩;simp[Oper.about,j];rw[Oper.semAt_plain ag _ _ bL];simp[aL,j,hm,A,Result.andThen];exact M _ _ (C w' B y z)
theorem asF(hg:o.guard=U) z(y:o.op=Op.next z az) b r bC j(A:a.eval z=aj (I ⟨r,0,U⟩))(h:uQ enc w b r bC j)(H:j=[]->wpListIn ag n P ops Q rest (a.put o.dst (au #[ar az])) w)(M:∀(i:Nat) (C:i<Z j) (v:aQ) (w':aP),uQ enc w' b r bC (j.eraseIdx i)->w.grownBy w' (I r)->D (L w')=D (L w)->(Instr.entry (aj (I ⟨r,0,U⟩))).run P w'=.ok (au #[enc j[i],v]) w'->wpListIn ag n P ops Q rest (a.put o.dst (au #[ar aA,enc j[i],v])) w') :wpListIn ag n P ops Q (o :: rest) a w:=by
 refine wpListIn_plain hg λV B=>?_
 unfold Oper.wpIn;refine⟨by simp[Oper.about,y],?_⟩;rw[Oper.semAt_plain ag _ _ bL];rcases h.next (P:=P) o.type with ⟨O,t⟩|⟨i,C,v,w',t,R,N,T,S⟩;simp[aL,y,A,t,Result.andThen];exact B _ _ (H O);simp[aL,y,A,t,Result.andThen];exact B _ _ (M i C v w' R N T S)
end
end
theorem ints_at{p A w}(t:yO eH p A w)(H:0<Z p) :∃b j,A=I ⟨b,j,U⟩/\∀W,K w W->∀i (y:i<Z p),W.cell? ⟨b,j+i,U⟩=I (G J p[i]):=by obtain⟨b,j,N,rfl,-,-,-,-⟩:=fE t 0 H bG;refine⟨b,j,rfl,λW k i y=>?_⟩;obtain⟨O,M,B,e,-,C,z,-⟩:=fE t i y bG;injection e with e;injection e with e1 e2;subst e1 e2;have h:=z W k;rw[show B=D4 p[i]from C W k]at h;simpa [eH]using h
def zT(p:List Int):Int:=if iH p then 0 else 120
theorem IJ{p}:iH p=aA↔1<=Z p/\Z p<=16/\p[0]?=I (-1)/\∀n (h:n<Z p),1<=n->0<=p[n]/\p[n]<(n:Int):=by simp only[iH,fI,decide_eq_true_eq,yq,List.mem_range,Bool.or_eq_true,beq_iff_eq,and_assoc];grind
theorem rr{p}(h:iH p=aA):1<=Z p/\Z p<=16:=⟨(IJ.1 h).1,(IJ.1 h).2.1⟩
theorem Nf p v w(h:bD eH p v w)(hn:Z p<=1000000) :aK aR 37 #[v] w λe V=>e=ak (G J (zT p))/\K w V:=by
 obtain⟨A,c,rfl,H,-⟩:=h;have z:Hid (zT p=if iH p then 0 else 120):=aY rfl;generalize zT p=R at *;have no:Hid (∀_:¬iH p=aA,R=120):=aY λh=>by rw[z.aX,bQ h]
 have yes:Hid (∀_:iH p=aA,R=0):=aY λh=>by rw[z.aX,bV h]
 have kk:=K.rf w;clear z;go_in;by_cases h0:Z p<1;have h0':(Z p:Int)<1:=aZ;exact ajW;have h0':¬(Z p:Int)<1:=aZ;by_cases t:16<Z p;have h1':16<(Z p:Int):=aZ;exact ajW;have h1':¬16<(Z p:Int):=aZ;obtain⟨b,off,rfl,y⟩:=ints_at H aZ;have S:0<Z p:=aZ;have c0:w.cell? ⟨b,off,U⟩=I (G J p[0]):=y w kk 0 S;have N:=aY (aE S);have T:=aY (y w kk);clear y H;generalize p[0]=O at *;by_cases h2:O=-1;rotate_left;have Jy:(O != -1)=true:=BR;have HR:=aY (no.aX λh=>by have:=(IJ.1 h).2.2.1;rw[N.aX]at this;injection this with this;exact h2 this);clear h2;exact BV;subst h2;go_wp2_with fail
 go_loop [3] (fun i=>∃j:Nat,1<=j/\j<=Z p/\i=G J j/\Hid (∀n (h:n<Z p),1<=n->n<j->0<=p[n]/\p[n]<(n:Int))) (fun i=>Z p-(aO i).toNat)
 case atStart=>exact⟨1,aZ,aZ,rfl,aY λn _ t h2=>aZ⟩
 case round =>
  obtain⟨j,W,hj,rfl,C⟩:=hrel;by_cases B:j<Z p
  .have Y:(j:Int)<Z p:=aZ;have cj:=T.aX j B;have X:Hid (0<=p[j]/\p[j]<(j:Int)->∀n (h:n<Z p),1<=n->n<j+1->0<=p[n]/\p[n]<(n:Int)):=aY λh n hn t h2=>by by_cases e:n=j;subst e;exact h;exact C.aX n hn t aZ
   have M:Hid (¬(0<=p[j]/\p[j]<(j:Int))->R=120):=aY λh=>no.aX λho=>h ((IJ.1 ho).2.2.2 j B W)
   generalize p[j]=Q at *;by_cases h3:Q<0;have HR:=aY (M.aX aZ);exact BV;by_cases h4:(j:Int)<=Q;have HR:=aY (M.aX aZ);exact BV;have y9:=aY (X.aX aZ);go_wp2;go_round
   case rel=>exact⟨j+1,aZ,aZ,dh,y9⟩
   case measure=>simp[aO];omega
  have Y:¬(j:Int)<Z p:=aZ;have HR:=aY (yes.aX (IJ.2 ⟨aZ,aZ,N.aX,λn hn t=>C.aX n hn t aZ⟩));exact BV
def vC(p:List Int)(n:Int):Bool:=iW p n&&iH p
theorem WI p n v w(h:bD eH p v w)(hn:Z p<=1000000) :aK aR 282 #[v,G J n] w λe t=>e=ak (ar (vC p n))/\K w t:=by
 have y:=aY λW (k:K w W)=>Nf p v W (cM h k) hn
 obtain⟨A,c,rfl,B,-⟩:=h;have HC:Hid (vC p n=((decide (0<=n)&&decide (n<(Z p:Int)))&&iH p)):=aY rfl;have j:Hid (zT p=if iH p then 0 else 120):=aY rfl;generalize vC p n=R at *;generalize zT p=T at *;have kk:=K.rf w;go_in;by_cases h0:0<=n;rotate_left;exact ajX;by_cases h1:n<(Z p:Int);rotate_left;have HR:Hid (R=az):=aY (by rw[HC.aX];simp[h1]);exact BV;have HR:Hid (R=iH p):=aY Za;go_wp2_with fail
 apply bW (y.aX w kk);intro z k1;cases ho:iH p
 .obtain rfl:T=120:=by rw[j.aX,ho];rfl
  have kN:Hid (R=az):=aY (by rw[HR.aX,ho]);go_wp2;exact SV
 obtain rfl:T=0:=by rw[j.aX,ho];rfl
 have kN:Hid (R=aA):=aY (by rw[HR.aX,ho]);go_wp2;exact SV
theorem ax6 p a b v w(h:bD eH p v w)(hn:Z p<=1000000) :aK aR 284 #[v,G J a,G J b] w λe Q=>e=ak (ar (FW p a b))/\K w Q:=by
 have H:=aY λW (k:K w W)=>WI p a v W (cM h k) hn
 have t:=aY λW (k:K w W)=>WI p b v W (cM h k) hn
 obtain⟨A,c,rfl,C,-⟩:=h;have HC:Hid (FW p a b=(vC p a&&vC p b&&FV p a (Z p+1) b)):=aY (by unfold FW vC;cases iW p a <;> cases iW p b <;> cases iH p <;> rfl);generalize FW p a b=R at *;have y:Hid (vC p b=aA->iH p=aA/\0<=b/\b<(Z p:Int)):=aY aBy;have z:Hid (vC p a=aA->iH p=aA):=aY (by unfold vC;simp);have V:=K.rf w;go_in;go_wp2;go_step3;go_wp2_with fail
 apply bW (H.aX w V);intro N k1;cases Md:vC p a;have HR:Hid (R=az):=aY (by rw[HC.aX,Md];rfl);clear Md;exact ajY;have X:=aY (z.aX Md);go_wp2_with fail
 apply bW (t.aX N k1);intro w2 M;replace k1:=k1.tr M;cases rG:vC p b;have HR:Hid (R=az):=aY ajZ;clear Md rG;exact ajY;have HR:Hid (R=FV p a (Z p+1) b):=aY ajZ;obtain⟨-,hb0,cK⟩:=y.aX rG;obtain⟨bl,off,rfl,B⟩:=ints_at C aZ;have O:=aY B;clear Md rG HC y z H t B C M;go_wp2_with fail
 go_step3;go_wp2_with fail
 go_loop [2,7] (fun j T=>∃(f:Nat) (n:Int),j=G J n/\T=ar az/\-1<=n/\n<(Z p:Int)/\n+1<(f:Int)/\Hid (R=FV p a f n)) (fun j _=>(aO j+1).toNat)
 case atStart=>exact⟨Z p+1,b,rfl,rfl,aZ,aZ,aZ,HR⟩
 case round =>
  clear HR;obtain⟨f,n,rfl,rfl,fR,nA,hf,HR⟩:=hrel;obtain⟨f,rfl⟩:∃f',f=f'+1:=⟨f-1,aZ⟩;by_cases S:0<=n
  .by_cases ha:a=n
   .subst ha;have kN:Hid (R=aA):=aY (by rw[HR.aX,FV,bQ (by omega),bV rfl]);go_wp2;try rw[jE]
    exact SV
   have:(a==n)=false:=by simpa using ha
   obtain⟨m,rfl⟩:=Int.eq_ofNat_of_zero_le S;have hm:m<Z p:=aZ;have:=O.aX w2 k1 m hm;have kN:Hid (R=FV p a f p[m]):=aY (by rw[HR.aX,FV,bQ (by omega),bQ ha];simp[hm]);have Y:-1<=p[m]/\p[m]<(m:Int):=by
    have:=IJ.1 X.aX;by_cases h1:m=0
    .grind
    grind
   clear ha HR;generalize p[m]=q at *;obtain⟨js,rK⟩:=Y;go_wp2;go_round
   case rel=>exact⟨f,q,rfl,rfl,aZ,aZ,aZ,kN⟩
   case measure=>simp[aO];omega
  have:n<0:=aZ;have kN:Hid (R=az):=aY (by rw[HR.aX,FV,bV (by omega)]);go_wp2;try rw[jE]
  exact SV
section
open Go Go.RowKit Go.Shelf
attribute [local go_sem] Oper.semAt_some
def B8(p:List Int)(n:Int)(j:Nat):List Int:=((List.range j).filter λk=>decide (p[k]?=I n)).map λ(k:Nat)=>(k:Int)
theorem auI(p:List Int)(n:Int)(j:Nat)(h:j<Z p):B8 p n (j+1)=B8 p n j++(if p[j]=n then [(j:Int)]else []):=by unfold B8;rw[List.range_succ,List.filter_append,List.map_append];congr 1;by_cases e:p[j]=n;rw[bV e,List.filter_cons_of_pos (by simpa [h]using e)];rfl;rw[bQ e,List.filter_cons_of_neg (by simpa [h]using e)];rfl
theorem av9 p n j(h:j<=Z p):B8 p n j <+: uI p n:=by
 unfold B8 uI;have:List.range (Z p)=List.range j++(List.range (Z p-j)).map (j+·):=by rw[show Z p=j+(Z p-j) by omega,List.range_add];simp
 grind
theorem ax7 p n:Z (uI p n)<=Z p:=by grind [uI]
def Hq(B b:Nat)(W W':aP):Prop:=W'.heap[B]?=W.heap[B]?/\W'.heap[b]?=W.heap[b]?
theorem Hq.tr{B b W W' j}(h:Hq B b W W')(k:Hq B b W' j):Hq B b W j:=⟨k.1.trans h.1,k.2.trans h.2⟩
theorem ax8 l O A b N c p n(y M:List Int->aP->Prop)(hY:∀pre x W,y pre W->Z pre<Z (uI p n)->YieldAt Fence.wide 4 aR l #[G J x] W λe W' =>(e=ak (ar aA)/\y (pre++[x]) W'/\Hq A b W W')\/(e=ak (ar az)/\M (pre++[x]) W')) W(h1:W.cell? ⟨O,0,U⟩=I (F (I ⟨b,N,U⟩) (Z p) c))(V:W.cell? ⟨A,0,U⟩=I (G J n))(Y:∀i (hi:i<Z p),W.cell? ⟨b,N+i,U⟩=I (G J p[i]))(hlen:Z p<=1000000)(X:y [] W) :CallsIn Fence.wide 5 aR 308 #[.func (.yield l) #[] #[],aj (I ⟨O,0,U⟩),aj (I ⟨A,0,U⟩)] W λe W'=>(∃v,e=ak v) /\((∃S,S=uI p n/\y S W')\/(∃pre,pre <+: uI p n/\M pre W')):=by
 refine callsIn_of_wp func308 rfl trivial ?_ rfl;simp only[ntmps308,List.size_toArray,gH,List.length_nil,Nat.reduceAdd,Nat.reduceSub,Array.replicate_succ,Array.replicate_zero,List.push_toArray,List.append_toArray,bZ,cC];gi_wp2;gi_loopw [4,5,8] (λ_ _ i wr=>∃j:Nat,i=G J j/\j<=Z p/\y (B8 p n j) wr/\Hq A b W wr) (λ_ _ i _=>Z p-(aO i).toNat)
 case atStart=>exact⟨0,rfl,aZ,X,rfl,rfl⟩
 case round =>
  obtain⟨j,rfl,hj,t,z⟩:=hrel;by_cases C:j<Z p
  .have cE:(j:Int)<Z p:=aZ;have cj:=(World.cell?_of_block z.2).trans (Y j C);have c2:=(World.cell?_of_block z.1).trans V;have hs:=auI p n j C;have hp:=av9 p n (j+1) aZ;have Q:=aY hs;have T:=aY hp;generalize p[j]=q at *;by_cases e:q=n
   .subst e;have B:Hid (B8 p q (j+1)=B8 p q j++[(j:Int)]):=aY (by rw[Q.aX,bV rfl]);obtain⟨fn,tmps,assign,body,hy,hR⟩:=hY (B8 p q j) j wr t (by have:=T.aX.length_le;rw[B.aX]at this;simp at this;omega);gi_wp2;refine hR.mono ?_;rintro e W3 (⟨rfl,R,lY⟩|⟨rfl,H⟩)
    .rw[<- B.aX]at R;gi_wp2;go_roundw
     case rel=>exact⟨j+1,dh,aZ,R,z.tr lY⟩
     case measure=>simp[aO];omega
    rw[<- B.aX]at H;gi_wp2;refine aM (results_none rfl _ _ _) rfl ?_;exact⟨⟨_,rfl⟩,aJ ⟨_,T.aX,H⟩⟩
   have e':(q==n)=false:=Oc;rw[show B8 p n j=B8 p n (j+1) by rw[Q.aX,bQ e];simp]at t;gi_wp2;refine⟨(λf hf=>by cases hf),?_⟩;gi_wp2;go_roundw
   case rel=>exact⟨j+1,dh,aZ,t,z⟩
   case measure=>simp[aO];omega
  have cE:¬(j:Int)<Z p:=aZ;obtain rfl:j=Z p:=aZ;gi_wp2;go_end0;first|exact⟨⟨_,rfl⟩,aI ⟨_,rfl,t⟩⟩|exact⟨⟨_,rfl⟩,aI t⟩|exact t|exact aI t
attribute [local go_sem] Oper.semAt_some
abbrev Pf(l:List Int):List aQ:=l.map λn=>G J n
theorem aCY:(prog.info? 3).map (λi=>(i.zero,i.size,i.bytes))=I (I (G J 0),1,8):=by rfl
theorem FZ:gQ aR 23 3 (G J 0) 1 8:=⟨underlying23,aCY,rfl,bG⟩
theorem aAo{base v l W}(h:W.ownsRow base 3 1 v (Z l) (Pf l)):bK (λk=>k<base) base 3 eH l v W :=
 ⟨l.map D4,by rw[XA];exact h,bu,λj _=>IC l j⟩
theorem auJ(p:List Int) n A c w :aK aR 283 #[F A (Z p) c,G J n] w λe j=>e=ak (.func (.func 308) #[] #[aj (I ⟨D (L w),0,U⟩),aj (I ⟨D (L w)+1,0,U⟩)])/\j=(aU w (aq #[F A (Z p) c] 23)).alloc (aq #[G J n] 3):=Zb
theorem auK p n v w(h:bD eH p v w)(hn:Z p<=1000000) :aK aR 232 #[v,G J n] w λe y=>∃v',e=ak v'/\bK (λk=>k<D (L w)) (D (L w)) 3 eH (I6 p n) v' y/\K w y:=by
 have C1:=aY λW (k:K w W)=>WI p n v W (cM h k) hn
 obtain⟨A,c,rfl,hl,-⟩:=h;have HC:Hid (I6 p n=if vC p n then uI p n else []):=aY rfl;have Y:Hid (vC p n=aA->0<Z p):=aY aBz;generalize I6 p n=R at *;have kk:=K.rf w;refine (callsIn_wide (n:=6)).1 ?_;refine callsIn_of_wp_marks func232 rfl trivial ?_ rfl;simp only[ntmps232,List.size_toArray,gH,List.length_nil,Nat.reduceAdd,Nat.reduceSub,Array.replicate_succ,Array.replicate_zero,List.push_toArray,List.append_toArray,bZ,cC];gi_wp2_with fail
 refine⟨trivial,(callsIn_wide.2 (C1.aX w kk)).mono ?_⟩;rintro e H⟨rfl,k1⟩;cases hb:vC p n
 .have HR:Hid (R=[]):=aY (by rw[HC.aX,hb];rfl);clear hb;gi_wp2;exact⟨_,results_tmp rfl _ _ _,_,rfl,by rw[HR.aX];exact bK.nil _ _ _ _ _,k1⟩
 have HR:Hid (R=uI p n):=aY (by rw[HC.aX,hb];rfl);obtain⟨b,z,rfl,hcell⟩:=ints_at hl (Y.aX hb);have fY:b<D (L w):=KP (hcell w kk 0 (Y.aX hb));have yZ:=aY hcell;clear hb HC Y C1 hl hcell;gi_wp2_with fail
 refine⟨trivial,(callsIn_wide.2 (auJ p n _ c _)).mono ?_⟩;rintro e C⟨rfl,rfl⟩;have gI:=((Boxed.new H 23 (F U 0 0)).alloc (aq #[F (I ⟨b,z,U⟩) (Z p) c] 23)).alloc (aq #[G J n] 3);have hx1:=(Boxed.new (aU H (aq #[F U 0 0] 23)) 23 (F (I ⟨b,z,U⟩) (Z p) c)).alloc (aq #[G J n] 3);have M:=Boxed.new ((aU H (aq #[F U 0 0] 23)).alloc (aq #[F (I ⟨b,z,U⟩) (Z p) c] 23)) 3 (G J n);have k2:K w (((aU H (aq #[F U 0 0] 23)).alloc (aq #[F (I ⟨b,z,U⟩) (Z p) c] 23)).alloc (aq #[G J n] 3)):=((k1.al _).al _).al _;simp only[World.size_alloc]at hx1 M|-;have hz1:=k1.size;have aEv:=aY (yZ.aX _ k2);generalize ((aU H (aq #[F U 0 0] 23)).alloc (aq #[F (I ⟨b,z,U⟩) (Z p) c] 23)).alloc (aq #[G J n] 3)=C at *;generalize hg:D (L H)=B0 at *;clear hg yZ;gi_wp2_with fail
 refine wpIn_rangeFunc_ownF rfl aZ (gf:=308) (lb:=#[aj (I ⟨B0+1,0,U⟩),aj (I ⟨B0+1+1,0,U⟩)]) rfl trivial (enters_of func308 gP rfl)
  (encs:=λx:Int=>#[G J x]) (Kp:=Hq (B0+1+1) b) (S:=λys=>ys=uI p n) (Sp:=λpre=>pre <+: uI p n) (N:=Z (uI p n)) (w0:=C)
  (λl ae Jx W V _ _ hY h0=>ax8 l (B0+1) (B0+1+1) b z c p n ae Jx hY W ((World.cell?_of_block (V.block _ hx1.lt)).trans hx1.cell) ((World.cell?_of_block (V.block _ M.lt)).trans M.cell)
   (λi hi=>(World.cell?_of_block (V.block _ (show b<_ by have:=k2.size;omega))).trans (aEv.aX i hi)) hn h0)
  (λh k=>h.tr k) (λW l o o' h1 _ _ _=>⟨World.putObj_heap_other (by have:=M.lt;omega),World.putObj_heap_other (by have:=k2.size;omega)⟩) (eP _ _) (λ_=>rfl)
  (λpre W=>∃v,Boxed W B0 23 v/\W.ownsRow (D (L C)) 3 1 v (Z pre) (Pf pre)/\aN (D (L w)) w W/\D (L C)<=D (L W))
  (λ_ _ _=>False) ?own (λ_ _ _ _ _ hs _ _=>hs) ⟨_,gI,oV _ _ _ _,k2,bP _⟩
  (λx=>{ tmps:=#[F (I ⟨b,z,U⟩) (Z p) c,G J n,undef,undef,F U 0 0,aj (I ⟨B0,0,U⟩),G J x,F (I ⟨b,z,U⟩) (Z p) c,G J n,ar aA,ar az,F (I ⟨b,z,U⟩) (Z p) c,G J n,.func (.func 308) #[] #[aj (I ⟨B0+1,0,U⟩),aj (I ⟨B0+1+1,0,U⟩)],G J x,undef,undef,undef,undef,undef],defers:=[] }) ?assign ?body ?done ?stop
 case own => exact aj0
 case assign => intro l x W K hK;gi_wp2;exact hK
 case body =>
  rintro l pre x W⟨v,hv,hrow,hB,PY⟩ hpl;have q:=hv.cell;have hul:=ax7 p n;have Ll:=xj hrow (aq #[G J x] 3);have cK:=bn.new W 3 #[G J x];obtain⟨i,hi,hz0,mg,lr⟩:=FZ.fit;gi_wp2_with (gi_at_builtin;refine wpListIn_append_own _ rfl _ _ 23 rfl (D (L C)) 3 i (G J 0) 1 8 underlying23 hi hz0 mg lr rfl bG v (Z pre) (Pf pre) rfl Ll ⟨D (L W),0,U⟩ 1 1 [G J x] rfl rfl ?c1 ?c2 ?c3 ?c4 ?c5 ?_)
  case c1 =>
   intro j u Q;have:j=0:=by grind
   subst this;have h:=cK.cell 0;simp at Q|-;rw[<- Q];simp[Addr.add]
  case c2=>intro u Q;simp at Q;subst Q;rfl
  case c3=>unfold maxLen;omega
  case c4=>omega
  case c5=>simp;omega
  intro v' y hown' hgrow _;obtain⟨g',cap',O⟩:∃g cap,v'=F (I ⟨g,0,U⟩) (Z pre+1) cap:=aj1;rw[O]at hown'|-;clear O;obtain⟨v',O⟩:∃v',v'=F (I ⟨g',0,U⟩) (Z pre+1) cap':=⟨_,rfl⟩;rw[<- O]at hown';have hne:I B0≠aW v:=λe=>by have:=(hrow.lt B0 e.symm).1;have:=gI.lt;omega
  have Bc:=(hv.alloc _).kept hgrow hne;have q1:=Bc.cell;have z1:=Bc.frozen;have Pg:aW v'≠I B0:=λe=>by have:=(hown'.lt B0 e).1;have:=gI.lt;omega
  have u :=
   ((bf.cz ((K.rf W).al (aq #[G J x] 3)) _).tr (bf.gy hgrow λg hg=>aJ (Ll.lt g hg).1)).tr (bf.dx (X:=λk=>k=B0\/D (L C)<=k) (aI rfl) 0 v')
  have U3:KeepsOthers W (aV y ⟨B0,0,U⟩ v'):=by refine ((KeepsOthers.alloc W (aq #[G J x] 3)).trans (KeepsOthers.of_grownBy hgrow λj o ej hj=>?_)).trans (KeepsOthers.setCell _ _ _);exact aj2
  have T:Boxed (aV y ⟨B0,0,U⟩ v') B0 23 v'/\(aV y ⟨B0,0,U⟩ v').ownsRow (D (L C)) 3 1 v' (Z (pre++[x])) (Pf (pre++[x]))/\aN (D (L w)) w (aV y ⟨B0,0,U⟩ v')/\D (L C)<=D (L (aV y ⟨B0,0,U⟩ v')):=by refine⟨Bc.set v',?_,⟨u.os.trans hB.os,u.tape.trans hB.tape,u.output.trans hB.output,cQ hB.size u.size,λk hk=>(u.block k (cZ hk hB.size) λh=>?_).trans (hB.block k hk)⟩,cQ PY u.size⟩;exact aj3;have:=k2.size;omega
  have PG:Hq (B0+1+1) b W (aV y ⟨B0,0,U⟩ v'):=by have h2:=M.lt;have h3:=k2.size;exact⟨u.block _ aZ aZ,u.block _ aZ aZ⟩
  subst O;gi_wp2;exact⟨U3,PG,_,T.1,T.2.1,T.2.2.1,T.2.2.2⟩
 case done =>
  rintro aS ys W hD rfl⟨v,hv,hrow,hB,PY⟩ hK;have q:=hv.cell;have hr:(W.putObj aS (.deferred U)).ownsRow (D (L w)) 3 1 v (Z (uI p n)) (Pf (uI p n)):=KS (pF k2.size hrow) λg _ _ h2=>World.putObj_heap_other λe=>by exact aj4
  have HV:=aY (aAo hr);have HI:=aY (belowK_b (n₀:=D (L w)) (w:=C) k2.size W aS _ (.deferred U) hD hK rfl rfl);gi_wp2;refine⟨bu,aI ⟨_,_,rfl,run_takeDeferred hK,?_⟩⟩;exact⟨_,results_tmp rfl _ _ _,_,rfl,by rw[HR.aX];exact HV.aX,hB.trans HI.aX⟩
 case stop => simp
attribute [local go_sem] Oper.semAt_some
theorem auL b w :aK aR 289 #[.map (I b)] w λe j=>e=ak (.func (.func 315) #[] #[aj (I ⟨D (L w),0,U⟩)])/\j=w.alloc (aq #[.map (I b)] 160):=Zb
theorem ahQ{α:Type}:∀(aT:List α) (i:Nat) (h:i<Z aT),(aT[i] :: aT.eraseIdx i).Perm aT
 | [],i,h=>zH
 | x :: l,0,_=>bu
 | x :: l,i+1,h=>by have j:i<Z l:=Dz;simp only[List.getElem_cons_succ,List.eraseIdx_cons_succ];exact (List.Perm.swap _ _ _).trans ((ahQ l i j).cons x)
theorem awa{α:Type}{pre j M:List α}(h:(pre++j).Perm M) i(t:i<Z j):(pre++[j[i]]++j.eraseIdx i).Perm M:=by refine List.Perm.trans ?_ h;rw[gA];exact List.Perm.append_left pre (ahQ j i t)
theorem ax9 l O b bC(y M:List bY->aP->Prop)(hY:∀pre x W,y pre W->Z pre<Z bC->YieldAt Fence.wide 4 aR l #[oy x] W λe W' =>(e=ak (ar aA)/\y (pre++[x]) W'/\KeepsWalks W W')\/(e=ak (ar az)/\M (pre++[x]) W')) W(C:AbidesFrom (D (L W)) y)(h1:W.cell? ⟨O,0,U⟩=I (.map (I b)))(hm:fP oy W b bC)(S:y [] W) :CallsIn Fence.wide 5 aR 315 #[.func (.yield l) #[] #[],aj (I ⟨O,0,U⟩)] W λe W'=>(∃v,e=ak v) /\((∃j:List bY,j.Perm (bC.map (·.1))/\y j W')\/(∃pre:List bY,True/\M pre W')):=by
 refine callsIn_of_wp func315 rfl trivial ?_ rfl;simp only[ntmps315,List.size_toArray,gH,List.length_nil,Nat.reduceAdd,Nat.reduceSub,Array.replicate_succ,Array.replicate_zero,List.push_toArray,List.append_toArray,bZ,cC];gi_wp2_with (first|(gi_at_range;refine ast _ rfl _ 160 rfl _ _ underlying160 b bC rfl hm ?_;intro w0 Y hg0 hs0)|gi_in)
 go_frame;generalize hB:D (L W)=B at *;gi_loopw [3,6,7,8,9,10,11,12,13] (λ_ _ _ _ _ _ _ _ _ wr=>∃(j t:List bY),uQ oy wr b B bC t/\(j++t).Perm (bC.map (·.1))/\y j wr) (λ_ _ _ _ _ _ _ _ _ wr=>wr.rangeLeft b B)
 case atStart=>exact⟨[],_,Y,bu,C [] W w0 U S hg0 (λr e=>uC)⟩
 case round =>
  obtain⟨j,t,A,N,V⟩:=hrel;gi_wp2_with (first|(gi_at_next;refine asF _ rfl _ rfl b B bC t rfl A ?_ ?_)|gi_in)
  .intro hL;subst hL;gi_wp2;go_end0;grind
  intro i hi v z dC gh jI hen;have X:=C j wr z (I B) V gh (λr e=>by cases e;exact⟨bP _,A.walk⟩);have hp2:=awa N i hi;have hlen:Z j<Z bC:=by have:=N.length_eq;simp at this;omega
  generalize hL':t.eraseIdx i=H at *;have T:Z H<Z t:=bL;generalize t[i]=x at *;have Ez:y j (aU z (aq (eI x) 42)):=C j z _ U X (World.grownBy_alloc _ _ _) (λr e=>uC);have gX:uQ oy (aU z (aq (eI x) 42)) b B bC H:=dC.walks (KeepsWalks.of_grownBy (World.grownBy_alloc _ _ U) (λ_ _ e=>uC));obtain⟨fn,tmps,assign,body,hy,R⟩:=hY j x _ Ez hlen;obtain⟨x0,x1,x2⟩:=x;simp only[oy]at hen hy R|-;gi_wp2;refine R.mono ?_;rintro e W3 (⟨rfl,hJ4,lY⟩|⟨rfl,abu⟩)
  .gi_wp2;have Q:=gX.walks lY;go_roundw
   case rel=>exact⟨_,H,Q,hp2,hJ4⟩
   case measure=>rw[Q.left,A.left];exact T
  gi_wp2;refine aM (results_none rfl _ _ _) rfl ?_;grind
attribute [local go_sem] Oper.semAt_some
theorem aBA{W W' g t cs}(h:bn W g t cs){row}(hg:W.grownBy W' row)(z:∀r,row=I r->∃o:Obj,W.heap[r]?=I o/\o.isCells=az):bn W' g t cs :=(hg.block g h.lt λe=>by
 obtain⟨o,j,y⟩:=z g e.symm;unfold bn at h;rw[h]at j;cases j;cases y).trans h
theorem asG b H bC w(h1:w.cell? ⟨H,0,U⟩=I (.map (I b)))(hm:fP oy w b bC)(hlen:Z bC<=1000000) :aK aR 337 #[F U 0 0,.func (.func 315) #[] #[aj (I ⟨H,0,U⟩)]] w λe Q=>∃(v':aQ) (O:List bY),e=ak v'/\O.Perm (bC.map (·.1))/\Q.ownsRow (D (L w)) 42 3 v' (Z O) (O.flatMap gF)/\K w Q:=by
 have gI:=Boxed.new w 53 (F U 0 0);have k2:=K.new w (aq #[F U 0 0] 53);have hm2:=hm.st k2;have Mf:H<D (L w):=KP h1;have h12:=(k2.cell (p:=⟨H,0,U⟩) Mf).trans h1;refine (callsIn_wide (n:=6)).1 ?_;refine callsIn_of_wp_marks func337 rfl trivial ?_ rfl;simp only[ntmps337,List.size_toArray,gH,List.length_nil,Nat.reduceAdd,Nat.reduceSub,Array.replicate_succ,Array.replicate_zero,List.push_toArray,List.append_toArray,bZ,cC];gi_wp2_with fail
 generalize w.alloc _=M at *;generalize hg:D (L w)=B0 at gI|-;have HG:=aY hg;clear hg hm h1;have Hc:H<D (L M):=KP h12;refine wpIn_rangeFunc_ownH rfl aZ (gf:=315) (lb:=#[aj (I ⟨H,0,U⟩)]) rfl trivial (enters_of func315 gP rfl)
  (encs:=λx:bY=>#[oy x]) (Kp:=KeepsWalks) (S:=λO:List bY=>O.Perm (bC.map λp:bY×aQ=>p.1)) (Sp:=λ_=>True) (N:=Z bC) (w0:=M)
  (λl ae Jx W hW hJ _ hY h0=>ax9 l H b bC ae Jx hY W hJ ((hW.cell (p:=⟨H,0,U⟩) Hc).trans h12) (hm2.st hW) h0)
  walksK_t walksK_b (eP _ _) (λ_=>rfl)
  (λpre W=>∃v,Boxed W B0 53 v/\W.ownsRow (D (L M)) 42 3 v (Z pre) (pre.flatMap gF)/\aN (D (L w)) w W/\D (L M)<=D (L W))
  (λ_ _ _=>False) ?own (λ_ _ _ _ _ hs _ _=>hs) ⟨_,gI,oV _ _ _ _,k2,bP _⟩
  (λx a' W=>∃R,D (L M)<=R/\bn W R 42 (eI x)/\a'={ tmps:=#[F U 0 0,.func (.func 315) #[] #[aj (I ⟨H,0,U⟩)],aj (I ⟨B0,0,U⟩),undef,F U 0 0,aj (I ⟨R,0,U⟩),.func (.func 315) #[] #[aj (I ⟨H,0,U⟩)],av (eI x),undef,undef,undef,undef,undef],defers:=[] })
  (λx a' _ X Y row hs hg hr=>by obtain⟨R,g1,g2,g3⟩:=hs;exact⟨R,g1,aBA g2 hg λr e=>(hr r e).2,g3⟩) ?assign ?body ?done ?stop
 case own => exact aj0
 case assign => rintro l pre⟨y,C,z⟩ W K ⟨v,hv,hrow,hB,hz⟩ hK;have g1:KeepsOthers W (aU W (aq (eI (y,C,z)) 42)):=KeepsOthers.alloc _ _;have g2:=xj hrow (aq (eI (y,C,z)) 42);have g3:=hB.alloc hB.size (aq (eI (y,C,z)) 42);have g4:=hv.alloc (aq (eI (y,C,z)) 42);have g5:=bn.new W 42 (eI (y,C,z));simp only[oy];gi_wp2;exact hK _ _ (g1.from _) g1.walks ⟨v,g4,g2,g3,cN⟩ ⟨D (L W),hz,g5,rfl⟩
 case body =>
  rintro l pre⟨y,C,z⟩ a' W hl ⟨r,hr⟩ ⟨v,hv,hrow,hB,PY⟩ ⟨R,hBx,bX,rfl⟩ hpl;have q:=hv.cell;have q2:=bX.cells;have Ll:=xj hrow (aq (eI (y,C,z)) 42);have cK:=bn.new W 42 (eI (y,C,z));obtain⟨i,hi,hz0,mg,lr⟩:=sK.fit;have kk:=K.rf W;gi_wp2_with (gi_at_builtin;refine wpListIn_append_own _ rfl _ _ 53 rfl (D (L M)) 42 i _ 3 24 underlying53 hi hz0 mg lr rfl bG v (Z pre) (pre.flatMap gF) rfl Ll ⟨D (L W),0,U⟩ 1 1 (gF (y,C,z)) rfl rfl ?c1 ?c2 ?c3 ?c4 ?c5 ?_)
  case c1 => intro j u hu;have h:=cK.cell j;rw[show (eI (y,C,z))[j]?=(gF (y,C,z))[j]? by simp,hu]at h;rw[show (⟨D (L W),0,U⟩:Addr).add j=⟨D (L W),j,U⟩ by cases j <;> simp[Addr.add]];exact h
  case c2=>intro u hu;simp at hu;rcases hu with rfl|rfl|rfl <;> rfl
  case c3=>unfold maxLen;omega
  case c4=>omega
  case c5=>simp;omega
  intro v' Q hown' hgrow _;obtain⟨g',cap',T⟩:∃g cap,v'=F (I ⟨g,0,U⟩) (Z pre+1) cap:=aj1;rw[T]at hown'|-;clear T;obtain⟨v',T⟩:∃v',v'=F (I ⟨g',0,U⟩) (Z pre+1) cap':=⟨_,rfl⟩;rw[<- T]at hown';have hne:I B0≠aW v:=λe=>by have:=(hrow.lt B0 e.symm).1;have:=gI.lt;omega
  have Bc:=(hv.alloc _).kept hgrow hne;have q1:=Bc.cell;have z1:=Bc.frozen;have Pg:aW v'≠I B0:=λe=>by have:=(hown'.lt B0 e).1;have:=gI.lt;omega
  have u :=
   ((bf.cz ((K.rf W).al (aq (eI (y,C,z)) 42)) _).tr (bf.gy hgrow λg hg=>aJ (Ll.lt g hg).1)).tr (bf.dx (X:=λk=>k=B0\/D (L M)<=k) (aI rfl) 0 v')
  have U3:KeepsOthers W (aV Q ⟨B0,0,U⟩ v'):=by refine ((KeepsOthers.alloc W (aq (eI (y,C,z)) 42)).trans (KeepsOthers.of_grownBy hgrow λj o ej hj=>?_)).trans (KeepsOthers.setCell _ _ _);exact aj2
  have V:Boxed (aV Q ⟨B0,0,U⟩ v') B0 53 v'/\(aV Q ⟨B0,0,U⟩ v').ownsRow (D (L M)) 42 3 v' (Z (pre++[(y,C,z)])) ((pre++[(y,C,z)]).flatMap gF)/\aN (D (L w)) w (aV Q ⟨B0,0,U⟩ v')/\D (L M)<=D (L (aV Q ⟨B0,0,U⟩ v')):=by refine⟨Bc.set v',?_,⟨u.os.trans hB.os,u.tape.trans hB.tape,u.output.trans hB.output,cQ hB.size u.size,λk hk=>(u.block k (cZ hk hB.size) λh=>?_).trans (hB.block k hk)⟩,cQ PY u.size⟩;exact aj3;have:=k2.size;have:=HG.aX;omega
  subst T;gi_wp2;exact⟨U3.from _,U3.walks,_,V.1,V.2.1,V.2.2.1,V.2.2.2⟩
 case done =>
  rintro aS O W hD hp⟨v,hv,hrow,hB,PY⟩ hK;have q:=hv.cell;have hr:(W.putObj aS (.deferred U)).ownsRow (D (L w)) 42 3 v (Z O) (O.flatMap gF):=KS (pF k2.size hrow) λg _ _ h2=>World.putObj_heap_other λe=>by exact aj4
  have HV:=aY hr;have HI:=aY (belowK_b (n₀:=D (L w)) (w:=M) k2.size W aS _ (.deferred U) hD hK rfl rfl);have HP:=aY hp;clear hp hr;gi_wp2;refine⟨bu,aI ⟨_,_,rfl,run_takeDeferred hK,?_⟩⟩;exact⟨_,results_tmp rfl _ _ _,_,O,rfl,HP.aX,iF,hB.trans HI.aX⟩
 case stop => simp
end
def Cn(s:Nat):Nat:=if s &&& 1=1 then (s/2) ^^^ 3945912366 else s/2
def G1:Nat->Nat->Nat
 | 0,s=>s
 | k+1,s=>Cn (G1 k s)
def Fy(l:List UInt8):Nat:=l.foldl (λs b=>G1 8 (s ^^^ b.toNat)) 4294967295
def D7(l:List UInt8):Nat:=4294967295 ^^^ Fy l
theorem Sg{a b}(j:a<4294967296)(hb:b<4294967296):a ^^^ b<4294967296:=Nat.xor_lt_two_pow (n:=32) j hb
theorem aj5{s}(h:s<4294967296):Cn s<4294967296:=by grind [Cn,Sg]
theorem aBB k{s}(h:s<4294967296):G1 k s<4294967296:=by
 induction k with
 | zero=>exact h
 | succ k j=>exact aj5 j
theorem agT l b:Fy (l++[b])=G1 8 (Fy l ^^^ b.toNat):=by simp[Fy]
theorem aj6 l:Fy l<4294967296:=by rcases List.eq_nil_or_concat l with rfl|⟨t,b,rfl⟩;decide;rw[List.concat_eq_append,agT];have j:=aj6 t;exact aBB 8 (Sg j (by have:=b.toNat_lt;omega))
termination_by (Z l)
decreasing_by all_goals (subst_vars;simp)
theorem Zc l:D7 l<4294967296:=Sg bG (aj6 l)
theorem af3 l v w(h:sl l v w)(hn:Z l<=1000000000) :aK aR 130 #[v] w λe H=>e=ak (G .u32 (D7 l:Int))/\K w H:=by
 obtain⟨A,c,rfl,W⟩:=h;have O:=K.rf w;have S:Hid (D7 l=4294967295 ^^^ Fy l):=aY rfl;generalize D7 l=R at *;go_in;go_wp2_with fail
 go_loop [3,5,6,9] (fun s _ _ i=>∃j:Nat,j<=Z l/\i=G J j/\∃n:Nat,s=G .u32 n/\n<4294967296/\Hid (n=Fy (l.take j))) (fun _ _ _ i=>Z l-(aO i).toNat)
 case atStart=>exact⟨0,aZ,rfl,4294967295,rfl,aZ,aY dH⟩
 case round =>
  obtain⟨j,hj,rfl,n,rfl,hn,y⟩:=hrel;by_cases t:j<Z l
  .have T:(j:Int)<Z l:=aZ;obtain⟨b,off,rfl,-,B⟩:=W.at_ aZ;have:=B j t;have:l[j].toNat<256:=l[j].toNat_lt;have X:Hid (Fy (l.take (j+1))=G1 8 (n ^^^ l[j].toNat)):=aY (by rw[iY t,agT,y.aX]);generalize l[j]=x at *;have HX:=aY (u32_xor_nat n x.toNat hn aZ);have M:=Sg hn (show x.toNat<4294967296 by omega);clear B;go_wp2_with fail
   rw[HX.aX];generalize n ^^^ x.toNat=s0 at *;go_loop [3,6,17] (fun s _ k=>∃k':Nat,k'<=8/\k=G J k'/\∃m:Nat,s=G .u32 m/\m<4294967296/\Hid (m=G1 k' s0)) (fun _ _ k=>8-(aO k).toNat)
   case atStart=>exact⟨0,aZ,rfl,s0,rfl,M,aY rfl⟩
   case round =>
    obtain⟨k',Y,rfl,m,rfl,hm,HM⟩:=hrel;by_cases hk8:k'<8;have C:(k':Int)<8:=aZ;have hl:=aj5 hm;have ha:=u32_and_nat m 1 hm bG;by_cases h1:m &&& 1=1;have N:(bits BinOp.and IntKind.u32 (m:Int) 1==1)=true:=bL;have hB:Cn m=(m/2) ^^^ 3945912366:=by rw[Cn,bV h1]
    have HX:=aY (show bits BinOp.xor IntKind.u32 ((m:Int)/2) 3945912366=((Cn m:Nat):Int) by rw[hB];exact u32_xor_nat (m/2) 3945912366 aZ bG);exact aj7;have N:(bits BinOp.and IntKind.u32 (m:Int) 1==1)=false:=by grind
    have hB:Cn m=m/2:=by rw[Cn,bQ h1]
    have HX:=aY (show (m:Int)/2=((Cn m:Nat):Int) by omega);exact aj7;have C:¬(k':Int)<8:=aZ;obtain rfl:k'=8:=aZ;have V:Hid (m=Fy (l.take (j+1))):=aY (by rw[X.aX,HM.aX]);go_wp2;go_round
    case rel=>exact⟨j+1,aZ,dh,m,rfl,hm,V⟩
    case measure=>simp[aO];omega
  have T:¬(j:Int)<Z l:=aZ;obtain rfl:j=Z l:=aZ;have Q:Hid (R=4294967295 ^^^ n):=aY (by rw[S.aX,y.aX,pL]);have HX:=aY (u32_xor_nat 4294967295 n bG hn);go_wp2;go_ret;refine⟨?_,O⟩;rw[Q.aX];exact congrArg (λz=>ak (G IntKind.u32 z)) HX.aX
theorem ae9(g lo base k n:Nat) v l w(hb:bn w g 118 #[v])(B:Own w base 5 v l)(hlo:lo<=g/\lo<=base/\lo<=D (L w))(hbase:base<=D (L w))(hk:k<=4)(hn:n<4294967296)(hl:Z l<=1000000000) :aK aR 333 #[G .u32 n,G J k,aj (I ⟨g,0,U⟩)] w λe H=>∃t,e=ak (au #[])/\bn H g 118 #[t]/\Own H base 5 t (l++be k n)/\aN lo w H:=by
 have kk:=eP lo w;go_in;go_wp2_with fail
 go_loopw [5] (fun i W=>∃(j:Nat) (t:aQ) (pre:List UInt8),j<=k/\(∃z:Int,i=G J z/\z+1=(j:Int))/\bn W g 118 #[t]/\Own W base 5 t (l++pre)/\Hid (pre++be j n=be k n)/\aN lo w W) (fun i _=>(aO i+1).toNat)
 case atStart=>exact⟨k,v,[],aZ,⟨_,rfl,aZ⟩,hb,by simpa using B,aY bu,kk⟩
 case round =>
  obtain⟨j,t,pre,hj,⟨z,rfl,hz⟩,hb,B,O,kr⟩:=hrel;by_cases h0:0<j
  .obtain⟨j,rfl⟩:∃j',j=j'+1:=⟨j-1,aZ⟩;obtain rfl:z=(j:Int):=aZ;have cE:(0:Int)<=(j:Int):=aZ;have hj8:(8:Int)*(j:Int)<=24:=aZ;have hwr:J.wrap (8*(j:Int))=8*(j:Int):=IntWalk.i64_in _ aZ;have Ef:¬(8*(j:Int)<0):=aZ;have q:=hb.cells;have z:=hb.frozen;go_upto_region 3 with fail;have qs:=aB q (aB hwr Ef);refine Ro 7 [([],[]),([],[]),([],[]),([2],[(14,2)]),([1,3],[(13,1),(15,3)]),([4],[(16,4)]),([5],[(17,5)]),([0,6],[(12,0),(18,6)]),([0,1,2,3,4,5,6,7],[(19,7)])] 20 ?_;iterate 6 refine bB.i ?_
   refine bB.row (N:=λ_=>True) (S:=PE) 118 _ 1 1 TB rfl bG (.tmp 17) (UInt8.ofNat (n/256^j)) rfl rfl (λV W y R=>?_) ?_;simp only[dN,bZ,cC,dK,dL,bS]at R;simp only[bR,aC,beq_self_eq_true,R];refine⟨rfl,λW' _=>?_⟩;show [G .u8 _]=_;rw[show (8*(j:Int)).toNat=8*j by omega,show IntKind.u8.wrap ((n:Int)/2^(8*j))=(n:Int)/2^(8*j)%256 from by rw[IntKind.wrap_u8],agy];intro V W y hA;simp only[bZ,cC,dF,bS,Nat.reduceAdd]at hA;obtain⟨e0,-,-,-,-,-,e6,-⟩:=hA;have T:=Xt (bP _) B y;have Q:=hb.bM y;have hne:aW t≠I g:=λe=>by obtain⟨cur,h1⟩:=pH T e;exact absurd (h1.jK Q) bG
   have hpl:Z pre<=4:=by have:=congrArg Z O.aX;simp[xW]at this;omega
   have hbz:base<=D (L W):=by have:=y.size;have:=kr.size;omega
   refine bN.push (.tmp 12) (.tmp 18) 118 _ 1 1 TB rfl rfl rfl t (l++pre) (UInt8.ofNat (n/256^j)) ?_ (Own.wF (Y:=λ_=>True) T) ?_ ?_ hbz ?_;simp[bR,aC,e0];simp only[bR,aC,beq_self_eq_true];exact e6.less λ_ _=>trivial
   simp;omega;intro v2 C fq gh _ hb2;have hx2:=Q.grown gh (λe=>hne e.symm);have M:=fq.bytes;have G2:aW v2≠I g:=λe=>by obtain⟨cur,h1⟩:=pH M e;exact SX
   obtain⟨A,c2,rfl,-⟩:=M.slice;refine bN.skip (aV C ⟨g,0,U⟩ (F A (Z (l++pre++[UInt8.ofNat (n/256^j)])) c2)) rfl ?_ ?_
   .have q2:=hx2.cell;have z2:=hx2.frozen;simp[bR,aC,cP,aL,bT,q2,z2,go_sem]
   refine bN.nil ?_;simp only[iO,Act.put,xm,vU,vT,cP,Nat.reduceAdd,Nat.reduceEqDiff,if_false,if_true];have cV:=hx2.cH 0 (F A (Z (l++pre++[UInt8.ofNat (n/256^j)])) c2);have pn:Own (aV C ⟨g,0,U⟩ (F A (Z (l++pre++[UInt8.ofNat (n/256^j)])) c2)) base 5 (F A (Z (l++pre++[UInt8.ofNat (n/256^j)])) c2) (l++(pre++[UInt8.ofNat (n/256^j)])):=by rw[<- gA];exact kj M (bf.dx (X:=λk=>k=g) rfl 0 _) λb hb e=>G2 (by rw[hb,e])
   have k9:aN lo w (aV C ⟨g,0,U⟩ (F A (Z (l++pre++[UInt8.ofNat (n/256^j)])) c2)) :=
    ((kr.trans (y.mono (by have:=kr.size;omega))).trans (hb2.mono hlo.2.1)).setCell (p:=⟨g,0,U⟩) hlo.1 _
   have Da:Hid (pre++[UInt8.ofNat (n/256^j)]++be j n=be k n):=aY (by have:=O.aX;rw[be]at this;simpa using this);generalize C.setCell _ _=w9 at *;go_wp2;go_roundw
   case rel=>exact⟨j,_,_,aZ,⟨_,rfl,aZ⟩,cV,pn,Da,k9⟩
   case measure=>simp[aO]
  obtain rfl:j=0:=aZ;have HE:=aY (by have:=O.aX;simpa [be]using this);go_wp2;go_end0;exact⟨_,rfl,hb,by rw[<- HE.aX];exact B,kr⟩
def jG(b:List UInt8):Bool:=decide (1<=Z b)&&decide (Z b<=4000)
def frame(b:List UInt8):List UInt8:=be 2 (Z b)++be 4 (D7 b)++b
def DP(b:List UInt8):List UInt8:=if jG b then frame b else []
def I7(b:List UInt8):Int:=if jG b then 0 else 30
theorem E1 b:Z (frame b)=Be b:=by grind [frame,xW,Be]
theorem auM b v w(h:sl b v w)(hn:Z b<=1000000000) :aK aR 301 #[v] w λe H=>∃M,e=ak (au #[M,G J (I7 b)])/\Own H (D (L w)) 5 M (DP b)/\K w H:=by
 have CS:=aY λW (k:K w W)=>af3 b v W (qK _ _ _ _ h k) hn
 have hcs:=Zc b;obtain⟨A,c,rfl,hR⟩:=h;have kk:=K.rf w;have HF:Hid (DP b=if jG b then be 2 (Z b)++be 4 (D7 b)++b else []):=aY rfl;have HC:Hid (I7 b=if jG b then 0 else 30):=aY rfl;have y:Hid (jG b=(decide (1<=Z b)&&decide (Z b<=4000))):=aY rfl;generalize I7 b=R at *;generalize DP b=ag at *;generalize jG b=ok at *;generalize D7 b=s at *;go_in;by_cases h0:0<Z b;rotate_left;have h0':((Z b:Int)==0)=true:=by rw[beq_iff_eq];omega
 obtain rfl:ok=false:=by rw[y.aX,decide_eq_false (show ¬1<=Z b by omega)];rfl
 exact aj8;have h0':((Z b:Int)==0)=false:=bL;by_cases h1:4000<Z b;have h1':4000<(Z b:Int):=aZ;obtain rfl:ok=false:=by rw[y.aX,decide_eq_false (show ¬Z b<=4000 by omega),Bool.and_false]
 exact aj8;have h1':(Z b:Int)<=4000:=aZ;obtain rfl:ok=true:=by rw[y.aX,decide_eq_true (show 1<=Z b by omega),decide_eq_true (show Z b<=4000 by omega)];rfl
 have HR:Hid (R=0/\ag=be 2 (Z b)++be 4 s++b):=aY ⟨HC.aX,HF.aX⟩;obtain⟨i,hi,N,hz1,hz2⟩:=info_parts aaS;have:∀W:aP,(Instr.makeSlice 118 (G J 0) (G J (6+(Z b:Int)))).run aR W=.ok (F (I ⟨D (L W),0,U⟩) 0 (6+Z b)) (aU W (aq (madeCells #[G .u8 0] (6+Z b)) 5)):=by intro W;have h:=run_make (P:=aR) W 118 5 i (G .u8 0) underlying118 hi N J J 0 (6+(Z b:Int)) aZ aZ Ym aZ;rw[hz1]at h;simpa [Value.cells,show ((6:Int)+(Z b:Int)).toNat=6+Z b from by omega]using h
 have hB:=bn.new w 5 (madeCells #[G .u8 0] (6+Z b));have t:=bn.new (aU w (aq (madeCells #[G .u8 0] (6+Z b)) 5)) 118 #[F (I ⟨D (L w),0,U⟩) 0 (6+Z b)];have JL:=hB.alloc (aq #[F (I ⟨D (L w),0,U⟩) 0 (6+Z b)] 118);have j:=K.ou w (aq (madeCells #[G .u8 0] (6+Z b)) 5) (aq #[F (I ⟨D (L w),0,U⟩) 0 (6+Z b)] 118);simp only[World.size_alloc]at t;go_wp2_with fail
 generalize (aU w (aq (madeCells #[G .u8 0] (6+Z b)) 5)).alloc (aq #[F (I ⟨D (L w),0,U⟩) 0 (6+Z b)] 118)=O at *;have uq:Own O (D (L w)) 5 (F (I ⟨D (L w),0,U⟩) 0 (6+Z b)) [] :=
  Rj (xs:=[]) (rest:=List.replicate (6+Z b) (G .u8 0)) (bP _) (by rw[bZ,<- toList_madeCells_one];exact JL) rfl bu E3
 have N:=t.lt;refine (ae9 (D (L w)+1) (D (L w)) (D (L w)) 2 (Z b) _ [] O t uq ⟨aZ,aZ,aZ⟩ aZ aZ aZ bu).mono ?_;rintro e V⟨v1,rfl,hx1,Q,k1⟩;replace j:=j.trans k1;rw[bZ]at Q;have X:=xW 2 (Z b);generalize be 2 (Z b)=B at *;go_wp2_with fail
 refine (CS.aX V j).mono ?_;rintro e w2⟨rfl,z⟩;have C:=hx1.bM z;have Y:=Xt (bP _) Q z;replace j:=j.tr z;have hz2:=C.lt;go_wp2_with fail
 refine (ae9 (D (L w)+1) (D (L w)) (D (L w)) 4 s v1 B w2 C Y ⟨aZ,aZ,aZ⟩ aZ aZ hcs aZ).mono ?_;rintro e w3⟨v3,rfl,jX,jk,k3⟩;replace j:=j.trans k3;have AK:=(hR.below j (bP _)).more j.size;have:=jX.cell;have oI:Z (B++be 4 s)=6:=by simp[xW,X]
 have hbz:=j.size;generalize B++be 4 s=S at *;go_wp2_with (at_builtin;refine nZ rfl _ _ 118 rfl (D (L w)) 5 _ 1 1 TB _ _ _ rfl jk _ A (Z b) c (fW b) rfl AK (yd b) ?p1 hbz ?_)
 case p1=>omega
 intro v4 T iA _ _ hb4;have HO:Hid (Own T (D (L w)) 5 v4 (S++b)):=aY (by unfold Own;rw[Nl,fg,oI];exact iA);have k4:=j.trans hb4;go_wp2;go_ret2;exact⟨_,by rw[HR.aX.1];rfl,by rw[HR.aX.2];exact HO.aX,k4⟩
theorem awb(a b:Nat)(j:a<4294967296)(hb:b<4294967296):bits .or J (a:Int) (b:Int)=((a ||| b:Nat):Int):=by
 have:a ||| b<2^32:=Nat.or_lt_two_pow aZ aZ
 show J.wrap ((BitVec.ofInt 64 (a:Int) ||| BitVec.ofInt 64 (b:Int)).toNat:Int)=_;rw[BitVec.toNat_or,ofInt_u64 a aZ,ofInt_u64 b aZ,IntKind.wrap_i64];omega
theorem afa g A z c t k(l:List UInt8) w(hb:bn w g 118 #[F (I ⟨A,z,U⟩) (Z l) c])(R:∀j (Q:j<Z l),w.cell? ⟨A,z+j,U⟩=I (G .u8 (l[j].toNat:Int)))(hfk:t+k<=Z l)(hlc:Z l<=c)(W:0<k)(hk:k<=4)(Y:Z l<=1000000000) :aK aR 129 #[G J t,G J k,aj (I ⟨g,0,U⟩)] w λe C=>e=ak (G J (kT ((l.drop t).take k):Int))/\K w C:=by
 have M:=K.rf w;have q:=hb.cell;have B:=aY R;have hfi:(t:Int)+k<=(Z l:Int):=aZ;have V:¬c=t:=aZ;go_in;go_wp2_with fail
 go_loop [6,8,16] (fun n _ i=>∃j:Nat,j<=k/\i=G J j/\∃m:Nat,n=G J m/\Hid (m=kT ((l.drop t).take j))) (fun _ _ i=>k-(aO i).toNat)
 case atStart=>exact⟨0,aZ,rfl,0,rfl,aY dH⟩
 case round =>
  obtain⟨j,Q,rfl,m,rfl,y⟩:=hrel;by_cases T:j<k
  .have N:(j:Int)<k:=aZ;have X:w.cell? ⟨A,z+t+j,U⟩=I (G .u8 ((l[t+j]'aZ).toNat:Int)):=by have:=B.aX (t+j) aZ;rwa [Nat.add_assoc]
   have hx:=(l[t+j]'aZ).toNat_lt;have S:Hid (kT ((l.drop t).take (j+1))=m*256+(l[t+j]'aZ).toNat):=aY (by rw[iY (by simp;omega),Xu,y.aX];simp);have hm:m<16777216:=by have:=NU ((l.drop t).take j);rw[<- y.aX]at this;have H:Z ((l.drop t).take j)<=3:=cN;have h3:256^Z ((l.drop t).take j)<=256^3:=Nat.pow_le_pow_right bG H;omega
   generalize (l[t+j]'aZ).toNat=x at *;have O:=aY (show bits BinOp.or J ((m:Int)*256) (x:Int)=((m*256+x:Nat):Int) by
    rw[show (m:Int)*256=((m*256:Nat):Int) by simp,awb _ _ aZ aZ,nat_join 8 _ _ aZ aZ])
   go_wp2;go_round
   case rel=>exact⟨j+1,aZ,dh,m*256+x,by rw[O.aX],aY S.aX.symm⟩
   case measure=>simp[aO];omega
  have N:¬(j:Int)<k:=aZ;obtain rfl:j=k:=aZ;go_wp2;go_ret;exact⟨by rw[<- y.aX];rfl,M⟩
