/-
  The overlay's clients (layer 21): what Poll writes. Conditions: none.
-/
import Derived.Test.YtfndfpdhlbmboaaGreatMd29
import Derived.Test.YtfndfpdhlbmboaaGreatMdz
set_option maxRecDepth 100000
set_option linter.constructorNameAsVariable false
set_option maxHeartbeats 16000000
set_option linter.unusedVariables false
set_option linter.unusedSimpArgs false
namespace Go.Proofs.YtfndfpdhlbmboaaGreat
open Go Go.RowKit _root_.Go.Proofs.Tryz
section
variable {S:Nat->Prop} {W W1:World} {H:mM} {own:Nat->Nat} {O:bF}
theorem aB.Zd{α T Y base e}{l:List α}{v}(h:aB Y base e T l v W)(t:0<l.length):∃b cap,v=.slice (some ⟨b,0,none⟩) l.length cap:=by
 obtain⟨css,j,-⟩:=h;rcases j.2 with ⟨-,u⟩|⟨g,cap,cur,e,-⟩
 ·omega
 ·exact⟨g,cap,e⟩
theorem bu.ak0(h:bu H own O W S)(I:S 2){m}(hm:m<O.cur.length) x :
 ∃b cap cur,H.vc=.slice (some ⟨b,0,none⟩) O.cur.length cap/\own b=2/\ai W b 3 cur/\bu H own { O with cur:=O.cur.set m x } (W.setCell ⟨b,m,none⟩ (.int .i64 x)) S:=by
 obtain⟨E,C,L,A,D,⟨Q,T,B,R⟩,G,N⟩:=h.fo I
 obtain⟨b,cap,e⟩:=A.Zd af
 obtain⟨_,_,cur,hb⟩:=A.own (b:=b) Cb
 have M:=B b Cb
 have u:ag (λk=>k=b) W (W.setCell ⟨b,m,none⟩ (.int .i64 x)):=ag.bM (X:=λk=>k=b) rfl m _
 have t:bu H own O (W.setCell ⟨b,m,none⟩ (.int .i64 x)) λj=>S j/\j≠2:=h.to u (λk e=>aA) (λ_ h=>h.1) (λ_ _=>rfl) λk hk e=>XL
 refine⟨b,cap,cur,e,M,hb,t.lo,t.fx,λ_=>⟨E.aW u λe=>by subst e;exact absurd (E.ie hb) (by decide),C.aW u λe=>(e▸C).cells hb,L,?_,D.to u (λ_ _=>trivial) (λk hk e=>?_) λ_ _ _=>.inl trivial,⟨Q,T,B,R⟩,G,N⟩,λJ=>t.cz ⟨J,af⟩,λn y hn=>t.brk n y ⟨hn,af⟩,λc l F=>t.got c l ⟨F,af⟩⟩
 ·rw[e]at A⊢;have:=A.Y5 hm (y:=x) (cs:=[.int .i64 x]) rfl (λ_ _=>rfl);simpa [ef,show cQ.size=1 from rfl]using this
 ·obtain⟨_,_,U,hb2⟩:=D.own hk;subst e;exact Ce
theorem bu.aAP(h:bu H own O W S)(h2:S 2){c}(hS:S (2*c+5)){l}(hl:O.got[c]?=some l){v v'}(hv:H.vs[c]?=some v){x}
 (E:ag (λk=>v.ownBlock=some k) W W1) (L:aB (λk=>own k≠0) 0 37 (AL cO) (l++[x]) v' W1) (hat:∀b,v'.ownBlock=some b->v.ownBlock=some b∨W.heap.size<=b) :
 ∃b cap cur,H.vg=.slice (some ⟨b,0,none⟩) O.got.length cap/\own b=2/\ai W1 b 59 cur/\∃B,bu { H with vs:=H.vs.set c v' } B { O with got:=O.got.set c (l++[x]) } (W1.setCell ⟨b,c,none⟩ v') S/\∀k,k<W.heap.size->B k=own k:=by
 obtain⟨Y,V,a3,U,J,⟨b1,b2,b3,T⟩,a7,a8⟩:=h.fo h2
 have hcl:=(List.getElem?_eq_some_iff.1 hl).1
 obtain⟨v0,F,kN,I⟩:=h.got c l hS hl
 rw[hv]at F
 injection F with F
 subst F
 obtain⟨b,cap,e⟩:=J.Zd (W:=W) af
 rw[a7]at e
 obtain⟨_,bT,cur,hb⟩:=J.own (b:=b) Cb
 have ob:=T b Cb
 have aN:=hb.aW E λe1=>aA
 have hz1:=E.size
 have N:ag (λk=>k=b) W1 (W1.setCell ⟨b,c,none⟩ v'):=ag.bM (X:=λk=>k=b) rfl c _
 have hz2:=N.size
 have u:ag (λk=>v.ownBlock=some k∨k=b) W (W1.setCell ⟨b,c,none⟩ v'):=(E.more λk e=>.inl e).tr (N.more λk e=>.inr e)
 have hX:∀k,v.ownBlock=some k∨k=b->own k=2*c+5∨own k=2:=λk hk=>hk.imp (I k) λe=>aA
 obtain⟨B,oD⟩:∃B:Nat->Nat,B=λk=>if W.heap.size<=k then (if v'.ownBlock=some k then 2*c+5 else 0)else own k:=⟨_,rfl⟩
 have C:∀k,k<W.heap.size->B k=own k:=λk hk=>aA
 have je:∀k,W.heap.size<=k->B k≠0->v'.ownBlock=some k/\B k=2*c+5:=λk hk hn=>by
  grind
 have aEA:∀k,W.heap.size<=k->v'.ownBlock=some k->B k=2*c+5:=λk hk t=>by
  grind
 clear oD
 have D:bu H B O (W1.setCell ⟨b,c,none⟩ v') λj=>S j/\j≠2/\j≠2*c+5:=h.to u (λk hk=>by have:=hX k hk;constructor <;> omega) (λ_ h=>h.1) C λk hk hn=>by obtain⟨Q,Z⟩:=je k hk hn;have:=(L.blk k Q).2;exact⟨af,af⟩
 have aAQ:∀k,v'.ownBlock=some k->k≠b:=λk hk t=>by
  grind
 have aAR:∀k,v'.ownBlock=some k->B k=2*c+5:=λk hk=>by
  grind
 refine⟨b,cap,cur,e,ob,aN,B,⟨D.lo,D.fx,λ_=>⟨Y.aW u λt=>?_,V.aW u λt=>?_,a3,U.to u (λ_ _=>trivial) (λk hk t=>?_) λ_ _ _=>.inl trivial,?_,⟨(C _ Y.lt).trans b1,(C _ V.lt).trans b2,λk hk=>(C k (U.blk k hk).2).trans (b3 k hk),λk hk=>(C k (J.blk k hk).2).trans (T k hk)⟩,aA,a8⟩,λh3=>D.cz ⟨h3,af,af⟩,λn y hn=>D.brk n y ⟨hn,af,af⟩,λc2 l2 hc G=>?_⟩,C⟩
 ·rcases t with t|t
  ·grind
  ·subst t;exact absurd (Y.ie hb) ax
 ·rcases t with t|t
  ·have:=I _ t;omega
  ·exact (t▸V).cells hb
 ·rcases t with t|t
  ·have:=I _ t;have:=b3 k hk;omega
  ·obtain⟨_,_,Ro,hb2⟩:=U.own hk;subst t;exact Ce
 ·have a6:=J.to E (λ_ _=>trivial) (λk hk t=>by have:=I _ t;have:=T k hk;omega) (Y':=λ_=>True) λ_ _ _=>.inl trivial
  have R:=e;rw[<- a7]at R;rw[R]at a6;show aB _ 0 _ yq (H.vs.set c v') H.vg _;rw[R];obtain⟨A,cc,rfl⟩:=L.slice;have:=a6.Y5 (j:=c) af (y:=.slice A (l++[x]).length cc) (cs:=[.slice A (l++[x]).length cc]) rfl (λ_ _=>⟨rfl,rfl⟩);simpa [ef,show yq.size=1 from rfl]using this
 ·by_cases M:c=c2
  ·subst M;simp only[List.getElem?_set_self hcl,Option.some.injEq]at G;subst G;exact⟨v',by rw[List.getElem?_set_self (by omega)],L.to N (λk t=>by subst t;omega) aAQ λk hk hn=>by
    by_cases h9:k<W.heap.size
    ·exact .inl (C k h9▸hn)
    ·exact .inr (je k af hn).1,aAR⟩
  ·rw[List.getElem?_set_ne M]at G;obtain⟨v2,Q,Z⟩:=D.got c2 l2 ⟨hc,af,af⟩ G;exact⟨v2,by rw[List.getElem?_set_ne M];exact Q,Z⟩
end
section
variable {W W2:World} {H:mM} {own:Nat->Nat} {O:bF}
theorem bu.Ze(h:bu H own O W dF)(u:pU O) c :
 (∃d:Int,(d != 0)=true/\mG H O c=(.pointer none,d)/\(∀ {α:Type} (z:α) f,rL O c z f=(O,z,d))/\(jP O c&&(cL O (mV O c)).isSome)=false) ∨
 ∃n B gd g,n<O.eX.length/\H.ds[n]?=some gd/\dh H.ak (n:Int)=some (.pointer (some ⟨g,0,none⟩))/\cL O (n:Int)=some B/\mG H O c=(.pointer (some ⟨g,0,none⟩),0)/\mV O c=(n:Int)/\jP O c=true /\
  (∀j,K W j->dE (λk=>own k≠0/\own k≠2*n+4) (λk=>own k≠2*n+4/\k<j.heap.size) g gd B j)/\∀ {α:Type} (z:α) f,rL O c z f=(iw O n (f B).1,(f B).2):=by
 unfold mG rL
 cases jP O c
 ·exact .inl ⟨1,rfl,rfl,λ_ _=>rfl,rfl⟩
 ·simp only[if_true];cases hu:cL O (mV O c)with
  | none=>exact .inl ⟨210,rfl,rfl,λ_ _=>rfl,rfl⟩
  | some B =>
   have t:=hu;unfold cL gX fA at t;split at t
   ·next hi =>
    simp only[dC,decide_eq_true_eq]at hi;obtain⟨n,hn⟩:=Int.eq_ofNat_of_zero_le hi.1;rw[hn]at hu⊢;obtain⟨gd,g,C,y,-⟩:=h.up (pB n) u.ln hu;rw[y];refine .inr ⟨n,B,gd,g,aA,C,y,hu,rfl,rfl,trivial,λj A=>?_,λ_ _=>rfl⟩;obtain⟨D,I,F,E,G⟩:=(h.st A).up (pB n) u.ln hu;grind
   ·cases t
theorem bu.via{α A}{args:Value->Array Value}{ret:α×Int->Value}(h:bu H own O W dF)(J:pU O) c z f
 (G:∀m B,cL O m=some B->∀X Z g gd j,K W j->dE X Z g gd B j->Calls prog A (args (.pointer (some ⟨g,0,none⟩))) j λe w'=>e=.returned (ret (f B).2)/\dE X Z g gd (f B).1 w'/\ag (λk=>¬Z k) j w') :
 (∃d:Int,(d != 0)=true/\mG H O c=(.pointer none,d)/\rL O c z f=(O,z,d)/\(jP O c&&(cL O (mV O c)).isSome)=false) ∨
 ∃g C r,mG H O c=(.pointer (some ⟨g,0,none⟩),0)/\rL O c z f=(C,r)/\(jP O c&&(cL O (mV O c)).isSome)=true/\∀j,K W j->Calls prog A (args (.pointer (some ⟨g,0,none⟩))) j λe w'=>e=.returned (ret r)/\dB H own C W w':=by
 rcases h.Ze J c with ⟨d,E,u,y,D⟩|⟨n,B,gd,g,E,u,y,D,F,h6,h7,h8,h9⟩
 ·grind
 ·exact .inr ⟨g,_,_,F,h9 z f,aA,λj t=>(G _ _ D _ _ _ _ j t (h8 j t)).mono λe w' ⟨I,pZ,wL⟩=>⟨I,dB.k t ((h.st t).akY E u y pZ wL)⟩⟩
theorem dB.keep{y t cs W1 j}(h:dB H (jf own 1 W W1) y W1 W2)(hg:W.heap.size<=j)(hb:ai W1 j t cs):ai W2 j t cs:=by obtain⟨_,_,_,_,u,_⟩:=h;exact hb.aW u λe=>by grind [jf]
theorem dB.id3{j z}(h:dB H (jf own 1 W (W.alloc (.cells z 26))) j (W.alloc (.cells z 26)) W2) x y u(hz:z.size=3) :
 dB H own j W (((W2.setCell ⟨W.heap.size,0,none⟩ x).setCell ⟨W.heap.size,1,none⟩ y).setCell ⟨W.heap.size,2,none⟩ u)/\∀i,(((W2.setCell ⟨W.heap.size,0,none⟩ x).setCell ⟨W.heap.size,1,none⟩ y).setCell ⟨W.heap.size,2,none⟩ u).cell? ⟨W.heap.size,i,none⟩=#[x,y,u][i]?:=by
 have hb:=ai.new W 26 z
 refine⟨h.E6 hb.aU (aD _) hb.lt (ag.sets (X:=λk=>k=W.heap.size) rfl [x,y,u] 0 W2),?_⟩
 have:=(((h.keep (aD _) hb).aQ 0 x).aQ 1 y).aQ 2 u
 obtain⟨l⟩:=z
 match l,hz with
 | [a,b,c],_=>exact this.cell
theorem apz(h:bu H own O W dF)(U:pU O) c(hc:cD c)(hn:∀n B,cL O n=some B->B.calls+1<4611686018427387904) :
 Calls prog 14 #[.pointer (some ⟨H.gw,0,none⟩),.int .i64 c] W λe w'=>e=.returned (.tuple #[cN (jz O c).2.1,.int .i64 (jz O c).2.2])/\dB H own (jz O c).1 W w':=by
 have F:=ai.new W 26 #[.int .i64 0,.int .u64 0,.int .u64 0]
 have A:=h.E6 F.aU
 have y:=ae (OZ A p2 pB U c)
 have C:=ae λ(Q:bF) (N:World) (V:dB H _ Q _ N)=>And.intro (V.keep (aD _) F) (@dB.id3 W N H own Q _ V)
 have HV:=A.via (ret:=λr=>.tuple #[cN r.1,.int .i64 r.2]) (args:=λv=>#[v,.int .i64 c]) U c (0,0,0) (λB=>tz B c) λn B hu X Z g gd N j hL=>ayL hL c hc (hn n B hu)
 have I:Hid (jz O c=rL O c (0,0,0) λB=>tz B c):=ae rfl
 generalize jz O c=R at *
 rcases HV with ⟨d,hne,E,D,-⟩|⟨g,Q,r,E,D,-,T⟩
 ·have HR:Hid (R=(O,(0,0,0),d)):=ae (I.aa.trans D);have J:=ae λu (j:K _ u)=>C.aa _ _ (A.now j)
  rw[E]at y;clear h A E D I C F;go_enter func14,ntmps14;go_wp2_with fail
  apply aM y.aa;intro u j;have t:=(J.aa u j).1;have L:=ae ((J.aa u j).2 (.int .i64 0) (.int .u64 0) (.int .u64 0) rfl);have qr:=t.cell;have zr:=t.frozen;clear y J t j;go_wp2;obtain⟨hF,e9⟩:=L.aa;refine bodyPost_ret (v:=.tuple #[cN (0,0,0),.int .i64 d]) aja rfl ?_;exact QW
 ·obtain⟨G,ec⟩:=r;have HR:=ae (I.aa.trans D);have S:=ae T;rw[E]at y;clear h A E D I F T;go_enter func14,ntmps14;go_wp2_with fail
  apply aM y.aa;intro u j;have Y:=ae (S.aa u j);clear y S j;go_wp2_with fail
  apply aM Y.aa;intro w3 M;have t:=(C.aa _ _ M).1;have L:=ae ((C.aa _ _ M).2 (.int .i64 G.1) (.int .u64 G.2.1) (.int .u64 G.2.2) rfl);have qr:=t.cell;have zr:=t.frozen;clear Y C t M;go_wp2;obtain⟨hF,e9⟩:=L.aa;refine bodyPost_ret (v:=.tuple #[cN G,.int .i64 ec]) aja rfl ?_;exact QW
theorem arv(h:bu H own O W dF)(V:pU O) c(hc:cD c)(n:Nat)(hn':n<18446744073709551616) f vf(hf:fF f vf W)(hfit:∀t∈f,jB t)(cR:f.length<=1000000)(hn:∀n B,cL O n=some B->B.calls+1<4611686018427387904) :
 Calls prog 32 #[.pointer (some ⟨H.gw,0,none⟩),.int .i64 c,.int .u64 n,vf] W λe w'=>e=.returned (.tuple #[cN (y8 O c n f).2.1,.int .i64 (y8 O c n f).2.2])/\dB H own (y8 O c n f).1 W w':=by
 have G:=ai.new W 26 #[.int .i64 0,.int .u64 0,.int .u64 0]
 have C:=h.E6 G.aU
 have A:=ae (OZ C p2 pB V c)
 have D:=ae λ(S:bF) (Q:World) (Y:dB H _ S _ Q)=>And.intro (Y.keep (aD _) G) (@dB.id3 W Q H own S _ Y)
 have HV:=C.via (ret:=λr=>.tuple #[cN r.1,.int .i64 r.2]) (args:=λv=>#[v,.int .i64 c,.int .u64 n,vf]) V c (0,0,0) (λB=>yX B c n f) λm B hu X Z g gd Q j hL=>aAM hL c hc (hn m B hu) n hn' f vf (eO f vf _ _ hf ((K.new W (.cells #[.int .i64 0,.int .u64 0,.int .u64 0] 26)).tr j)) hfit cR
 have J:Hid (y8 O c n f=rL O c (0,0,0) λB=>yX B c n f):=ae rfl
 generalize y8 O c n f=R at *
 rcases HV with ⟨d,hne,F,E,-⟩|⟨g,S,r,F,E,-,U⟩
 ·have HR:Hid (R=(O,(0,0,0),d)):=ae (J.aa.trans E);have L:=ae λy (j:K _ y)=>D.aa _ _ (C.now j)
  rw[F]at A;clear h C F E J D G;go_enter func32,ntmps32;go_wp2_with fail
  apply aM A.aa;intro y j;have u:=(L.aa y j).1;have M:=ae ((L.aa y j).2 (.int .i64 0) (.int .u64 0) (.int .u64 0) rfl);have qr:=u.cell;have zr:=u.frozen;clear A L u j;go_wp2;obtain⟨hF,e9⟩:=M.aa;refine bodyPost_ret (v:=.tuple #[cN (0,0,0),.int .i64 d]) ajb rfl ?_;exact QW
 ·obtain⟨I,ec⟩:=r;have HR:=ae (J.aa.trans E);have T:=ae U;rw[F]at A;clear h C F E J G U;go_enter func32,ntmps32;go_wp2_with fail
  apply aM A.aa;intro y j;have C3:=ae (T.aa y j);clear A T j;go_wp2_with fail
  apply aM C3.aa;intro w3 N;have u:=(D.aa _ _ N).1;have M:=ae ((D.aa _ _ N).2 (.int .i64 I.1) (.int .u64 I.2.1) (.int .u64 I.2.2) rfl);have qr:=u.cell;have zr:=u.frozen;clear C3 D u N;go_wp2;obtain⟨hF,e9⟩:=M.aa;refine bodyPost_ret (v:=.tuple #[cN I,.int .i64 ec]) ajb rfl ?_;exact QW
end
theorem acP c:∀(l:List aK) (s:List mc) (n:Nat),(∀x∈l,eJ x)->(nG c l s n).1.length<=1000000/\∀e∈(nG c l s n).1,e.length<=1000000
 | [],_,_,_=>⟨by simp[nG],by simp[nG]⟩
 | x :: r,s,n,h=>by
  unfold nG;split
  ·exact acP c r _ _ λy hy=>h y IY
  ·have t:=h x aj;have u:∀e∈oQ s c x,e∈x.es:=λe j=>by
    unfold oQ at j;split at j
    ·exact (List.mem_filter.1 j).1
    ·simp at j
   have A:(oQ s c x).length<=x.es.length:=by
    unfold oQ;split
    ·exact mw _ _
    ·simp
   exact⟨bn A t.2.1,λe j=>t.2.2 e (u e j)⟩
theorem arw{B}(u:bE B) c j:(ot B c j).1.length<=1000000/\∀e∈(ot B c j).1,e.length<=1000000:=by
 unfold ot;split
 ·split
  ·exact acP c _ _ _ λx t=>u.Eb.1 x (List.mem_of_mem_drop t)
  ·simp
 ·simp
theorem ayQ:(prog.info? 37).map (λi=>(i.zero,i.size,i.bytes))=some (some (.slice none 0 0),1,24):=by kernel_rfl
theorem TEE:fY prog 59 37 (.slice none 0 0) 1 24:=⟨underlying59,ayQ,rfl,ax⟩
section
variable {S:Nat->Prop} {W W2:World} {H:mM} {own:Nat->Nat} {O:bF} {par ah:List Int} {k:Nat}
theorem bu.aAS(h:bu H own O W dF)(D:pU O) c :
 (∃d:Int,(d != 0)=true/\mG H O c=(.pointer none,d)/\jr O c=(O,[],d)) ∨
 ∃(m:Nat) (B:aZ) (gd g n:Nat),c=(m:Int)/\m<O.ah.length/\cL O (n:Int)=some B/\mG H O c=(.pointer (some ⟨g,0,none⟩),0)/\(∀u,K W u->dE (λk=>own k≠0/\own k≠2*n+4) (λk=>own k≠2*n+4/\k<u.heap.size) g gd B u) /\
  jr O c=(if (ot B c ((O.cur[m]?).getD 0)).2.2=0 then ({ O with cur:=O.cur.set m (ot B c ((O.cur[m]?).getD 0)).2.1,got:=if (ot B c ((O.cur[m]?).getD 0)).1=[]then O.got else O.got.modify m λg=>g++[(ot B c ((O.cur[m]?).getD 0)).1] },(ot B c ((O.cur[m]?).getD 0)).1,0)else (O,[],(ot B c ((O.cur[m]?).getD 0)).2.2)):=by
 rcases h.Ze D c with ⟨d,C,A,y,t⟩|⟨n,B,gd,g,C,A,y,t,j,h6,h7,h8,h9⟩
 ·refine .inl ⟨d,C,A,?_⟩;have j:=y (α:=List (List cZ)) [] λB=>(B,[],0)
  unfold rL at j;unfold jr;cases hc:jP O c
  ·simp[hc]at j⊢;exact j
  ·cases hu:cL O (mV O c)with
   | none=>simp[hc,hu]at j⊢;exact j
   | some B=>rw[hc,hu]at t;simp at t
 ·obtain⟨m,rfl,hm⟩:=UN h7;refine .inr ⟨m,B,gd,g,n,rfl,hm,t,j,h8,?_⟩;unfold jr;rw[if_pos h7,h6];simp only[t,Int.toNat_natCast]
theorem bu.ak1(h:bu H own O W S)(L:S 2){m}(hm:m<O.got.length):∃b cap v,H.vg=.slice (some ⟨b,0,none⟩) O.got.length cap/\own b=2/\H.vs[m]?=some v/\v.oneCell'=true/\∀W',ag (λk=>own k≠2) W W'->W'.cell? ⟨b,0+m,none⟩=some v:=by
 obtain⟨Y,T,U,R,B,⟨V,Z,M,y⟩,I,Q⟩:=h.fo L;obtain⟨b,cap,e⟩:=B.Zd (W:=W) af;have E:=y b Cb;have C:m<H.vs.length:=af;have key:∀W',ag (λk=>own k≠2) W W'->W'.cell? ⟨b,0+m,none⟩=some H.vs[m]/\H.vs[m].oneCell'=true:=λW' u=>by have F:=(B.to u (λ_ _=>trivial) (λk hk e=>e (y k hk)) (Y':=λ_=>True) λ_ _ _=>.inl trivial).aq;obtain⟨A,c,t,G,-⟩:=F;rw[e]at t;injection t with e1 e2 e3;subst e1;obtain⟨X,N,cs,j,-,J,D,-⟩:=eB G m C ax;injection j with j;injection j with j e5;subst j e5;obtain⟨rfl,h9⟩:=J W' (K.rf W');have:=D W' (K.rf W');simp only[show yq.size=1 from rfl,Nat.mul_one]at this;exact⟨this,h9⟩
 exact⟨b,cap,H.vs[m],by rw[e,I],E,List.getElem?_eq_getElem C,(key W (ag.rf _ _)).2,λW' u=>(key W' u).1⟩
theorem aqh(h:bu H own O W dF)(hI:bQ par ah O k)(hk:k<=40000) c :
 Calls prog 15 #[.pointer (some ⟨H.gw,0,none⟩),.int .i64 c] W λe w'=>∃v,e=.returned (.tuple #[v,.int .i64 (jr O c).2.2])/\aq cO (jr O c).2.1 v w'/\dB H own (jr O c).1 W w':=by
 have hs:=hI.gH
 have Y:=ae (OZ h p2 pB hs c)
 rcases h.aAS hs c with ⟨d,hne,J,hp⟩|⟨m,B,gd,g,n,rfl,hm,hu,J,hL,hp⟩
 ·have HR:=ae hp;have HK:=ae λC (t:K W C)=>h.now t
  rw[J]at Y;generalize jr O c=R at *;clear h hI hp J hs;go_enter func15,ntmps15;go_wp2_with fail
  apply aM Y.aa;intro C t;have HF:=ae (HK.aa C t);have HE:=ae (aB.nil (λ_=>True) 0 51 cO C).aq;clear Y t HK;exact XR
 obtain⟨hG,BM,-⟩:=hI.up hu
 have iO:=arw hG.tobE (m:Int) ((O.cur[m]?).getD 0)
 have s7:=ae iO
 have HP:=ae hp
 have HS:=ae hs
 rw[J]at Y
 have HH:=ae λC (t:K W C)=>h.st t
 have HLv:=ae hL
 have Ni:=ae hI.gl
 have hmc:m<O.cur.length:=XQ
 have Ft:m<O.got.length:=by have:=hs.lg;omega
 have vL:(m:Int)<O.cur.length:=af
 have HVB:Hid ((∀v,H.vs[m]?=some v->∀b,v.ownBlock=some b->b<W.heap.size)/\∀b,H.vg.ownBlock=some b->b<W.heap.size):=ae ⟨λv J b hb=>by
  obtain⟨v0,U,h2,-⟩:=h.got m O.got[m] (show dF (2*m+5) by unfold dF;omega) (List.getElem?_eq_getElem Ft);rw[J]at U;injection U with U;subst U;exact (h2.blk b hb).2,λb hb=>((h.fo p2).got.blk b hb).2⟩
 obtain⟨M,aFi,aFj,ec,oc,hbc,-⟩:=h.ak0 p2 hmc 0
 have zm:∀W',K W W'->W'.cell? ⟨M,m,none⟩=some (.int .i64 ((O.cur[m]?).getD 0)):=by obtain⟨b9,o9,c9,j,h9⟩:=h.akZ p2 hs hm;rw[ec]at j;injection j with j;injection j with j;injection j with e1 e2;subst e1 e2;exact λW' k=>by simpa using h9 W' k
 generalize jr O (m:Int)=R at *
 generalize hx:(O.cur[m]?).getD 0=x at *
 have q:=(h.fo p2).blk.cells
 rw[ec]at q
 clear hI hp J hs hG BM hu iO hL
 go_enter func15,ntmps15
 go_wp2_with fail
 apply aM Y.aa
 intro C t
 have C3:=ae (azu (HLv.aa C t) (m:Int) x)
 have q2:=q C t
 have qc:=zm C t
 clear Y HLv
 go_wp2_with fail
 refine C3.aa.mono ?_
 rintro e D⟨v3,rfl,bH,k3⟩
 obtain⟨A3,c3,rfl,-⟩:=bH.slice
 generalize ot B (m:Int) x=r at *
 obtain⟨y,G,code⟩:=r
 have E:=t.tr k3
 have h3:=HH.aa D E
 by_cases hc:code=0
 ·subst hc;have HR:Hid (R=({ O with cur:=O.cur.set m G,got:=if y=[]then O.got else O.got.modify m λg=>g++[y] },y,0)):=ae Xl;obtain⟨b9,aFk,aFl,j,ob9,aY,F⟩:=h3.ak0 p2 hmc G;rw[ec]at j;injection j with j;injection j with j;injection j with j;subst j;have q3:=q D E;have qc3:=zm D E;have z3:=aY.frozen;have L:=ae F;have H3:=ae h3;have HO3:=ae bH;have JJ:=ae (And.intro E k3);have bT:=bz hbc.lt t.size;have u4:ag (λk=>k=M) D (D.setCell ⟨M,m,none⟩ (.int .i64 G)):=ag.bM (X:=λk=>k=M) rfl m _;have Z:=ae (show ag (λk=>2<=own k) W (D.setCell ⟨M,m,none⟩ (.int .i64 G))from (ag.aT E _).tr (u4.more λk e=>by rw[e,oc];exact aD 2));have Dh:=ae (bH.up (w':=D.setCell ⟨M,m,none⟩ (.int .i64 G)) (aD _) (aI.set bT m _));have G2:=ae (show W.heap.size<=C.heap.size from t.size);clear C3 q q2 qc zm t k3 E h3 F bH aY h hbc HH HP u4;go_upto_region 8 with (fail);generalize D.setCell _ _=T at *;by_cases he:y=[]
  ·subst he;have HF:=ae (show dB H own { O with cur:=O.cur.set m G } W T from ⟨H,own,L.aa,rfl,Z.aa,λ_ _=>rfl⟩);have h9:¬(0:Int)<0:=af;clear Z L H3 q3 qc3 z3;go_wp2;go_ret2;exact⟨_,fW,by rw[HR.aa];exact Dh.aa.aq,F4⟩
  ·have hep:(0:Int)<(y.length:Int):=by have:=List.length_pos_iff.2 he;omega
   have F:=L.aa;obtain⟨bg,aFm,v,eg,og,Kt,h1c,Ol⟩:=F.ak1 p2 Ft;obtain⟨l,hl⟩:∃l,O.got[m]?=some l:=⟨_,List.getElem?_eq_getElem Ft⟩;obtain⟨v',hv',hO,TP⟩:=F.got m l (show dF (2*m+5) by unfold dF;omega) hl;rw[Kt]at hv';injection hv' with hv';subst hv';have xe:=bn (Ni.aa l (List.mem_of_getElem? hl)) hk;have hrow:=hO.blk;have hq:∀W,rQ v T W->∀i,W.cell? ⟨H.gw,i,none⟩=#[H.vp,H.vh,H.vn,H.vd,.map (some H.gb),H.vc,H.vg][i]?:=λW u=>((F.fo p2).blk.aW u λe=>by have:=TP _ e;have:=(F.fo p2).own.1;omega).cell
   have sQ:∀W,rQ v T W->W.cell? ⟨bg,m,none⟩=some v:=λW u=>by simpa using Ol W (u.more λk e=>by have:=TP k e;omega)
   rw[eg]at hq;have Zf:(m:Int)<O.got.length:=af;have Tv:=ae λW (u:rQ v T W)=>abW y _ W ((Dh.aa.up (aD _) (u.rY λk U h2 _ e=>ajc)).aq) s7.aa.1 s7.aa.2
   clear q3 qc3 z3 F Ol H3 HO3 JJ;go_wp2_with fail
   have qs:=And.intro hq (And.intro sQ Zf);refine Fy 16 15 l v y 59 TEE [([],[]),([0],[(46,0)]),([1],[(47,1)]),([2],[(48,2)]),([],[]),([],[]),([5],[(51,5)]),([6],[(52,6)]),([7],[(53,7)]),([],[]),([8,9],[(54,8),(55,9)]),([10],[(56,10)]),([],[]),([12],[(58,12)]),([13],[(59,13)]),([11,14],[(57,11),(60,14)]),([0,1,2,3,4,5,6,7,8,9,10,11,12,13,14,15],[(49,3),(50,4)]),([0,1,2,3,4,5,6,7,8,9,10,11,12,13,14,15,16],[(62,16),(61,15)])] 64 hO (eV _) af ?_;iterate 13 refine au.i ?_
   refine au.c (λu W=>∃A c,u=.slice A y.length c/\Fx (λk=>k<T.heap.size) (λW=>aq cO y u W) W) (λ_ _ _ ⟨A,c,e,h⟩ k=>⟨A,c,e,h.up (ag.eU (X:=λb=>v.ownBlock=some b) k λ_ h=>h) λb hb=>(hrow b hb).2⟩) (λW u=>(Tv.aa W u).mono λe w5 ⟨v5,e1,Q,k5⟩=>⟨v5,e1,(by
    obtain⟨A,c,e5,-⟩:=Q.slice;exact⟨A,c,e5,Q.JY λk hk=>bz hk u.size⟩),k5⟩) ?_
   refine au.Gq (S:=AL cO) (N:=λk=>own k≠0∨v.ownBlock=some k) T.heap.size TEE y (λ_ h=>h.size) (λb hb=>⟨.inr hb,(hrow b hb).2⟩) (λV W I hp=>?_) ?_
   ·simp only[cF,aO,aR,bW,bY,aJ]at hp;obtain⟨⟨A,c,e,hF⟩,-⟩:=hp;show uQ _ _ _ (V 13) _;refine⟨Cb,λW' u=>⟨V 13,Cb,hF W' (u.more λk hk=>hk.elim (L.aa.lo k) λhk=>(hrow k hk).2)⟩⟩
   refine au.s ?_;clear qs;refine⟨λ_ _=>trivial,λV W I hp=>?_,λV W I bq s9 hA=>?_⟩
   ·exact IX
   simp only[aO,aR,cC,aJ,Nat.reduceAdd]at hA;obtain⟨A9,c9,ru⟩:=bq.slice;obtain⟨b9,zL,cr9,j,o9,aY,aAT,Q,mJ⟩:=L.aa.aAP p2 (show dF (2*m+5) by unfold dF;omega) hl Kt I bq s9;rw[eg]at j;injection j with j;injection j with j;injection j with j;subst j;have hq9:=sQ W I;have ru:V 15=.slice A9 (l.length+1) c9:=by simpa using ru
   have hA:=And.intro hA ru;have qs:=And.intro hq9 (And.intro aY.frozen (And.intro Ft Zf));refine aH.p ?_;refine aH.s ?_;refine aH.h ?_;rw[ru]at Q;have hsz:bg<C.heap.size:=by have:=HVB.aa.2 bg (by rw[eg];rfl);have:=G2.aa;omega
   have HE:=ae ((Dh.aa.up (aD _) (I.rY λk U h2 _ e=>ajc)).up (aD _) (aI.set hsz m (.slice A9 (l.length+1) c9))).aq;have eG:(if y=[]then O.got else O.got.modify m λg=>g++[y])=O.got.set m (l++[y]):=by
    rw[if_neg he];refine List.ext_getElem? λi=>?_
    rw[List.getElem?_modify,List.getElem?_set];by_cases hi:m=i
    ·subst hi;simp[Ft];exact (List.getElem?_eq_some_iff.1 hl).2
    ·simp[hi]
   rw[eG]at HR;have HF:=ae (show dB H own { O with cur:=O.cur.set m G,got:=O.got.set m (l++[y]) } _ (W.setCell ⟨bg,m,none⟩ (.slice A9 (l.length+1) c9))from ⟨_,aAT,Q,rfl,(Z.aa.tr (I.more λk e=>by have:=TP k e;omega)).tr (ag.bM (X:=λk=>2<=own k) (by rw[og];exact aD 2) m _),λk hk=>mJ k (bz hk Z.aa.size)⟩);clear hA qs hq9 aY Q mJ bq s9 I hq sQ hO TP hrow ru Tv Dh Z L HVB Ni hsz;generalize W.setCell _ _=W9 at *;exact XR
 ·have hne:(code != 0)=true:=DY;have HR:Hid (R=(O,[],code)):=ae (by rw[HP.aa];exact if_neg hc);have HF:=ae (show dB H own O W D from dB.k E (h3.now (K.rf D)));have HE:=ae (aB.nil (λ_=>True) 0 51 cO D).aq;clear C3 q q2 qc zm t k3 E h3 bH h hbc HH HP;exact XR
end
def AY(O:bF)(c:Int):List (List (List cZ)):=if jP O c then (O.got[c.toNat]?).getD []else []
section
variable {S:Nat->Prop} {W W2:World} {H:mM} {own:Nat->Nat} {O:bF} {par ah:List Int} {k:Nat}
theorem arx(h:bu H own O W dF)(E:bQ par ah O k)(hk:k<=40000)(T:∀l∈O.got,∀b∈l,b.length<=1000000/\∀e∈b,e.length<=1000000) c :
 Calls prog 26 #[.pointer (some ⟨H.gw,0,none⟩),.int .i64 c] W λe w'=>∃v,e=.returned v/\aq (AL cO) (AY O c) v w'/\K W w':=by
 have D:=ae (Ud h p2 c)
 have q:=(h.fo p2).blk.cells
 cases hc:jP O c
 ·have HR:Hid (AY O c=[]):=ae (by unfold AY;rw[hc];rfl);rw[hc]at D;generalize AY O c=R at *;clear h E hc q T;go_enter func26,ntmps26;go_wp2_with fail
  apply aM D.aa;rintro w' rfl;have HE:=ae (aB.nil (λ_=>True) 0 37 (AL cO) w').aq;have kk:=K.rf w';go_wp2;go_ret;exact⟨_,rfl,by rw[HR.aa];exact HE.aa,kk⟩
 rw[hc]at D
 obtain⟨m,rfl,hm⟩:=UN hc
 have Ft:m<O.got.length:=by have:=E.gH.lg;omega
 obtain⟨l,F⟩:∃l,O.got[m]?=some l:=⟨_,List.getElem?_eq_getElem Ft⟩
 have HR:Hid (AY O (m:Int)=l):=ae (by unfold AY;rw[if_pos hc];simp[F])
 have xe:=bn (E.gl l (List.mem_of_getElem? F)) hk
 have Tp:=ae (T l (List.mem_of_getElem? F))
 obtain⟨b,cap,v,eg,og,Kt,h1c,Ol⟩:=h.ak1 p2 Ft
 obtain⟨v',G,t,-⟩:=h.got m l (show dF (2*m+5) by unfold dF;omega) F
 rw[Kt]at G
 injection G with G
 subst G
 obtain⟨A,ca,rfl,mg,-⟩:=t.aq
 have sQ:=Ol W (ag.rf _ _)
 rw[mQ]at sQ
 rw[eg]at q
 have q0:=q W (K.rf W)
 have Zf:(m:Int)<O.got.length:=af
 have JQ:=ae mg
 generalize AY O (m:Int)=R at *
 clear h E hc T t Ol Kt h1c og q mg
 go_enter func26,ntmps26
 go_wp2_with fail
 apply aM D.aa
 rintro w' rfl
 clear D
 have KK:=ae (K.rf w')
 have vu:=ae (aB.nil (λk=>k<w'.heap.size) w'.heap.size 37 (AL cO) w')
 go_wp2_with fail
 go_loopw [5,7,20] (fun o _ i W=>∃j:Nat,j<=l.length/\i=.int .i64 j/\Hid (aB (fun k=>k<w'.heap.size) w'.heap.size 37 (AL cO) (l.take j) o W)/\Hid (K w' W)) (fun _ _ i _=>l.length-(intOf i).toNat)
 case atStart=>exact⟨0,eV _,rfl,fP,KK⟩
 case round =>
  clear KK vu q0 sQ;obtain⟨j,hj,rfl,L,B⟩:=hrel;by_cases hlt:j<l.length
  ·have aP:(j:Int)<l.length:=af;have HT:Hid (l.take (j+1)=l.take j++[l[j]]):=ae I0;have X:=Tp.aa _ (bZ hlt);obtain⟨b1,off,cs0,rfl,-,hrl,C,-⟩:=eB JQ.aa j hlt ax;have gV:(l.take j).length<=40000:=ba;have C:=C wr B.aa;obtain⟨ve,rfl,Q⟩:=hrl wr B.aa;generalize l[j]=y at *;simp only[show (AL cO).size=1 from rfl,Nat.mul_one]at C;have C2:=ae (abW y ve wr Q X.1 X.2);obtain⟨Ae,ce,rfl⟩:=av Q;have C:wr.cell? ⟨b1,off+j,none⟩=some (.slice Ae y.length ce):=C;have U:=L.aa;have hsz:=B.aa.size;clear hrl Q X;go_wp2_with fail
   apply bS C2.aa;rintro v3 w3⟨V,Z⟩;obtain⟨A3,c3,rfl,-⟩:=V.slice;have hub:=U.blk;have hr:=eD.new (S:=AL cO) (e:=37) (N:=λk=>k<w'.heap.size∨u5.ownBlock=some k) (v:=.slice A3 y.length c3) (x:=y) (w:=w3) (λW u=>⟨_,rfl,V.JY (M:=λk=>k<w'.heap.size∨u5.ownBlock=some k) (λk hk=>hk.elim (λh=>af) λh=>(hub k h).2) W u⟩) 0 (eV _);have Y:=K.new w3 (.cells #[.slice A3 y.length c3] 37);have cI:=(U.st Z).st Y;have I:=(B.aa.tr Z).tr Y;have gM:=I.size;clear C2 V U hub Y Z L hsz;go_wp2_with (at_builtin;refine jN rfl _ _ 59 rfl _ 1 24 TEE rfl rfl cI _ rfl y ?p1 ?p2 ?p3 ?_)
   case p1=>exact hr
   case p2=>omega
   case p3=>exact gM
   intro v9 w9 J bC cY aY;rw[<- HT.aa]at J;have xY:=ae J;have HK9:=ae (I.trans aY);clear J bC cY aY cI hr I;go_wp2;exact⟨⟨j+1,af,bI,xY,HK9⟩,I6⟩
  ·have aP:¬(j:Int)<l.length:=af;have t:=L.aa;rw[gQ af]at t;have HF:=ae t.aq;have ZP:=B.aa;clear t;go_wp2;go_ret;exact⟨_,rfl,F4,ZP⟩
end
section
variable {S:Nat->Prop} {W W2:World} {H:mM} {own:Nat->Nat} {O:bF} {par ah:List Int} {k:Nat}
theorem ajd{w W' g s vl vp va cs}(hb:ai W' g 46 cs)(t:cs.size=4)(hg:w.heap.size<=g)(k:K w W')(j:mh (λk=>k<w.heap.size∨k=g) s vl vp va W') :
 (∀i,((((W'.setCell ⟨g,0,none⟩ (.int .u64 s.life)).setCell ⟨g,1,none⟩ vl).setCell ⟨g,2,none⟩ vp).setCell ⟨g,3,none⟩ va).cell? ⟨g,i,none⟩=#[Value.int .u64 s.life,vl,vp,va][i]?) /\
  mh (λk=>k<w.heap.size) s vl vp va ((((W'.setCell ⟨g,0,none⟩ (.int .u64 s.life)).setCell ⟨g,1,none⟩ vl).setCell ⟨g,2,none⟩ vp).setCell ⟨g,3,none⟩ va)/\K w ((((W'.setCell ⟨g,0,none⟩ (.int .u64 s.life)).setCell ⟨g,1,none⟩ vl).setCell ⟨g,2,none⟩ vp).setCell ⟨g,3,none⟩ va) :=
 ⟨(FU (us:=[.int .u64 s.life,vl,vp,va]) hb (by rw[t];rfl)).cell,Fx.to j (ag.sets (X:=λk=>k=g) rfl [.int .u64 s.life,vl,vp,va] 0 W') (λ_ h=>.inr h) (λ_ _ h=>.inl h),K.sets hg [.int .u64 s.life,vl,vp,va] 0 W' k⟩
theorem awD{d s}(j:gS d s):tG (d.eZ.map bL)=(s,0):=by
 have:=aey d.eZ (λr t=>⟨(j.eZ r t).1,(j.eZ r t).2.1⟩) bU s j.run
 unfold tG
 grind
theorem aef{d s}(hG:gS d s):∀b∈d.eZ.map bL,ij b=true:=agS
theorem bu.stt(h:bu H own O W S)(P:S 2)(y:∀n,S (2*n+4))(t:bQ par ah O k) n(J:gX O n=true) :
 (∃g gd X Z B,cL O n=some B/\dh H.ak n=some (.pointer (some ⟨g,0,none⟩))/\kT O n=B.st/\∀W',K W W'->dE X Z g gd B W') ∨
 ∃i gd vh d s,n=((i:Nat):Int)/\cL O n=none/\H.ds[i]?=some gd/\dh H.ak n=none/\kT O n=s/\gS d s/\∀W',K W W'->JP gd vh d W':=by
 cases hu:cL O n with
 | some B => obtain⟨i,rfl,A,x,M,N⟩:=Ec hu;obtain⟨gd,g,u,E,F⟩:=h.up (y i) t.gH.ln hu;exact .inl ⟨g,gd,_,_,B,rfl,E,by grind [kT],λW' j=>F.st j⟩
 | none => obtain⟨i,rfl,A,d,s,I,L,-⟩:=t.down J hu;obtain⟨gd,u,-,G⟩:=h.brk i _ (y i) I;obtain⟨C,vh,D,-⟩:=G rfl;exact .inr ⟨i,gd,vh,d,s,rfl,rfl,u,C,by grind [kT,Gb],L,λW' j=>D.st j⟩
theorem abX(h:bu H own O W S)(y:S 2)(hS:∀n,S (2*n+4))(hI:bQ par ah O k) n :
 Calls prog 19 #[.pointer (some ⟨H.gw,0,none⟩),.int .i64 n] W λe w'=>∃vl vp va,e=.returned (.agg (cP (kT O n) vl vp va))/\mh (λk=>k<W.heap.size) (kT O n) vl vp va w'/\K W w':=by
 have A:=ai.new W 46 #[.int .u64 0,.slice none 0 0,.slice none 0 0,.slice none 0 0]
 have j:=A.aU
 have C:=ae (KV (h.st j) y n)
 have q:=(h.fo y).blk.cells
 cases hi:gX O n
 ·have HR:Hid (kT O n=bU):=ae (by unfold kT;rw[hi];rfl);generalize kT O n=R at *;rw[hi]at C;have HF:=ae (show mh (λk=>k<W.heap.size) bU (.slice none 0 0) (.slice none 0 0) (.slice none 0 0) (W.alloc (.cells #[.int .u64 0,.slice none 0 0,.slice none 0 0,.slice none 0 0] 46))/\K W (W.alloc (.cells #[.int .u64 0,.slice none 0 0,.slice none 0 0,.slice none 0 0] 46))from
   ⟨λW' _=>⟨(aB.nil (λ_=>True) 0 126 aV W').aq,(aB.nil (λ_=>True) 0 126 aV W').aq,(aB.nil (λ_=>True) 0 26 cd W').aq⟩,j⟩)
  have qr:=A.cell;have zr:=A.frozen;clear h hI hi y hS q j;go_enter func19,ntmps19;go_wp2_with fail
  apply aM C.aa;rintro w' rfl;clear C A;go_wp2;refine bodyPost_ret (v:=.agg #[.int .u64 0,.slice none 0 0,.slice none 0 0,.slice none 0 0]) (by simp[results,results19,go_sem,qr]) rfl ?_;exact⟨_,_,_,fW,by rw[HR.aa];exact HF.aa.1,HF.aa.2⟩
 rw[hi]at C
 have U:=h.q y
 have HK1:=ae j
 rcases h.stt y hS hI n hi with ⟨g,gd,X,Z,B,hu,I,N,hL⟩|⟨i,gd,vh,d,s,rfl,hu,hd,I,N,hG,hD⟩
 ·have J:=ae (ayM (hL _ j));have D:=(U _ j n).1;rw[I]at D;simp only[Option.getD_some,Option.isSome_some]at D;have q1:=q _ j;rw[N];generalize B.st=R at *;have HQ:=ae λu (t:K (W.alloc (.cells #[.int .u64 0,.slice none 0 0,.slice none 0 0,.slice none 0 0] 46)) u) vl vp va (hF:mh _ R vl vp va u)=>ajd (w:=W) (A.ay t) rfl (aD _) (j.tr t) (Fx.less hF λk hk=>(show k<(W.alloc (.cells #[.int .u64 0,.slice none 0 0,.slice none 0 0,.slice none 0 0] 46)).heap.size by simp;omega))
  clear h hI hi y hS q j hL hu I N U;go_enter func19,ntmps19;go_wp2_with fail
  apply aM C.aa;rintro w' rfl;go_wp2_with fail
  refine J.aa.mono ?_;rintro e u⟨vl,vp,va,rfl,J9,t⟩;have HP:=ae (HQ.aa u t vl vp va J9);obtain⟨⟨Y,c1,rfl⟩,⟨A2,c2,rfl⟩,V,c3,rfl⟩:=J9.sl;have dN:=A.ay t;have qr:=dN.cell;have zr:=dN.frozen;clear C J HQ J9 t A dN D q1;go_wp2;obtain⟨e9,F,E⟩:=HP.aa;refine bodyPost_ret (v:=.agg #[.int .u64 R.life,.slice Y R.list.length c1,.slice A2 R.prom.length c2,.slice V R.ab.length c3]) aje rfl ?_;exact⟨_,_,_,rfl,F,E⟩
 ·have D:=(U _ j (i:Int)).1;rw[I]at D;simp only[Option.getD_none,Option.isSome_none]at D;obtain⟨b,off,c,Dy,hnl,Fm⟩:=h.Jn hd;have N0:(i:Int)<H.ds.length:=af;rw[Dy]at q;have q1:=q _ j;rw[N];have HD:=ae hD;have HDC:=ae λW' (k:K W W')=>Fm W' (ag.aT k _)
  have HQ0:=ae q;have hfit:=hG.fit;have hroom:=hG.room;have bT:(jk d).length=ir d.eZ:=O6 d.eZ;have hlen:(jk d).length<=1048576:=af;have ak2:=ae hlen;have L:=ae hG;have hN:∀w,Calls prog 41 #[.int .i64 1048576] w λe w'=>e=.returned (.tuple #[.pointer (some ⟨w.heap.size,0,none⟩),.int .i64 0])/\gN w.heap.size (.slice none 0 0) [] 0 1048576 w'/\K w w':=λw=>agE 1048576 w (aD _)
  have C2:=ae hN;have Z6:=ae A;clear h hI hi y hS q hu I N U hd Fm Dy hD hG hfit hroom bT hlen hN;go_enter func19,ntmps19;go_wp2_with fail
  apply aM C.aa;rintro w' rfl;go_wp2_with fail
  refine (C2.aa _).mono ?_;rintro e u⟨rfl,td,t⟩;have M:=j.tr t;have q3:=HQ0.aa u M;have aAU:=HDC.aa u M;have J:=ae (acp _ _ _ _ _ u (HD.aa u M));have HDN:=ae td;have Nu:(W.alloc (.cells #[.int .u64 0,.slice none 0 0,.slice none 0 0,.slice none 0 0] 46)).heap.size=W.heap.size+1:=aj;generalize hgd:(W.alloc (.cells #[.int .u64 0,.slice none 0 0,.slice none 0 0,.slice none 0 0] 46)).heap.size=gn at *;have G5:=ae M;have ya:=ae (Z6.aa.ay t);have HGN:=ae Nu;clear C C2 D q1 td t M hgd Nu;go_wp2_with fail
  refine J.aa.mono ?_;rintro e w4⟨v4,rfl,eo,G⟩;have hap:tR [] (jk d) 1048576=(jk d,0):=by have:=ak2.aa;unfold tR;rw[if_pos (by simpa using this)];rfl
  have hC4:=abO gn (.slice none 0 0) v4 [] (jk d) 0 1048576 w4 (HDN.aa.st G) (eT eo) (by have:=ak2.aa;omega);rw[hap]at hC4;have C4:=ae hC4;obtain⟨A4,c4,rfl,-⟩:=eT eo;have gM:=G.size;have HK4:=ae (G5.aa.tr G);have HR4:=ae (ya.aa.ay G);clear J eo hap hC4 G q3 aAU gM;go_wp2_with fail
  refine C4.aa.mono ?_;rintro e w5⟨vh5,rfl,hd5,Dq⟩;have hX5:∀k,lP gn vh5 k->W.heap.size+1<=k:=λk hk=>by
   have h1:=HGN.aa;have y:=HK4.aa.size;have h3:=HR4.aa.lt;rcases Dq.new k hk with h|h
   ·rcases h with h|h
    ·omega
    ·cases h
   ·omega
  have C5:=ae (acr gn vh5 (d.eZ.map bL) 1048576 w5 hd5 (aef L.aa));have u5:ag (λk=>W.heap.size+1<=k) w4 w5:=Dq.up.more λk hk=>by
   rcases hk with h|h
   ·have:=HGN.aa;omega
   ·cases h
  have Nz:=ae (u5.k HK4.aa λk hk=>af);have HR5:=ae (HR4.aa.aW u5 λh=>af);have NA:=ae hX5;clear C4 hd5 Dq hX5 u5;go_wp2_with fail
  refine C5.aa.mono ?_;rintro e w6⟨gl,vr,rfl,fL,Rx,lB,-,u6⟩;have u6':=u6.more NA.aa;have Ji:=L.aa.cnt;have BK:∀b∈d.eZ.map bL,b.length<=1000000000:=λb hb=>by have:=aef L.aa b hb;simp[ij]at this;omega
  have C6:=ae (abI gl _ vr (d.eZ.map bL) w6 Rx lB.aq aA BK);have HK6:=ae (u6'.k Nz.aa λk hk=>af);have HR6:=ae (HR5.aa.aW u6' λh=>af);clear C5 Rx lB u6 u6' Ji BK NA fL;go_wp2_with fail
  refine C6.aa.mono ?_;rintro e w7⟨v7,rfl,j9,k7⟩;have T:=L.aa.Y9 v7 w7 j9.aq;rw[awD L.aa]at T;obtain⟨A7,c7,rfl⟩:=j9.slice;rw[List.length_map]at T;have C7:=ae T;have SB:=ae (HK6.aa.tr k7);have HR7:=ae (HR6.aa.ay k7);clear C6 j9 T k7;go_wp2_with fail
  refine C7.aa.mono ?_;rintro e w8⟨vl,vp,va,rfl,hF8,k8⟩;have Q:=(HR7.aa.ay k8).alloc (.cells (cP s vl vp va) 46);have E:=(SB.aa.tr k8).al (.cells (cP s vl vp va) 46);have F:mh _ s vl vp va _:=Fx.k hF8 ((K.rf w8).al (.cells (cP s vl vp va) 46));have GG:=SB.aa.size;have MU:=HR7.aa.lt;have HP:=ae (ajd (w:=W) Q rfl (aD _) E (Fx.less F λk hk=>(show k<w7.heap.size by omega)));obtain⟨⟨Y,c1,rfl⟩,⟨A2,c2,rfl⟩,V,c3,rfl⟩:=hF8.sl;have hn8:=ai.new w8 46 (cP s (.slice Y s.list.length c1) (.slice A2 s.prom.length c2) (.slice V s.ab.length c3));have qn:=hn8.cell;have qr:=Q.cell;have zr:=Q.frozen;clear C7 hF8 k8 Q E F GG MU hn8;go_wp2;obtain⟨e9,F,E⟩:=HP.aa;refine bodyPost_ret (v:=.agg #[.int .u64 s.life,.slice Y s.list.length c1,.slice A2 s.prom.length c2,.slice V s.ab.length c3]) aje rfl ?_;exact⟨_,_,_,rfl,F,E⟩
end
section
variable {S:Nat->Prop} {W W2:World} {H:mM} {own:Nat->Nat} {O:bF} {par ah:List Int} {k:Nat}
theorem axW{X Z g gd B}(h:dE X Z g gd B W) :
 Calls prog 66 #[.pointer (some ⟨g,0,none⟩)] W λe w'=>∃v',e=.returned v'/\aq df B.aC v' w'/\K W w':=by
 obtain⟨j,p,hb,hg,-⟩:=h
 obtain rfl:=kg hg
 exact (apV hb j.tobE).mono λe w' ⟨v',u,t,k⟩=>⟨v',u,t.aq,k⟩
theorem ayR{X Z g gd B}(h:dE X Z g gd B W) :
 Calls prog 67 #[.pointer (some ⟨g,0,none⟩)] W λe w'=>∃A c,e=.returned (.slice A B.waits.length c)/\K W w':=by
 obtain⟨t,p,hb,hg,-⟩:=h
 obtain rfl:=kg hg
 exact (aoV hb t.tobE).mono λe w' ⟨v',u,j,k⟩=>by
  obtain⟨A,c,rfl⟩:=j.slice
  grind
theorem adq a b c d W:(Instr.field 46 (.agg #[a,b,c,d]) 2).run prog W=.ok c W:=by rfl
theorem asV(l:List eI)(j:Nat)(t:j<l.length):((l.take (j+1)).filter (·.asked)).length=((l.take j).filter (·.asked)).length+if l[j].asked then 1 else 0:=by rw[gJ t,List.filter_append,dx,List.filter_cons];split <;> simp
theorem bQ.prom(h:bQ par ah O k) n:(kT O n).prom.length<=6:=by
 unfold kT;split
 ·next hi =>
  cases hu:cL O n with
  | some B=>exact (h.up hu).2.1.inv.prom
  | none =>
   obtain⟨i,rfl,-,d,s,j,t,-,-,hp⟩:=h.down hi hu
   grind [Gb]
 ·simp[bU]
theorem aqi(h:bu H own O W S)(C:S 2)(F:∀n,S (2*n+4))(u:bQ par ah O k) n :
 Calls prog 24 #[.pointer (some ⟨H.gw,0,none⟩),.int .i64 n] W λe w'=>e=.returned (.int .i64 (Jf O n:Int))/\K W w':=by
 have Q:=ae (abX h C F u n)
 have y:=ae λW' (k:K W W')=>Pk (h.st k) C F u.gH n
 have N:Hid (Jf O n=(kT O n).prom.length+(match cL O n with|some B=>(B.aC.filter (·.asked)).length+B.waits.length|none=>0)):=ae rfl
 have q:=(h.fo C).blk.cells
 have X:=h.q C
 have hpr:=u.prom n
 generalize Jf O n=R at *
 generalize kT O n=s at *
 cases hu:cL O n with
 | none =>
  have HR:Hid (R=s.prom.length):=ae (by rw[N.aa,hu];rfl);rw[hu]at y;clear h C F u hu N q X;go_enter func24,ntmps24;go_wp2_with fail
  refine Q.aa.mono ?_;rintro e A⟨vl,vp,va,rfl,D,k1⟩;obtain⟨-,⟨A2,c2,rfl⟩,-⟩:=D.sl;have fp:=adq;have I:=ae (y.aa A k1);clear Q D y;go_wp2_with fail
  apply aM I.aa;rintro w' rfl;exact DT
 | some B =>
  have HR:Hid (R=s.prom.length+((B.aC.filter (·.asked)).length+B.waits.length)):=ae (by rw[N.aa,hu]);obtain⟨i,rfl,hlt,x,hx1,hx2⟩:=Ec hu;obtain⟨gd,g,e1,e2,hL⟩:=h.up (F i) u.gH.ln hu;have L:=(u.up hu).1;have gU:=L.dk.len;have hwl:=L.y6;have gV:=L.tx.AU;have T:=ae λW' (k:K W W')=>hL.st k
  rw[hu]at y;have J:=λW' (k:K W W')=>(X W' k i).2
  rw[e2]at J;simp only[Option.getD_some]at J;clear h C F u hu N X hL e1 e2 hx1 hx2 L gU;go_enter func24,ntmps24;go_wp2_with fail
  refine Q.aa.mono ?_;rintro e A⟨vl,vp,va,rfl,D,k1⟩;obtain⟨-,⟨A2,c2,rfl⟩,-⟩:=D.sl;have fp:=adq;have I:=ae (y.aa A k1);have C3:=ae (axW (T.aa A k1));have q1:=q A k1;have zG:=J A k1;have HK1:=ae k1;clear Q D y q J k1;go_wp2_with fail
  apply aM I.aa;rintro w' rfl;go_wp2_with fail
  apply bS C3.aa;rintro v3 w3⟨bH,k3⟩;obtain⟨A3,c3,rfl,mg,-⟩:=bH;have JJ:=ae (HK1.aa.tr k3);have JQ:=ae mg;clear I C3 q1 zG k3 mg;go_wp2_with fail
  go_loopw [5,28] (fun b U Wj=>∃j:Nat,j<=B.aC.length/\U=.int .i64 j/\b=.int .i64 ((s.prom.length+((B.aC.take j).filter (·.asked)).length:Nat):Int)/\K w3 Wj) (fun _ U _=>B.aC.length-(intOf U).toNat)
  case atStart=>exact⟨0,eV _,rfl,aj,K.rf w3⟩
  case round =>
   obtain⟨j,hj,rfl,rfl,kr⟩:=hrel;by_cases hlt':j<B.aC.length
   ·have aP:(j:Int)<B.aC.length:=af;obtain⟨b1,off,cs0,rfl,-,hrl,M,d⟩:=eB JQ.aa j hlt' ax;have G:=asV B.aC j hlt';have E:=ae G;obtain⟨vf,ve,rfl,⟨Af,cf,rfl,-⟩,⟨Y,ce,rfl,-⟩⟩:=hrl wr kr;have Ji:((B.aC.take j).filter (·.asked)).length<=1000000:=bn (mw _ _) (by rw[qI];omega);generalize B.aC[j]=t at *;have M:=M wr kr;have d:∀i,i<9->wr.cell? ⟨b1,off+j*9+i,none⟩=(gW t (.slice Af t.e.f.length cf) (.slice Y t.e.es.length ce))[i]?:=λi hi=>(d wr kr i hi).trans Array.getElem?_toList
    have M:wr.cell? ⟨b1,off+j*9,none⟩=some (.int .i64 t.e.kind):=M;have V:=ai.new wr 128 (gW t (.slice Af t.e.f.length cf) (.slice Y t.e.es.length ce));have qb:=V.cell;have kA:=kr.tr V.aU;clear hrl V E;cases ha:t.asked
    ·have E:=ae (show ((B.aC.take (j+1)).filter (·.asked)).length=((B.aC.take j).filter (·.asked)).length by rw[G,ha];rfl);clear G;go_wp2;exact⟨⟨j+1,af,bI,by rw[E.aa],kr.al _⟩,I6⟩
    ·have E:=ae (show ((B.aC.take (j+1)).filter (·.asked)).length=((B.aC.take j).filter (·.asked)).length+1 by rw[G,ha];rfl);clear G;go_wp2;exact⟨⟨j+1,af,bI,by rw[E.aa];go_num,kr.al _⟩,I6⟩
   ·have aP:¬(j:Int)<B.aC.length:=af;obtain rfl:j=B.aC.length:=af;rw[nC]at *;have Z:=ae (ayR (T.aa wr (JJ.aa.tr kr)));have Ji:(B.aC.filter (·.asked)).length<=1000000:=bn (mw _ _) gV;have HKr:=ae (JJ.aa.tr kr);clear T kr;go_wp2_with fail
    refine Z.aa.mono ?_;rintro e w9⟨A9,c9,rfl,k9⟩;have k99:=HKr.aa.tr k9;clear Z k9;go_wp2;go_ret;refine⟨?_,k99⟩;rw[HR.aa];exact congrArg (λz:Int=>Ending.returned (Value.int .i64 z)) af
end
theorem ayS{X Z g gd B W}(h:dE X Z g gd B W)(t:lH B)(y:B.told.length<=800000) :
 Calls prog 46 #[.pointer (some ⟨g,0,none⟩)] W λe w'=>∃v',e=.returned v'/\dE X Z g gd (gB B) w'/\ag (λk=>¬Z k) W w'/\Fx X (λW=>aq AW (sF (gB B)) v' W) w':=by
 obtain⟨j,p,hb,hg,hz⟩:=h
 obtain rfl:=kg hg
 refine (ard hb j.tobE t y).mono ?_
 rintro e w'⟨v',p',rfl,E,C,u,D,A⟩
 have h6:=dE.n hz hg j.work ⟨p',E,C,u,D⟩
 exact⟨v',rfl,h6.1,h6.2,A.less λ_ h=>.inl (.inl h)⟩
theorem auM{B}(j:bE B):(sF B).length<=17:=by
 have A:=ad7 B
 have u:=U6 B (oo B)
 have t:=IC B.par B.me
 have y:=(sA j.tr).2
 unfold sF
 grind [sF,oo]
section
variable {S:Nat->Prop} {W W2:World} {H:mM} {own:Nat->Nat} {O:bF} {par ah:List Int} {k:Nat}
theorem bu.take(h:bu H own O W dF) a b:∃t,H.vn=.pointer (some ⟨t,0,none⟩)/\Calls prog 56 #[.pointer (some ⟨t,0,none⟩),.int .i64 a,.int .i64 b] W λe w'=>∃v j,e=.returned (.tuple #[v,.int .i64 j]) /\
 ((j != 0)=true/\jO O a b=(O,j)/\dB H own O W w'∨∃m l,j=0/\fI O.cz (a,b)=some (m :: l)/\m.length<=1000000000/\sl m v w'/\bu H own { O with cz:=iF O.cz (a,b) l } w' dF/\ag (λk=>own k=3) W w'):=by
 obtain⟨t,hv,A⟩:=h.cz (show dF 3 by grind [dF])
 refine⟨t,hv,(arp A).mono ?_⟩
 rintro e w'⟨v,j,rfl,u,⟨y,rfl,h2⟩|⟨y,rfl,h2⟩|⟨m,l,y,rfl,h2,B,C⟩⟩
 ·exact ajf
 ·exact ajf
 ·exact⟨v,_,rfl,.inr ⟨m,l,rfl,y,B,C.now,h.Jm hv h2 u,u⟩⟩
theorem abH(h:bu H own O W dF)(Y:bQ par ah O k)(hk:k<=40000) a b :
 Calls prog 18 #[.pointer (some ⟨H.gw,0,none⟩),.int .i64 a,.int .i64 b] W λe w'=>e=.returned (.int .i64 (jO O a b).2)/\dB H own (jO O a b).1 W w':=by
 obtain⟨gn,hv,Z⟩:=h.take a b
 have L:=ae Z
 have q:=(h.fo p2).blk.cell
 rw[hv]at q
 have N:=ae Y
 have HR:Hid (jO O a b=jO O a b):=ae rfl
 generalize hr:jO O a b=R at HR⊢
 have HE:=ae hr
 clear h Y hr HR hv Z
 go_enter func18,ntmps18
 go_wp2_with fail
 refine L.aa.mono ?_
 rintro e I⟨v,code,rfl,⟨hne,j,G⟩|⟨m,l,rfl,J,uO,F,t,S⟩⟩
 ·have u:=ae (And.intro j G);clear L j G q;go_wp2;go_ret;obtain⟨j,G⟩:=u.aa;rw[<- HE.aa,j];exact⟨rfl,G⟩
 ·have C:bQ par ah { O with cz:=iF O.cz (a,b) l } k:=by have h0:=N.aa.few _ (XI J);simp only[fg]at h0;exact N.aa.cz (Vy _ _ _) (Vz N.aa.few af)
  have j:jO O a b=(match cL { O with cz:=iF O.cz (a,b) l } b with|none=>({ O with cz:=iF O.cz (a,b) l },210)|some B=>(iw { O with cz:=iF O.cz (a,b) l } b (iC B a m).1,(iC B a m).2)):=by unfold jO;rw[J];rfl
  rw[HE.aa]at j;have X:=ae (show ag (λk=>2<=own k) W I from S.more λk e=>af);generalize { O with cz:=iF O.cz (a,b) l }=P at *;have q:=(t.fo p2).blk.cell;have y:=(t.q p2 I (K.rf I) b).1;obtain⟨A,c,rfl,-⟩:=id F;cases hu:cL P b with
  | none => rw[t.down p2 pB C.gH.ln hu]at y;simp only[Option.getD_none,Option.isSome_none]at y;rw[hu]at j;have u:=ae (And.intro j (dB.tr X.aa rfl (λ_ _=>rfl) (t.now (K.rf I))));clear L j F t S C hu J;go_wp2;go_ret;rw[u.aa.1];exact⟨rfl,u.aa.2⟩
  | some B =>
   obtain⟨n,rfl,hlt,x,hx1,hx2⟩:=Ec hu;obtain⟨gd,g,V,Q,hL⟩:=t.up (pB n) C.gH.ln hu;obtain⟨hG,T,-⟩:=C.up hu;have gV:=T.told;have C3:=ae (axS hL T.fit af a m _ F uO);rw[Q]at y;simp only[Option.getD_some,Option.isSome_some]at y;rw[hu]at j;simp only at j;have U:=ae λM (E:dE _ _ g gd (iC B a m).1 M) D=>dB.tr X.aa rfl (λ_ _=>rfl) (t.akY aA V Q E D)
   have HD:=ae j;generalize iC B a m=hb at *;clear L j F t S C hu J hL hG T gV V Q hx1 hx2;go_wp2_with fail
   apply aM C3.aa;rintro M⟨E,D⟩;have u:=ae (U.aa M E D);clear C3 U E D q y;go_wp2;go_ret;rw[HD.aa];exact⟨rfl,u.aa⟩
def Er(O:bF)(n:Int)(l:List (Int×List UInt8)):bF:={ O with cz:=l.foldl (λL m=>pP L (n,m.1) m.2) O.cz }
theorem asW O n l x:Er O n (l++[x])={ Er O n l with cz:=pP (Er O n l).cz (n,x.1) x.2 }:=by
 grind [Er]
theorem acg(h:bu H own O W dF)(E:bQ par ah O k)(hk:k<=40000) n :
 Calls prog 12 #[.pointer (some ⟨H.gw,0,none⟩),.int .i64 n] W λe w'=>e=.returned (.int .i64 (lV O n).2)/\dB H own (lV O n).1 W w':=by
 have C1:=ae (KV h p2 n)
 have HR:Hid (lV O n=if gX O n then (match cL O n with|none=>(O,(210:Int))|some B=>(Er (iw O n (gB B)) n (sF (gB B)),0))else (O,1)):=ae rfl
 have HN:=ae (h.now (K.rf W))
 generalize lV O n=R at *
 cases F:gX O n
 ·rw[F]at C1 HR;have q:=(h.fo p2).blk.cell;clear h E F;go_enter func12,ntmps12;exact QT
 rw[F]at C1 HR
 have q:=(h.fo p2).blk.cell
 have G:=(h.q p2 W (K.rf W) n).1
 cases hu:cL O n with
 | none => rw[h.down p2 pB E.gH.ln hu]at G;simp only[Option.getD_none,Option.isSome_none]at G;rw[hu]at HR;clear h E F hu;go_enter func12,ntmps12;exact QT
 | some B =>
  obtain⟨i,rfl,hlt,x,hx1,hx2⟩:=Ec hu;obtain⟨gd,g,e1,Z,hL⟩:=h.up (pB i) E.gH.ln hu;obtain⟨J,M,-⟩:=E.up hu;have gV:=M.told;have C3:=ae (ayS hL M.fit af);have N8:=auM (KT J.tobE);have HS:=ae (ari (KT J.tobE) (Pu J.tobE M.fit));rw[Z]at G;simp only[Option.getD_some,Option.isSome_some]at G;rw[hu]at HR;have HP:=ae λw2 (rq:dE _ _ g gd (gB B) w2) u2=>h.put (by have:=E.gH.ln;omega) e1 Z rq u2
  have wT:=ae h.lo;simp only[if_true]at HR;generalize dU:iw O (i:Int) (gB B)=O1 at *;generalize sF (gB B)=t at *;generalize gB B=WB at *;clear h E F hu hL J M gV e1 Z hx1 hx2 dU HN;go_enter func12,ntmps12;go_wp2_with fail
  apply aM C1.aa;rintro w' rfl;go_wp2_with fail
  refine C3.aa.mono ?_;rintro e y⟨v',rfl,TR,D,X⟩;have S:=HP.aa y TR D;obtain⟨Ao,co,rfl⟩:=av X.now;have HX:=ae (show ag (λk=>2<=own k) w' y from ⟨D.os,D.tape,D.output,D.size,λk S h2=>D.block k S λhx=>h2 af⟩);have Y:=ae (show (∀k,k<w'.heap.size->jf own (2*i+4) w' y k=own k)/\∀k,jf own (2*i+4) w' y k=3->own k=3 from ⟨λk hk=>F6,λk hk=>by
   unfold jf at hk;split at hk
   ·split at hk <;> omega
   ·exact hk⟩)
  have HF:=ae X;have HH1:=ae S;have u10:=ag.rf (λk=>jf own (2*i+4) w' y k=3) y;have ak3:=ae u10;generalize jf own (2*i+4) w' y=Q at *;clear C1 C3 TR D X S q G HP u10;go_wp2_with fail
  go_loopw [27] (fun U Wj=>∃j:Nat,j<=t.length/\U=.int .i64 j/\Hid (bu H Q (Er O1 i (t.take j)) Wj dF)/\Hid (ag (fun k=>Q k=3) y Wj)) (fun U _=>t.length-(intOf U).toNat)
  case atStart=>exact⟨0,af,rfl,by simpa [Er]using HH1,ak3⟩
  case round =>
   clear HH1 ak3;obtain⟨j,hj,rfl,HJ,L⟩:=hrel;by_cases hlt':j<t.length
   ·have aP:(j:Int)<t.length:=af;have C:=HJ.aa;obtain⟨gn,hv,Ik⟩:=C.cz (show dF 3 by unfold dF;decide);have mg:=(HF.aa.up L.aa λk e=>by have:=Y.aa.2 k e;constructor <;> omega).now;obtain⟨A9,c9,e9,ak4,-⟩:=mg;injection e9 with e9a e9b e9c;subst e9a e9c;obtain⟨b1,off,cs0,fO,-,hrl,d0,d⟩:=eB ak4 j hlt' ax;subst fO;have iO:=HS.aa _ (bZ hlt');have GD:t.take (j+1)=t.take j++[t[j]]:=aj;generalize t[j]=x at *;obtain⟨I,bs⟩:=x;obtain⟨u,hcs,nc⟩:=hrl wr (K.rf wr);subst hcs;obtain⟨Au,cu,rfl⟩:∃A c,u=.slice A bs.length c:=nc.imp λ_ h=>h.imp λ_ h=>h.1
    have HK:=ae GD;have HV:=ae hv;have q:=(C.fo p2).blk.cells;rw[hv]at q;have T:=ai.new wr 96 #[.int .i64 I,.slice Au bs.length cu];have kA:=T.aU;have kB:=λW (k:K (wr.alloc (.cells #[.int .i64 I,.slice Au bs.length cu] 96)) W)=>kA.tr k
    have qb:=T.cells;have q2:=λW k=>q W (kB W k)
    have CZ:=ae (And.intro C nc);have d:∀i,i<2->wr.cell? ⟨b1,off+j*2+i,none⟩=#[.int .i64 I,.slice Au bs.length cu][i]?:=λi F=>(d wr (K.rf wr) i F).trans Array.getElem?_toList
    have d0:wr.cell? ⟨b1,off+j*2,none⟩=some (.int .i64 I):=d0 wr (K.rf wr);have KA:=ae kA;clear Ik ak4 hrl GD hv C nc HJ q kA T kB;go_wp2_with fail
    generalize wr.alloc _=w2 at *;have qs:=And.intro q2 qb;refine dV 9 ?_;iterate 9 refine au.i ?_
    intro V W3 kW hA;simp only[aO,aR,cC,aJ,Nat.reduceAdd]at hA;refine aH.call _ _ rfl (by simp[aF,List.lookup,bj,hA,execOp,aG,go_sem];exact⟨rfl,rfl⟩) ?_;have k3:=KA.aa.tr kW;have N:=CZ.aa.1.st k3;obtain⟨gn',hv',tX⟩:=N.cz (show dF 3 by unfold dF;decide);have eg:gn'=gn:=by have:=hv'.symm.trans HV.aa;injection this with this;injection this with this;injection this
    subst eg;refine (arq tX N.lo bs _ (oh _ _ _ _ CZ.aa.2 k3) iO).mono ?_;rintro e w4⟨code,rfl,u4,zM⟩;refine⟨_,rfl,aH.h ?_⟩;have h4:bu H Q (Er O1 i (t.take (j+1))) w4 dF:=by rw[HK.aa,asW];exact N.Jm hv' zM u4
    have H4:=ae h4;have Tg:=ae ((L.aa.tr (ag.aT k3 _)).tr u4);clear tX zM u4 N h4 hA q2 qb qs CZ L d d0;go_wp2;go_roundw
    case rel=>exact⟨j+1,af,bI,H4,Tg⟩
    case measure=>simp[intOf];omega
   ·have aP:¬(j:Int)<t.length:=af;obtain rfl:j=t.length:=af;go_wp2;go_ret;have C:=HJ.aa;rw[nC]at C;refine⟨fW,?_⟩;rw[HR.aa];exact⟨H,Q,C,rfl,HX.aa.gF L.aa λk hk e=>by have:=Y.aa.2 k e;omega,Y.aa.1⟩
end
section
open Go Go.RowKit Go.Shelf
theorem aoy{α:Type}{F:Fence}{n:Nat}{P:Program}{g:Operand}{B:Array Tmp}{assign body:Code}{Q:Exit->Act->World->Prop}{a:Act}{w:World}(hro:F.round=none)(h1:1<=n){gf:Nat}{lb:Array Value}
 (hg:a.eval g=.func (.func gf) #[] lb) (hFg:F.fn gf) (eg:∀args w,(callFunc gf args).run P w=.ok (.enter gf args) w) {encs:α->Array Value} (hps:∀x,(encs x).size=B.size) (xs:List α) (I:List α->World->Prop)
 (D:∀pre W o,I pre W->w.heap.size+1<W.heap.size->I pre (W.putObj (w.heap.size+1) o)) (h0:∀o,I [] ((w.alloc (.deferred (some []))).alloc o))
 (aAV:∀(l:Nat) (J:List α->World->Prop) (W:World),(∀pre W,J pre W->I pre W)->(∀pre x W,J pre W->pre++[x] <+: xs->YieldAt F (n-1-1) P l (encs x) W λe W'=>e=.returned (.bool true)/\J (pre++[x]) W')->J [] W ->
  CallsIn F (n-1) P gf (#[.func (.yield l) #[] #[]]++lb) W λe W'=>(∃v,e=.returned v)/\J xs W')
 (O:α->Act) (Y:∀(l:Nat) (x:α) (W:World) (K:Act->World->Prop),K (O x) W->assign.wpIn (F.inRound l) (n-1-1) P (Exit.then K (λ_ _ _=>False)) { tmps:=(B.zip (encs x)).foldl (λt (p,v)=>t.setIfInBounds p v) a.tmps,defers:=[] } W)
 (U:∀(l:Nat) (pre:List α) (x:α) (W:World),I pre W->pre++[x] <+: xs->w.heap.size+1<W.heap.size->body.wpIn (F.inRound l) (n-1-1) P (λe _ W'=>e=.normal/\(∀k,k=w.heap.size∨k=w.heap.size+1->W'.heap[k]?=W.heap[k]?)/\I (pre++[x]) W') (O x) W)
 (Z:∀W,I xs W->W.heap[w.heap.size]?=some (.deferred (some []))->Q .normal { a with defers:={ target:=.collected w.heap.size,args:=#[] } :: a.defers } W):(Code.rangeFunc g B assign body).wpIn F n P Q a w:=by
 refine wpIn_rangeFunc ?_
 intro E V
 rw[hro]
 obtain⟨j,u⟩:∃j:LoopState->Loop,j=λst=>{ state:=st,pending:=none,fn:=E,tmps:=a.tmps,params:=B,assign:=assign,body:=body,defers:=w.heap.size }:=⟨_,rfl⟩
 have S:=h0 (.loop (j .ready))
 obtain⟨W1,A⟩:∃W1,(w.alloc (.deferred (some []))).alloc (.loop (j .ready))=W1:=⟨_,rfl⟩
 rw[A]at S
 have X:W1.heap[w.heap.size+1]?=some (.loop (j .ready)):=by rw[<- A];have:=World.alloc_heap_new (w.alloc (.deferred (some []))) (.loop (j .ready));rwa [World.size_alloc]at this
 have hK1:W1.heap[w.heap.size]?=some (.deferred (some [])):=by rw[<- A];exact (Below.heap_alloc _ _ _ aj).trans (World.alloc_heap_new w _)
 refine⟨w.heap.size+1,[{ target:=.collected w.heap.size,args:=#[] }],W1,{ target:=.fn (.func gf) lb,args:=#[.func (.yield (w.heap.size+1)) #[] #[]] },W1,gf,#[.func (.yield (w.heap.size+1)) #[] #[]]++lb,W1,?_,?_,?_,?_,λ_=>h1,?_⟩
 ·rw[<- A,u];exact run_enterLoop_outer _ _ _ _ _
 ·simp only[resolve,hg];simp[go_sem]
 ·intro f' L;simp[Target.leads]at L;subst L;exact hFg
 ·simp[invoke,go_sem,eg]
 refine (aAV (w.heap.size+1) (λpre W=>I pre W/\W.heap[w.heap.size+1]?=some (.loop (j .ready))/\W.heap[w.heap.size]?=some (.deferred (some []))) W1 (λ_ _ h=>h.1) ?_ ⟨S,X,hK1⟩).mono ?_
 ·rintro pre x W⟨G,y,hk⟩ xK;have C:=(Array.getElem?_eq_some_iff.1 y).1;have T:=run_yield (P:=P) (args:=encs x) y (by rw[u];exact hps x);rw[u]at T;refine⟨E,_,assign,body,T,roundIn_of_wpIn V (Y _ x W _ ⟨_,run_beginRound y (by rw[u]),?_⟩)⟩;refine wpIn_mono (U _ pre x _ (D _ _ _ G C) xK (by simpa [World.putObj]using C)) ?_;rintro e a3 W3⟨rfl,M,hi3⟩;have H:=(M _ (.inr rfl)).trans (World.putObj_heap_same (o:=.loop { j .ready with state:=.busy }) C);have jh:=(M _ (.inl rfl)).trans ((World.putObj_heap_other af).trans hk);have N:=(Array.getElem?_eq_some_iff.1 H).1;have R:=run_endRound (P:=P) none H;rw[u]at R;exact⟨_,_,R,rfl,D _ _ _ hi3 N,by rw[u];exact World.putObj_heap_same N,(World.putObj_heap_other af).trans jh⟩
 ·rintro e W2⟨⟨v,rfl⟩,G,y,hk⟩;exact⟨none,_,by have:=run_endLoop (P:=P) y (by rw[u];simp);rw[u]at this;exact this,Z _ (D _ _ _ G (Array.getElem?_eq_some_iff.1 y).1) ((World.putObj_heap_other af).trans hk)⟩
end
