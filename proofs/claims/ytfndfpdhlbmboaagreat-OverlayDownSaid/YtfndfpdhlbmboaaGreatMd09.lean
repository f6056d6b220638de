/-
  The walk of fold.on (layer 16). Conditions: lists of at most a million.
-/
import Derived.Test.YtfndfpdhlbmboaaGreatMd08
import Derived.Test.YtfndfpdhlbmboaaGreatMdz
set_option maxRecDepth 100000
set_option linter.constructorNameAsVariable false
set_option maxHeartbeats 16000000
set_option linter.unusedVariables false
set_option linter.unusedSimpArgs false
namespace Go.Proofs.YtfndfpdhlbmboaaGreat
open Go Go.RowKit _root_.Go.Proofs.Tryz
theorem atB{s r}(h:dR r=false):mR s r=(s,110):=by simp[mR,h]
def akf(s:dA):Option dA->dA×Int
 | none=>(s,160)
 | some t=>(t,0)
theorem aev{s r o}(h:dR r=true)(e:dZ s r=o):mR s r=akf s o:=by grind [dR,dZ,mR,akf]
theorem ay9{s r}(h:r.kind=1):dZ s r=zo s r:=by simp[dZ,h]
theorem aza{s r}(h:r.kind=2):dZ s r=xR s r:=by simp[dZ,h]
theorem azb{s r}(h:r.kind=3):dZ s r=xS s r:=by simp[dZ,h]
theorem azc{s r}(h:r.kind=4):dZ s r=xT s r:=by simp[dZ,h]
theorem azd{s r}(h:r.kind=5):dZ s r=zq s r:=by simp[dZ,h]
theorem avA{r}(h:dR r=true):r.kind=1∨r.kind=2∨r.kind=3∨r.kind=4∨r.kind=5:=by
 grind [dR]
structure M3(base g:Nat)(s:dA)(r:Rec)(vl vp va v:Value)(w:World):Prop where
 st:eM base g s vl vp va w
 rc:Fx (YA g vl vp va) (λW=>p6 r v W) w
 low:base<=w.heap.size
 sz:s.list.length<=900000/\s.prom.length<=900000/\s.ab.length<=900000
 sm:eJ r.e
 fit:jQ r
theorem M3.onV{base g t gr s r vl vp va vf j w}(h:M3 base g s r vl vp va (.agg (eY r vf j)) w){W}(k:K w W)(A:ai W t 201 #[.pointer (some ⟨g,0,none⟩)])(B:ai W gr 197 (eY r vf j)) :
 p7 base g t gr s r vl vp va vf j W:=by
 refine⟨h.st.st k,A,B,(h.rc.k k).mono λW' h=>?_,bn h.low k.size,h.sz,h.sm⟩
 obtain⟨D,C,e,y,u⟩:=h
 injection e with e
 have e:=congrArg Array.toList e
 simp at e
 obtain⟨rfl,rfl⟩:=e
 exact⟨_,_,rfl,y,u⟩
theorem aew{base g s r vl vp va v} w(h:M3 base g s r vl vp va v w) :
 Calls prog 120 #[.pointer (some ⟨g,0,none⟩),v] w λe w'=>e=.returned (.int .i64 (mR s r).2)/\zt base g (mR s r).1 w'/\Below base w w':=by
 obtain⟨vf,E,rfl,-,-⟩:=h.rc.now
 have H:=ae h
 have L:=ae λW (k:K w W)=>arR r (.agg (eY r vf E)) W (h.rc.at k) h.fit
 have y:=(ai.new w 201 #[.pointer (some ⟨g,0,none⟩)]).alloc (.cells (eY r vf E) 197)
 have u:=ai.new (w.alloc (.cells #[.pointer (some ⟨g,0,none⟩)] 201)) 197 (eY r vf E)
 have j:=K.lW w (.cells #[.pointer (some ⟨g,0,none⟩)] 201) (.cells (eY r vf E) 197)
 rw[World.size_alloc]at u
 have U:=@run_makeMap prog
 have C:∀W:World,(zeroValue 22).run prog W=.ok .nilFunc W:=λW=>fB
 clear h
 go_enter func120,ntmps120
 go_wp2_with fail
 generalize World.alloc (World.alloc w _) _=Q at *
 generalize V:w.heap.size=O at *
 refine (L.aa Q j).mono ?_
 rintro e A⟨T,rfl,-,D⟩
 replace j:=j.tr D
 replace y:=y.ay D
 replace u:=u.ay D
 clear D L
 cases hok:dR r
 ·rw[show ur r=110 by simp[ur,hok]];have HQ:=ae (atB (s:=s) hok);have HS:=ae (H.aa.st.st j);have F:=j.mono H.aa.low;clear hok;go_wp2;go_ret;exact⟨nW,by rw[HQ.aa];exact⟨_,_,_,HS.aa⟩,F⟩
 rw[show ur r=0 by simp[ur,hok]]
 have J:=ae hok
 clear hok
 have t:=Cn.new A
 have R:=u.lt
 replace y:=y.alloc (.map #[] 0)
 replace u:=u.alloc (.map #[] 0)
 replace j:=j.al (.map #[] 0)
 go_wp2_with (with_reducible refine xm _ rfl (.tmp 17) (.const (.int .i64 1)) (.tmp 18) 286 rfl 3 22 underlying286 underlying3 A.heap.size _ rfl t 1 rfl _ rfl rfl ?_)
 clear t
 intro W t hg
 replace j:K w W:=j.trans (lD hg af j.size)
 replace y:=y.grown hg ba
 replace u:=u.grown hg ba
 clear hg
 go_wp2_with (with_reducible refine xm _ rfl (.tmp 17) (.const (.int .i64 2)) (.tmp 19) 286 rfl 3 22 underlying286 underlying3 A.heap.size _ rfl t 2 rfl _ rfl rfl ?_)
 clear t
 intro W t hg
 replace j:K w W:=j.trans (lD hg af j.size)
 replace y:=y.grown hg ba
 replace u:=u.grown hg ba
 clear hg
 go_wp2_with (with_reducible refine xm _ rfl (.tmp 17) (.const (.int .i64 3)) (.tmp 20) 286 rfl 3 22 underlying286 underlying3 A.heap.size _ rfl t 3 rfl _ rfl rfl ?_)
 clear t
 intro W t hg
 replace j:K w W:=j.trans (lD hg af j.size)
 replace y:=y.grown hg ba
 replace u:=u.grown hg ba
 clear hg
 go_wp2_with (with_reducible refine xm _ rfl (.tmp 17) (.const (.int .i64 4)) (.tmp 21) 286 rfl 3 22 underlying286 underlying3 A.heap.size _ rfl t 4 rfl _ rfl rfl ?_)
 clear t
 intro W t hg
 replace j:K w W:=j.trans (lD hg af j.size)
 replace y:=y.grown hg ba
 replace u:=u.grown hg ba
 clear hg
 go_wp2_with (with_reducible refine xm _ rfl (.tmp 17) (.const (.int .i64 5)) (.tmp 22) 286 rfl 3 22 underlying286 underlying3 A.heap.size _ rfl t 5 rfl _ rfl rfl ?_)
 clear t
 intro W t hg
 replace j:K w W:=j.trans (lD hg af j.size)
 replace y:=y.grown hg ba
 replace u:=u.grown hg ba
 clear hg
 have M:W.cell? ⟨O+1,0,none⟩=some (.int .i64 r.kind):=u.cell 0
 have B:=ae (H.aa.onV j y u)
 have F:=j.mono H.aa.low
 obtain⟨f,c1,c2,X,N,G⟩:∃(f:Nat) (c1 c2:Value),(∀args W,(callFunc f args).run prog W=.ok (.enter f args) W)/\(Instr.lookup 286 (.map (some A.heap.size)) (.int .i64 r.kind) true).run prog W=.ok (.tuple #[Value.func (Fn.func f) #[] #[c1,c2],.bool true]) W/\Hid (Calls prog f #[c1,c2] W (D6 base g s (dZ s r) W)):=by
  rcases avA J.aa with hk|hk|hk|hk|hk <;> rw[hk]
  ·exact⟨_,_,_,λ_ _=>cV,vP underlying286 underlying3 (C W) t 1,by rw[ay9 hk];exact ae (atw W B.aa)⟩
  ·exact⟨_,_,_,λ_ _=>cV,vP underlying286 underlying3 (C W) t 2,by rw[aza hk];exact ae (atA W B.aa)⟩
  ·exact⟨_,_,_,λ_ _=>cV,vP underlying286 underlying3 (C W) t 3,by rw[azb hk];exact ae (atz W B.aa)⟩
  ·exact⟨_,_,_,λ_ _=>cV,vP underlying286 underlying3 (C W) t 4,by rw[azc hk];exact ae (aty W B.aa)⟩
  ·exact⟨_,_,_,λ_ _=>cV,vP underlying286 underlying3 (C W) t 5,by rw[azd hk];exact ae (atx W B.aa)⟩
 have HQ:=ae (aev (s:=s) J.aa rfl)
 clear y u t C B j
 go_wp2_with fail
 refine G.aa.mono ?_
 rintro e S⟨rfl,I,hb⟩
 have HS:=ae I
 clear I G M N
 generalize dZ s r=o at *
 have pg:=F.trans hb
 cases o
 ·exact agd
 ·exact agd
theorem adH{l A w}(h:zf cd l A w):Reads w w.heap.size 3 A l.length (l.flatMap fw):=by
 obtain⟨css,j,t⟩:=h;have:css=l.map fw:=by
  refine List.ext_getElem (by simpa using j.1) λi u y=>?_
  rw[List.getElem_map];exact j.2 i aA u
 rw[this,aer]at t;exact t
theorem Qe(l:List aS):∀u∈l.flatMap fw,u.oneCell'=true:=by intro u t;obtain⟨a,-,j⟩:=List.mem_flatMap.1 t;simp at j;rcases j with rfl|rfl|rfl <;> rfl
theorem eM.lower{base base' g s vl vp va W}(h:eM base g s vl vp va W)(hb:base'<=base):eM base' g s vl vp va W:=by
 have j:∀b,iM base' g vl vp va b->iM base g vl vp va b:=λb h=>by grind [iM]
 exact⟨h.blk,bn hb h.low,(h.l.less j).low hb,(h.p.less j).low hb,(h.a.less j).low hb,h.ne⟩
def Mi(base:Nat)(s:dA)(vl vp va:Value)(W:World):Prop:=∀W',ag (λk=>k<base) W W'->eM base W'.heap.size s vl vp va (W'.alloc (.cells (cP s vl vp va) 46))
theorem eM.r{base g s vl vp va W}(h:eM base g s vl vp va W)(hb:base<=W.heap.size):Mi base s vl vp va W:=λW' u=>by
 have t:=K.new W' (.cells (cP s vl vp va) 46);have hz:=u.size;have j:∀b,b<W.heap.size->iM base W'.heap.size vl vp va b->iM base g vl vp va b:=λb hb h=>by unfold iM at *;grind
 have A:=h.l.blk;have hp:=h.p.blk;have y:=h.a.blk;exact⟨ai.new _ _ _,bn hb hz,(h.l.to u (λ_ h=>.inl h) (λk e _=>by have:=A k e;omega) λb hb h=>.inl (j b hb h)).st t,(h.p.to u (λ_ h=>.inl h) (λk e _=>by have:=hp k e;omega) λb hb h=>.inl (j b hb h)).st t,(h.a.to u (λ_ h=>.inl h) (λk e _=>by have:=y k e;omega) λb hb h=>.inl (j b hb h)).st t,h.ne⟩
theorem Mi.to{base base' s vl vp va W W'}(h:Mi base s vl vp va W)(u:ag (λk=>k<base) W W')(hb:base'<=base):Mi base' s vl vp va W' :=
 λt j=>(h t (u.tr (j.more λ_ h=>bz h hb))).lower hb
abbrev mi:Array Value:=#[.int .u64 0,.slice none 0 0,.slice none 0 0,.slice none 0 0]
def azV(base:Nat)(v:Value)(W:World):Prop:=∃b,v=.pointer (some ⟨b,0,none⟩)/\base<=b/\ai W b 46 mi
theorem avB{P t z}(T:fY P t 26 z 3 24){ρ} s x(B:ρ s=.slice none 0 0){l u}(y:ρ x=u){w}(h:aq cd l u w)(G:l.length<=1000000) base(hb:base<=w.heap.size) Y ty :
 ∃v' w',(execOp ρ (aG (.call { callee:=.builtin .append,args:=#[s,x],argTypes:=#[t,t] }) ty)).run P w=.ok (.value v') w'/\aB Y base 26 cd l v' w'/\K w w':=by
 obtain⟨A,c,rfl,D,-⟩:=h
 obtain⟨v',w',F,E,j,-,-⟩:=FR (P:=P) w base t ty 26 z 3 24 T (.slice none 0 0) 0 [] (kU _ _ _ _) _ A l.length c _ (adH D) (Qe _) af hb
 exact⟨v',w',by simp only[execOp,aG,resolve,invoke,builtin,Sem.run_bind,Sem.run_pure,Result.andThen_ok,List.map_toArray,jR,List.map_nil,B,y,F],⟨l.map fw,by rw[aer];simpa [show cd.size=3 from rfl]using E,aj,λW _=>PA l W⟩,⟨j.os,j.tape,j.output,j.size,λi C=>j.block i C (by simp[Value.ownBlock])⟩⟩
theorem apM s v w(h:nQ s v w)(iO:∀x∈s.list,eJ x)(hsp:∀x∈s.prom,eJ x)(hz:s.list.length<=900000/\s.prom.length<=900000/\s.ab.length<=900000) :
 Calls prog 303 #[v] w λe w'=>∃vl vp va,e=.returned (.agg (cP s vl vp va))/\Mi w.heap.size s vl vp va w'/\K w w':=by
 obtain⟨vl,vp,va,rfl,hl,hp,ha⟩:=h
 have HA:=ae ha
 obtain⟨Al,cl,rfl,hl,-⟩:=hl
 obtain⟨Ap,cp,rfl,hp,-⟩:=hp
 obtain⟨Aa,ca,rfl⟩:=av ha
 have dL:=(ai.new w 46 (cP s (.slice Al s.list.length cl) (.slice Ap s.prom.length cp) (.slice Aa s.ab.length ca))).alloc (.cells mi 46)
 have dc:=ai.new (w.alloc (.cells (cP s (.slice Al s.list.length cl) (.slice Ap s.prom.length cp) (.slice Aa s.ab.length ca)) 46)) 46 mi
 have L:=K.lW w (.cells (cP s (.slice Al s.list.length cl) (.slice Ap s.prom.length cp) (.slice Aa s.ab.length ca)) 46) (.cells mi 46)
 rw[World.size_alloc]at dc
 have iO:=ae iO
 have hsp:=ae hsp
 have HL:=ae hl
 have HP:=ae hp
 clear ha hl hp
 go_enter func303,ntmps303
 go_upto_region 1 with (fail)
 generalize World.alloc (World.alloc w _) _=w0 at *
 obtain⟨base,hbase⟩:∃b,b=w0.heap.size:=⟨_,rfl⟩
 have jK:w.heap.size+1<base:=by rw[hbase];exact dc.lt
 generalize ez:w.heap.size=gp at dL dc jK⊢
 have qs:=dL.cells
 refine dV 7 ?_
 iterate 4 refine au.i ?_
 refine au.op (λv W=>aB (λ_=>True) base 26 cd s.ab v W) (λ_ _ _ h k=>h.st k) (λV W kW hp=>?_) ?_
 ·simp only[cF,aO,aR,bW,bY,aJ]at hp;obtain⟨v',w',hrun,h1,h2⟩:=avB (P:=prog) wU (ρ:=aF [(11,3)] _ V) (.const (.slice none 0 0)) (.tmp 11) rfl hp.1 (bo HA.aa (L.tr kW)) af base age (λ_=>True) 44;change cW _ _ _ ((execOp (aF [(11,3)] _ V) (aG (.call { callee:=.builtin .append,args:=#[.const (.slice none 0 0),.tmp 11],argTypes:=#[44,44] }) 44)).run _ _);rw[hrun];exact⟨h1,h2⟩
 refine au.op (λv W=>∃va,v=.agg (cP ⟨s.life,[],[],s.ab⟩ (.slice none 0 0) (.slice none 0 0) va)/\aB (λ_=>True) base 26 cd s.ab va W) (λ_ _ _ ⟨va,e,h⟩ k=>⟨va,e,h.st k⟩) (λV W kW hp=>?_) ?_
 ·simp only[cF,aO,aR,bW,bY,aJ]at hp;obtain⟨h1,h4,-⟩:=hp;obtain⟨A4,c4,e4⟩:=h4.slice;simp[h1,e4,bR,aF,List.lookup,cW,execOp,aG,cT,go_sem];rw[<- e4];exact h4
 refine au.op (azV base) (λv w w' ⟨b,e,h1,h2⟩ k=>⟨b,e,h1,h2.ay k⟩) (λV W kW _=>?_) ?_
 ·simp[bR,cW,execOp,aG,go_sem];exact⟨⟨W.heap.size,rfl,age,ai.new _ _ _⟩,(K.rf W).al _⟩
 clear qs
 intro V W kW hA
 simp only[aO,aR,cC,aJ,Nat.reduceAdd]at hA
 obtain⟨-,-,-,-,-,⟨va9,e5,hO⟩,⟨g,e6,hg,hb⟩,-⟩:=hA
 have hA:=And.intro e6 e5
 obtain⟨C,G,rfl⟩:=hO.slice
 have u9:ag (λk=>k=g) W (ef W g 0 [.int .u64 s.life,.slice none 0 0,.slice none 0 0,.slice C s.ab.length G]):=ag.sets (X:=λk=>k=g) rfl _ _ _
 have GW:Hid (zt base g ⟨s.life,[],[],s.ab⟩ (ef W g 0 [.int .u64 s.life,.slice none 0 0,.slice none 0 0,.slice C s.ab.length G])):=ae ⟨_,_,_,eM.nil (FU hb rfl) hg (hO.to u9 (λ_ _=>trivial) (λk h e=>absurd ((hO.own h).2.2.elim λ_ k=>k.ie (e▸hb)) ax) λ_ _ _=>.inl trivial)⟩
 have qq:=hb.cell
 have zz:=hb.frozen
 refine aH.skip (ef W g 0 [.int .u64 s.life,.slice none 0 0,.slice none 0 0,.slice C s.ab.length G]) rfl (by simp[aF,List.lookup,bj,e5,e6,execOp,aG,ef,qq,zz,go_sem]) ?_
 refine aH.h ?_
 have U:=u9.k kW λk e=>af
 clear hO hb u9 qq zz e5 e6 hA
 generalize ef _ _ _ _=W1 at *
 have qp:=dL.cells
 go_wp2_with fail
 go_loopw [5,17] (fun _ i W=>∃j:Nat,j<=s.list.length/\i=.int .i64 j/\Hid (zt base g ⟨s.life,s.list.take j,[],s.ab⟩ W)/\K w0 W) (fun _ i _=>s.list.length-(intOf i).toNat)
 case atStart=>exact⟨0,af,rfl,ae fP,U⟩
 case round =>
  clear U GW;obtain⟨j,hj,rfl,B,kr⟩:=hrel;by_cases M:j<s.list.length
  ·have aP:(j:Int)<s.list.length:=af;obtain⟨b1,Z,cs,rfl,hcl,hrl,I,d⟩:=eB HL.aa j M ax;have HT:Hid (s.list.take (j+1)=s.list.take j++[s.list[j]]):=ae aj;have hxs:=iO.aa _ (bZ M);generalize s.list[j]=x at *;obtain⟨vf,Q,rfl,J,D⟩:=hrl w (K.rf w);have lL:Hid (∀W,K w W->dm x (.agg (aE x vf Q)) W):=ae λW k=>⟨_,_,rfl,eO _ _ _ _ J k,bo D k⟩
   have qZ:=L.tr kr;have I:wr.cell? ⟨b1,Z+j*8,none⟩=some (.int .i64 x.kind):=I wr qZ;have d:∀i,i<8->wr.cell? ⟨b1,Z+j*8+i,none⟩=(aE x vf Q)[i]?:=λi hi=>(d wr qZ i hi).trans Array.getElem?_toList
   obtain⟨O,Y,rfl⟩:=cA J;obtain⟨Ae,R,rfl⟩:=av D;have E:=ai.new wr 126 (aE x (.slice O x.f.length Y) (.slice Ae x.es.length R));have H:=E.aU;clear hrl hcl J D;go_upto_region 5 with (fail);clear d I;obtain⟨vl,vp,va,hS⟩:=B.aa;have T:vl.ownBlock≠some wr.heap.size:=λe=>by have:=(hS.l.own e).2.1;omega
   have t:=ae (hS.st H);generalize wr.alloc _=A at *;generalize wr.heap.size=ge at E T⊢;replace kr:=kr.tr H;have dP:base<=A.heap.size:=V6;have hN:∀k,(iM base g vl vp va k∨vl.ownBlock=some k)->k<A.heap.size:=λk h=>h.elim (t.aa.lt dP k) λh=>(t.aa.l.own h).2.1
   have JK:vl.ownBlock≠some g:=λe=>((t.aa.sep g).1 e).2.1 rfl
   have qs:∀W,rQ vl A W->(∀i,W.cell? ⟨g,i,none⟩=(cP ⟨s.life,s.list.take j,[],s.ab⟩ vl vp va)[i]?)/\(∀i,W.cell? ⟨ge,i,none⟩=(aE x (.slice O x.f.length Y) (.slice Ae x.es.length R))[i]?):=λW u=>⟨(t.aa.blk.aW u JK).cell,(E.aW u T).cell⟩
   have hro:∀k,vl.ownBlock=some k->w0.heap.size<=k:=λk e=>by rw[<- hbase];exact ((t.aa.sep k).1 e).1
   clear hS H;refine Fy 7 5 (s.list.take j) vl x 43 pw [([],[]),([0],[(21,0)]),([],[]),([2],[(23,2)]),([3],[(24,3)]),([1,4],[(22,1),(25,4)]),([],[]),([6,5],[(27,6),(26,5)])] 45 t.aa.l dP ba ?_;iterate 3 refine au.i ?_
   refine au.c (uQ (λk=>iM base g vl vp va k∨vl.ownBlock=some k) aV x) (λ_ _ _ h k=>h.mut k λ_ h=>.inr h) (λW' u=>(O5 x _ W' (lL.aa W' (L.tr (u.k kr hro))) hxs).mono λe w' ⟨v,e1,ho,k⟩=>⟨v,e1,Qb ho λk h=>bz (hN k h) u.size,k⟩) ?_;refine au.Gq (S:=aV) (N:=λk=>iM base g vl vp va k∨vl.ownBlock=some k) A.heap.size pw x (λ_ h=>h.size) (λb hb=>⟨.inr hb,hN b (.inr hb)⟩) (λV W y hp=>?_) ?_
   ·exact Qd
   refine au.s ?_;refine au.i ?_;refine⟨λ_ _=>trivial,λV W y hp=>?_,λV W y hO hv hA=>?_⟩
   ·exact IX
   simp only[aO,aR,cC,aJ,Nat.reduceAdd]at hA;have hS:=t.aa.Jm y hO hv;obtain⟨C,G,F⟩:=hO.slice;rw[F]at hS;generalize (s.list.take j++[x]).length=n9 at *;rw[<- HT.aa]at hS;have hA:=And.intro F hA;have hb:=t.aa.blk.aW y JK;have qs:=And.intro hb.cell hb.frozen;refine aH.s ?_;refine aH.h ?_;have HS9:=ae hS;have k9:K w0 (W.setCell ⟨g,1,none⟩ (.slice C n9 G)):=(y.k kr hro).setCell aA _;exact agf
  ·have aP:¬(j:Int)<s.list.length:=af;rw[gQ af]at B;have GW:=B;have U:=kr;clear B kr hj M;generalize wr=wa at *;go_wp2_with fail
   clear aP;go_loopw [7,32] (fun _ i W=>∃j:Nat,j<=s.prom.length/\i=.int .i64 j/\Hid (zt base g ⟨s.life,s.list,s.prom.take j,s.ab⟩ W)/\K w0 W) (fun _ i _=>s.prom.length-(intOf i).toNat)
   case atStart=>exact⟨0,af,rfl,ae fP,U⟩
   case round =>
    clear U GW;obtain⟨j,hj,rfl,B,kr⟩:=hrel;by_cases M:j<s.prom.length
    ·have aP:(j:Int)<s.prom.length:=af;obtain⟨b1,Z,cs,rfl,hcl,hrl,I,d⟩:=eB HP.aa j M ax;have HT:Hid (s.prom.take (j+1)=s.prom.take j++[s.prom[j]]):=ae aj;have hxs:=hsp.aa _ (bZ M);generalize s.prom[j]=x at *;obtain⟨vf,Q,rfl,J,D⟩:=hrl w (K.rf w);have lL:Hid (∀W,K w W->dm x (.agg (aE x vf Q)) W):=ae λW k=>⟨_,_,rfl,eO _ _ _ _ J k,bo D k⟩
     have qZ:=L.tr kr;have I:wr.cell? ⟨b1,Z+j*8,none⟩=some (.int .i64 x.kind):=I wr qZ;have d:∀i,i<8->wr.cell? ⟨b1,Z+j*8+i,none⟩=(aE x vf Q)[i]?:=λi hi=>(d wr qZ i hi).trans Array.getElem?_toList
     obtain⟨O,Y,rfl⟩:=cA J;obtain⟨Ae,R,rfl⟩:=av D;have E:=ai.new wr 126 (aE x (.slice O x.f.length Y) (.slice Ae x.es.length R));have H:=E.aU;clear hrl hcl J D;go_upto_region 10 with (fail);clear d I;obtain⟨vl,vp,va,hS⟩:=B.aa;have T:vp.ownBlock≠some wr.heap.size:=λe=>by have:=(hS.p.own e).2.1;omega
     have t:=ae (hS.st H);generalize wr.alloc _=A at *;generalize wr.heap.size=ge at E T⊢;replace kr:=kr.tr H;have dP:base<=A.heap.size:=V6;have hN:∀k,(iM base g vl vp va k∨vp.ownBlock=some k)->k<A.heap.size:=λk h=>h.elim (t.aa.lt dP k) λh=>(t.aa.p.own h).2.1
     have JK:vp.ownBlock≠some g:=λe=>((t.aa.sep g).2.1 e).2.1 rfl
     have qs:∀W,rQ vp A W->(∀i,W.cell? ⟨g,i,none⟩=(cP ⟨s.life,s.list,s.prom.take j,s.ab⟩ vl vp va)[i]?)/\(∀i,W.cell? ⟨ge,i,none⟩=(aE x (.slice O x.f.length Y) (.slice Ae x.es.length R))[i]?):=λW u=>⟨(t.aa.blk.aW u JK).cell,(E.aW u T).cell⟩
     have hro:∀k,vp.ownBlock=some k->w0.heap.size<=k:=λk e=>by rw[<- hbase];exact ((t.aa.sep k).2.1 e).1
     clear hS H;refine Fy 7 5 (s.prom.take j) vp x 43 pw [([],[]),([0],[(36,0)]),([],[]),([2],[(38,2)]),([3],[(39,3)]),([1,4],[(37,1),(40,4)]),([],[]),([6,5],[(42,6),(41,5)])] 45 t.aa.p dP ba ?_;iterate 3 refine au.i ?_
     refine au.c (uQ (λk=>iM base g vl vp va k∨vp.ownBlock=some k) aV x) (λ_ _ _ h k=>h.mut k λ_ h=>.inr h) (λW' u=>(O5 x _ W' (lL.aa W' (L.tr (u.k kr hro))) hxs).mono λe w' ⟨v,e1,ho,k⟩=>⟨v,e1,Qb ho λk h=>bz (hN k h) u.size,k⟩) ?_;refine au.Gq (S:=aV) (N:=λk=>iM base g vl vp va k∨vp.ownBlock=some k) A.heap.size pw x (λ_ h=>h.size) (λb hb=>⟨.inr hb,hN b (.inr hb)⟩) (λV W y hp=>?_) ?_
     ·exact Qd
     refine au.s ?_;refine au.i ?_;refine⟨λ_ _=>trivial,λV W y hp=>?_,λV W y hO hv hA=>?_⟩
     ·exact IX
     simp only[aO,aR,cC,aJ,Nat.reduceAdd]at hA;have hS:=t.aa.Yz y hO hv;obtain⟨C,G,F⟩:=hO.slice;rw[F]at hS;generalize (s.prom.take j++[x]).length=n9 at *;rw[<- HT.aa]at hS;have hA:=And.intro F hA;have hb:=t.aa.blk.aW y JK;have qs:=And.intro hb.cell hb.frozen;refine aH.s ?_;refine aH.h ?_;have HS9:=ae hS;have k9:K w0 (W.setCell ⟨g,2,none⟩ (.slice C n9 G)):=(y.k kr hro).setCell aA _;exact agf
    ·have aP:¬(j:Int)<s.prom.length:=af;rw[gQ af]at B;obtain⟨vl,vp,va,hS⟩:=B.aa;obtain⟨⟨Bl,dl,rfl⟩,⟨Bp,dp,rfl⟩,Ba,da,rfl⟩:=hS.slices;have q:=hS.blk.cell;have cX:=dc.ay kr;have z:=cX.frozen;have qz:=cX.cell;obtain⟨aY,k9,u9⟩:=LO s (.slice Bl s.list.length dl) (.slice Bp s.prom.length dp) (.slice Ba s.ab.length da) cX rfl (L.tr kr) af;have H9:=ae (And.intro ((hS.r V6).to (u9.more λk e=>show k<base by omega) (show w.heap.size<=base by omega)) k9);clear hS B kr u9 k9 cX dL dc qp;go_wp2;clear q z qz;generalize World.setCell (World.setCell (World.setCell (World.setCell wr _ _) _ _) _ _) _ _=W9 at *;have F:=aY.cell;refine bodyPost_ret (v:=.agg (cP s (.slice Bl s.list.length dl) (.slice Bp s.prom.length dp) (.slice Ba s.ab.length da))) (by simp[results,results303,go_sem,F]) rfl ?_;exact⟨_,_,_,rfl,ez▸H9.aa.1,H9.aa.2⟩
theorem avC s r v u w(h:nQ s v w)(hr:p6 r u w)(hfit:jQ r)(X:eJ r.e)(T:∀x∈s.list,eJ x)(hsp:∀x∈s.prom,eJ x)(hz:s.list.length<=900000/\s.prom.length<=900000/\s.ab.length<=900000) :
 Calls prog 269 #[v,u] w λe w'=>∃vl vp va,e=.returned (.tuple #[.agg (cP (mR s r).1 vl vp va),.int .i64 (mR s r).2])/\mh (λk=>k<w.heap.size) (mR s r).1 vl vp va w'/\K w w':=by
 have C1:=ae λW (k:K w W)=>apM s v W (LN h k) T hsp hz
 obtain⟨vl,vp,va,rfl,hl,hp,ha⟩:=h
 obtain⟨H,cl,rfl⟩:=av hl
 obtain⟨L,G,rfl⟩:=av hp
 obtain⟨I,J,rfl⟩:=av ha
 have uU:=ae (λW (k:K w W)=>QY hr k)
 obtain⟨vf,ve,rfl,hf,he⟩:=hr
 obtain⟨B,y,rfl⟩:=cA hf
 obtain⟨t,C,rfl⟩:=av he
 have HF:=ae hfit
 generalize ho:mR s r=o
 have HO:=ae ho
 obtain⟨j,e'⟩:=o
 clear ho
 have HM:=ae X
 clear hf he hl hp ha T hsp hfit X
 have dL:=((ai.new w 46 (cP s (.slice H s.list.length cl) (.slice L s.prom.length G) (.slice I s.ab.length J))).alloc (.cells (eY r (.slice B r.e.f.length y) (.slice t r.e.es.length C)) 197)).alloc (.cells mi 46)
 have R:=(ai.new (w.alloc (.cells (cP s (.slice H s.list.length cl) (.slice L s.prom.length G) (.slice I s.ab.length J)) 46)) 197 (eY r (.slice B r.e.f.length y) (.slice t r.e.es.length C))).alloc (.cells mi 46)
 have F:=ai.new ((w.alloc (.cells (cP s (.slice H s.list.length cl) (.slice L s.prom.length G) (.slice I s.ab.length J)) 46)).alloc (.cells (eY r (.slice B r.e.f.length y) (.slice t r.e.es.length C)) 197)) 46 mi
 have Q:=K.Rk w (.cells (cP s (.slice H s.list.length cl) (.slice L s.prom.length G) (.slice I s.ab.length J)) 46) (.cells (eY r (.slice B r.e.f.length y) (.slice t r.e.es.length C)) 197) (.cells mi 46)
 simp only[World.size_alloc]at R F
 go_enter func269,ntmps269
 go_wp2_with fail
 generalize World.alloc (World.alloc (World.alloc w _) _) _=w0 at *
 generalize jK:w.heap.size=gp at dL R F⊢
 refine (C1.aa w0 Q).mono ?_
 rintro e M⟨vl1,vp1,va1,rfl,hS,k1⟩
 have S:=hS M (ag.rf _ _)
 obtain⟨⟨Bl,V,rfl⟩,⟨Bp,dp,rfl⟩,Ba,da,rfl⟩:=S.slices
 have kA:=K.new M (.cells (cP s (.slice Bl s.list.length V) (.slice Bp s.prom.length dp) (.slice Ba s.ab.length da)) 46)
 have E:=k1.tr kA
 have q2:=(R.ay E).cell
 have O:=ae S
 have hgr:=F.lt
 have hz0:=Q.size
 clear hS S C1 dL
 go_wp2_with fail
 generalize World.alloc M _=U at *
 generalize M.heap.size=g at *
 have GX:=Q.tr E
 have Z:M3 w0.heap.size g s r (.slice Bl s.list.length V) (.slice Bp s.prom.length dp) (.slice Ba s.ab.length da) (.agg (eY r (.slice B r.e.f.length y) (.slice t r.e.es.length C))) U :=
  ⟨O.aa,λW' u'=>uU.aa W' (u'.k GX λk e=>by have:=O.aa.sep k;have:=O.aa.low;unfold YA at e;grind),E.size,hz,HM.aa,HF.aa⟩
 have A:=aew U Z
 rw[HO.aa]at A
 have A:=ae A
 clear q2 Z
 apply aM A.aa
 rintro w3⟨⟨vl,vp,va,D⟩,bG⟩
 simp only at D⊢
 obtain⟨⟨El,fl,rfl⟩,⟨Ep,fp,rfl⟩,Ea,Y,rfl⟩:=D.slices
 have q:=D.blk.cell
 have N:=(F.ay E).below bG hgr
 have z:=N.frozen
 have qz:=N.cell
 obtain⟨aY,k9,u9⟩:=LO j (.slice El j.list.length fl) (.slice Ep j.prom.length fp) (.slice Ea j.ab.length Y) N rfl (GX.trans (bG.mono hz0)) af
 have H9:=ae (And.intro (D.fx.up u9 λk e=>show k<w0.heap.size by omega) k9)
 clear D N F A E kA k1 k9 u9
 go_wp2
 clear q z qz
 generalize World.setCell (World.setCell (World.setCell (World.setCell w3 _ _) _ _) _ _) _ _=W9 at *
 have e9:=aY.cell
 refine bodyPost_ret (v:=.tuple #[.agg (cP j (.slice El j.list.length fl) (.slice Ep j.prom.length fp) (.slice Ea j.ab.length Y)),.int .i64 e']) (by simp[results,results269,go_sem,e9]) rfl ?_
 exact⟨_,_,_,rfl,H9.aa.1.less λk h=>af,H9.aa.2⟩
theorem avD n l wr:∀a∈(mC n l wr).1,nJ a:=by
 simp only[mC]
 cases hd:tF (aL n l wr).1 with
 | none=>simp
 | some e=>exact (adx hd).2.2
theorem avE n l wr:∀a∈(qN n l wr).1,jB a:=by
 simp only[qN]
 cases hd:rG (aL n l wr).1 with
 | none=>simp
 | some e=>exact (adw hd).2.2
theorem ayr l wr:(gT l wr).1.2.2.1<18446744073709551616/\(gT l wr).1.2.2.2.1<18446744073709551616/\(gT l wr).1.2.2.2.2.2<18446744073709551616 :=
 ⟨nX _ _,nX _ _,nX _ _⟩
theorem Vm a f es(B:a.2.2.1<18446744073709551616)(A:a.2.2.2.1<18446744073709551616)(j:a.2.2.2.2.2<18446744073709551616)(y:∀t∈f,jB t)(u:∀e∈es,∀a∈e,nJ a) :
 cE { oX a with f:=f,es:=es }:=by
 grind [jB,nJ,cE,oX,cD]
theorem avF n l wr:cE (qO n l wr).1:=by
 obtain⟨u,t,j⟩:=ayr l wr;unfold qO;split
 ·exact Vm _ [] _ u t j aj (afi (λe=>∀a∈e,nJ a) (avD n) _ _ _)
 ·split
  ·exact Vm _ _ [] u t j (avE n _ _) aj
  ·exact Vm _ [] [] u t j aj aj
theorem adI{b x}(h:iL b=some x):cE x:=by
 grind [iL,avF]
theorem PB:cE dD:=by simp[cE,dD,cD]
theorem atC n l wr:jQ (nD n l wr).1:=by
 have j:∀(k m:Nat) (e:aK) (b c d:Nat),cE e->m<18446744073709551616->c<18446744073709551616->d<18446744073709551616->jQ ⟨(min k 6:Nat),m,e,(min b 16:Nat),c,d⟩:=by
  grind [jQ,nD,cD]
 unfold nD;simp only;split
 ·split
  ·simp[jQ,Jj,cD,PB]
  ·rename_i e t;have:=j (aw l wr).1 _ _ 0 0 0 (adI t) (nX (aw l wr).2.1 (aw l wr).2.2) af af;simpa using this
 ·split
  ·exact j _ _ _ _ _ _ PB (nX _ _) (nX _ _) (nX _ _)
  ·have:=j (aw l wr).1 _ _ 0 0 0 PB (nX (aw l wr).2.1 (aw l wr).2.2) af af;simpa using this
theorem arT{b x}(h:nB b=some x):jQ x:=by
 unfold nB at h;split at h
 ·injection h with h;rw[<- h];exact atC _ _ _
 ·cases h
def ly:ei (List UInt8) where
 size:=1
 rel l cs w:=∃v,cs=[v]/\sl l v w
 len:=by rintro _ _ _⟨v,rfl,_⟩;rfl
 one:=by rintro _ _ _⟨v,rfl,A,c,rfl,_⟩ u j;simp at j;subst j;rfl
 st:=by rintro _ _ _ _⟨v,rfl,h⟩ k;exact⟨v,rfl,oh _ _ _ _ h k⟩
def sI(s:dA)(b:List UInt8):dA×Int:=if um b=0 then mR s (ui b)else (s,um b)
def iE:dA->List (List UInt8)->dA×Int
 | s,[]=>(s,0)
 | s,b :: l=>if (sI s b).2=0 then iE (sI s b).1 l else sI s b
def tG(l:List (List UInt8)):dA×Int:=if (iE bU l).2=0 then iE bU l else (bU,(iE bU l).2)
theorem atD l b:∀s,(iE s l).2=0->iE s (l++[b])=sI (iE s l).1 b:=by
 induction l with
 | nil =>
  grind [iE,sI]
 | cons c l j =>
  grind [iE,sI]
theorem avG l m:∀s,(iE s l).2≠0->iE s (l++m)=iE s l:=by
 induction l with
 | nil=>intro s h;simp[iE]at h
 | cons c l j =>
  grind [iE]
theorem arU{b}(h:um b=0):∃x,nB b=some x/\ui b=x:=by
 unfold um at h
 cases hd:nB b with
 | none=>simp[hd]at h
 | some x=>exact⟨x,rfl,by simp[ui,hd]⟩
theorem ays{l}(h:fN l=true):l.length<=16:=by
 grind [fN]
theorem vO{x}(h:bJ x=true):eJ x:=by
 unfold bJ at h;simp only[dC,decide_eq_true_eq]at h;obtain⟨-,h⟩:=h;split at h
 ·simp only[dC,decide_eq_true_eq,List.isEmpty_iff]at h;obtain⟨⟨⟨-,y⟩,t⟩,j⟩:=h;exact⟨aA,af,λe u=>by grind [ays,xC]⟩
 ·split at h
  ·grind [bJ,eJ]
  ·split at h
   ·simp only[dC,List.isEmpty_iff]at h;exact⟨by grind [DF],aA,aA⟩
   ·cases h
theorem acX:eJ dD:=by simp[eJ,dD]
theorem aqu{x}(h:dR x=true):eJ x.e:=by
 rcases BR h with ⟨-,e,-⟩|⟨-,e,-⟩|⟨-,-,-,e⟩
 ·grind [acX]
 ·exact vO e
 ·grind [acX]
theorem ajy s t r(h:dZ s r=some t):t.list.length<=s.list.length+1/\t.prom.length<=s.prom.length+1/\t.ab.length<=s.ab.length+1:=by
 have j:∀(l:List aK) a,(ja l a).length<=l.length:=λl a=>mw _ _
 have y:=j s.prom (ar r.e)
 have u:=j s.prom (iP r)
 unfold dZ zo xR xS xT zq at h
 grind
theorem avH s r:(mR s r).1.list.length<=s.list.length+1/\(mR s r).1.prom.length<=s.prom.length+1/\(mR s r).1.ab.length<=s.ab.length+1:=by
 unfold mR;split
 ·cases h:dZ s r with
  | none=>simp
  | some t=>exact ajy s t r h
 ·simp
theorem avI s b:(sI s b).1.list.length<=s.list.length+1/\(sI s b).1.prom.length<=s.prom.length+1/\(sI s b).1.ab.length<=s.ab.length+1:=by
 grind [sI,avH]
theorem avJ l:∀s,(iE s l).1.list.length<=s.list.length+l.length/\(iE s l).1.prom.length<=s.prom.length+l.length/\(iE s l).1.ab.length<=s.ab.length+l.length:=by
 induction l with
 | nil=>intro s;simp[iE]
 | cons c l j =>
  grind [avI,iE,fg,sI]
theorem adJ{l:List (List UInt8)}{j}(t:j<l.length)(u:(iE bU (l.take j)).2=0):iE bU (l.take (j+1))=sI (iE bU (l.take j)).1 l[j]:=by
 grind [gJ,atD]
theorem avK{l j}(t:j<l.length)(u:(iE bU (l.take j)).2=0){c}(hb:(sI (iE bU (l.take j)).1 l[j]).2=c)(y:¬c=0):tG l=(bU,c):=by
 have B:=adJ t u
 have A:iE bU l=iE bU (l.take (j+1)):=by
  grind [List.take_append_drop,avG]
 unfold tG
 grind
theorem atE{l}(h:(iE bU l).2=0):tG l=((iE bU l).1,0):=by
 grind [iE,bU,tG]
def mE(l:List aK):List Rec:=l.zipIdx.map λp=>⟨2,p.2,p.1,0,0,0⟩
def lG(l:List aK):List Rec:=l.map λx=>⟨3,0,x,0,0,0⟩
def pQ(l:List aS):List Rec:=l.map λa=>⟨4,0,dD,a.1,a.2.1,a.2.2⟩
def wF(n:Nat):List Rec:=if n=0 then []else [⟨1,n,dD,0,0,0⟩]
def cM(s:dA):List Rec:=wF s.life++mE s.list++lG s.prom++pQ s.ab
theorem atF(l:List aK)(j:Nat)(h:j<l.length):mE (l.take (j+1))=mE (l.take j)++[⟨2,j,l[j],0,0,0⟩]:=by unfold mE;rw[gJ h,List.zipIdx_append,List.map_append];simp[qI,Nat.min_eq_left (Nat.le_of_lt h)]
theorem atG(l:List aK)(j:Nat)(h:j<l.length):lG (l.take (j+1))=lG (l.take j)++[⟨3,0,l[j],0,0,0⟩]:=by unfold lG;exact agh
theorem atH(l:List aS)(j:Nat)(h:j<l.length):pQ (l.take (j+1))=pQ (l.take j)++[⟨4,0,dD,l[j].1,l[j].2.1,l[j].2.2⟩]:=by unfold pQ;exact agh
theorem aex n:(wF n).length<=1:=by grind [wF]
theorem K2 l:(mE l).length=l.length:=by simp[mE]
theorem PC l:(lG l).length=l.length:=by simp[lG]
theorem Vn l:(pQ l).length=l.length:=by simp[pQ]
theorem axd:(prog.info? 197).map (λi=>(i.zero,i.size,i.bytes))=some (some (.agg rP),13,136):=by rfl
theorem Rp:fY prog 333 197 (.agg rP) 13 136:=⟨underlying333,axd,rfl,ax⟩
theorem ajz:(prog.info? 94).map (λi=>(i.zero,i.size,i.bytes))=some (some (.slice none 0 0),1,24):=by rfl
theorem Sj:fY prog 119 94 (.slice none 0 0) 1 24:=⟨underlying119,ajz,rfl,ax⟩
theorem ajA{k n x}{a:aS}{vf j W}(h:dm x (.agg (aE x vf j)) W):wq.rel ⟨k,n,x,a.1,a.2.1,a.2.2⟩ (eY ⟨k,n,x,a.1,a.2.1,a.2.2⟩ vf j).toList W:=by obtain⟨u,t,e,h1,h2⟩:=h;exact Qf
theorem FM{l a}:bV l a=true ↔ ∃x∈l,ar x=a:=by simp[bV]
theorem K3{l a}:dJ l a=true↔a∈l:=by simp[dJ]
theorem Pq{l a x}:x∈ja l a↔x∈l/\ar x≠a:=by simp[ja]
structure rS(s:dA):Prop where
 nl:(s.list.map ar).Nodup
 np:(s.prom.map ar).Nodup
 na:s.ab.Nodup
 lp:∀x∈s.list,∀y∈s.prom,ar x≠ar y
 la:∀x∈s.list,ar x∉s.ab
 pa:∀x∈s.prom,ar x∉s.ab
 zw:∀x∈s.list,bJ x=true/\cE x
 zx:∀x∈s.prom,bJ x=true/\cE x
 GY:∀a∈s.ab,qH a.1=true/\dW a
 life:s.life<18446744073709551616
theorem rS.zero:rS bU:=⟨yD,yD,yD,yD,yD,yD,yD,yD,yD,ax⟩
theorem rS.drop{s}(h:rS s) a:rS ⟨s.life,s.list,ja s.prom a,s.ab⟩:=by
 have hm:∀x∈ja s.prom a,x∈s.prom:=λx j=>(Pq.1 j).1
 refine⟨h.nl,?_,h.na,λx j y t=>h.lp x j y (hm y t),h.la,λx j=>h.pa x (hm x j),h.zw,λx j=>h.zx x (hm x j),h.GY,h.life⟩;exact (List.Sublist.map ar List.filter_sublist).nodup h.np
theorem Pd{α:Type}[DecidableEq α]{l}{a:α}(h:l.Nodup)(u:a∉l):(l++[a]).Nodup:=by rw[List.nodup_append];refine⟨h,aj,λx t y j=>?_⟩;simp at j;subst j;rintro rfl;exact u t
theorem rS.on{s t r}(h:rS s)(R:dR r=true)(S:jQ r)(e:dZ s r=some t):rS t:=by
 have hk:=BR R;obtain⟨-,M,H,Q,N,O⟩:=S;unfold dZ zo xR xS xT zq at e;split at e
 ·split at e
  ·cases e
  ·injection e with e;subst e;exact⟨h.nl,h.np,h.na,h.lp,h.la,h.pa,h.zw,h.zx,h.GY,M⟩
 ·rename_i V;split at e
  ·rename_i J;have G:bJ r.e=true:=agi;split at e
   ·cases e
   ·split at e
    ·cases e
    ·rename_i C;split at e
     ·cases e
     ·rename_i F;injection e with e;subst e;have hm:∀x∈ja s.prom (ar r.e),x∈s.prom/\ar x≠ar r.e:=λx j=>Pq.1 j
      have D:∀x∈s.list,ar x≠ar r.e:=λx j e=>C (FM.2 ⟨x,j,e⟩)
      have E:ar r.e∉s.ab:=λj=>F (K3.2 j)
      have A:=h.drop (ar r.e);refine⟨?_,A.np,h.na,?_,?_,A.pa,?_,A.zx,h.GY,h.life⟩
      ·simp only[List.map_append,jR,List.map_nil];refine Pd h.nl ?_;intro j;obtain⟨x,j,e⟩:=List.mem_map.1 j;exact D x j e
      ·intro x j y u;rcases List.mem_append.1 j with j|j
       ·exact h.lp x j y (hm y u).1
       ·simp at j;subst j;exact λe=>(hm y u).2 e.symm
      ·intro x j;rcases List.mem_append.1 j with j|j
       ·exact h.la x j
       ·simp at j;subst j;exact E
      ·intro x j;rcases List.mem_append.1 j with j|j
       ·exact h.zw x j
       ·simp at j;subst j;exact⟨G,H⟩
  ·rename_i J;split at e
   ·rename_i U;have G:bJ r.e=true:=agi;split at e
    ·cases e
    ·rename_i C;split at e
     ·cases e
     ·rename_i L;split at e
      ·cases e
      ·rename_i F;injection e with e;subst e;have D:∀x∈s.list,ar x≠ar r.e:=λx j e=>C (FM.2 ⟨x,j,e⟩)
       have I:∀x∈s.prom,ar x≠ar r.e:=λx j e=>L (FM.2 ⟨x,j,e⟩)
       have E:ar r.e∉s.ab:=λj=>F (K3.2 j)
       refine⟨h.nl,?_,h.na,?_,h.la,?_,h.zw,?_,h.GY,h.life⟩
       ·simp only[List.map_append,jR,List.map_nil];refine Pd h.np ?_;intro j;obtain⟨x,j,e⟩:=List.mem_map.1 j;exact I x j e
       ·intro x j y u;rcases List.mem_append.1 u with u|u
        ·exact h.lp x j y u
        ·simp at u;subst u;exact D x j
       ·intro x j;rcases List.mem_append.1 j with j|j
        ·exact h.pa x j
        ·simp at j;subst j;exact E
       ·intro x j;rcases List.mem_append.1 j with j|j
        ·exact h.zx x j
        ·simp at j;subst j;exact⟨G,H⟩
   ·split at e
    ·rename_i T;have hb:qH r.br=true:=by
      rcases hk with ⟨g,_⟩|⟨g,_⟩|⟨_,g,_⟩
      ·omega
      ·omega
      ·simp[qH,g.1,g.2]
     split at e
     ·cases e
     ·rename_i C;split at e
      ·cases e
      ·rename_i F;injection e with e;subst e;have D:∀x∈s.list,ar x≠iP r:=λx j e=>C (FM.2 ⟨x,j,e⟩)
       have E:iP r∉s.ab:=λj=>F (K3.2 j)
       have A:=h.drop (iP r);refine⟨h.nl,A.np,Pd h.na E,A.lp,?_,?_,h.zw,A.zx,?_,h.life⟩
       ·intro x j hm;rcases List.mem_append.1 hm with hm|hm
        ·exact h.la x j hm
        ·simp at hm;exact D x j hm
       ·intro x j hm;rcases List.mem_append.1 hm with hm|hm
        ·exact A.pa x j hm
        ·simp at hm;exact (Pq.1 j).2 hm
       ·intro a B;rcases List.mem_append.1 B with B|B
        ·exact h.GY a B
        ·simp at B;subst B;exact⟨hb,Q,N,O⟩
    ·split at e
     ·injection e with e;subst e;exact h.drop _
     ·cases e
def js:dA->List Rec->Option dA
 | s,[]=>some s
 | s,r :: l=>(dZ s r).bind λt=>js t l
theorem PD l m:∀s,js s (l++m)=(js s l).bind λt=>js t m:=by
 induction l with
 | nil=>intro s;rfl
 | cons r l j =>
  intro s
  simp only[aR,js]
  cases dZ s r with
  | none=>rfl
  | some t=>exact j t
theorem aey l(h:∀r∈l,dR r=true/\jQ r):∀s t,js s l=some t->iE s (l.map bL)=(t,0):=by
 induction l with
 | nil=>intro s t e;injection e with e;subst e;rfl
 | cons r l B =>
  intro s t e
  obtain⟨j,A⟩:=h r aj
  simp only[js]at e
  cases ho:dZ s r with
  | none=>rw[ho]at e;cases e
  | some u =>
   rw[ho]at e;have y:=arK r j A;have C:sI s (bL r)=(u,0):=by unfold sI;rw[(Uu y).1,(Uu y).2,if_pos rfl,aev j ho];rfl
   simp only[jR,iE,C,if_true];exact B (λx hx=>h x IQ) u t e
theorem aze n:js bU (wF n)=some ⟨n,[],[],[]⟩:=by
 unfold wF;split
 ·rename_i h;subst h;rfl
 ·rename_i h;simp[js,dZ,zo,bU,h]
theorem azf n l:∀a:List aK,((a++l).map ar).Nodup->js ⟨n,a,[],[]⟩ ((l.zipIdx a.length).map λp=>⟨2,p.2,p.1,0,0,0⟩)=some ⟨n,a++l,[],[]⟩:=by
 induction l with
 | nil=>intro a _;simp[js]
 | cons x l t =>
  intro a h;have j:bV a (ar x)=false:=agj;have u:dZ ⟨n,a,[],[]⟩ ⟨2,a.length,x,0,0,0⟩=some ⟨n,a++[x],[],[]⟩:=by simp[dZ,xR,j,dJ,ja]
  simp only[List.zipIdx_cons,jR,js,u,Option.bind_some];have:=t (a++[x]) BX;simpa using this
theorem azg n L l:∀a:List aK,((a++l).map ar).Nodup->(∀x∈L,∀y∈l,ar x≠ar y)->js ⟨n,L,a,[]⟩ (lG l)=some ⟨n,L,a++l,[]⟩:=by
 induction l with
 | nil=>intro a _ _;simp[js,lG]
 | cons x l u =>
  intro a h t;have j:bV a (ar x)=false:=agj;have hy:bV L (ar x)=false:=by rw[Bool.eq_false_iff];intro hh;obtain⟨y,hy,e⟩:=FM.1 hh;exact t y hy x aj e
  have A:dZ ⟨n,L,a,[]⟩ ⟨3,0,x,0,0,0⟩=some ⟨n,L,a++[x],[]⟩:=by simp[dZ,xS,j,hy,dJ]
  simp only[lG,jR,js,A,Option.bind_some];have:=u (a++[x]) BX (λx j y hy=>t x j y IY);simpa [lG]using this
theorem avL{l a}(h:∀x∈l,ar x≠a):ja l a=l:=by unfold ja;rw[List.filter_eq_self];intro x j;simpa using h x j
theorem azh n L P l:∀a:List aS,(a++l).Nodup->(∀x∈L,ar x∉l)->(∀x∈P,ar x∉l)->js ⟨n,L,P,a⟩ (pQ l)=some ⟨n,L,P,a++l⟩:=by
 induction l with
 | nil=>intro a _ _ _;simp[js,pQ]
 | cons x l B =>
  intro a h u hp;have A:dJ a x=false:=by rw[Bool.eq_false_iff];intro t;exact (List.nodup_append.1 h).2.2 x (K3.1 t) x aj rfl
  have j:bV L x=false:=by rw[Bool.eq_false_iff];intro t;obtain⟨y,j,e⟩:=FM.1 t;exact u y j DU
  have C:ja P x=P:=avL λy j e=>hp y j DU
  have D:dZ ⟨n,L,P,a⟩ ⟨4,0,dD,x.1,x.2.1,x.2.2⟩=some ⟨n,L,P,a++[x]⟩:=by simp[dZ,xT,iP,A,j,C]
  simp only[pQ,jR,js,D,Option.bind_some];have:=B (a++[x]) BX (λy j hm=>u y j (by simp[hm])) (λy j hm=>hp y j (by simp[hm]));simpa [pQ]using this
theorem avM{s}(h:rS s):js bU (cM s)=some s:=by unfold cM;rw[PD,PD,PD,aze];simp only[Option.bind_some];have j:=azf s.life s.list [] (by simpa using h.nl);simp only[List.length_nil,aO]at j;unfold mE;rw[j];simp only[Option.bind_some];rw[azg s.life s.list s.prom [] (by simpa using h.np) h.lp];simp only[Option.bind_some,aO];rw[azh s.life s.list s.prom s.ab [] (by simpa using h.na) h.la h.pa];rfl
theorem IH:cE dD:=by simp[cE,dD,cD]
theorem V7{s}(h:rS s)(hz:s.list.length<=1000000):∀r∈cM s,dR r=true/\jQ r:=by
 intro r j;have A:cD 0:=qA;unfold cM at j;simp only[Eh]at j;rcases j with ((j|j)|j)|j
 ·unfold wF at j;split at j
  ·cases j
  ·simp at j;subst j;exact⟨by simp[dR,xI],qA,h.life,IH,A,aj,aj⟩
 ·unfold mE at j;obtain⟨⟨x,k⟩,y,rfl⟩:=List.mem_map.1 j;have hm:=List.mem_zipIdx y;obtain⟨u,t⟩:=h.zw x (by have:=hm.2.2;rw[this];exact bZ _);exact⟨by simp[dR,u,xI],qA,by simp only;omega,t,A,aj,aj⟩
 ·unfold lG at j;obtain⟨x,y,rfl⟩:=List.mem_map.1 j;obtain⟨u,t⟩:=h.zx x y;exact⟨by simp[dR,u,xI],qA,aj,t,A,aj,aj⟩
 ·unfold pQ at j;obtain⟨a,B,rfl⟩:=List.mem_map.1 j;obtain⟨u,t,C,D⟩:=h.GY a B;exact⟨by simp[dR,u],qA,aj,IH,t,C,D⟩
abbrev pA(α:Type):=List UInt8->Bool->Bool->α×List UInt8×Bool×Bool
structure tH{α:Type}(enc:α->List UInt8)(ok:α->Prop)(rd:pA α):Prop where
 fwd:∀x,ok x->∀rest,rd (enc x++rest) false false=(x,rest,false,false)
 back:∀l wr bd,(rd l wr bd).2.2.1=false->(rd l wr bd).2.2.2=false->l=enc (rd l wr bd).1++(rd l wr bd).2.1/\wr=false/\bd=false
 len:∀l wr bd,(rd l wr bd).2.1.length<=l.length
def Cs:pA Nat:=λl wr j=>((aw l wr).1,(aw l wr).2.1,(aw l wr).2.2,j)
def lZ(t:Nat):pA Nat:=λl wr j=>if (aw l wr).1<t then ((aw l wr).1,(aw l wr).2.1,(aw l wr).2.2,j)else (0,(aw l wr).2.1,(aw l wr).2.2,true)
theorem UG:tH az (λn=>n<18446744073709551616) Cs where
 fwd:=by intro n h rest;simp only[Cs,rD n h]
 back:=by intro l wr u t j;simp only[Cs]at t j⊢;obtain⟨e,w⟩:=ud t;exact⟨e,w,j⟩
 len:=λl wr _=>nV l wr
theorem zV t(A:t<=18446744073709551616):tH az (λn=>n<t) (lZ t) where
 fwd:=by intro n h rest;simp only[lZ,rD n af];rw[if_pos h]
 back:=by
  intro l wr y u j;simp only[lZ]at u j⊢;split at j
  ·rename_i h;rw[if_pos h]at u⊢;obtain⟨e,w⟩:=ud u;exact⟨e,w,j⟩
  ·cases j
 len:=by intro l wr y;have:=nV l wr;simp only[lZ];split <;> exact this
theorem zZ j(u:0<j) l wr t:(lZ j l wr t).1<j:=by
 grind [lZ]
def my{α β:Type}(a:pA α)(b:pA β):pA (α×β):=λl wr j =>
 (((a l wr j).1,(b (a l wr j).2.1 (a l wr j).2.2.1 (a l wr j).2.2.2).1),(b (a l wr j).2.1 (a l wr j).2.2.1 (a l wr j).2.2.2).2)
theorem DJ{α β C G u E F D}(A:tH C u F)(B:tH G E D) :
 tH (λx:α×β=>C x.1++G x.2) (λx=>u x.1/\E x.2) (my F D) where
 fwd:=by rintro ⟨x,y⟩ ⟨t,j⟩ rest;simp only[my,eu,A.fwd x t,B.fwd y j]
 back:=by intro l wr N t j;simp only[my]at t j⊢;obtain⟨I,H,O⟩:=B.back _ _ _ t j;obtain⟨L,J,M⟩:=A.back _ _ _ H O;refine⟨?_,J,M⟩;rw[eu,<- I];exact L
 len:=λl wr N=>bn (B.len _ _ _) (A.len _ _ _)
def Em{α β:Type}(f:α->β)(a:pA α):pA β:=λl wr j=>(f (a l wr j).1,(a l wr j).2)
theorem adK{α β u C t}(A:tH u C t) f{B E}(g:β->α)(M:∀y,E y->C (g y)/\f (g y)=y/\B y=u (g y))(L:∀l wr j,B (f (t l wr j).1)=u (t l wr j).1):tH B E (Em f t) where
 fwd:=by intro y G rest;obtain⟨I,H,J⟩:=M y G;simp only[Em,J,A.fwd _ I,H]
 back:=by intro l wr j D F;simp only[Em]at D F⊢;rw[L];exact A.back _ _ _ D F
 len:=λl wr j=>A.len l wr j
def gK{α:Type}(rd:pA α):Nat->pA (List α)
 | 0=>λl wr j=>([],l,wr,j)
 | k+1=>λl wr j=>((gK rd k l wr j).1++[(rd (gK rd k l wr j).2.1 (gK rd k l wr j).2.2.1 (gK rd k l wr j).2.2.2).1],(rd (gK rd k l wr j).2.1 (gK rd k l wr j).2.2.1 (gK rd k l wr j).2.2.2).2)
section
variable {α:Type} {enc:α->List UInt8} {ok:α->Prop} {rd:pA α}
theorem K4(C:tH enc ok rd) k l wr j:(gK rd k l wr j).2.1.length<=l.length/\(gK rd k l wr j).1.length=k:=by
 induction k with
 | zero=>exact⟨aD _,rfl⟩
 | succ k t=>exact⟨bn (C.len _ _ _) t.1,by grind [gK]⟩
theorem avN(p:α->Prop)(hp:∀l wr j,p (rd l wr j).1) k l wr j:∀x∈(gK rd k l wr j).1,p x:=by
 induction k with
 | zero=>simp[gK]
 | succ k t =>
  grind [gK]
theorem avO(C:tH enc ok rd)(l:List α)(h:∀x∈l,ok x) rest:∀k,k<=l.length->gK rd k (l.flatMap enc++rest) false false=(l.take k,(l.drop k).flatMap enc++rest,false,false):=by
 intro k
 induction k with
 | zero=>intro _;simp[gK]
 | succ k ih => intro hk;have hk':k<l.length:=af;have hd:l.drop k=l[k] :: l.drop (k+1):=aj;have hx:=h l[k] (bZ hk');simp only[gK];exact afk
theorem atI(C:tH enc ok rd){k l wr j}(h:(gK rd k l wr j).2.2.1=false)(t:(gK rd k l wr j).2.2.2=false):l=(gK rd k l wr j).1.flatMap enc++(gK rd k l wr j).2.1/\wr=false/\j=false:=by
 induction k with
 | zero=>exact⟨cV,h,t⟩
 | succ k B =>
  simp only[gK]at h t⊢
  obtain⟨y,u,A⟩:=C.back _ _ _ h t
  grind
def gy(enc:α->List UInt8)(l:List α):List UInt8:=az l.length++l.flatMap enc
def ia(rd:pA α):pA (List α):=λl wr j=>gK rd (lZ 17 l wr j).1 (lZ 17 l wr j).2.1 (lZ 17 l wr j).2.2.1 (lZ 17 l wr j).2.2.2
theorem xq(C:tH enc ok rd):tH (gy enc) (λl=>l.length<=16/\∀x∈l,ok x) (ia rd) where
 fwd:=by rintro l⟨t,j⟩ rest;simp only[ia,gy,eu,(zV 17 af).fwd l.length (by show l.length<17;omega)];rw[avO C l j rest l.length (aD _)];simp
 back:=by intro l wr E t j;simp only[ia]at t j⊢;obtain⟨B,A,D⟩:=atI C t j;obtain⟨y,u,F⟩:=(zV 17 af).back _ _ _ A D;refine⟨?_,u,F⟩;unfold gy;rw[(K4 C _ _ _ _).2,eu,<- B];exact y
 len:=λl wr E=>bn (K4 C _ _ _ _).1 ((zV 17 af).len _ _ _)
end
structure lN where
 id:aS
 yes:Bool
 deriving DecidableEq
structure fH where
 kind:Int
 got:Nat
 cU:List lN
 asks:List aK
 entries:List aK
 fe:List aK
 dQ:List aS
 ends:List aS
 deriving DecidableEq
def uH:fH:=⟨0,0,[],[],[],[],[],[]⟩
def oy(a:aS):Bool:=qH a.1
def sJ(v:lN):Bool:=qH v.id.1
def kY{α:Type}(p:α->Bool)(l:List α):Bool:=decide (l.length<=16)&&l.all p
def AQ(m:fH):Bool:=if m.kind=1 then m.entries.isEmpty&&m.fe.isEmpty&&m.dQ.isEmpty&&m.ends.isEmpty else if m.kind=2 then m.cU.isEmpty&&m.asks.isEmpty else false
def ed(m:fH):Bool:=AQ m&&kY sJ m.cU&&kY bJ m.asks&&kY bJ m.entries&&kY bJ m.fe&&kY oy m.dQ&&kY oy m.ends
def iU(m:fH):Int:=if ed m then 0 else 130
def pR(m:fH):Prop:=cD m.kind/\m.got<18446744073709551616/\(∀v∈m.cU,dW v.id)/\(∀x∈m.asks,cE x)/\(∀x∈m.entries,cE x)/\(∀x∈m.fe,cE x)/\(∀a∈m.dQ,dW a)/\∀a∈m.ends,dW a
def mz(v:lN):List UInt8:=fC v.id++az (if v.yes then 1 else 0)
def gY(x:aK):List UInt8:=iD (qE x)
def kZ(m:fH):List UInt8:=az (bf m.kind)++az m.got++(if m.kind=1 then gy mz m.cU++gy gY m.asks else gy gY m.entries++gy gY m.fe++gy fC m.dQ++gy fC m.ends)
def LZ(m:fH):List UInt8:=if ed m then kZ m else []
def iT:pA aS:=Em (λx=>((x.1:Int),x.2.1,x.2.2)) (my (lZ 16) (my Cs Cs))
def nL:pA lN:=Em (λx=>⟨x.1,decide (x.2=1)⟩) (my iT (lZ 2))
def jd(n:Int):pA aK:=λl wr j=>(mr (aL n l wr).1,(aL n l wr).2.1,(aL n l wr).2.2,j||(iL (aL n l wr).1).isNone)
theorem Ip:tH fC (λa=>qH a.1=true/\dW a) iT:=by
 refine adK (DJ (zV 16 af) (DJ UG UG)) _ (λa:aS=>(a.1.toNat,a.2.1,a.2.2)) ?_ ?_
 ·rintro ⟨b,l,s⟩ ⟨u,j⟩;simp only[qH,dC,decide_eq_true_eq]at u;refine⟨⟨af,j.2.1,j.2.2⟩,?_,?_⟩
  ·grind
  ·grind [fC,tZ]
 ·intro l wr t;have:=zZ 16 af l wr t;simp only[my,fC];rw[tZ _ af af];simp
theorem UH:tH mz (λv=>qH v.id.1=true/\dW v.id) nL:=by
 refine adK (DJ Ip (zV 2 af)) _ (λv:lN=>(v.id,if v.yes then 1 else 0)) ?_ ?_
 ·rintro ⟨a,y⟩ ⟨u,t⟩;refine⟨⟨⟨u,t⟩,aA⟩,aj,rfl⟩
 ·intro l wr j;simp only[my,mz];have t:=zZ 2 af (iT l wr j).2.1 (iT l wr j).2.2.1 (iT l wr j).2.2.2;grind
theorem FB n:tH gY (λx=>bJ x=true/\cE x/\((eP x).length:Int)<=n) (jd n) where
 fwd:=by
  rintro x⟨t,j,u⟩ rest;have D:=KX t j;have hb:=FI n (eP x) af u rest;have e:qE x=eP x:=by unfold qE;rw[t];rfl
  simp only[jd,gY,iD,e];rw[hb];simp only[mr,ady x t j];rfl
 back:=by
  intro l wr E t j
  simp only[jd,Bool.or_eq_false_iff]at t j⊢
  obtain⟨B,_,y⟩:=DN t
  cases hd:iL (aL n l wr).1 with
  | none=>rw[hd]at j;cases j.2
  | some x =>
   obtain⟨A,C⟩:=UC hd;refine⟨?_,y,j.1⟩;have e:qE x=eP x:=by unfold qE;rw[C];rfl
   simp only[mr,hd,Option.getD_some,gY,iD,e];rw[<- A];exact B
 len:=λl wr _=>DQ n l wr
def gL:pA (Nat×Nat):=my (lZ 3) Cs
def AR(n:Int):pA (List lN×List aK):=my (ia nL) (ia (jd n))
def pS(n:Int):pA (List aK×List aK×List aS×List aS):=my (ia (jd n)) (my (ia (jd n)) (my (ia iT) (ia iT)))
def nj(n:Int):pA fH:=λl wr j =>
 if (gL l wr j).1.1=1 then (⟨1,(gL l wr j).1.2,(AR n (gL l wr j).2.1 (gL l wr j).2.2.1 (gL l wr j).2.2.2).1.1,(AR n (gL l wr j).2.1 (gL l wr j).2.2.1 (gL l wr j).2.2.2).1.2,[],[],[],[]⟩,(AR n (gL l wr j).2.1 (gL l wr j).2.2.1 (gL l wr j).2.2.2).2)
 else if (gL l wr j).1.1=2 then (⟨2,(gL l wr j).1.2,[],[],(pS n (gL l wr j).2.1 (gL l wr j).2.2.1 (gL l wr j).2.2.2).1.1,(pS n (gL l wr j).2.1 (gL l wr j).2.2.1 (gL l wr j).2.2.2).1.2.1,(pS n (gL l wr j).2.1 (gL l wr j).2.2.1 (gL l wr j).2.2.2).1.2.2.1,(pS n (gL l wr j).2.1 (gL l wr j).2.2.1 (gL l wr j).2.2.2).1.2.2.2⟩,(pS n (gL l wr j).2.1 (gL l wr j).2.2.1 (gL l wr j).2.2.2).2)
 else (⟨((gL l wr j).1.1:Int),(gL l wr j).1.2,[],[],[],[],[],[]⟩,(gL l wr j).2)
def tI(b:List UInt8):Option fH:=if !(nj b.length b false false).2.2.2&&(!(nj b.length b false false).2.2.1&&(nj b.length b false false).2.1.isEmpty)&&ed (nj b.length b false false).1 then some (nj b.length b false false).1 else none
def pM(b:List UInt8):fH:=(tI b).getD uH
def xD(b:List UInt8):Int:=if (tI b).isSome then 0 else 130
theorem V8{n l t wr y j u g}(h:gL l wr y=((1,g),t,j,u)):nj n l wr y=(⟨1,g,(AR n t j u).1.1,(AR n t j u).1.2,[],[],[],[]⟩,(AR n t j u).2):=by
 grind [nj]
theorem V9{n l t wr y j u g}(h:gL l wr y=((2,g),t,j,u)):nj n l wr y=(⟨2,g,[],[],(pS n t j u).1.1,(pS n t j u).1.2.1,(pS n t j u).1.2.2.1,(pS n t j u).1.2.2.2⟩,(pS n t j u).2):=by
 grind [nj]
theorem ajB{n l t wr y j u k g}(h:gL l wr y=((k,g),t,j,u))(B:¬k=1)(A:¬k=2):nj n l wr y=(⟨(k:Int),g,[],[],[],[],[],[]⟩,t,j,u):=by
 grind [gL,nj]
theorem avP{α p}{l:List α}:kY p l=true↔l.length<=16/\∀x∈l,p x=true:=by
 grind [kY]
theorem U0{m}(h:ed m=true):((m.kind=1/\m.entries=[]/\m.fe=[]/\m.dQ=[]/\m.ends=[])∨(m.kind=2/\m.cU=[]/\m.asks=[])) /\
 (m.cU.length<=16/\∀x∈m.cU,sJ x=true)/\(m.asks.length<=16/\∀x∈m.asks,bJ x=true)/\(m.entries.length<=16/\∀x∈m.entries,bJ x=true)/\(m.fe.length<=16/\∀x∈m.fe,bJ x=true) /\
 (m.dQ.length<=16/\∀x∈m.dQ,oy x=true)/\(m.ends.length<=16/\∀x∈m.ends,oy x=true):=by
 simp only[ed,dC,avP]at h
 obtain⟨⟨⟨⟨⟨⟨j,B⟩,u⟩,t⟩,y⟩,A⟩,h6⟩:=h
 grind [ed,sJ,bJ,oy,AQ]
theorem avQ n l wr j(A:(nj n l wr j).2.2.1=false)(B:(nj n l wr j).2.2.2=false)(ok:ed (nj n l wr j).1=true):l=kZ (nj n l wr j).1++(nj n l wr j).2.1/\wr=false/\j=false:=by
 have L:=DJ (zV 3 af) UG;obtain⟨k,g,t,u,y,D⟩:∃k g t u y,gL l wr j=((k,g),t,u,y):=⟨_,_,_,_,_,rfl⟩;have C:=L.back l wr j;rw[show my (lZ 3) Cs l wr j=((k,g),t,u,y)from D]at C;simp only at C;by_cases I:k=1
 ·subst I;rw[V8 D]at A B ok⊢;simp only at A B ok⊢;have M:=DJ (xq UH) (xq (FB n));obtain⟨E,c1,c2⟩:=M.back t u y A B;obtain⟨F,c3,c4⟩:=C c1 c2;refine⟨?_,c3,c4⟩;have e:∀v a,kZ ⟨1,g,v,a,[],[],[],[]⟩=(az 1++az g)++(gy mz v++gy gY a):=by intro v a;simp[kZ,show bf 1=1 from rfl]
  rw[e,eu (az 1++az g)];unfold AR;rw[<- E];exact F
 ·by_cases H:k=2
  ·subst H;rw[V9 D]at A B ok⊢;simp only at A B ok⊢;have J:=DJ (xq (FB n)) (DJ (xq (FB n)) (DJ (xq Ip) (xq Ip)));have G:=J.back t u y;rw[show my (ia (jd n)) (my (ia (jd n)) (my (ia iT) (ia iT))) t u y=pS n t u y from rfl]at G;generalize pS n t u y=r at *;obtain⟨⟨R,S,rc,rd⟩,Q,O,N⟩:=r;simp only at A B ok G⊢;obtain⟨E,c1,c2⟩:=G A B;obtain⟨F,c3,c4⟩:=C c1 c2;refine⟨?_,c3,c4⟩;have e:∀a b c d,kZ ⟨2,g,[],[],a,b,c,d⟩=(az 2++az g)++(gy gY a++(gy gY b++(gy fC c++gy fC d))):=by intro a b c d;simp[kZ,show bf 2=2 from rfl]
   rw[e,eu (az 2++az g),<- E];exact F
  ·rw[ajB D I H]at ok;have:=(U0 ok).1;simp only at this;omega
theorem Pr{b m}(h:tI b=some m):b=kZ m/\ed m=true:=by
 unfold tI at h;split at h
 ·rename_i j;injection h with h;simp only[dC,Bool.not_eq_true',List.isEmpty_iff]at j;obtain⟨⟨A,u,t⟩,y⟩:=j;grind [avQ]
 ·cases h
theorem arV b:cE (mr b):=by
 unfold mr
 cases h:iL b with
 | none=>exact PB
 | some x=>exact adI h
theorem U1 l wr j:dW (iT l wr j).1:=by have h:=zZ 16 af l wr j;refine⟨?_,nX _ _,nX _ _⟩;simp only[iT,Em,my,cD];omega
theorem avR l wr j:dW (nL l wr j).1.id:=U1 l wr j
theorem Vo n l wr j:cE (jd n l wr j).1:=arV _
theorem II{α rd}(p:α->Prop)(hp:∀l wr j,p (rd l wr j).1) l wr j:∀x∈(ia rd l wr j).1,p x:=avN p hp _ _ _ _
theorem avS n l wr j:(∀v∈(AR n l wr j).1.1,dW v.id)/\∀x∈(AR n l wr j).1.2,cE x :=
 ⟨II (λv:lN=>dW v.id) avR l wr j,II cE (Vo n) _ _ _⟩
theorem avT n l wr u:(∀x∈(pS n l wr u).1.1,cE x)/\(∀x∈(pS n l wr u).1.2.1,cE x)/\(∀x∈(pS n l wr u).1.2.2.1,dW x)/\∀x∈(pS n l wr u).1.2.2.2,dW x:=by
 obtain⟨t,H⟩:∃r,ia (jd n) l wr u=r:=⟨_,rfl⟩;obtain⟨y,A⟩:∃r,ia (jd n) t.2.1 t.2.2.1 t.2.2.2=r:=⟨_,rfl⟩;obtain⟨j,B⟩:∃r,ia iT y.2.1 y.2.2.1 y.2.2.2=r:=⟨_,rfl⟩;obtain⟨I,D⟩:∃r,ia iT j.2.1 j.2.2.1 j.2.2.2=r:=⟨_,rfl⟩;have E:=II cE (Vo n) l wr u;have C:=II cE (Vo n) t.2.1 t.2.2.1 t.2.2.2;have F:=II dW U1 y.2.1 y.2.2.1 y.2.2.2;have G:=II dW U1 j.2.1 j.2.2.1 j.2.2.2;have e:(pS n l wr u).1=(t.1,y.1,j.1,I.1):=by simp only[pS,my,H,A,B,D]
 rw[e];rw[H]at E;rw[A]at C;rw[B]at F;rw[D]at G;exact⟨E,C,F,G⟩
theorem axe n l wr j:pR (nj n l wr j).1:=by
 have hg:(gL l wr j).1.2<18446744073709551616:=nX _ _;have hk:(gL l wr j).1.1<3:=zZ 3 af l wr j;obtain⟨k,g,y,t,u,A⟩:∃k g y t u,gL l wr j=((k,g),y,t,u):=⟨_,_,_,_,_,rfl⟩;rw[A]at hg hk;simp only at hg hk;by_cases C:k=1
 ·subst C;rw[V8 A];have:=avS n y t u;exact⟨qA,hg,this.1,this.2,aj,aj,aj,aj⟩
 ·by_cases B:k=2
  ·subst B;rw[V9 A];have:=avT n y t u;exact⟨qA,hg,aj,aj,this.1,this.2.1,this.2.2.1,this.2.2.2⟩
  ·grind [pR,nj,cD]
theorem PE{b m}(h:tI b=some m):pR m:=by
 grind [tI,axe]
