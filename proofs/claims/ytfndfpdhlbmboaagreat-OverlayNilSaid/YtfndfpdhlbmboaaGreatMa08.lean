/-
  The walk of slices.DeleteFunc on entries of the call's own (layer 16). Conditions: lists of at most a million.
-/
import Derived.Test.YtfndfpdhlbmboaaGreatMa07
import Derived.Test.YtfndfpdhlbmboaaGreatMz
set_option maxRecDepth 100000
set_option linter.constructorNameAsVariable false
set_option maxHeartbeats 16000000
set_option linter.unusedVariables false
set_option linter.unusedSimpArgs false
namespace Go.Proofs.YtfndfpdhlbmboaaGreat
open Go Go.RowKit _root_.Go.Proofs.Tryz
theorem ayG{α:Type}(l:List α)(h:l.length=8):∃t c1 c2 c3 c4 c5 j u,l=[t,c1,c2,c3,c4,c5,j,u]:=by
 match l,h with
 | [t,c1,c2,c3,c4,c5,j,u],_=>exact⟨_,_,_,_,_,_,_,_,rfl⟩
structure zI(l:List aK)(css:List (List Value))(a:aR)(j i:Nat)(cur:List (List Value)):Prop where
 len:cur.length=l.length
 lens:∀cs∈cur,cs.length=8
 pre:cur.take i=(DQ a ((l.zip css).take j)).map (·.2)
 post:cur.drop j=css.drop j
 lt:i<j
theorem zI.cut{l css cur a j i}(u:css.length=l.length)(h:zI l css a j i cur)(y:j<l.length)(t:gN a l[j]=true):zI l css a (j+1) i cur:=by
 refine⟨h.len,h.lens,?_,?_,by have:=h.lt;omega⟩
 ·rw[h.pre,gj aG];simp[DQ,t]
 ·exact afP
theorem zI.at{l css cur a j i}(_:css.length=l.length)(h:zI l css a j i cur)(_:j<l.length)(t:j<cur.length)(u:j<css.length):cur[j]=css[j]:=by
 have:=congrArg (λx=>x[0]?) h.post
 grind
theorem zI.keep{l:List aK}{css cur:List (List Value)}{a:aR}{j i:Nat}(B:css.length=l.length)(h:zI l css a j i cur)(D:j<l.length)(A:gN a l[j]=false)(u:(css[j]'af).length=8):zI l css a (j+1) (i+1) (cur.set i (css[j]'af)):=by
 have E:=h.len;have C:=h.lt;refine⟨aG,λcs y=>?_,?_,?_,af⟩
 ·rcases List.mem_or_eq_of_mem_set y with t|rfl
  ·exact h.lens _ t
  ·exact u
 ·rw[gj aG,List.take_set_of_le (aC _),h.pre,gj aG];simp[DQ,A]
 ·rw[List.drop_set_of_lt af];exact afP
theorem an8 l a M base v css w(hown:w.ownsRow base 126 8 v l.length css.flatten)(B:css.length=l.length)
 (hE:∀W,ag (λk=>v.ownBlock=some k) w W->Each aU l css W) (hg:ah w M 26 #[.int .i64 a.1,.int .u64 a.2.1,.int .u64 a.2.2]) (hlen:l.length<=1000000) :
 Calls prog 278 #[v,.func (Fn.func 279) #[] #[.pointer (some ⟨M,0,none⟩)]] w λe w'=>∃v' C,e=.returned v'/\w'.ownsRow base 126 8 v' (iM l a).length C.flatten/\C.length=(iM l a).length/\v'.ownBlock=v.ownBlock/\w.grownBy w' v.ownBlock/\∀W,Each aU l css W->Each aU (iM l a) C W:=by
 have Y2:=hE w (ag.rf _ _)
 have azy:=OI (S:=aU) hown Y2
 obtain⟨A,c,rfl,hl,hc⟩:=azy
 have C1:=ae (aob A c l a M w hl hlen hg)
 have HN:Hid ((∀x∈l,gN a x=false)->iM l a=l):=ae λh=>by unfold iM;rw[List.filter_eq_self];intro x hx;have:=h x hx;simpa [gN]using this
 have V:=ae hown
 have HC:=ae hE
 have c8:=ae Y2.lens
 clear hown hE Y2 hl
 go_enter func278,ntmps278
 go_wp2_with fail
 refine C1.aa.mono ?_
 rintro e w2⟨i0,rfl,Q,hi⟩
 rcases hi with ⟨rfl,R⟩|⟨k,hk,rfl,R,hit⟩
 ·have D:=ae (HN.aa R);clear R;go_wp2;go_ret;refine⟨_,css,rfl,by rw[D.aa];exact pA V.aa Q,by rw[D.aa];exact B,rfl,Bi Q _,λW h=>by rw[D.aa];exact h⟩
 have oI:Hid (zI l css a (k+1) k css):=ae (by
  refine⟨B,c8.aa,?_,rfl,af⟩;rw[gj aG];have h1:=hit _ (List.getElem?_eq_getElem hk);have h2:DQ a ((l.zip css).take k)=(l.zip css).take k:=by unfold DQ;rw[List.filter_eq_self];intro p hp;have this:p.1∈((l.zip css).take k).map (·.1):=List.mem_map_of_mem hp;rw[List.map_take,Vy l css B]at this;simp[R p.1 this]
  unfold DQ at h2⊢;rw[List.filter_append,h2];simp[h1];rw[afN l css B])
 clear R hit HN
 rcases V.aa.2 with ⟨h0,RI⟩|⟨g,cap,cur,e0,g1,g2,g3,g4,g5,g6⟩
 ·omega
 obtain⟨rfl,e3⟩:A=some ⟨g,0,none⟩/\cap=c:=aG
 subst e3
 have hg0:w.grownBy w2 (some g):=Bi Q _
 have aW:=ae (pA V.aa Q)
 have hgg:M≠g:=by rintro rfl;exact absurd ((show ah w M _ cur from g2).gM hg) ay
 have HG:=ae hg
 have hcm:cap<=9223372036854775807:=g4
 have pg:(k:Int)+1<=(l.length:Int):=af
 clear V Q g5 g6 g2 hg g4 C1
 go_wp2_with fail
 go_loopw [5,6,7] (fun i j _ W=>∃(j' i':Nat) (y:List (List Value)),j=.int .i64 j'/\i=.int .i64 i'/\j'<=l.length/\i'<j'/\Hid (zI l css a j' i' y)/\Hid (W.ownsRow base 126 8 (.slice (some ⟨g,0,none⟩) l.length cap) l.length y.flatten)/\w.grownBy W (some g)) (fun _ j _ _=>l.length-(intOf j).toNat)
 case atStart=>exact⟨k+1,k,css,bJ,rfl,af,af,oI,aW,hg0⟩
 case round =>
  clear oI aW hg0;obtain⟨j,i,y,rfl,rfl,hj,hij,D,F,kr⟩:=hrel;by_cases O:j<l.length
  ·have aP:(j:Int)<l.length:=af;have yM:(i:Int)<l.length:=af;have hrel:=(HC.aa wr (ag.eM kr (λ_ h=>h))).2 j O af;have c8j:=c8.aa _ (bS (show j<css.length by omega));have u:=D.aa;have HK:=ae (u.keep B O);have HX:=ae (u.cut B O);have hat:=u.at B O (by rw[u.len];exact O) af;obtain⟨U,Z⟩:=Fb F.aa;have cL:=F.aa.1;have aD5:=u.len;have QD:=u.lens;generalize hx:l[j]=x at *;obtain⟨vf,ve,hcs,hf,he⟩:=hrel;have d:∀i,i<8->wr.cell? ⟨g,j*8+i,none⟩=(aD x vf ve)[i]?:=λi hi=>by rw[U _ af,zm 8 y QD j i af hi,List.getElem?_eq_getElem (show j<y.length by omega),Option.getD_some,hat,hcs];exact Array.getElem?_toList
   have d0:wr.cell? ⟨g,j*8,none⟩=some (.int .i64 x.kind):=d 0 af;have hEv:Hid (∀W,K wr W->cV x (.agg (aD x vf ve)) W):=ae λW k=>⟨_,_,rfl,eH _ _ _ _ hf k,bo he k⟩
   have hgr:=HG.aa.grown kr (λe=>hgg (by injection e));obtain⟨L,H,rfl⟩:=b6 hf;obtain⟨G,E,rfl⟩:=aw he;have dR:=ah.new wr 126 (aD x (.slice L x.f.length H) (.slice G x.es.length E));have k5:=dR.aS;clear U hf he hat u;go_upto_region 8 with (fail);have HG5:=hgr.av k5;have lZ:=nT kr (Bi k5 (some g));have ie:=pA F.aa k5;have hE5:=hEv.aa _ k5;clear d d0;generalize wr.alloc _=w5 at *;generalize wr.heap.size=g5 at *;have q5:=dR.cell;go_wp2_with fail
   refine (abl x a _ M w5 hE5 HG5).mono ?_;rintro e T⟨rfl,k6⟩;have N:=pA ie k6;have nK:=nT lZ (Bi k6 (some g));have q6:=(dR.av k6).cell;clear q5 ie;cases hq:gN a x
   ·have Gq:=HK.aa hq c8j;have fN:=O7 (aD x (.slice L x.f.length H) (.slice G x.es.length E)).toList _ (i*8) T N (by rw[cL];show i*8+8<=_;omega);have e9:=Ot 8 (aD x (.slice L x.f.length H) (.slice G x.es.length E)).toList y QD i 0 af aj;rw[Nat.add_zero]at e9;rw[e9,ad4 _ _ _ Pm]at fN;have fD:(y[i]'af).take 0++(aD x (.slice L x.f.length H) (.slice G x.es.length E)).toList++(y[i]'af).drop (0+(aD x (.slice L x.f.length H) (.slice G x.es.length E)).toList.length)=css[j]'af:=by simp_all
    rw[fD]at fN;have I:ag (λk=>k=g) T (dV T g (i*8) (aD x (.slice L x.f.length H) (.slice G x.es.length E)).toList):=ag.sets (X:=λk=>k=g) (g:=g) rfl _ _ _;have ig:=nT nK ⟨I.os,I.tape,I.output,I.size,λk hk hne=>I.block k hk aG⟩;obtain⟨U,Z⟩:=Fb N;obtain⟨c0,c1,c2,c3,c4,c5,c6,c7,hci⟩:=ayG (y[i]'af) (QD _ (bS _));have d6:∀t,t<8->T.cell? ⟨g,i*8+t,none⟩=#[c0,c1,c2,c3,c4,c5,c6,c7][t]?:=λt ht=>by rw[U _ af,zm 8 y QD i t af ht,List.getElem?_eq_getElem (show i<y.length by omega),Option.getD_some,hci];exact Array.getElem?_toList
    have d60:T.cell? ⟨g,i*8,none⟩=some c0:=d6 0 af;have z6:=λt=>Z (i*8+t)
    have z60:=Z (i*8);have RK:=ae Gq;have Y4:=ae fN;clear fN I U Z e9 fD hci HK HX Gq hcs N;go_wp2;go_roundw
    case rel =>
     (repeat apply Exists.intro)
     refine⟨?_,rfl⟩
     exact⟨j+1,i+1,_,bJ,bJ,af,af,RK,Y4,ig⟩
    case measure=>simp[intOf];omega
   ·have HX3:=ae (HX.aa hq);have Y4:=ae N;clear HK HX hcs N;go_wp2;go_roundw
    case rel =>
     (repeat apply Exists.intro)
     refine⟨?_,rfl⟩
     exact⟨j+1,i,_,bJ,rfl,af,af,HX3,Y4,nK⟩
    case measure=>simp[intOf];omega
  ·have aP:¬(j:Int)<l.length:=af;obtain rfl:j=l.length:=af;have u:=D.aa;have cL:=F.aa.1;rcases F.aa.2 with ⟨h0,RI⟩|⟨g',cap',cur,e0,r1,r2,r3,r4,r5,r6⟩
   ·cases h0
   injection e0 with J _ e3;injection J with J;injection J with J;subst J e3;have hcz:(Value.agg eI).cells.size=8:=rfl;obtain⟨W2,QZ,azz,hb2,fC,ht2,dH⟩:=aoN (P:=prog) (w:=wr) (t:=43) (e:=126) underlying43 axW g (i*8) (l.length-i) r2 aG af ay ay;have ig:=nT kr dH;have Y:=u.pre;rw[fM (l:=l.zip css) aG]at Y;have pg:(iM l a).length=i:=by rw[<- ad3 B a,List.length_map,<- List.length_map (f:=λx:aK×List Value=>x.2),<- Y,nX,u.len];omega
   have HF:Hid (∃C,W2.ownsRow base 126 8 (.slice (some ⟨g,0,none⟩) i cap) i C.flatten/\C.length=i/\∀W,Each aU l css W->Each aU (iM l a) C W):=ae (by
    refine⟨y.take i,?_,by rw[nX,u.len];omega,λW hW=>?_⟩
    ·refine⟨?_,.inr ⟨g,cap,QZ,rfl,r1,hb2,af,r4,af,?_⟩⟩
     ·rw[Db 8 _ (λcs h=>u.lens cs (lM h)),nX,u.len];rw[Nat.min_eq_left af]
     ·rw[ht2];have J:=r6;have e2:=abd y u.lens i;grind
    ·rw[Y,<- ad3 B a];exact au1 _ λp hp=>ap2 hW p (List.mem_filter.1 hp).1)
   have yM:(i:Int)<=l.length:=af;have hic:i<=cap:=af;have hnc:¬cap=i:=af;have aD6:(i:Int)<=cap:=af;clear u Y r5 r6 r2 D F cL hb2 ht2 HC;go_wp2;go_ret;obtain⟨C,f1,f2,f3⟩:=HF.aa;exact⟨_,rfl,C,f1,f2,rfl,ig,f3⟩
theorem TL s a base g w(h:yS base g s w)(R:s.prom.length<=1000000)(L:base<=w.heap.size) :
 Calls prog 217 #[.pointer (some ⟨g,0,none⟩),bU a] w λe w'=>e=.returned (.tuple #[])/\yS base g ⟨s.life,s.list,iM s.prom a,s.ab⟩ w'/\Below base w w':=by
 obtain⟨vl,vp,va,h⟩:=h
 have B:=ah.new w 26 #[.int .i64 a.1,.int .u64 a.2.1,.int .u64 a.2.2]
 have G:=B.aS
 go_enter func217,ntmps217
 go_upto_region 1 with (fail)
 have y:=h.st G
 generalize w.alloc _=N at *
 generalize w.heap.size=X at B⊢
 have q:=y.blk.cell
 have z:=y.blk.frozen
 obtain⟨css,H,A,j⟩:=y.p
 have Q:=ae (an8 s.prom a X base vp css N H A (λW u=>j W (u.more λk e=>.inr e)) B R)
 have C:=ae y
 have T:=ae j
 clear h y B H A j
 go_wp2_with fail
 refine Q.aa.mono ?_
 rintro e M⟨v',U,rfl,O,A,I,J,j⟩
 have t:qU vp N M:=ag.eM J λ_ h=>h
 have D:=C.aa.X7 t (v':=v') ⟨U,O,A,λW u=>j W (T.aa W ((t.more λ_ h=>.inr h).gg u λk _ h=>by rwa [I]at h))⟩ λb e=>.inl (I▸e)
 have F:=λb=>(C.aa.sep b).2.1
 have E:=C.aa.blk.aX t λe=>(F g e).2.1 rfl
 have V:Below base w (M.setCell ⟨g,2,none⟩ v'):=((G.mono L).trans (t.low (λk e=>(F k e).1) (bn L G.size))).setCell C.aa.low _
 have q:=E.cell
 have z:=E.frozen
 have S:=ae D
 obtain⟨A',Y,rfl⟩:=D.p.slice
 clear D O A J j E F t
 go_wp2
 go_end0
 exact⟨rfl,⟨_,_,_,S.aa⟩,V⟩
def X8(g:Nat)(vl vp va:Value)(k:Nat):Prop:=k=g∨vl.ownBlock=some k∨vp.ownBlock=some k∨va.ownBlock=some k
structure po(base g gs gr:Nat)(s:dc)(r:Rec)(vl vp va vf ve:Value)(w:World):Prop where
 st:eC base g s vl vp va w
 bs:ah w gs 201 #[.pointer (some ⟨g,0,none⟩)]
 br:ah w gr 197 (eS r vf ve)
 en:Fx (X8 g vl vp va) (λW=>cV r.e (.agg (aD r.e vf ve)) W) w
 low:base<=w.heap.size
 sz:s.list.length<=900000/\s.prom.length<=900000/\s.ab.length<=900000
 sm:eB r.e
def Dy(base g:Nat)(s:dc)(o:Option dc)(w:World)(e:Ending)(w':World):Prop:=e=.returned (.bool o.isSome)/\yS base g (o.getD s) w'/\Below base w w'
section
variable {base g gs gr:Nat} {s:dc} {r:Rec} {vl vp va vf ve:Value} {w w' W:World} {o:Option dc} {t:dc}
theorem po.k(h:po base g gs gr s r vl vp va vf ve w)(k:K w W):po base g gs gr s r vl vp va vf ve W :=
 ⟨h.st.st k,h.bs.av k,h.br.av k,h.en.k k,bn h.low k.size,h.sz,h.sm⟩
theorem po.up{X}(h:po base g gs gr s r vl vp va vf ve w)(j:¬X g/\¬X gs/\¬X gr):∀W,ag X w W->(∀i,W.cell? ⟨g,i,none⟩=(cE s vl vp va)[i]?)/\(∀i,W.cell? ⟨gs,i,none⟩=#[Value.pointer (some ⟨g,0,none⟩)][i]?)/\∀i,W.cell? ⟨gr,i,none⟩=(eS r vf ve)[i]? :=
 λ_ u=>⟨(h.st.blk.aX u j.1).cell,(h.bs.aX u j.2.1).cell,(h.br.aX u j.2.2).cell⟩
theorem po.q(h:po base g gs gr s r vl vp va vf ve w) W(k:K w W):(∀i,W.cell? ⟨g,i,none⟩=(cE s vl vp va)[i]?)/\(∀i,W.cell? ⟨gs,i,none⟩=#[Value.pointer (some ⟨g,0,none⟩)][i]?)/\∀i,W.cell? ⟨gr,i,none⟩=(eS r vf ve)[i]? :=
 h.up (X:=λ_=>False) ⟨id,id,id⟩ W (ag.aT k _)
theorem yT.no(e:o=none)(h:eC base g s vl vp va w')(b:Below base w w'):Dy base g s o w (.returned (.bool false)) w':=by subst e;exact⟨rfl,⟨_,_,_,h⟩,b⟩
theorem yT.yes(e:o=some t)(h:yS base g t w')(b:Below base w w'):Dy base g s o w (.returned (.bool true)) w':=by subst e;exact⟨rfl,h,b⟩
end
theorem as3{base g u gr s r vl vp va vf B} w(h:po base g u gr s r vl vp va vf B w) :
 Calls prog 214 #[.pointer (some ⟨gr,0,none⟩),.pointer (some ⟨u,0,none⟩)] w λe w'=>Dy base g s (yQ s r) w e w':=by
 have y:Hid (yQ s r=if r.n<=s.life then none else some ⟨r.n,s.list,s.prom,s.ab⟩):=ae rfl
 generalize yQ s r=R at *
 have qs:=h.q
 have H:=ae h
 clear h
 go_enter func214,ntmps214
 go_upto_region 1 with (fail)
 refine dD 7 [([],[]),([0],[(3,0)]),([],[]),([2],[(5,2)]),([3],[(6,3)]),([4],[(7,4)]),([1,5],[(4,1),(8,5)])] 15 ?_
 iterate 7 refine au.i ?_
 intro V W kW hA
 simp only[aO,aQ,cz,aJ,Nat.reduceAdd]at hA
 refine aH.h ?_
 have t:=ae (H.aa.k kW)
 have A:=kW.mono H.aa.low
 obtain⟨C,D,E⟩:=qs W kW
 have z:=t.aa.st.blk.frozen
 clear qs hA
 by_cases j:r.n<=s.life
 ·rw[decide_eq_true j];go_wp2;go_ret;exact yT.no (by rw[y.aa,if_pos j]) t.aa.st A
 ·rw[decide_eq_false j];go_wp2;go_ret;exact yT.yes (by rw[y.aa,if_neg j]) ⟨_,_,_,t.aa.st.aws r.n⟩ (A.setCell H.aa.st.low _)
theorem as4{base g t gr s r vl vp va vf F} w(h:po base g t gr s r vl vp va vf F w) :
 Calls prog 220 #[.pointer (some ⟨t,0,none⟩),.pointer (some ⟨gr,0,none⟩)] w λe w'=>Dy base g s (yR s r) w e w':=by
 have y:Hid (yR s r=if bT s.prom (iA r)then some ⟨s.life,s.list,iM s.prom (iA r),s.ab⟩else none):=ae rfl
 generalize yR s r=R at *
 have qs:=And.intro h.q (show iA r=(r.br,r.life,r.bV)from rfl)
 have H:=ae h
 have u:=ae λW (kW:K w W)=>J5 s (iA r) _ W (h.st.st kW).nh Vz
 clear h
 go_enter func220,ntmps220
 go_upto_region 1 with (fail)
 generalize bT s.prom (iA r)=B at *
 refine dD 7 [([],[]),([0],[(3,0)]),([1],[(4,1)]),([],[]),([3],[(6,3)]),([2,4],[(5,2),(7,4)]),([5],[(8,5)])] 14 ?_
 iterate 5 refine au.i ?_
 refine au.v u.aa ?_
 refine au.i ?_
 intro V W kW hA
 simp only[aO,aQ,cz,aJ,Nat.reduceAdd]at hA
 refine aH.h ?_
 have j:=ae (H.aa.k kW)
 have A:=kW.mono H.aa.low
 have D:=ae (TL s (iA r) base g W ⟨_,_,_,j.aa.st⟩ (by have:=H.aa.sz;omega) j.aa.low)
 obtain⟨I,G,J⟩:=qs.1 W kW
 clear qs hA u
 cases B
 ·go_wp2;go_ret;exact yT.no y.aa j.aa.st A
 ·go_wp2_with fail
  apply bF D.aa;rintro L⟨C,hb⟩;have E:=ae C;clear C;go_wp2;go_ret;exact yT.yes y.aa E.aa (A.trans hb)
section
variable {base g gs gr:Nat} {s:dc} {r:Rec} {vl vp va vf ve:Value} {w W:World}
theorem po.ns(h:po base g gs gr s r vl vp va vf ve w){v}(t:v=vl∨v=vp∨v=va):¬v.ownBlock=some g/\¬v.ownBlock=some gs/\¬v.ownBlock=some gr:=by
 have key:∀ {b e cs},ah w b e cs->v.ownBlock=some b->e=126∨e=26:=λhb j=>by
  rcases t with rfl|rfl|rfl
  ·exact .inl ((h.st.l.own j).2.2.elim λ_ k=>hb.gM k)
  ·exact .inl ((h.st.p.own j).2.2.elim λ_ k=>hb.gM k)
  ·exact .inr ((h.st.a.own j).2.2.elim λ_ k=>hb.gM k)
 exact⟨λe=>absurd (key h.st.blk e) ay,λe=>absurd (key h.bs e) ay,λe=>absurd (key h.br e) ay⟩
theorem po.far(h:po base g gs gr s r vl vp va vf ve w){v}(A:v=vl∨v=vp∨v=va)(u:qU v w W) i x{b e cs}(hb:ah w b e cs)(j:e≠126/\e≠26/\e≠46):ah (W.setCell ⟨g,i,none⟩ x) b e cs:=by
 have y:¬v.ownBlock=some b:=λt=>by
  rcases A with rfl|rfl|rfl
  ·exact j.1 ((h.st.l.own t).2.2.elim λ_ k=>hb.gM k)
  ·exact j.1 ((h.st.p.own t).2.2.elim λ_ k=>hb.gM k)
  ·exact j.2.1 ((h.st.a.own t).2.2.elim λ_ k=>hb.gM k)
 exact (hb.aX u y).far (λB=>j.2.2 (hb.gM (by rw[B];exact h.st.blk))) x
theorem po.X9(h:po base g gs gr s r vl vp va vf ve w){v}(j:v=vl∨v=vp∨v=va)(u:qU v w W) i x:Below base w (W.setCell ⟨g,i,none⟩ x) :=
 (u.low (λk e=>by have:=h.st.sep k;rcases j with rfl|rfl|rfl <;> grind) h.low).setCell h.st.low _
end
theorem as5{base g L gr s r vl vp va vf Y} w(h:po base g L gr s r vl vp va vf Y w) :
 Calls prog 219 #[.pointer (some ⟨L,0,none⟩),.pointer (some ⟨gr,0,none⟩)] w λe w'=>Dy base g s (xp s r) w e w':=by
 have J:Hid (xp s r=if bT s.list (iA r)then none else if dG s.ab (iA r)then none else some ⟨s.life,s.list,iM s.prom (iA r),s.ab++[iA r]⟩):=ae rfl
 generalize xp s r=R at *
 have qs:=And.intro h.q (show iA r=(r.br,r.life,r.bV)from rfl)
 have H:=ae h
 have C:=ae λW (kW:K w W)=>Dg s (iA r) _ W (h.st.st kW).nh Vz
 have D:=ae λW (kW:K w W)=>Hi s (iA r) _ W (h.st.st kW).nh Vz
 generalize bT s.list (iA r)=t at *
 generalize dG s.ab (iA r)=F at *
 clear h
 go_enter func219,ntmps219
 go_upto_region 1 with (fail)
 rcases (show (t=true∨t=false/\F=true)∨t=false/\F=false by grind)with (rfl|⟨rfl,rfl⟩)|⟨rfl,rfl⟩
 all_goals
  refine dD 14 [([],[]),([0],[(3,0)]),([1],[(4,1)]),([],[]),([3],[(6,3)]),([2,4],[(5,2),(7,4)]),([5],[(8,5)]),([6],[]),([7,6],[(10,7)]),([8,6],[(11,8)]),([6],[]),([10,6],[(13,10)]),([9,11,6],[(12,9),(14,11)]),([6,12],[(9,6),(15,12)])] 32 ?_
  iterate 14 first|refine au.i ?_|refine au.v C.aa ?_|refine au.v D.aa ?_
  intro V W kW hA
  simp only[aO,aQ,cz,aJ,Nat.reduceAdd]at hA
  refine aH.h ?_
  have HW:=ae (H.aa.k kW)
  have M:=kW.mono H.aa.low
  obtain⟨Z,I,O⟩:=qs.1 W kW
  clear hA C D qs
 iterate 2
  (go_wp2
   go_ret
   exact yT.no J.aa HW.aa.st M)
 generalize W=w1 at *
 go_upto_region 3 with (fail)
 clear Z I O
 have ns:=HW.aa.ns (.inr (.inr rfl))
 have qs:=And.intro (HW.aa.up (X:=λk=>va.ownBlock=some k) ns) (show iA r=(r.br,r.life,r.bV)from rfl)
 refine E4 11 8 s.ab va (iA r) 44 vX [([],[]),([],[]),([1],[(18,1)]),([2],[(19,2)]),([3],[(20,3)]),([],[]),([5],[(22,5)]),([6],[(23,6)]),([4,7],[(21,4),(24,7)]),([0],[(17,0)]),([9],[(26,9)]),([10,8],[(27,10),(25,8)])] 32 HW.aa.st.a HW.aa.low (by have:=HW.aa.sz;omega) ?_
 iterate 7 refine au.i ?_
 refine au.FV (S:=b5) (N:=λk=>iw base g vl vp va k∨va.ownBlock=some k) w1.heap.size vX (iA r) (λ_ h=>h.size) (λb hb=>⟨.inr hb,(HW.aa.st.a.own hb).2.1⟩) (λV W hW hp=>?_) ?_
 ·simp only[cd,aO,aQ,bW,bY,aJ]at hp;show tT _ _ _ (V 6) _;rw[hp.1];exact⟨rfl,λ_ _=>rfl⟩
 refine au.s ?_
 iterate 2 refine au.i ?_
 refine⟨λ_ _=>trivial,λV W hW hp=>?_,λV W hW y E hA=>?_⟩
 ·exact Ii
 simp only[aO,aQ,cz,aJ,Nat.reduceAdd]at hA
 have u:=HW.aa.st.azx hW y E
 obtain⟨A,j,G⟩:=y.slice
 rw[G]at u
 generalize (s.ab++[iA r]).length=B at *
 have hA:=And.intro G hA
 have hb:=HW.aa.st.blk.aX hW ns.1
 have qs:=And.intro hb.cell hb.frozen
 refine aH.s ?_
 refine aH.h ?_
 have I:=(HW.aa.far (.inr (.inr rfl)) hW 3 (.slice A B j) HW.aa.bs ay).cell
 have O:=(HW.aa.far (.inr (.inr rfl)) hW 3 (.slice A B j) HW.aa.br ay).cell
 have MF:=M.trans (HW.aa.X9 (.inr (.inr rfl)) hW 3 (.slice A B j))
 have U:=ae (TL ⟨s.life,s.list,s.prom,s.ab++[iA r]⟩ (iA r) base g _ ⟨_,_,_,u⟩ (by show s.prom.length<=1000000;have:=HW.aa.sz;omega) afQ)
 clear hA qs u y E hb ns
 generalize World.setCell W _ _=w5 at *
 go_wp2_with fail
 apply bF U.aa
 rintro w3⟨Q,hb⟩
 have T:=ae Q
 clear Q
 go_wp2
 go_ret
 exact yT.yes J.aa T.aa (MF.trans hb)
theorem as6{base g U gr s r vl vp va vf ve} w(h:po base g U gr s r vl vp va vf ve w) :
 Calls prog 218 #[.pointer (some ⟨gr,0,none⟩),.pointer (some ⟨U,0,none⟩)] w λe w'=>Dy base g s (xm s r) w e w':=by
 have T:Hid (xm s r=if bT s.list (ar r.e)then none else if bT s.prom (ar r.e)then none else if dG s.ab (ar r.e)then none else some ⟨s.life,s.list,s.prom++[r.e],s.ab⟩):=ae rfl
 generalize xm s r=R at *
 have hsz:=h.sz
 have hlow:=h.low
 have I:=ae λW (kW:K w W)=>Dg s (ar r.e) _ W (h.st.st kW).nh af
 have J:=ae λW (kW:K w W)=>J5 s (ar r.e) _ W (h.st.st kW).nh af
 have Q:=ae λW (kW:K w W)=>Hi s (ar r.e) _ W (h.st.st kW).nh af
 generalize bT s.list (ar r.e)=t at *
 generalize bT s.prom (ar r.e)=C at *
 generalize dG s.ab (ar r.e)=F at *
 have B:=ah.new w 26 #[.int .i64 r.e.br,.int .u64 (r.e.life:Int),.int .u64 (r.e.bV:Int)]
 have A:=B.aS
 have H:=ae (h.k A)
 have q:=h.br.cell
 clear h
 go_enter func218,ntmps218
 go_upto_region 2 with (fail)
 clear q
 generalize w.alloc _=G at *
 generalize w.heap.size=gi at B⊢
 have qs:=And.intro H.aa.q (And.intro B.cells (show ar r.e=(r.e.br,r.e.life,r.e.bV)from rfl))
 rcases (show (t=true∨t=false/\C=true∨t=false/\C=false/\F=true)∨t=false/\C=false/\F=false by cases t <;> cases C <;> cases F <;> simp)with (rfl|⟨rfl,rfl⟩|⟨rfl,rfl,rfl⟩)|⟨rfl,rfl,rfl⟩
 all_goals
  refine dD 19 [([],[]),([0],[(7,0)]),([1],[(8,1)]),([],[]),([2,3],[(9,2),(10,3)]),([4],[(11,4)]),([5],[]),([6,5],[(13,6)]),([7,5],[(14,7)]),([5],[]),([8,9,5],[(15,8),(16,9)]),([5,10],[(12,5),(17,10)]),([11],[(18,11)]),([12],[]),([13,12],[(20,13)]),([14,12],[(21,14)]),([12],[]),([15,16,12],[(22,15),(23,16)]),([12,17],[(19,12),(24,17)])] 38 ?_
  iterate 19 first|refine au.i ?_|refine au.v (λW k=>I.aa W (A.tr k)) ?_|refine au.v (λW k=>J.aa W (A.tr k)) ?_|refine au.v (λW k=>Q.aa W (A.tr k)) ?_
  intro V W kW hA
  simp only[aO,aQ,cz,aJ,Nat.reduceAdd]at hA
  refine aH.h ?_
  have j:=ae (H.aa.k kW)
  have Y:=(A.tr kW).mono hlow
  obtain⟨q1,q2,q3⟩:=qs.1 W kW
  clear hA qs B I J Q
 iterate 3
  (go_wp2
   go_ret
   exact yT.no (T.aa.trans (by simp[*])) j.aa.st Y)
 generalize W=G at *
 go_upto_region 4 with (fail)
 clear q1 q2 q3
 have ns:=j.aa.ns (v:=vp) (.inr (.inl rfl))
 have M:∀k,(iw base g vl vp va k∨vp.ownBlock=some k)->k<G.heap.size:=λk h=>h.elim (j.aa.st.lt j.aa.low k) λh=>(j.aa.st.p.own h).2.1
 have qs:=j.aa.up (X:=λk=>vp.ownBlock=some k) ns
 refine E4 12 9 s.prom vp r.e 43 oH [([],[]),([],[]),([1],[(27,1)]),([2],[(28,2)]),([3],[(29,3)]),([],[]),([5],[(31,5)]),([6],[(32,6)]),([7],[(33,7)]),([4,8],[(30,4),(34,8)]),([0],[(26,0)]),([10],[(36,10)]),([11,9],[(37,11),(35,9)])] 38 j.aa.st.p j.aa.low af ?_
 iterate 7 refine au.i ?_
 refine au.c (tT (λk=>iw base g vl vp va k∨vp.ownBlock=some k) aU r.e) (λ_ _ _ h k=>h.mut k λ_ h=>.inr h) (λW' u=>(OD r.e _ W' (j.aa.en W' (u.more λk h=>.inr (.inr (.inl h)))) j.aa.sm).mono λe w' ⟨v,e1,ho,k⟩=>⟨v,e1,PH ho λk h=>bz (M k h) u.size,k⟩) ?_
 refine au.FV (S:=aU) (N:=λk=>iw base g vl vp va k∨vp.ownBlock=some k) G.heap.size oH r.e (λ_ h=>h.size) (λb hb=>⟨.inr hb,M b (.inr hb)⟩) (λV W y hp=>?_) ?_
 ·exact PJ
 refine au.s ?_
 iterate 2 refine au.i ?_
 refine⟨λ_ _=>trivial,λV W y hp=>?_,λV W y E L hA=>?_⟩
 ·exact Ii
 simp only[aO,aQ,cz,aJ,Nat.reduceAdd]at hA
 have D:=j.aa.st.X7 y E L
 obtain⟨A9,Z,O⟩:=E.slice
 rw[O]at D
 generalize (s.prom++[r.e]).length=n9 at *
 have hA:=And.intro O hA
 have hb:=j.aa.st.blk.aX y ns.1
 have qs:=And.intro hb.cell hb.frozen
 refine aH.s ?_
 refine aH.h ?_
 have MF:=Y.trans (j.aa.X9 (.inr (.inl rfl)) y 2 (.slice A9 n9 Z))
 have HS:=ae D
 clear hA qs D E L hb ns
 go_wp2
 go_ret
 exact yT.yes T.aa ⟨_,_,_,HS.aa⟩ MF
theorem as7{base g gs gr s r vl vp va vf ve} w(h:po base g gs gr s r vl vp va vf ve w) :
 Calls prog 215 #[.pointer (some ⟨gr,0,none⟩),.pointer (some ⟨gs,0,none⟩)] w λe w'=>Dy base g s (xj s r) w e w':=by
 have C:Hid (xj s r=if ¬r.n=s.list.length then none else if bT s.list (ar r.e)then none else if dG s.ab (ar r.e)then none else some ⟨s.life,s.list++[r.e],iM s.prom (ar r.e),s.ab⟩):=ae rfl
 generalize xj s r=R at *
 obtain⟨j,cl,rfl⟩:=h.st.l.slice
 have hsz:=h.sz
 have hlow:=h.low
 have O:=ae λW (kW:K w W)=>Dg s (ar r.e) _ W (h.st.st kW).nh af
 have Q:=ae λW (kW:K w W)=>Hi s (ar r.e) _ W (h.st.st kW).nh af
 generalize bT s.list (ar r.e)=B at *
 generalize dG s.ab (ar r.e)=M at *
 have y:=ah.new w 26 #[.int .i64 r.e.br,.int .u64 (r.e.life:Int),.int .u64 (r.e.bV:Int)]
 have E:=y.aS
 have H:=ae (h.k E)
 have q:=h.br.cell
 clear h
 go_enter func215,ntmps215
 go_upto_region 2 with (fail)
 clear q
 generalize w.alloc _=G at *
 generalize w.heap.size=T at y⊢
 have hwr:IntKind.u64.wrap (s.list.length:Int)=(s.list.length:Int):=by rw[IntKind.wrap_u64];omega
 obtain⟨t,Er⟩:∃b,((r.n:Int) != (s.list.length:Int))=b:=⟨_,rfl⟩
 replace C:=ae (show R=if t=true then none else if B=true then none else if M=true then none else some ⟨s.life,s.list++[r.e],iM s.prom (ar r.e),s.ab⟩ by rw[C.aa,<- Er];by_cases h:r.n=s.list.length <;> simp[h,Int.ofNat_inj])
 have qs:=And.intro H.aa.q (And.intro y.cells (And.intro hwr (And.intro (show ar r.e=(r.e.br,r.e.life,r.e.bV)from rfl) Er)))
 rcases (show (t=true∨t=false/\B=true∨t=false/\B=false/\M=true)∨t=false/\B=false/\M=false by grind)with (rfl|⟨rfl,rfl⟩|⟨rfl,rfl,rfl⟩)|⟨rfl,rfl,rfl⟩
 all_goals
  refine dD 23 [([],[]),([0],[(7,0)]),([],[]),([2],[(9,2)]),([3],[(10,3)]),([4],[(11,4)]),([5],[(12,5)]),([6],[(13,6)]),([1,7],[(8,1),(14,7)]),([8],[(15,8)]),([9],[]),([10,9],[(17,10)]),([11,9],[(18,11)]),([9],[]),([12,13,9],[(19,12),(20,13)]),([9,14],[(16,9),(21,14)]),([15],[(22,15)]),([16],[]),([17,16],[(24,17)]),([18,16],[(25,18)]),([16],[]),([19,20,16],[(26,19),(27,20)]),([16,21],[(23,16),(28,21)])] 45 ?_
  iterate 23 first|refine au.i ?_|refine au.v (λW k=>O.aa W (E.tr k)) ?_|refine au.v (λW k=>Q.aa W (E.tr k)) ?_
  intro V W kW hA
  simp only[aO,aQ,cz,aJ,Nat.reduceAdd]at hA
  refine aH.h ?_
  have HW:=ae (H.aa.k kW)
  have kb:=(E.tr kW).mono hlow
  obtain⟨q1,q2,q3⟩:=qs.1 W kW
  have I:=y.av kW
  clear hA qs y O Q
 iterate 3
  (go_wp2
   go_ret
   exact yT.no (C.aa.trans fk) HW.aa.st kb)
 generalize W=G at *
 go_upto_region 4 with (fail)
 clear q1 q2 q3
 have ns:=HW.aa.ns (v:=(Value.slice j s.list.length cl)) (.inl rfl)
 have Y:∀k,(iw base g (Value.slice j s.list.length cl) vp va k∨(Value.slice j s.list.length cl).ownBlock=some k)->k<G.heap.size:=λk h=>h.elim (HW.aa.st.lt HW.aa.low k) λh=>(HW.aa.st.l.own h).2.1
 have qs:=HW.aa.up (X:=λk=>(Value.slice j s.list.length cl).ownBlock=some k) ns
 refine E4 12 9 s.list (Value.slice j s.list.length cl) r.e 43 oH [([],[]),([],[]),([1],[(31,1)]),([2],[(32,2)]),([3],[(33,3)]),([],[]),([5],[(35,5)]),([6],[(36,6)]),([7],[(37,7)]),([4,8],[(34,4),(38,8)]),([0],[(30,0)]),([10],[(40,10)]),([11,9],[(41,11),(39,9)])] 45 HW.aa.st.l HW.aa.low af ?_
 iterate 7 refine au.i ?_
 refine au.c (tT (λk=>iw base g (Value.slice j s.list.length cl) vp va k∨(Value.slice j s.list.length cl).ownBlock=some k) aU r.e) (λ_ _ _ h k=>h.mut k λ_ h=>.inr h) (λW' u=>(OD r.e _ W' (HW.aa.en W' (u.more λk h=>.inr (.inl h))) HW.aa.sm).mono λe w' ⟨v,e1,ho,k⟩=>⟨v,e1,PH ho λk h=>bz (Y k h) u.size,k⟩) ?_
 refine au.FV (S:=aU) (N:=λk=>iw base g (Value.slice j s.list.length cl) vp va k∨(Value.slice j s.list.length cl).ownBlock=some k) G.heap.size oH r.e (λ_ h=>h.size) (λb hb=>⟨.inr hb,Y b (.inr hb)⟩) (λV W hW hp=>?_) ?_
 ·exact PJ
 refine au.s ?_
 iterate 2 refine au.i ?_
 refine⟨λ_ _=>trivial,λV W hW hp=>?_,λV W hW L U hA=>?_⟩
 ·exact Ii
 simp only[aO,aQ,cz,aJ,Nat.reduceAdd]at hA
 have J:=HW.aa.st.IU hW L U
 obtain⟨D,A,Z⟩:=L.slice
 rw[Z]at J
 generalize (s.list++[r.e]).length=F at *
 have hA:=And.intro Z hA
 have hb:=HW.aa.st.blk.aX hW ns.1
 have qs:=And.intro hb.cell hb.frozen
 refine aH.s ?_
 refine aH.h ?_
 have MF:=kb.trans (HW.aa.X9 (.inl rfl) hW 1 (.slice D F A))
 have q2:=(HW.aa.far (.inl rfl) hW 1 (.slice D F A) HW.aa.bs ay).cell
 have q3:=(HW.aa.far (.inl rfl) hW 1 (.slice D F A) HW.aa.br ay).cell
 have q4:=((I.aX hW λe=>absurd ((HW.aa.st.l.own e).2.2.elim λ_ k=>I.gM k) ay).far (p:=⟨g,1,none⟩) (λe=>absurd (I.gM (show ah G T 46 _ by rw[show T=g from e];exact HW.aa.st.blk)) ay) (.slice D F A)).cell
 have C3:=ae (TL ⟨s.life,s.list++[r.e],s.prom,s.ab⟩ (ar r.e) base g _ ⟨_,_,_,J⟩ aG afQ)
 clear hA qs J L U hb ns
 generalize World.setCell W _ _=w5 at *
 go_wp2_with fail
 apply bF C3.aa
 rintro w3⟨hs,hb⟩
 have HS:=ae hs
 clear hs
 go_wp2
 go_ret
 exact yT.yes C.aa HS.aa (MF.trans hb)
theorem as8{s r}(h:eo r=false):mj s r=(s,110):=by simp[mj,h]
def azA(s:dc):Option dc->dc×Int
 | none=>(s,160)
 | some t=>(t,0)
theorem ad5{s r o}(h:eo r=true)(e:dU s r=o):mj s r=azA s o:=by subst e;simp only[mj,h,if_true];cases dU s r <;> rfl
theorem ayH{s r}(h:r.kind=1):dU s r=yQ s r:=by simp[dU,h]
theorem ayI{s r}(h:r.kind=2):dU s r=xj s r:=by simp[dU,h]
theorem ayJ{s r}(h:r.kind=3):dU s r=xm s r:=by simp[dU,h]
theorem ayK{s r}(h:r.kind=4):dU s r=xp s r:=by simp[dU,h]
theorem ayL{s r}(h:r.kind=5):dU s r=yR s r:=by simp[dU,h]
theorem au2{r}(h:eo r=true):r.kind=1∨r.kind=2∨r.kind=3∨r.kind=4∨r.kind=5:=by rcases zn h with ⟨g,_⟩|⟨g,_⟩|⟨g,_⟩ <;> omega
structure MG(base g:Nat)(s:dc)(r:Rec)(vl vp va v:Value)(w:World):Prop where
 st:eC base g s vl vp va w
 rc:Fx (X8 g vl vp va) (λW=>pk r v W) w
 low:base<=w.heap.size
 sz:s.list.length<=900000/\s.prom.length<=900000/\s.ab.length<=900000
 sm:eB r.e
 fit:jT r
theorem MG.onV{base g t gr s r vl vp va vf j w}(h:MG base g s r vl vp va (.agg (eS r vf j)) w){W}(k:K w W)(u:ah W t 201 #[.pointer (some ⟨g,0,none⟩)])(y:ah W gr 197 (eS r vf j)) :
 po base g t gr s r vl vp va vf j W:=by
 refine⟨h.st.st k,u,y,(h.rc.k k).mono λW' h=>?_,bn h.low k.size,h.sz,h.sm⟩
 obtain⟨D,C,e,A,B⟩:=h
 injection e with e
 have e:=congrArg Array.toList e
 simp at e
 obtain⟨rfl,rfl⟩:=e
 exact⟨_,_,rfl,A,B⟩
theorem ad6{base g s r vl vp va v} w(h:MG base g s r vl vp va v w) :
 Calls prog 120 #[.pointer (some ⟨g,0,none⟩),v] w λe w'=>e=.returned (.int .i64 (mj s r).2)/\yS base g (mj s r).1 w'/\Below base w w':=by
 obtain⟨vf,E,rfl,-,-⟩:=h.rc.now
 have H:=ae h
 have G:=ae λW (k:K w W)=>aro r (.agg (eS r vf E)) W (h.rc.at k) h.fit
 have y:=(ah.new w 201 #[.pointer (some ⟨g,0,none⟩)]).alloc (.cells (eS r vf E) 197)
 have u:=ah.new (w.alloc (.cells #[.pointer (some ⟨g,0,none⟩)] 201)) 197 (eS r vf E)
 have j:=K.lq w (.cells #[.pointer (some ⟨g,0,none⟩)] 201) (.cells (eS r vf E) 197)
 rw[World.size_alloc]at u
 have S:=@run_makeMap prog
 have B:∀W:World,(zeroValue 22).run prog W=.ok .nilFunc W:=λW=>ef
 clear h
 go_enter func120,ntmps120
 go_wp2_with fail
 generalize World.alloc (World.alloc w _) _=Q at *
 generalize R:w.heap.size=O at *
 refine (G.aa Q j).mono ?_
 rintro e A⟨T,rfl,-,D⟩
 replace j:=j.tr D
 replace y:=y.av D
 replace u:=u.av D
 clear D G
 cases hok:eo r
 ·rw[show tD r=110 by simp[tD,hok]];have HQ:=ae (as8 (s:=s) hok);have HS:=ae (H.aa.st.st j);have F:=j.mono H.aa.low;clear hok;go_wp2;go_ret;exact⟨ny,by rw[HQ.aa];exact⟨_,_,_,HS.aa⟩,F⟩
 rw[show tD r=0 by simp[tD,hok]]
 have J:=ae hok
 clear hok
 have t:=BS.new A
 have V:=u.lt
 replace y:=y.alloc (.map #[] 0)
 replace u:=u.alloc (.map #[] 0)
 replace j:=j.al (.map #[] 0)
 go_wp2_with (with_reducible refine wI _ rfl (.tmp 17) (.const (.int .i64 1)) (.tmp 18) 286 rfl 3 22 underlying286 underlying3 A.heap.size _ rfl t 1 rfl _ rfl rfl ?_)
 clear t
 intro W t hg
 replace j:K w W:=j.trans (ky hg af j.size)
 replace y:=y.grown hg aY
 replace u:=u.grown hg aY
 clear hg
 go_wp2_with (with_reducible refine wI _ rfl (.tmp 17) (.const (.int .i64 2)) (.tmp 19) 286 rfl 3 22 underlying286 underlying3 A.heap.size _ rfl t 2 rfl _ rfl rfl ?_)
 clear t
 intro W t hg
 replace j:K w W:=j.trans (ky hg af j.size)
 replace y:=y.grown hg aY
 replace u:=u.grown hg aY
 clear hg
 go_wp2_with (with_reducible refine wI _ rfl (.tmp 17) (.const (.int .i64 3)) (.tmp 20) 286 rfl 3 22 underlying286 underlying3 A.heap.size _ rfl t 3 rfl _ rfl rfl ?_)
 clear t
 intro W t hg
 replace j:K w W:=j.trans (ky hg af j.size)
 replace y:=y.grown hg aY
 replace u:=u.grown hg aY
 clear hg
 go_wp2_with (with_reducible refine wI _ rfl (.tmp 17) (.const (.int .i64 4)) (.tmp 21) 286 rfl 3 22 underlying286 underlying3 A.heap.size _ rfl t 4 rfl _ rfl rfl ?_)
 clear t
 intro W t hg
 replace j:K w W:=j.trans (ky hg af j.size)
 replace y:=y.grown hg aY
 replace u:=u.grown hg aY
 clear hg
 go_wp2_with (with_reducible refine wI _ rfl (.tmp 17) (.const (.int .i64 5)) (.tmp 22) 286 rfl 3 22 underlying286 underlying3 A.heap.size _ rfl t 5 rfl _ rfl rfl ?_)
 clear t
 intro W t hg
 replace j:K w W:=j.trans (ky hg af j.size)
 replace y:=y.grown hg aY
 replace u:=u.grown hg aY
 clear hg
 have M:W.cell? ⟨O+1,0,none⟩=some (.int .i64 r.kind):=u.cell 0
 have C:=ae (H.aa.onV j y u)
 have F:=j.mono H.aa.low
 obtain⟨f,c1,c2,U,N,I⟩:∃(f:Nat) (c1 c2:Value),(∀args W,(callFunc f args).run prog W=.ok (.enter f args) W)/\(Instr.lookup 286 (.map (some A.heap.size)) (.int .i64 r.kind) true).run prog W=.ok (.tuple #[Value.func (Fn.func f) #[] #[c1,c2],.bool true]) W/\Hid (Calls prog f #[c1,c2] W (Dy base g s (dU s r) W)):=by
  rcases au2 J.aa with hk|hk|hk|hk|hk <;> rw[hk]
  ·exact⟨_,_,_,λ_ _=>fk,uA underlying286 underlying3 (B W) t 1,by rw[ayH hk];exact ae (as3 W C.aa)⟩
  ·exact⟨_,_,_,λ_ _=>fk,uA underlying286 underlying3 (B W) t 2,by rw[ayI hk];exact ae (as7 W C.aa)⟩
  ·exact⟨_,_,_,λ_ _=>fk,uA underlying286 underlying3 (B W) t 3,by rw[ayJ hk];exact ae (as6 W C.aa)⟩
  ·exact⟨_,_,_,λ_ _=>fk,uA underlying286 underlying3 (B W) t 4,by rw[ayK hk];exact ae (as5 W C.aa)⟩
  ·exact⟨_,_,_,λ_ _=>fk,uA underlying286 underlying3 (B W) t 5,by rw[ayL hk];exact ae (as4 W C.aa)⟩
 have HQ:=ae (ad5 (s:=s) J.aa rfl)
 clear y u t B C j
 go_wp2_with fail
 refine I.aa.mono ?_
 rintro e X⟨rfl,L,hb⟩
 have HS:=ae L
 clear L I M N
 generalize dU s r=o at *
 have ox:=F.trans hb
 cases o
 ·exact afR
 ·exact afR
theorem adf{l A w}(h:yI b5 l A w):Reads w w.heap.size 3 A l.length (l.flatMap eY):=by
 obtain⟨css,t,j⟩:=h;have:css=l.map eY:=by
  refine List.ext_getElem (by simpa using t.1) λi u y=>?_
  rw[List.getElem_map];exact t.2 i aG u
 rw[this,UG]at j;exact j
theorem PK(l:List aR):∀u∈l.flatMap eY,u.oneCell'=true:=by intro u t;obtain⟨a,-,j⟩:=List.mem_flatMap.1 t;simp at j;rcases j with rfl|rfl|rfl <;> rfl
theorem eC.lower{base base' g s vl vp va W}(h:eC base g s vl vp va W)(hb:base'<=base):eC base' g s vl vp va W:=by
 have j:∀b,iw base' g vl vp va b->iw base g vl vp va b:=λb h=>by grind [iw]
 exact⟨h.blk,bn hb h.low,(h.l.less j).low hb,(h.p.less j).low hb,(h.a.less j).low hb,h.ne⟩
def LK(base:Nat)(s:dc)(vl vp va:Value)(W:World):Prop:=∀W',ag (λk=>k<base) W W'->eC base W'.heap.size s vl vp va (W'.alloc (.cells (cE s vl vp va) 46))
theorem eC.r{base g s vl vp va W}(h:eC base g s vl vp va W)(hb:base<=W.heap.size):LK base s vl vp va W:=λW' u=>by
 have j:=K.new W' (.cells (cE s vl vp va) 46);have hz:=u.size;have t:∀b,b<W.heap.size->iw base W'.heap.size vl vp va b->iw base g vl vp va b:=λb hb h=>by unfold iw at *;grind
 have A:=h.l.blk;have hp:=h.p.blk;have y:=h.a.blk;exact⟨ah.new _ _ _,bn hb hz,(h.l.to u (λ_ h=>.inl h) (λk e _=>by have:=A k e;omega) λb hb h=>.inl (t b hb h)).st j,(h.p.to u (λ_ h=>.inl h) (λk e _=>by have:=hp k e;omega) λb hb h=>.inl (t b hb h)).st j,(h.a.to u (λ_ h=>.inl h) (λk e _=>by have:=y k e;omega) λb hb h=>.inl (t b hb h)).st j,h.ne⟩
theorem LK.to{base base' s vl vp va W W'}(h:LK base s vl vp va W)(u:ag (λk=>k<base) W W')(hb:base'<=base):LK base' s vl vp va W' :=
 λj t=>(h j (u.tr (t.more λ_ h=>bz h hb))).lower hb
abbrev jq:Array Value:=#[.int .u64 0,.slice none 0 0,.slice none 0 0,.slice none 0 0]
def azB(base:Nat)(v:Value)(W:World):Prop:=∃b,v=.pointer (some ⟨b,0,none⟩)/\base<=b/\ah W b 46 jq
theorem au3{P t z}(T:fK P t 26 z 3 24){ρ} s x(E:ρ s=.slice none 0 0){l u}(D:ρ x=u){w}(h:aq b5 l u w)(G:l.length<=1000000) base(hb:base<=w.heap.size) Y ty :
 ∃v' w',(execOp ρ (aF (.call { callee:=.builtin .append,args:=#[s,x],argTypes:=#[t,t] }) ty)).run P w=.ok (.value v') w'/\aA Y base 26 b5 l v' w'/\K w w':=by
 obtain⟨A,c,rfl,y,-⟩:=h
 obtain⟨v',w',F,B,j,-,-⟩:=Fo (P:=P) w base t ty 26 z 3 24 T (.slice none 0 0) 0 [] (jV _ _ _ _) _ A l.length c _ (adf y) (PK _) af hb
 exact⟨v',w',by simp only[execOp,aF,resolve,invoke,builtin,Sem.run_bind,Sem.run_pure,Result.andThen_ok,List.map_toArray,jU,List.map_nil,E,D,F],⟨l.map eY,by rw[UG];simpa [show b5.size=3 from rfl]using B,aj,λW _=>Pa l W⟩,⟨j.os,j.tape,j.output,j.size,λi C=>j.block i C (by simp[Value.ownBlock])⟩⟩
theorem apj s v w(h:nh s v w)(iz:∀x∈s.list,eB x)(hsp:∀x∈s.prom,eB x)(hz:s.list.length<=900000/\s.prom.length<=900000/\s.ab.length<=900000) :
 Calls prog 303 #[v] w λe w'=>∃vl vp va,e=.returned (.agg (cE s vl vp va))/\LK w.heap.size s vl vp va w'/\K w w':=by
 obtain⟨vl,vp,va,rfl,hl,hp,ha⟩:=h
 have HA:=ae ha
 obtain⟨Al,cl,rfl,hl,-⟩:=hl
 obtain⟨Ap,cp,rfl,hp,-⟩:=hp
 obtain⟨Aa,ca,rfl⟩:=aw ha
 have dL:=(ah.new w 46 (cE s (.slice Al s.list.length cl) (.slice Ap s.prom.length cp) (.slice Aa s.ab.length ca))).alloc (.cells jq 46)
 have cS:=ah.new (w.alloc (.cells (cE s (.slice Al s.list.length cl) (.slice Ap s.prom.length cp) (.slice Aa s.ab.length ca)) 46)) 46 jq
 have M:=K.lq w (.cells (cE s (.slice Al s.list.length cl) (.slice Ap s.prom.length cp) (.slice Aa s.ab.length ca)) 46) (.cells jq 46)
 rw[World.size_alloc]at cS
 have iz:=ae iz
 have hsp:=ae hsp
 have HL:=ae hl
 have HP:=ae hp
 clear ha hl hp
 go_enter func303,ntmps303
 go_upto_region 1 with (fail)
 generalize World.alloc (World.alloc w _) _=w0 at *
 obtain⟨base,hbase⟩:∃b,b=w0.heap.size:=⟨_,rfl⟩
 have jr:w.heap.size+1<base:=by rw[hbase];exact cS.lt
 generalize cP:w.heap.size=gp at dL cS jr⊢
 have qs:=dL.cells
 refine dD 7 [([],[]),([0],[(8,0)]),([],[]),([2],[(10,2)]),([3],[(11,3)]),([1,4],[(9,1),(12,4)]),([],[]),([6,5],[(3,6),(13,5)])] 45 ?_
 iterate 4 refine au.i ?_
 refine au.op (λv W=>aA (λ_=>True) base 26 b5 s.ab v W) (λ_ _ _ h k=>h.st k) (λV W kW hp=>?_) ?_
 ·simp only[cd,aO,aQ,bW,bY,aJ]at hp;obtain⟨v',w',hrun,O,h2⟩:=au3 (P:=prog) vX (ρ:=aE [(11,3)] _ V) (.const (.slice none 0 0)) (.tmp 11) rfl hp.1 (bo HA.aa (M.tr kW)) af base afS (λ_=>True) 44;change cN _ _ _ ((execOp (aE [(11,3)] _ V) (aF (.call { callee:=.builtin .append,args:=#[.const (.slice none 0 0),.tmp 11],argTypes:=#[44,44] }) 44)).run _ _);rw[hrun];exact⟨O,h2⟩
 refine au.op (λv W=>∃va,v=.agg (cE ⟨s.life,[],[],s.ab⟩ (.slice none 0 0) (.slice none 0 0) va)/\aA (λ_=>True) base 26 b5 s.ab va W) (λ_ _ _ ⟨va,e,h⟩ k=>⟨va,e,h.st k⟩) (λV W kW hp=>?_) ?_
 ·simp only[cd,aO,aQ,bW,bY,aJ]at hp;obtain⟨O,h4,-⟩:=hp;obtain⟨A4,c4,e4⟩:=h4.slice;simp[O,e4,bP,aE,List.lookup,cN,execOp,aF,cM,go_sem];rw[<- e4];exact h4
 refine au.op (azB base) (λv w w' ⟨b,e,O,h2⟩ k=>⟨b,e,O,h2.av k⟩) (λV W kW _=>?_) ?_
 ·simp[bP,cN,execOp,aF,go_sem];exact⟨⟨W.heap.size,rfl,afS,ah.new _ _ _⟩,(K.rf W).al _⟩
 clear qs
 intro V W kW hA
 simp only[aO,aQ,cz,aJ,Nat.reduceAdd]at hA
 obtain⟨-,-,-,-,-,⟨va9,e5,hO⟩,⟨g,e6,hg,hb⟩,-⟩:=hA
 have hA:=And.intro e6 e5
 obtain⟨E,C,rfl⟩:=hO.slice
 have u9:ag (λk=>k=g) W (dV W g 0 [.int .u64 s.life,.slice none 0 0,.slice none 0 0,.slice E s.ab.length C]):=ag.sets (X:=λk=>k=g) rfl _ _ _
 have Jg:Hid (yS base g ⟨s.life,[],[],s.ab⟩ (dV W g 0 [.int .u64 s.life,.slice none 0 0,.slice none 0 0,.slice E s.ab.length C])):=ae ⟨_,_,_,eC.nil (Fq hb rfl) hg (hO.to u9 (λ_ _=>trivial) (λk h e=>absurd ((hO.own h).2.2.elim λ_ k=>k.gM (e▸hb)) ay) λ_ _ _=>.inl trivial)⟩
 have qq:=hb.cell
 have zz:=hb.frozen
 refine aH.skip (dV W g 0 [.int .u64 s.life,.slice none 0 0,.slice none 0 0,.slice E s.ab.length C]) rfl (by simp[aE,List.lookup,ba,e5,e6,execOp,aF,dV,qq,zz,go_sem]) ?_
 refine aH.h ?_
 have kk:=u9.k kW λk e=>af
 clear hO hb u9 qq zz e5 e6 hA
 generalize dV _ _ _ _=W1 at *
 have qp:=dL.cells
 go_wp2_with fail
 go_loopw [5,17] (fun _ i W=>∃j:Nat,j<=s.list.length/\i=.int .i64 j/\Hid (yS base g ⟨s.life,s.list.take j,[],s.ab⟩ W)/\K w0 W) (fun _ i _=>s.list.length-(intOf i).toNat)
 case atStart=>exact⟨0,af,rfl,ae mh,kk⟩
 case round =>
  clear kk Jg;obtain⟨j,hj,rfl,A,kr⟩:=hrel;by_cases L:j<s.list.length
  ·have aP:(j:Int)<s.list.length:=af;obtain⟨Y,off,cs,rfl,hcl,Z,H,d⟩:=ed HL.aa j L ay;have HT:Hid (s.list.take (j+1)=s.list.take j++[s.list[j]]):=ae aj;have hxs:=iz.aa _ (bS L);generalize s.list[j]=x at *;obtain⟨vf,ve,rfl,G,J⟩:=Z w (K.rf w);have kU:Hid (∀W,K w W->cV x (.agg (aD x vf ve)) W):=ae λW k=>⟨_,_,rfl,eH _ _ _ _ G k,bo J k⟩
   have p9:=M.tr kr;have H:wr.cell? ⟨Y,off+j*8,none⟩=some (.int .i64 x.kind):=H wr p9;have d:∀i,i<8->wr.cell? ⟨Y,off+j*8+i,none⟩=(aD x vf ve)[i]?:=λi hi=>(d wr p9 i hi).trans Array.getElem?_toList
   obtain⟨Af,U,rfl⟩:=b6 G;obtain⟨R,Q,rfl⟩:=aw J;have I:=ah.new wr 126 (aD x (.slice Af x.f.length U) (.slice R x.es.length Q));have F:=I.aS;clear Z hcl G J;go_upto_region 5 with (fail);clear d H;obtain⟨vl,vp,va,hS⟩:=A.aa;have hne:vl.ownBlock≠some wr.heap.size:=λe=>by have:=(hS.l.own e).2.1;omega
   have t:=ae (hS.st F);generalize wr.alloc _=B at *;generalize wr.heap.size=ge at I hne⊢;replace kr:=kr.tr F;have T:base<=B.heap.size:=VA;have hN:∀k,(iw base g vl vp va k∨vl.ownBlock=some k)->k<B.heap.size:=λk h=>h.elim (t.aa.lt T k) λh=>(t.aa.l.own h).2.1
   have Jh:vl.ownBlock≠some g:=λe=>((t.aa.sep g).1 e).2.1 rfl
   have qs:∀W,qU vl B W->(∀i,W.cell? ⟨g,i,none⟩=(cE ⟨s.life,s.list.take j,[],s.ab⟩ vl vp va)[i]?)/\(∀i,W.cell? ⟨ge,i,none⟩=(aD x (.slice Af x.f.length U) (.slice R x.es.length Q))[i]?):=λW u=>⟨(t.aa.blk.aX u Jh).cell,(I.aX u hne).cell⟩
   have hro:∀k,vl.ownBlock=some k->w0.heap.size<=k:=λk e=>by rw[<- hbase];exact ((t.aa.sep k).1 e).1
   clear hS F;refine E4 7 5 (s.list.take j) vl x 43 oH [([],[]),([0],[(21,0)]),([],[]),([2],[(23,2)]),([3],[(24,3)]),([1,4],[(22,1),(25,4)]),([],[]),([6,5],[(27,6),(26,5)])] 45 t.aa.l T aY ?_;iterate 3 refine au.i ?_
   refine au.c (tT (λk=>iw base g vl vp va k∨vl.ownBlock=some k) aU x) (λ_ _ _ h k=>h.mut k λ_ h=>.inr h) (λW' u=>(OD x _ W' (kU.aa W' (M.tr (u.k kr hro))) hxs).mono λe w' ⟨v,e1,ho,k⟩=>⟨v,e1,PH ho λk h=>bz (hN k h) u.size,k⟩) ?_;refine au.FV (S:=aU) (N:=λk=>iw base g vl vp va k∨vl.ownBlock=some k) B.heap.size oH x (λ_ h=>h.size) (λb hb=>⟨.inr hb,hN b (.inr hb)⟩) (λV W y hp=>?_) ?_
   ·exact PJ
   refine au.s ?_;refine au.i ?_;refine⟨λ_ _=>trivial,λV W y hp=>?_,λV W y hO hv hA=>?_⟩
   ·exact Ii
   simp only[aO,aQ,cz,aJ,Nat.reduceAdd]at hA;have hS:=t.aa.IU y hO hv;obtain⟨E,C,D⟩:=hO.slice;rw[D]at hS;generalize (s.list.take j++[x]).length=n9 at *;rw[<- HT.aa]at hS;have hA:=And.intro D hA;have hb:=t.aa.blk.aX y Jh;have qs:=And.intro hb.cell hb.frozen;refine aH.s ?_;refine aH.h ?_;have HS9:=ae hS;have k9:K w0 (W.setCell ⟨g,1,none⟩ (.slice E n9 C)):=(y.k kr hro).setCell aG _;exact afT
  ·have aP:¬(j:Int)<s.list.length:=af;rw[fM af]at A;have Jg:=A;have kk:=kr;clear A kr hj L;generalize wr=wa at *;go_wp2_with fail
   clear aP;go_loopw [7,32] (fun _ i W=>∃j:Nat,j<=s.prom.length/\i=.int .i64 j/\Hid (yS base g ⟨s.life,s.list,s.prom.take j,s.ab⟩ W)/\K w0 W) (fun _ i _=>s.prom.length-(intOf i).toNat)
   case atStart=>exact⟨0,af,rfl,ae mh,kk⟩
   case round =>
    clear kk Jg;obtain⟨j,hj,rfl,A,kr⟩:=hrel;by_cases L:j<s.prom.length
    ·have aP:(j:Int)<s.prom.length:=af;obtain⟨Y,off,cs,rfl,hcl,Z,H,d⟩:=ed HP.aa j L ay;have HT:Hid (s.prom.take (j+1)=s.prom.take j++[s.prom[j]]):=ae aj;have hxs:=hsp.aa _ (bS L);generalize s.prom[j]=x at *;obtain⟨vf,ve,rfl,G,J⟩:=Z w (K.rf w);have kU:Hid (∀W,K w W->cV x (.agg (aD x vf ve)) W):=ae λW k=>⟨_,_,rfl,eH _ _ _ _ G k,bo J k⟩
     have p9:=M.tr kr;have H:wr.cell? ⟨Y,off+j*8,none⟩=some (.int .i64 x.kind):=H wr p9;have d:∀i,i<8->wr.cell? ⟨Y,off+j*8+i,none⟩=(aD x vf ve)[i]?:=λi hi=>(d wr p9 i hi).trans Array.getElem?_toList
     obtain⟨Af,U,rfl⟩:=b6 G;obtain⟨R,Q,rfl⟩:=aw J;have I:=ah.new wr 126 (aD x (.slice Af x.f.length U) (.slice R x.es.length Q));have F:=I.aS;clear Z hcl G J;go_upto_region 10 with (fail);clear d H;obtain⟨vl,vp,va,hS⟩:=A.aa;have hne:vp.ownBlock≠some wr.heap.size:=λe=>by have:=(hS.p.own e).2.1;omega
     have t:=ae (hS.st F);generalize wr.alloc _=B at *;generalize wr.heap.size=ge at I hne⊢;replace kr:=kr.tr F;have T:base<=B.heap.size:=VA;have hN:∀k,(iw base g vl vp va k∨vp.ownBlock=some k)->k<B.heap.size:=λk h=>h.elim (t.aa.lt T k) λh=>(t.aa.p.own h).2.1
     have Jh:vp.ownBlock≠some g:=λe=>((t.aa.sep g).2.1 e).2.1 rfl
     have qs:∀W,qU vp B W->(∀i,W.cell? ⟨g,i,none⟩=(cE ⟨s.life,s.list,s.prom.take j,s.ab⟩ vl vp va)[i]?)/\(∀i,W.cell? ⟨ge,i,none⟩=(aD x (.slice Af x.f.length U) (.slice R x.es.length Q))[i]?):=λW u=>⟨(t.aa.blk.aX u Jh).cell,(I.aX u hne).cell⟩
     have hro:∀k,vp.ownBlock=some k->w0.heap.size<=k:=λk e=>by rw[<- hbase];exact ((t.aa.sep k).2.1 e).1
     clear hS F;refine E4 7 5 (s.prom.take j) vp x 43 oH [([],[]),([0],[(36,0)]),([],[]),([2],[(38,2)]),([3],[(39,3)]),([1,4],[(37,1),(40,4)]),([],[]),([6,5],[(42,6),(41,5)])] 45 t.aa.p T aY ?_;iterate 3 refine au.i ?_
     refine au.c (tT (λk=>iw base g vl vp va k∨vp.ownBlock=some k) aU x) (λ_ _ _ h k=>h.mut k λ_ h=>.inr h) (λW' u=>(OD x _ W' (kU.aa W' (M.tr (u.k kr hro))) hxs).mono λe w' ⟨v,e1,ho,k⟩=>⟨v,e1,PH ho λk h=>bz (hN k h) u.size,k⟩) ?_;refine au.FV (S:=aU) (N:=λk=>iw base g vl vp va k∨vp.ownBlock=some k) B.heap.size oH x (λ_ h=>h.size) (λb hb=>⟨.inr hb,hN b (.inr hb)⟩) (λV W y hp=>?_) ?_
     ·exact PJ
     refine au.s ?_;refine au.i ?_;refine⟨λ_ _=>trivial,λV W y hp=>?_,λV W y hO hv hA=>?_⟩
     ·exact Ii
     simp only[aO,aQ,cz,aJ,Nat.reduceAdd]at hA;have hS:=t.aa.X7 y hO hv;obtain⟨E,C,D⟩:=hO.slice;rw[D]at hS;generalize (s.prom.take j++[x]).length=n9 at *;rw[<- HT.aa]at hS;have hA:=And.intro D hA;have hb:=t.aa.blk.aX y Jh;have qs:=And.intro hb.cell hb.frozen;refine aH.s ?_;refine aH.h ?_;have HS9:=ae hS;have k9:K w0 (W.setCell ⟨g,2,none⟩ (.slice E n9 C)):=(y.k kr hro).setCell aG _;exact afT
    ·have aP:¬(j:Int)<s.prom.length:=af;rw[fM af]at A;obtain⟨vl,vp,va,hS⟩:=A.aa;obtain⟨⟨Bl,dl,rfl⟩,⟨Bp,dp,rfl⟩,Ba,da,rfl⟩:=hS.slices;have q:=hS.blk.cell;have cO:=cS.av kr;have z:=cO.frozen;have qz:=cO.cell;obtain⟨aZ,k9,u9⟩:=Lm s (.slice Bl s.list.length dl) (.slice Bp s.prom.length dp) (.slice Ba s.ab.length da) cO rfl (M.tr kr) af;have H9:=ae (And.intro ((hS.r VA).to (u9.more λk e=>show k<base by omega) (show w.heap.size<=base by omega)) k9);clear hS A kr u9 k9 cO dL cS qp;go_wp2;clear q z qz;generalize World.setCell (World.setCell (World.setCell (World.setCell wr _ _) _ _) _ _) _ _=W9 at *;have D:=aZ.cell;refine bodyPost_ret (v:=.agg (cE s (.slice Bl s.list.length dl) (.slice Bp s.prom.length dp) (.slice Ba s.ab.length da))) (by simp[results,results303,go_sem,D]) rfl ?_;exact⟨_,_,_,rfl,cP▸H9.aa.1,H9.aa.2⟩
theorem au4 s r v u w(h:nh s v w)(U:pk r u w)(hfit:jT r)(ajU:eB r.e)(iz:∀x∈s.list,eB x)(hsp:∀x∈s.prom,eB x)(hz:s.list.length<=900000/\s.prom.length<=900000/\s.ab.length<=900000) :
 Calls prog 269 #[v,u] w λe w'=>∃vl vp va,e=.returned (.tuple #[.agg (cE (mj s r).1 vl vp va),.int .i64 (mj s r).2])/\lE (λk=>k<w.heap.size) (mj s r).1 vl vp va w'/\K w w':=by
 have Y:=ae λW (k:K w W)=>apj s v W (Ll h k) iz hsp hz
 obtain⟨vl,vp,va,rfl,hl,hp,ha⟩:=h
 obtain⟨M,cl,rfl⟩:=aw hl
 obtain⟨G,J,rfl⟩:=aw hp
 obtain⟨I,L,rfl⟩:=aw ha
 have tV:=ae (λW (k:K w W)=>QB U k)
 obtain⟨vf,ve,rfl,hf,he⟩:=U
 obtain⟨C,D,rfl⟩:=b6 hf
 obtain⟨E,y,rfl⟩:=aw he
 have HF:=ae hfit
 generalize ho:mj s r=o
 have HO:=ae ho
 obtain⟨j,e'⟩:=o
 clear ho
 have HM:=ae ajU
 clear hf he hl hp ha iz hsp hfit ajU
 have dL:=((ah.new w 46 (cE s (.slice M s.list.length cl) (.slice G s.prom.length J) (.slice I s.ab.length L))).alloc (.cells (eS r (.slice C r.e.f.length D) (.slice E r.e.es.length y)) 197)).alloc (.cells jq 46)
 have R:=(ah.new (w.alloc (.cells (cE s (.slice M s.list.length cl) (.slice G s.prom.length J) (.slice I s.ab.length L)) 46)) 197 (eS r (.slice C r.e.f.length D) (.slice E r.e.es.length y))).alloc (.cells jq 46)
 have A:=ah.new ((w.alloc (.cells (cE s (.slice M s.list.length cl) (.slice G s.prom.length J) (.slice I s.ab.length L)) 46)).alloc (.cells (eS r (.slice C r.e.f.length D) (.slice E r.e.es.length y)) 197)) 46 jq
 have O:=K.QV w (.cells (cE s (.slice M s.list.length cl) (.slice G s.prom.length J) (.slice I s.ab.length L)) 46) (.cells (eS r (.slice C r.e.f.length D) (.slice E r.e.es.length y)) 197) (.cells jq 46)
 simp only[World.size_alloc]at R A
 go_enter func269,ntmps269
 go_wp2_with fail
 generalize World.alloc (World.alloc (World.alloc w _) _) _=w0 at *
 generalize jr:w.heap.size=gp at dL R A⊢
 refine (Y.aa w0 O).mono ?_
 rintro e H⟨vl1,vp1,va1,rfl,hS,k1⟩
 have Q:=hS H (ag.rf _ _)
 obtain⟨⟨Bl,dl,rfl⟩,⟨Bp,Z,rfl⟩,Ba,da,rfl⟩:=Q.slices
 have kA:=K.new H (.cells (cE s (.slice Bl s.list.length dl) (.slice Bp s.prom.length Z) (.slice Ba s.ab.length da)) 46)
 have B:=k1.tr kA
 have q2:=(R.av B).cell
 have S:=ae Q
 have hgr:=A.lt
 have hz0:=O.size
 clear hS Q Y dL
 go_wp2_with fail
 generalize World.alloc H _=w2 at *
 generalize H.heap.size=g at *
 have Gr:=O.tr B
 have X:MG w0.heap.size g s r (.slice Bl s.list.length dl) (.slice Bp s.prom.length Z) (.slice Ba s.ab.length da) (.agg (eS r (.slice C r.e.f.length D) (.slice E r.e.es.length y))) w2 :=
  ⟨S.aa,λW' u'=>tV.aa W' (u'.k Gr λk e=>by have:=S.aa.sep k;have:=S.aa.low;unfold X8 at e;grind),B.size,hz,HM.aa,HF.aa⟩
 have t:=ad6 w2 X
 rw[HO.aa]at t
 have t:=ae t
 clear q2 X
 apply bF t.aa
 rintro w3⟨⟨vl,vp,va,F⟩,bG⟩
 simp only at F⊢
 obtain⟨⟨T,fl,rfl⟩,⟨Ep,fp,rfl⟩,V,fa,rfl⟩:=F.slices
 have q:=F.blk.cell
 have N:=(A.av B).below bG hgr
 have z:=N.frozen
 have qz:=N.cell
 obtain⟨aZ,k9,u9⟩:=Lm j (.slice T j.list.length fl) (.slice Ep j.prom.length fp) (.slice V j.ab.length fa) N rfl (Gr.trans (bG.mono hz0)) af
 have H9:=ae (And.intro (F.fx.up u9 λk e=>show k<w0.heap.size by omega) k9)
 clear F N A t B kA k1 k9 u9
 go_wp2
 clear q z qz
 generalize World.setCell (World.setCell (World.setCell (World.setCell w3 _ _) _ _) _ _) _ _=W9 at *
 have e9:=aZ.cell
 refine bodyPost_ret (v:=.tuple #[.agg (cE j (.slice T j.list.length fl) (.slice Ep j.prom.length fp) (.slice V j.ab.length fa)),.int .i64 e']) (by simp[results,results269,go_sem,e9]) rfl ?_
 exact⟨_,_,_,rfl,H9.aa.1.less λk h=>af,H9.aa.2⟩
theorem au5 n l wr:∀a∈(lR n l wr).1,mX a:=by
 simp only[lR]
 cases hd:sJ (aL n l wr).1 with
 | none=>simp
 | some e=>exact (ac2 hd).2.2
theorem au6 n l wr:∀a∈(pQ n l wr).1,jh a:=by
 simp only[pQ]
 cases hd:qI (aL n l wr).1 with
 | none=>simp
 | some e=>exact (ac1 hd).2.2
theorem axX l wr:(gD l wr).1.2.2.1<18446744073709551616/\(gD l wr).1.2.2.2.1<18446744073709551616/\(gD l wr).1.2.2.2.2.2<18446744073709551616 :=
 ⟨nz _ _,nz _ _,nz _ _⟩
theorem UH a f es(j:a.2.2.1<18446744073709551616)(u:a.2.2.2.1<18446744073709551616)(y:a.2.2.2.2.2<18446744073709551616)(A:∀t∈f,jh t)(B:∀e∈es,∀a∈e,mX a) :
 cD { nZ a with f:=f,es:=es }:=by
 grind [jh,mX,cD,nZ,cJ]
theorem au7 n l wr:cD (pR n l wr).1:=by
 obtain⟨j,u,t⟩:=axX l wr;unfold pR;split
 ·exact UH _ [] _ j u t aj (aeQ (λe=>∀a∈e,mX a) (au5 n) _ _ _)
 ·split
  ·exact UH _ _ [] j u t (au6 n _ _) aj
  ·exact UH _ [] [] j u t aj aj
theorem adg{b x}(h:iC b=some x):cD x:=by
 grind [iC,au7]
theorem Pb:cD dz:=by simp[cD,dz,cJ]
theorem as9 n l wr:jT (mP n l wr).1:=by
 have j:∀(k m:Nat) (e:aK) (b c d:Nat),cD e->m<18446744073709551616->c<18446744073709551616->d<18446744073709551616->jT ⟨(min k 6:Nat),m,e,(min b 16:Nat),c,d⟩:=by
  grind [jT,mP,cJ]
 unfold mP;simp only;split
 ·split
  ·simp[jT,IP,cJ,Pb]
  ·rename_i e t;have:=j (ax l wr).1 _ _ 0 0 0 (adg t) (nz (ax l wr).2.1 (ax l wr).2.2) af af;simpa using this
 ·split
  ·exact j _ _ _ _ _ _ Pb (nz _ _) (nz _ _) (nz _ _)
  ·have:=j (ax l wr).1 _ _ 0 0 0 Pb (nz (ax l wr).2.1 (ax l wr).2.2) af af;simpa using this
theorem arq{b x}(h:mN b=some x):jT x:=by
 unfold mN at h;split at h
 ·injection h with h;rw[<- h];exact as9 _ _ _
 ·cases h
