/-
  The walk of table.Cut (layer 15). Conditions: lists of at most a million.
-/
import Derived.Test.YtfndfpdhlbmboaaGreatMd23
import Derived.Test.YtfndfpdhlbmboaaGreatMdz
set_option maxRecDepth 100000
set_option linter.constructorNameAsVariable false
set_option maxHeartbeats 16000000
set_option linter.unusedVariables false
set_option linter.unusedSimpArgs false
namespace Go.Proofs.YtfndfpdhlbmboaaGreat
open Go Go.RowKit _root_.Go.Proofs.Tryz
theorem axF{e}(h:fN e=true):∀x∈e,ll x=true:=by
 simp only[fN,dC,decide_eq_true_eq]at h;have key:∀(l:List cZ) (p:Option ByteArray),jW p l=true->∀x∈l,ll x=true:=by
  intro l
  induction l with
  | nil=>intro p _ x j;simp at j
  | cons y l t =>
   grind [fN,ll,jW]
 exact key e none h.2
theorem asJ{l cs}{es:List (List cZ)}(t:∀s∈l,okF s.f=true)(j:∀e∈es,fN e=true):es.filter (ky (sL ((qR l cs).map (·.f))))=es.filter (anyS (qR l cs)):=by
 refine List.filter_congr λe hm=>?_
 rw[asD (λf u=>?_) (axF (j e hm))]
 ·grind [ky,anyS,List.any_map]
 ·grind [okF,fN,ky,sL,qR,anyS]
theorem asK l e v t g w(u:aq oN l v w)(hg:ai w g 206 #[v])(j:ji e t w)(C:l.length<=1000000)(E:∀f∈l,f.length<=1000000)(D:e.length<=1000000) :
 Calls prog 256 #[t,.pointer (some ⟨g,0,none⟩)] w λr w'=>r=.returned (.bool (ky l e))/\K w w':=by
 have y:=ae (auo l e v t w u j C E D)
 obtain⟨G,H,rfl⟩:=yy j
 obtain⟨A,c,rfl⟩:=av u
 generalize ky l e=R at *
 clear u j
 have q:=hg.cell
 go_enter func256,ntmps256
 go_wp2_with fail
 apply aM y.aa
 intro F B
 clear y q hg
 go_wp2
 go_ret
 exact⟨rfl,B⟩
theorem ad5 l cs x v vc vx w(h:aq iI l v w)(hc:aq cQ cs vc w)(J:dm x vx w)(hlen:l.length<=500000)(hcl:cs.length<=1000000)(hs:∀s∈l,okF s.f=true)(hok:bJ x=true) :
 Calls prog 162 #[v,vc,vx] w λe w'=>∃v',e=.returned v'/\wy w.heap.size (jE l cs x) v' w'/\K w w':=by
 have U:=ae (vO hok)
 have Fi:∀s∈l,s.f.length<=1000000:=λs hs'=>by have:=(DF (hs s hs')).1;omega
 have CF:=ae λW (k:K w W)=>apu l cs v vc W (bo h k) (bo hc k) hlen hcl Fi
 have Tk:Hid ((sL ((qR l cs).map (·.f))).length<=1000000/\∀f∈sL ((qR l cs).map (·.f)),f.length<=1000000):=ae (by
  have h1:(qR l cs).length<=l.length:=mw _ _;refine⟨?_,λf hf=>?_⟩
  ·have:=@Vw ((qR l cs).map (·.f)) [];unfold sL;simp at this;omega
  ·have:=Vv hf;simp only[List.not_mem_nil,false_or]at this;obtain⟨s,hs',rfl⟩:=List.mem_map.1 this;exact Fi s (List.mem_filter.1 hs').1)
 have HCF:Hid (x.kind=1->x.es.filter (ky (sL ((qR l cs).map (·.f))))=x.es.filter (anyS (qR l cs))):=ae λhk=>asJ hs (by
  unfold bJ at hok;rw[if_pos hk]at hok;simp only[dC,xC]at hok;exact hok.2.2)
 have Tm:Hid (jE l cs x=if x.kind=1 then { x with es:=x.es.filter (anyS (qR l cs)) }else x):=ae rfl
 obtain⟨vf,ve,rfl,hf,he⟩:=J
 have HF:=ae hf
 have HE:=ae he
 obtain⟨T,Y,rfl⟩:=cA hf
 obtain⟨Ae,ce,rfl⟩:=av he
 obtain⟨A,d,rfl⟩:=av h
 obtain⟨Ac,cc,rfl⟩:=av hc
 generalize sL ((qR l cs).map (·.f))=RF at *
 generalize jE l cs x=R at *
 have k1:=K.lW w (.cells (aE x (.slice T x.f.length Y) (.slice Ae x.es.length ce)) 126) (.cells #[.int .i64 0,.int .i64 0,.int .u64 0,.int .u64 0,.int .i64 0,.int .u64 0,.slice none 0 0,.slice none 0 0] 126)
 have hb:=(ai.new w 126 (aE x (.slice T x.f.length Y) (.slice Ae x.es.length ce))).alloc (.cells #[.int .i64 0,.int .i64 0,.int .u64 0,.int .u64 0,.int .i64 0,.int .u64 0,.slice none 0 0,.slice none 0 0] 126)
 have L:=ai.new (w.alloc (.cells (aE x (.slice T x.f.length Y) (.slice Ae x.es.length ce)) 126)) 126 #[.int .i64 0,.int .i64 0,.int .u64 0,.int .u64 0,.int .i64 0,.int .u64 0,.slice none 0 0,.slice none 0 0]
 have hz:(w.alloc (.cells (aE x (.slice T x.f.length Y) (.slice Ae x.es.length ce)) 126)).heap.size=w.heap.size+1:=aj
 rw[hz]at L
 clear hf he h hc Fi hs hok hz
 go_enter func162,ntmps162
 go_upto_region 1 with (fail)
 generalize World.alloc (World.alloc w _) _=w1 at *
 generalize jM:w.heap.size=lo at hb L⊢
 have lQ:=ae jM.symm
 have YZ:=L.lt
 have hz1:=k1.size
 clear jM
 by_cases hk:x.kind=1
 rotate_left
 ·have hkb:(x.kind==1)=false:=tk;obtain⟨es,H⟩:∃es,es=x.es:=⟨_,rfl⟩;have Ki:Hid (R={ x with es:=es }):=ae (by rw[Tm.aa,if_neg hk,H]);have jX:es.length<=1000000:=by rw[H];exact U.aa.2.1
  have ew:∀e∈es,e.length<=1000000:=by rw[H];exact U.aa.2.2
  have hle:aq cO es (.slice Ae es.length ce) w1:=by rw[H];exact bo HE.aa k1
  have J:ai w1 lo 126 (aE x (.slice T x.f.length Y) (.slice Ae es.length ce)):=by rw[H];exact hb
  have q0:=J.cell;have kA:=k1;have sU:=YZ;clear hk H Tm HCF HE hb k1 YZ hz1 CF Tk;generalize w1=wA at *;go_upto_region 4 with (fail);clear q0;have CE:=ae (Uq es _ wA hle jX ew);have q:=J.cell;go_wp2_with fail
  apply bS CE.aa;rintro v5 G⟨cK,F⟩;have M:=J.ay F;have N5:=L.ay F;have NS:=kA.size;have hzB:=F.size;clear CE q J L hle;have q:=M.cell;have z:=M.frozen;obtain⟨B,c5,rfl⟩:=av cK.tO.aq;go_upto_region 5 with (fail);have H8:ai (G.setCell ⟨lo,7,none⟩ (.slice B es.length c5)) lo 126 (aE x (.slice T x.f.length Y) (.slice B es.length c5)):=M.aQ 7 _;have N6:=N5.far (p:=⟨lo,7,none⟩) aj (.slice B es.length c5);have kC:K w (G.setCell ⟨lo,7,none⟩ (.slice B es.length c5)):=K.set (kA.tr F) LG 7 _;have MC:=cK.up (w':=G.setCell ⟨lo,7,none⟩ (.slice B es.length c5)) (aD _) (aI.set af 7 _);have hzC:(G.setCell ⟨lo,7,none⟩ (.slice B es.length c5)).heap.size=G.heap.size:=aj;clear M N5 cK q z;generalize G.setCell _ _=wC at *;have CT:=ae (Uw x.f _ wC (eO _ _ _ _ HF.aa kC) (U.aa.1));have q:=H8.cell;go_wp2_with fail
  apply bS CT.aa;rintro v6 I⟨Ia,N⟩;have O:=H8.ay N;have N7:=N6.ay N;have MD:=MC.st N;clear CT q H8 N6 MC;have q:=O.cell;have z:=O.frozen;have Y0:=cA (xA Ia);obtain⟨t,j,rfl⟩:=Y0;go_upto_region 6 with (fail);have hxE:ai (I.setCell ⟨lo,6,none⟩ (.slice t x.f.length j)) lo 126 (aE x (.slice t x.f.length j) (.slice B es.length c5)):=O.aQ 6 _;have Z:=N7.far (p:=⟨lo,6,none⟩) aj (.slice t x.f.length j);have kE:K w (I.setCell ⟨lo,6,none⟩ (.slice t x.f.length j)):=K.set (kC.tr N) LG 6 _;have Y2:=MD.up (w':=I.setCell ⟨lo,6,none⟩ (.slice t x.f.length j)) (aD _) (aI.set af 6 _);have Y4:fT (I.setCell ⟨lo,6,none⟩ (.slice t x.f.length j)) wC.heap.size (.slice t x.f.length j) x.f:=fT.up Ia (aI.set af 6 _);clear O N7 MD Ia q z;generalize I.setCell _ _=C at *;have q:=hxE.cell;have y:=Z.cell;have z:=Z.frozen;have E:w.heap.size<=lo+1:=by rw[lQ.aa];omega
  have D:=sU;go_wp2;have dc:ai (World.setCell C _ _) (lo+1) 126 #[.int .i64 x.kind,.int .i64 0,.int .u64 0,.int .u64 0,.int .i64 0,.int .u64 0,.slice none 0 0,.slice none 0 0]:=Z.aQ 0 (.int .i64 x.kind);have hr1:ai (World.setCell (World.setCell C _ _) _ _) (lo+1) 126 #[.int .i64 x.kind,.int .i64 x.br,.int .u64 0,.int .u64 0,.int .i64 0,.int .u64 0,.slice none 0 0,.slice none 0 0]:=dc.aQ 1 (.int .i64 x.br);have V:ai (World.setCell (World.setCell (World.setCell C _ _) _ _) _ _) (lo+1) 126 #[.int .i64 x.kind,.int .i64 x.br,.int .u64 x.life,.int .u64 0,.int .i64 0,.int .u64 0,.slice none 0 0,.slice none 0 0]:=hr1.aQ 2 (.int .u64 x.life);have S:ai (World.setCell (World.setCell (World.setCell (World.setCell C _ _) _ _) _ _) _ _) (lo+1) 126 #[.int .i64 x.kind,.int .i64 x.br,.int .u64 x.life,.int .u64 x.b6,.int .i64 0,.int .u64 0,.slice none 0 0,.slice none 0 0]:=V.aQ 3 (.int .u64 x.b6);have Q:ai (World.setCell (World.setCell (World.setCell (World.setCell (World.setCell C _ _) _ _) _ _) _ _) _ _) (lo+1) 126 #[.int .i64 x.kind,.int .i64 x.br,.int .u64 x.life,.int .u64 x.b6,.int .i64 x.cl,.int .u64 0,.slice none 0 0,.slice none 0 0]:=S.aQ 4 (.int .i64 x.cl);have iy:ai (World.setCell (World.setCell (World.setCell (World.setCell (World.setCell (World.setCell C _ _) _ _) _ _) _ _) _ _) _ _) (lo+1) 126 #[.int .i64 x.kind,.int .i64 x.br,.int .u64 x.life,.int .u64 x.b6,.int .i64 x.cl,.int .u64 x.sub,.slice none 0 0,.slice none 0 0]:=Q.aQ 5 (.int .u64 x.sub);have nP:ai (World.setCell (World.setCell (World.setCell (World.setCell (World.setCell (World.setCell (World.setCell C _ _) _ _) _ _) _ _) _ _) _ _) _ _) (lo+1) 126 #[.int .i64 x.kind,.int .i64 x.br,.int .u64 x.life,.int .u64 x.b6,.int .i64 x.cl,.int .u64 x.sub,.slice t x.f.length j,.slice none 0 0]:=iy.aQ 6 (.slice t x.f.length j);have jY:ai (World.setCell (World.setCell (World.setCell (World.setCell (World.setCell (World.setCell (World.setCell (World.setCell C _ _) _ _) _ _) _ _) _ _) _ _) _ _) _ _) (lo+1) 126 #[.int .i64 x.kind,.int .i64 x.br,.int .u64 x.life,.int .u64 x.b6,.int .i64 x.cl,.int .u64 x.sub,.slice t x.f.length j,.slice B es.length c5]:=nP.aQ 7 (.slice B es.length c5);have U9:=(((((((((aI.rf wA.heap.size none C).tr (aI.set (b:=lo+1) D 0 (.int .i64 x.kind))).tr (aI.set (b:=lo+1) D 1 (.int .i64 x.br))).tr (aI.set (b:=lo+1) D 2 (.int .u64 x.life))).tr (aI.set (b:=lo+1) D 3 (.int .u64 x.b6))).tr (aI.set (b:=lo+1) D 4 (.int .i64 x.cl))).tr (aI.set (b:=lo+1) D 5 (.int .u64 x.sub))).tr (aI.set (b:=lo+1) D 6 (.slice t x.f.length j))).tr (aI.set (b:=lo+1) D 7 (.slice B es.length c5)));have K9:=(K.set (K.set (K.set (K.set (K.set (K.set (K.set (K.set kE (r:=lo+1) E 0 (.int .i64 x.kind)) (r:=lo+1) E 1 (.int .i64 x.br)) (r:=lo+1) E 2 (.int .u64 x.life)) (r:=lo+1) E 3 (.int .u64 x.b6)) (r:=lo+1) E 4 (.int .i64 x.cl)) (r:=lo+1) E 5 (.int .u64 x.sub)) (r:=lo+1) E 6 (.slice t x.f.length j)) (r:=lo+1) E 7 (.slice B es.length c5));clear q y z dc hr1 V S Q iy nP;generalize (World.setCell (World.setCell (World.setCell (World.setCell (World.setCell (World.setCell (World.setCell (World.setCell C _ _) _ _) _ _) _ _) _ _) _ _) _ _) _ _)=W9 at *;have e9:=jY.cell;refine bodyPost_ret (v:=.agg #[.int .i64 x.kind,.int .i64 x.br,.int .u64 x.life,.int .u64 x.b6,.int .i64 x.cl,.int .u64 x.sub,.slice t x.f.length j,.slice B es.length c5]) aiw rfl ?_;refine⟨_,rfl,?_,K9⟩;rw[Ki.aa];exact⟨_,_,rfl,mN af (fT.up Y4 (U9.more af (λ_ _ _=>aj))),aX.low (aX.floor (Y2.up (aD _) (U9.more af (λ_ _ _=>aj))) af) af⟩
 have hkb:(x.kind==1)=true:=tk
 have Bk:=ae (HCF.aa hk)
 have G1:Hid (R={ x with es:=x.es.filter (anyS (qR l cs)) }):=ae (by rw[Tm.aa,if_pos hk])
 have q0:=hb.cell
 have C1:=ae (CF.aa w1 k1)
 clear hk HCF Tm CF
 go_wp2_with fail
 apply bS C1.aa
 rintro v2 w2⟨Mr,k2⟩
 obtain⟨A2,c2,rfl⟩:=av Mr
 have hb2:=hb.ay k2
 have V:=L.ay k2
 have bD:=k1.tr k2
 clear C1 hb L q0
 go_upto_region 3 with (fail)
 have iH:=ai.new w2 206 #[.slice A2 RF.length c2]
 have F:=iH.aU
 have bG:=hb2.ay F
 have S:=V.ay F
 have lK:=bD.tr F
 have H3:=ae (bo Mr F)
 have hz2:=k2.size
 clear hb2 V Mr
 generalize w2.alloc _=w3 at *
 generalize w2.heap.size=g3 at iH hz2⊢
 have EX:=(Jb HE.aa).st lK
 have C2:=ae (acz (λk=>w.heap.size<=k) x.es _ (ky RF) 256 #[.pointer (some ⟨g3,0,none⟩)] w3 EX U.aa.2.1 (λ_ _=>cV) λW k e he u hu=>asK RF e _ u g3 W (bo H3.aa k) (iH.ay k) hu Tk.aa.1 Tk.aa.2 (U.aa.2.2 e he))
 have q3:=bG.cell
 clear EX
 go_wp2_with fail
 apply bS C2.aa
 rintro v4 w4⟨cI,k4⟩
 obtain⟨es,H⟩:∃es,es=x.es.filter (ky RF):=⟨_,rfl⟩
 have Ki:Hid (R={ x with es:=es }):=ae (by rw[G1.aa,H,Bk.aa])
 have jX:es.length<=1000000:=by rw[H];exact bn (mw _ _) U.aa.2.1
 have ew:∀e∈es,e.length<=1000000:=by rw[H];exact λe he=>U.aa.2.2 e (List.mem_filter.1 he).1
 rw[<- H]at cI
 have hb4:=bG.ay k4
 have Q:=S.ay k4
 have s5:=lK.tr k4
 have ix:=k4.size
 have fL:=iH.lt
 clear C2 q3 bG S H G1 Bk
 have bT:=cI.blk
 obtain⟨A4,c4,rfl⟩:=cI.slice
 have q:=hb4.cell
 have z:=hb4.frozen
 go_upto_region 4 with (fail)
 have J:ai (w4.setCell ⟨lo,7,none⟩ (.slice A4 es.length c4)) lo 126 (aE x (.slice T x.f.length Y) (.slice A4 es.length c4)):=hb4.aQ 7 _
 have L:=Q.far (p:=⟨lo,7,none⟩) aj (.slice A4 es.length c4)
 have kA:K w (w4.setCell ⟨lo,7,none⟩ (.slice A4 es.length c4)):=K.set s5 LG 7 _
 have hle:aq cO es (.slice A4 es.length c4) (w4.setCell ⟨lo,7,none⟩ (.slice A4 es.length c4)):=(cI.to (X:=λk=>k=lo) (Y':=λ_=>False) (ag.bM (X:=λk=>k=lo) rfl 7 _) (λk hk=>by rw[hk,lQ.aa];exact aD _) (λk hk e=>aA) (λk _ hk=>hk.elim)).aq
 have sU:lo+1<(w4.setCell ⟨lo,7,none⟩ (.slice A4 es.length c4)).heap.size:=by have:=Q.lt;simpa using this
 clear hb4 Q cI q z s5 bD lK k1 YZ hz1 iH H3 Tk F k2 k4 bT fL hz2 ix HE
 generalize w4.setCell _ _=wA at *
 have CE:=ae (Uq es _ wA hle jX ew)
 have q:=J.cell
 go_wp2_with fail
 apply bS CE.aa
 rintro v5 G⟨cK,F⟩
 have M:=J.ay F
 have N5:=L.ay F
 have NS:=kA.size
 have hzB:=F.size
 clear CE q J L hle
 have q:=M.cell
 have z:=M.frozen
 obtain⟨B,c5,rfl⟩:=av cK.tO.aq
 go_upto_region 5 with (fail)
 have H8:ai (G.setCell ⟨lo,7,none⟩ (.slice B es.length c5)) lo 126 (aE x (.slice T x.f.length Y) (.slice B es.length c5)):=M.aQ 7 _
 have N6:=N5.far (p:=⟨lo,7,none⟩) aj (.slice B es.length c5)
 have kC:K w (G.setCell ⟨lo,7,none⟩ (.slice B es.length c5)):=K.set (kA.tr F) LG 7 _
 have MC:=cK.up (w':=G.setCell ⟨lo,7,none⟩ (.slice B es.length c5)) (aD _) (aI.set af 7 _)
 have hzC:(G.setCell ⟨lo,7,none⟩ (.slice B es.length c5)).heap.size=G.heap.size:=aj
 clear M N5 cK q z
 generalize G.setCell _ _=wC at *
 have CT:=ae (Uw x.f _ wC (eO _ _ _ _ HF.aa kC) (U.aa.1))
 have q:=H8.cell
 go_wp2_with fail
 apply bS CT.aa
 rintro v6 I⟨Ia,N⟩
 have O:=H8.ay N
 have N7:=N6.ay N
 have MD:=MC.st N
 clear CT q H8 N6 MC
 have q:=O.cell
 have z:=O.frozen
 have Y0:=cA (xA Ia)
 obtain⟨t,j,rfl⟩:=Y0
 go_upto_region 6 with (fail)
 have hxE:ai (I.setCell ⟨lo,6,none⟩ (.slice t x.f.length j)) lo 126 (aE x (.slice t x.f.length j) (.slice B es.length c5)):=O.aQ 6 _
 have Z:=N7.far (p:=⟨lo,6,none⟩) aj (.slice t x.f.length j)
 have kE:K w (I.setCell ⟨lo,6,none⟩ (.slice t x.f.length j)):=K.set (kC.tr N) LG 6 _
 have Y2:=MD.up (w':=I.setCell ⟨lo,6,none⟩ (.slice t x.f.length j)) (aD _) (aI.set af 6 _)
 have Y4:fT (I.setCell ⟨lo,6,none⟩ (.slice t x.f.length j)) wC.heap.size (.slice t x.f.length j) x.f:=fT.up Ia (aI.set af 6 _)
 clear O N7 MD Ia q z
 generalize I.setCell _ _=C at *
 have q:=hxE.cell
 have y:=Z.cell
 have z:=Z.frozen
 have E:w.heap.size<=lo+1:=by rw[lQ.aa];omega
 have D:=sU
 go_wp2
 have dc:ai (World.setCell C _ _) (lo+1) 126 #[.int .i64 x.kind,.int .i64 0,.int .u64 0,.int .u64 0,.int .i64 0,.int .u64 0,.slice none 0 0,.slice none 0 0]:=Z.aQ 0 (.int .i64 x.kind)
 have hr1:ai (World.setCell (World.setCell C _ _) _ _) (lo+1) 126 #[.int .i64 x.kind,.int .i64 x.br,.int .u64 0,.int .u64 0,.int .i64 0,.int .u64 0,.slice none 0 0,.slice none 0 0]:=dc.aQ 1 (.int .i64 x.br)
 have V:ai (World.setCell (World.setCell (World.setCell C _ _) _ _) _ _) (lo+1) 126 #[.int .i64 x.kind,.int .i64 x.br,.int .u64 x.life,.int .u64 0,.int .i64 0,.int .u64 0,.slice none 0 0,.slice none 0 0]:=hr1.aQ 2 (.int .u64 x.life)
 have S:ai (World.setCell (World.setCell (World.setCell (World.setCell C _ _) _ _) _ _) _ _) (lo+1) 126 #[.int .i64 x.kind,.int .i64 x.br,.int .u64 x.life,.int .u64 x.b6,.int .i64 0,.int .u64 0,.slice none 0 0,.slice none 0 0]:=V.aQ 3 (.int .u64 x.b6)
 have Q:ai (World.setCell (World.setCell (World.setCell (World.setCell (World.setCell C _ _) _ _) _ _) _ _) _ _) (lo+1) 126 #[.int .i64 x.kind,.int .i64 x.br,.int .u64 x.life,.int .u64 x.b6,.int .i64 x.cl,.int .u64 0,.slice none 0 0,.slice none 0 0]:=S.aQ 4 (.int .i64 x.cl)
 have iy:ai (World.setCell (World.setCell (World.setCell (World.setCell (World.setCell (World.setCell C _ _) _ _) _ _) _ _) _ _) _ _) (lo+1) 126 #[.int .i64 x.kind,.int .i64 x.br,.int .u64 x.life,.int .u64 x.b6,.int .i64 x.cl,.int .u64 x.sub,.slice none 0 0,.slice none 0 0]:=Q.aQ 5 (.int .u64 x.sub)
 have nP:ai (World.setCell (World.setCell (World.setCell (World.setCell (World.setCell (World.setCell (World.setCell C _ _) _ _) _ _) _ _) _ _) _ _) _ _) (lo+1) 126 #[.int .i64 x.kind,.int .i64 x.br,.int .u64 x.life,.int .u64 x.b6,.int .i64 x.cl,.int .u64 x.sub,.slice t x.f.length j,.slice none 0 0]:=iy.aQ 6 (.slice t x.f.length j)
 have jY:ai (World.setCell (World.setCell (World.setCell (World.setCell (World.setCell (World.setCell (World.setCell (World.setCell C _ _) _ _) _ _) _ _) _ _) _ _) _ _) _ _) (lo+1) 126 #[.int .i64 x.kind,.int .i64 x.br,.int .u64 x.life,.int .u64 x.b6,.int .i64 x.cl,.int .u64 x.sub,.slice t x.f.length j,.slice B es.length c5]:=nP.aQ 7 (.slice B es.length c5)
 have U9:=(((((((((aI.rf wA.heap.size none C).tr (aI.set (b:=lo+1) D 0 (.int .i64 x.kind))).tr (aI.set (b:=lo+1) D 1 (.int .i64 x.br))).tr (aI.set (b:=lo+1) D 2 (.int .u64 x.life))).tr (aI.set (b:=lo+1) D 3 (.int .u64 x.b6))).tr (aI.set (b:=lo+1) D 4 (.int .i64 x.cl))).tr (aI.set (b:=lo+1) D 5 (.int .u64 x.sub))).tr (aI.set (b:=lo+1) D 6 (.slice t x.f.length j))).tr (aI.set (b:=lo+1) D 7 (.slice B es.length c5)))
 have K9:=(K.set (K.set (K.set (K.set (K.set (K.set (K.set (K.set kE (r:=lo+1) E 0 (.int .i64 x.kind)) (r:=lo+1) E 1 (.int .i64 x.br)) (r:=lo+1) E 2 (.int .u64 x.life)) (r:=lo+1) E 3 (.int .u64 x.b6)) (r:=lo+1) E 4 (.int .i64 x.cl)) (r:=lo+1) E 5 (.int .u64 x.sub)) (r:=lo+1) E 6 (.slice t x.f.length j)) (r:=lo+1) E 7 (.slice B es.length c5))
 clear q y z dc hr1 V S Q iy nP
 generalize (World.setCell (World.setCell (World.setCell (World.setCell (World.setCell (World.setCell (World.setCell (World.setCell C _ _) _ _) _ _) _ _) _ _) _ _) _ _) _ _)=W9 at *
 have e9:=jY.cell
 refine bodyPost_ret (v:=.agg #[.int .i64 x.kind,.int .i64 x.br,.int .u64 x.life,.int .u64 x.b6,.int .i64 x.cl,.int .u64 x.sub,.slice t x.f.length j,.slice B es.length c5]) aiw rfl ?_
 refine⟨_,rfl,?_,K9⟩
 rw[Ki.aa]
 exact⟨_,_,rfl,mN af (fT.up Y4 (U9.more af (λ_ _ _=>aj))),aX.low (aX.floor (Y2.up (aD _) (U9.more af (λ_ _ _=>aj))) af) af⟩
def xu(par ah:List Int)(k:Int)(j:Nat):List Int:=((List.range j).filter λc=>match ah[c]? with|some h=>Db par k h|none=>false).map λ(c:Nat)=>(c:Int)
theorem apv{par ah:List Int}{k:Int}{j:Nat}(h:j<ah.length):xu par ah k (j+1)=if Db par k ah[j]then xu par ah k j++[(j:Int)]else xu par ah k j:=by unfold xu;rw[List.range_succ,List.filter_append,List.map_append];have t:ah[j]?=some ah[j]:=List.getElem?_eq_getElem h;cases hu:Db par k ah[j] <;> simp[t,hu]
theorem ace par ah k j:(xu par ah k j).length<=j:=by
 grind [xu]
theorem aoZ{M p B w}(h:bB M p B w)(D:bE B) t :
 Calls prog 160 #[.pointer (some ⟨p.g,0,none⟩),.int .i64 t] w λe w'=>∃v',e=.returned v'/\aB (λk=>k<w.heap.size) w.heap.size 3 cQ (vT B t) v' w'/\K w w':=by
 have HR:Hid (vT B t=xu B.par B.ah t B.ah.length):=ae rfl
 have hlen:=FN D.hm
 have hpl:=(sA D.tr).2
 have y:=ae λW (k:K w W)=>(h.bK.at k).par
 have U:=h.bK.now.ah
 have q:=h.q
 obtain⟨g,gl,gd,gr,gt,vd,vr,vp,vh,vl,vq,va,vt,vf,vw,kr⟩:=p
 simp only at q U y
 have hvp:=av (y.aa w (K.rf w))
 obtain⟨Ap,cp,rfl⟩:=hvp
 have CU:=ae λW (k:K w W) b=>atJ B.par t b _ W (y.aa W k) af
 generalize vT B t=R at *
 obtain⟨A,c1,rfl,hl,-⟩:=U
 have C:=K.rf w
 have X:=aB.nil (λk=>k<w.heap.size) w.heap.size 3 cQ w
 have q1:=q w C
 clear h D y
 go_enter func160,ntmps160
 go_wp2_with fail
 clear q1
 go_loopw [5,6,7,13] (fun vo _ _ i W=>∃j:Nat,j<=B.ah.length/\i=.int .i64 j/\aB (fun k=>k<w.heap.size) w.heap.size 3 cQ (xu B.par B.ah t j) vo W/\K w W) (fun _ _ _ i _=>B.ah.length-(intOf i).toNat)
 case atStart=>exact⟨0,af,rfl,X,C⟩
 case round =>
  clear X C;obtain⟨j,hj,rfl,hO,kr⟩:=hrel;by_cases F:j<B.ah.length
  ·have aP:(j:Int)<B.ah.length:=af;obtain⟨b1,off,rfl,V⟩:=ints_at hl af;have q2:=V wr kr j F;have q3:=q wr kr;have J:=ae (apv (par:=B.par) (k:=t) F);have hcl:=ace B.par B.ah t j;generalize B.ah[j]=hm at *;have C1:=ae (CU.aa wr kr hm);generalize xu B.par B.ah t j=o at *;obtain⟨I,Z,rfl⟩:=hO.slice;clear V;go_wp2_with fail
   apply cG C1.aa kr;intro H k2 T;have E:=hO.st k2;clear C1 q2 q3 hO;cases hu:Db B.par t hm
   ·have y:Hid (xu B.par B.ah t (j+1)=o):=ae (by rw[J.aa,hu];rfl);clear hu;go_wp2;go_roundw
    case rel=>exact⟨j+1,af,bI,by rw[y.aa];exact E,T⟩
    case measure=>simp[intOf];omega
   have y:Hid (xu B.par B.ah t (j+1)=o++[(j:Int)]):=ae (by rw[J.aa,hu];rfl);have Q:=eD.new (S:=cQ) (e:=3) (x:=(j:Int)) (v:=.int .i64 j) (w:=H) (N:=λk=>k<w.heap.size∨(Value.slice I o.length Z).ownBlock=some k) (λW u=>rfl) 0 (eV _);have Y:=K.new H (.cells #[.int .i64 j] 3);have L:=E.st Y;have G:=T.tr Y;have rr:=G.size;clear E hu;go_wp2_with (at_builtin;refine jN rfl _ _ 23 rfl _ 1 8 De rfl rfl L _ rfl (j:Int) ?p1 ?p2 ?p3 ?_)
   case p1=>exact Q
   case p2=>omega
   case p3=>simpa using rr
   intro v9 w9 bq bC cY O;have vF:=G.trans O;clear Q L bC cY O;go_wp2;go_roundw
   case rel=>exact⟨j+1,af,bI,by rw[y.aa];exact bq,vF⟩
   case measure=>simp[intOf];omega
  ·have aP:¬(j:Int)<B.ah.length:=af;obtain rfl:j=B.ah.length:=af;rw[<- HR.aa]at hO;obtain⟨I,Z,rfl⟩:=hO.slice;exact Ql
theorem aB.Y5{α S Y base e l go cap w}(h:aB Y base e S l (.slice (some ⟨go,0,none⟩) l.length cap) w){j}(G:j<l.length){y:α}{cs}(J:cs.length=S.size)
 (F:Fx (λk=>Y k∨k=go) (λW=>S.rel y cs W) (ef w go (j*S.size) cs)):aB Y base e S (l.set j y) (.slice (some ⟨go,0,none⟩) l.length cap) (ef w go (j*S.size) cs):=by
 obtain⟨css,I,L,t⟩:=h
 have A:=t w (ag.rf _ _)
 have E:j<css.length:=af
 have C:=A.lens
 have M:=A.Gl
 have hb:j*S.size+S.size<=l.length*S.size:=by
  have:=Nat.mul_le_mul_right S.size (show j+1<=l.length from G)
  grind
 have H:=Py cs css.flatten (j*S.size) w I af
 have B:=OQ S.size cs css C j 0 E af
 rw[Nat.add_zero]at B
 rw[B,UD cs css[j] 0 aA,Yd,aO]at H
 refine⟨css.set j cs,aA,aA,λw' u=>?_⟩
 have D:ag (λk=>Y k∨(Value.slice (some ⟨go,0,none⟩) l.length cap).ownBlock=some k) w (ef w go (j*S.size) cs):=ag.sets (X:=λk=>Y k∨(Value.slice (some ⟨go,0,none⟩) l.length cap).ownBlock=some k) (.inr rfl) cs _ w
 exact (t w' (D.tr u)).set j (F w' (u.more λk hk=>hk.imp id λe=>by simpa [Value.ownBlock]using e.symm))
def qU(L:List aK)(cs:List Int)(n j:Nat)(l:List aK):List aK:=l.zipIdx.map λp=>if p.2<j then jE (kV (L.take (n+p.2))) cs p.1 else p.1
theorem aur L cs n l:qU L cs n 0 l=l:=by simp[qU]
theorem FO L cs n j l:(qU L cs n j l).length=l.length:=by simp[qU]
theorem axG L cs n j l(h:j<l.length):(qU L cs n j l)[j]'(by rw[FO];exact h)=l[j]:=by
 grind [qU]
theorem aEu L cs n j l i:(qU L cs n j l)[i]?=(l[i]?).map λx=>if i<j then jE (kV (L.take (n+i))) cs x else x:=by
 grind [qU,jE,kV]
theorem aus L cs n j l(h:j<l.length):qU L cs n (j+1) l=(qU L cs n j l).set j (jE (kV (L.take (n+j))) cs l[j]):=by
 apply List.ext_getElem?
 intro i
 grind [qU,jE,kV]
theorem awe B cs n l:qU B.st.list cs n l.length l=AG B cs n l:=by
 grind [qU,AG,List.map_congr_left,List.mem_zipIdx]
theorem awf{l}(h:∀x∈l,bJ x=true):∀s∈kV l,okF s.f=true:=by
 have key:∀(l:List aK) (o:List mc),(∀x∈l,bJ x=true)->(∀s∈o,okF s.f=true)->∀s∈l.foldl lF o,okF s.f=true:=by
  intro l
  induction l with
  | nil=>intro o _ ho;exact ho
  | cons x l t =>
   intro o j ho;refine t _ (λy hy=>j y IY) ?_;unfold lF;split
   ·exact ho
   unfold uv;split
   ·rename_i u;intro s hs;simp only[Eh,List.mem_singleton]at hs;rcases hs with (hs|rfl)|hs
    ·exact QP
    ·rcases (DC (j x aj)).2.2 with ⟨g,-⟩|⟨g,-⟩|⟨-,-,g⟩
     ·omega
     ·omega
     ·exact g
    ·exact QP
   ·split
    ·intro s hs;rcases List.mem_append.1 hs with hs|hs
     ·exact QP
     ·exact QP
    ·exact ho
 exact key l [] h λs hs=>by simp at hs
theorem ayI(n:Nat)(h:n<=1000000):IntKind.i64.wrap (n:Int)=n:=by rw[IntKind.wrap_i64];omega
theorem ajJ(n:Nat)(h:n<=1000000):IntKind.u64.wrap (n:Int)=n:=by show (n:Int)%2^64=_;omega
theorem awg{B B' x v W w}(h:wy B x v w)(hb:B'<=B)(k:K W w):∃v',Ending.returned v=.returned v'/\(∃vf j,v'=.agg (aE x vf j)/\Fx (λk=>k<B') (λW=>aV.rel x (aE x vf j).toList W) w)/\K W w:=by obtain⟨vf,j,e,h⟩:=B6 h;exact⟨_,rfl,⟨vf,j,e,h.less λk hk=>bz hk hb⟩,k⟩
theorem ao0{M p B w}(h:bB M p B w)(H:bE B)(hn:B.told.Nodup)(gV:B.told.length<=800000) t :
 Calls prog 95 #[.pointer (some ⟨p.g,0,none⟩),.int .i64 t] w λe w'=>∃v',e=.returned v'/\mj (uh B t) v' w'/\K w w':=by
 have Tn:Hid (uh B t=⟨2,pN B t,[],[],AG B (vT B t) (pN B t) (yL B.st.list (pN B t)),((if mT B then B.waits else B.st.prom).take 16).map (jE (kV B.st.list) (vT B t)),uB (Cf B) (iX B t).asks,uA B.st B.waits (iX B t)⟩):=ae rfl
 have aE9:=H.ajI t
 have hinv:=H.dk.inv
 have iO:=H.Eb
 have hlen:=H.dk.len
 have hwl:=H.y6
 have hhv:pN B t<=B.st.list.length:=Nat.min_le_right _ _
 have HH:Hid (pN B t=min (iX B t).got B.st.list.length):=ae rfl
 have q:=h.q
 have Q1:=ae λW (k:K w W)=>(DG (Es (P:=prog) (kt:=3) underlying3) underlying159 (ajG W) (h.rep.st k) t).2
 have HM:Hid (∀W,K w W->mj (iX B t) ((dh p.kr t).getD (.agg Dm)) W):=ae λW k=>(h.bK.at k).bO.look t
 have CC:=ae λW (k:K w W)=>aoZ (h.st k) H t
 have CS:=ae λW (k:K w W) n hn=>acC (h.st k) H n hn
 have CF:=ae λW (k:K w W)=>asI B.st.list (pN B t) p.vl W (h.bK.at k).list iO.1 af af
 have CK:=ae λW (k:K w W)=>apQ (h.st k) H hn
 have CR:=ae λW (k:K w W)=>O7 (h.st k)
 have HD:=ae λW (k:K w W)=>h.bK.at k
 have HSO:=ae λn=>awf (l:=B.st.list.take n) λx hx=>(hinv.zw x (om hx)).1
 have Tp:=ae λn=>U2 (B.st.list.take n)
 have pY:(Cf B).length<=1000000:=by unfold Cf;rw[dx];omega
 have HOL:=ae hinv.zw
 have HOP:=ae hinv.zx
 have HOW:=ae H.waits
 have hcl:(vT B t).length<=32:=by have:=ace B.par B.ah t B.ah.length;have:=(FN H.hm).2;show (xu B.par B.ah t B.ah.length).length<=32;omega
 have HCA:Hid (∀j l,j=l.length->qU B.st.list (vT B t) (pN B t) j l=AG B (vT B t) (pN B t) l):=ae λj l e=>by rw[e];exact awe B _ _ l
 have cR:∀x∈yL B.st.list (pN B t),x∈B.st.list:=λx hx=>List.mem_of_mem_drop (om hx)
 have hfn:(yL B.st.list (pN B t)).length+pN B t<=B.st.list.length:=by unfold yL;simp;omega
 have Sz:=ae cR
 generalize uh B t=R at *
 generalize vT B t=cs at *
 generalize Cf B=kn at *
 generalize pN B t=C at *
 generalize iX B t=A at *
 generalize yL B.st.list C=es at *
 obtain⟨g,gl,gd,gr,gt,vd,vr,vp,vh,vl,vq,va,vt,vf,vw,kr⟩:=p
 simp only at q Q1 HM CC CS CF CK CR HD
 have td:=HD.aa w (K.rf w)
 obtain⟨Al,cl,rfl⟩:=av td.list
 obtain⟨Aq,cq,rfl⟩:=av td.prom
 obtain⟨Aa,ca,rfl⟩:=av td.ab
 obtain⟨Aw,cw,rfl⟩:=av td.waits
 obtain⟨m1,m2,m3,m4,m5,m6,em,kH,hm2,sN,wP,EP,zj⟩:=HM.aa w (K.rf w)
 obtain⟨A1,c1,rfl⟩:=av kH
 obtain⟨A2,c2,rfl⟩:=av hm2
 obtain⟨A3,c3,rfl⟩:=av sN
 obtain⟨A4,c4,rfl⟩:=av wP
 obtain⟨A5,c5,rfl⟩:=av EP
 obtain⟨A6,c6,rfl⟩:=av zj
 rw[em]at HM Q1
 have Nj:=ai.new w 156 Dm
 have F:=Nj.aU
 simp only[encI]at Q1
 clear h H hn td em kH hm2 sN wP EP zj hinv cR
 go_enter func95,ntmps95
 go_upto_region 1 with (fail)
 generalize w.alloc _=w1 at *
 generalize rX:w.heap.size=gz at Nj⊢
 have HGZ:=ae rX
 clear rX
 have q1:=q w1 F
 have ql:=Q1.aa w1 F
 have hx:=ai.new w1 156 (lA A (.slice A1 A.cU.length c1) (.slice A2 A.asks.length c2) (.slice A3 A.entries.length c3) (.slice A4 A.fe.length c4) (.slice A5 A.dQ.length c5) (.slice A6 A.ends.length c6))
 have k2:=hx.aU
 go_upto_region 2 with (fail)
 have akO:=Nj.ay k2
 have lO:=F.tr k2
 generalize World.alloc w1 _=w2 at *
 generalize s6:w1.heap.size=gx at hx⊢
 have JU:=ae s6
 clear ql q1 s6 Nj
 go_wp2_with fail
 apply bS (CC.aa w2 lO)
 rintro v7 T⟨j9,k3⟩
 have Tq:=ae λW (k:K T W)=>bo j9.aq k
 obtain⟨A7,c7,rfl⟩:=j9.slice
 have mm:=lO.tr k3
 have eE:=hx.ay k3
 have akP:=akO.ay k3
 have q3:=q T mm
 have qx:=eE.cell
 have hw:=ajJ B.st.list.length af
 have CF3:=ae (CF.aa T mm)
 clear CC CF Q1 j9 hx akO
 go_wp2_with fail
 rw[show min ((A.got:Nat):Int) ((B.st.list.length:Nat):Int)=(C:Int) by rw[HH.aa];omega]
 apply bS CF3.aa
 rintro v9 w4⟨L,k4⟩
 obtain⟨O,Q,rfl⟩:=L.slice
 have kk:=k4
 have D:aB (λk=>k<T.heap.size) T.heap.size 126 aV (qU B.st.list cs C 0 es) (.slice O es.length Q) w4:=by rw[aur];exact L
 clear CF3 qx q3 hw k4 L HH
 go_wp2_with fail
 go_loopw [10,11,46] (fun _ _ i W=>∃j:Nat,j<=es.length/\i=.int .i64 j/\aB (fun k=>k<T.heap.size) T.heap.size 126 aV (qU B.st.list cs C j es) (.slice O es.length Q) W/\K T W) (fun _ _ i _=>es.length-(intOf i).toNat)
 case atStart=>exact⟨0,af,rfl,D,kk⟩
 case round =>
  clear D kk;obtain⟨j,hj,rfl,D,kr⟩:=hrel;by_cases hlt:j<es.length
  ·have aP:(j:Int)<es.length:=af;obtain⟨go,cap,e9,hgo⟩:∃go cap,Value.slice O es.length Q=.slice (some ⟨go,0,none⟩) es.length cap/\T.heap.size<=go:=by
    obtain⟨css,hrow,-,-⟩:=D;rcases hrow.2 with ⟨-,h0⟩|⟨go,cap,cur,e,hg,-⟩
    ·rw[FO]at h0;omega
    ·rw[FO]at e;exact⟨go,cap,e,hg⟩
   injection e9 with J _ e3;subst J e3;have N4:j<(qU B.st.list cs C j es).length:=by rw[FO];exact hlt
   obtain⟨A0,c0,e0,rV,-⟩:=D.aq;injection e0 with e0 _ _;subst e0;obtain⟨b1,off,cs9,e9,eS,hrl,d0,d⟩:=eB rV j N4 ax;cases e9;have HS:=ae (aus B.st.list cs C j es hlt);have SP:=hrl wr (K.rf wr);rw[axG _ _ _ _ _ hlt]at SP;have hxL:=Sz.aa _ (bZ hlt);have hxo:=HOL.aa _ hxL;generalize es[j]=x at *;obtain⟨Bn,Bo,rfl,hf,he⟩:=SP;have HE:Hid (∀W,K wr W->dm x (.agg (aE x Bn Bo)) W):=ae λW k=>⟨_,_,rfl,eO _ _ _ _ hf k,bo he k⟩
   have q:∀i,i<8->wr.cell? ⟨go,j*8+i,none⟩=(aE x Bn Bo)[i]?:=λi hi=>by have:=d wr (K.rf wr) i hi;rw[mQ]at this;exact this.trans Array.getElem?_toList
   have q0:wr.cell? ⟨go,j*8,none⟩=some (.int .i64 x.kind):=q 0 ax;have HQ:Hid (∀W,K wr W->∀i,i<8->W.cell? ⟨go,j*8+i,none⟩=(aE x Bn Bo)[i]?):=ae λW k i hi=>by have:=d W k i hi;rw[mQ]at this;exact this.trans Array.getElem?_toList
   have sY:=ai.new wr 126 (aE x Bn Bo);have I:=sY.aU;obtain⟨Af,cf,rfl⟩:=cA hf;obtain⟨Ae,Y,rfl⟩:=av he;have HO:=ae D;clear d d0 hf he hrl eS rV D;go_upto_region 9 with (fail);generalize wr.alloc _=w6 at *;have ni:=kr.tr I;have Ts:=mm.tr ni;have GL:C+j<=B.st.list.length:=af;have hwi:=ayI C af;have hwj:IntKind.i64.wrap ((C:Int)+j)=(C:Int)+j:=LH;have C1:=ae λW k=>by have:=CS.aa W k (C+j) GL;rw[Int.natCast_add]at this;exact this
   have nc:=Tp.aa (C+j);have sc:=HSO.aa (C+j);simp only[qI]at nc;have C2:=ae λvS W (k:K w6 W) (hS:aq iI (kV (B.st.list.take (C+j))) vS W)=>ad5 (kV (B.st.list.take (C+j))) cs x vS _ _ W hS (Tq.aa W (ni.tr k)) (HE.aa W (I.tr k)) af af sc hxo.1
   generalize kV (B.st.list.take (C+j))=sj at *;generalize jE sj cs x=y at *;have qx8:=sY.cells;clear q q0 nc sc;have qs:=And.intro hwi (And.intro hwj qx8);refine dV 11 ?_;iterate 7 refine au.i ?_
   refine au.c (λv W=>aq iI sj v W) (λ_ _ _ h k=>bo h k) (λW k=>(C1.aa W (Ts.tr k)).mono λe w' ⟨v,J,h1,F⟩=>⟨v,J,h1.aq,F⟩) ?_;iterate 2 refine au.i ?_
   refine au.d (λv W=>∃vf ve,v=.agg (aE y vf ve)/\Fx (λk=>k<w6.heap.size) (λW=>aV.rel y (aE y vf ve).toList W) W) (λ_ _ _ ⟨vf,ve,e,h⟩ k=>⟨vf,ve,e,h.k k⟩) (λV W k hp=>(C2.aa _ W k (hp 7 aj)).mono λe w' ⟨v,J,h1,F⟩=>J▸awg h1 k.size F) ?_;intro V W kW hA;simp only[aO,aR,cC,aJ,Nat.reduceAdd]at hA;obtain⟨f0,f1,-,-,-,-,-,-,-,-,⟨oK,oL,f10,hF⟩,-⟩:=hA;have hfn:=hF.now;obtain⟨J1,J2,e3,Tt,Tu⟩:=hfn;cases e3;obtain⟨zI,zJ,rfl⟩:=cA Tt;obtain⟨xc,xd,rfl⟩:=av Tu;have kF:K wr W:=I.tr kW;have L:=HO.aa.st kF;have hfz:∀i,W.frozen? ⟨go,i,none⟩=false:=by obtain⟨css,hrow,-,-⟩:=L;rw[FO]at hrow;exact (FF hrow).2
   have hq:=HQ.aa W kF;have Cx:W.cell? ⟨go,j*8,none⟩=some (.int .i64 x.kind):=hq 0 ax;refine aH.pure (.pointer (some ⟨go,j*8,none⟩)) rfl (by simp[aF,List.lookup,bj,f0,f1,execOp,aG,aP,go_sem]) ?_;refine aH.skip (ef W go (j*8) [.int .i64 y.kind,.int .i64 y.br,.int .u64 y.life,.int .u64 y.b6,.int .i64 y.cl,.int .u64 y.sub,.slice zI y.f.length zJ,.slice xc y.es.length xd]) rfl (by simp[aF,List.lookup,bj,f10,execOp,aG,hq,Cx,hfz,ef,go_sem]) ?_;refine aH.e ?_;have fL:=(HO.aa.blk go rfl).2;have rr:=I.size;have zE:=kW.size;have u9:ag (λk=>k=go) W (ef W go (j*8) [.int .i64 y.kind,.int .i64 y.br,.int .u64 y.life,.int .u64 y.b6,.int .i64 y.cl,.int .u64 y.sub,.slice zI y.f.length zJ,.slice xc y.es.length xd]):=ag.sets (X:=λk=>k=go) (g:=go) rfl _ _ W;have Kf:=(hF.up u9 λk e=>QQ).less (N:=λk=>k<T.heap.size∨k=go) λk hk=>by have:=ni.size;rcases hk with hk|hk <;> omega
   rw[show es.length=(qU B.st.list cs C j es).length from (FO _ _ _ _ _).symm]at L;have nM:=L.Y5 (j:=j) N4 (y:=y) rfl Kf;rw[<- HS.aa,FO]at nM;have kF9:=u9.k (ni.tr kW) λk e=>by subst e;exact hgo
   clear hq Cx hfz hF L f0 f1 qs f10 qx8 Kf u9;go_wp2;go_roundw
   case rel=>exact⟨j+1,af,bI,nM,kF9⟩
   case measure=>simp[intOf];omega
  ·have aP:¬(j:Int)<es.length:=af;obtain rfl:j=es.length:=af;rw[HCA.aa _ _ rfl]at D;have hce:(AG B cs C es).length=es.length:=by simp[AG]
   have Tv:=ae hce;have lL:=ae (D.fx λk hk=>hk);rw[<- hce]at lL;obtain⟨u,Jv⟩:∃u,u=if mT B then B.waits else B.st.prom:=⟨_,rfl⟩
   obtain⟨Am,cm,hmt,Nr,uO,hmo⟩:∃Am cm,(mT B=true->Value.slice Aw B.waits.length cw=.slice Am u.length cm)/\(mT B=false->Value.slice Aq B.st.prom.length cq=.slice Am u.length cm)/\(∀W,K w W->aq aV u (.slice Am u.length cm) W)/\∀x∈u,bJ x=true/\cE x:=by
    cases hr:mT B
    ·rw[hr]at Jv;obtain rfl:u=B.st.prom:=Jv;exact⟨Aq,cq,λh=>yC,λ_=>rfl,λW k=>(HD.aa W k).prom,HOP.aa⟩
    ·rw[hr]at Jv;obtain rfl:u=B.waits:=Jv;exact⟨Aw,cw,λ_=>rfl,λh=>yC,λW k=>(HD.aa W k).waits,HOW.aa⟩
   rw[<- Jv]at Tn;have HMT:=ae hmt;have HMF:=ae Nr;have Tw:=ae uO;have HMO:=ae hmo;have iV:=mm.tr kr;have q7:=q wr iV;have CR7:=ae (CR.aa wr iV);clear D hce hmt Nr uO hmo Jv CR HOP HOW HOL Sz;go_wp2_with fail
   apply cG CR7.aa kr;intro w7 k7 oF;have Fj:=iV.tr k7;have po:=eE.ay oF;have aAz:=akP.ay oF;have q7:=q w7 Fj;clear CR7;go_upto_if 70 with (fail);go_cut [12,70]from 71 to 74 (fun v _ W=>v=.slice Am u.length cm/\w7=W)
   case first =>
    cases hr:mT B
    ·have e:=ae (HMF.aa hr);exact aix
    ·have e:=ae (HMT.aa hr);exact aix
   case rest =>
    obtain⟨rfl,rfl⟩:=hcut;clear HMT HMF;have C8:=ae (CS.aa w7 Fj B.st.list.length (aD _));have nc:=Tp.aa B.st.list.length;have sc:=HSO.aa B.st.list.length;rw[nC]at C8 nc sc;have kK:u.take 16=u.take (min u.length 16):=by rw[List.take_eq_take_iff];omega
    rw[kK]at Tn;obtain⟨G,hnm⟩:∃G,G=min u.length 16:=⟨_,rfl⟩;rw[<- hnm]at Tn;have HNM:=ae hnm;generalize kV B.st.list=sl at *;clear kK hnm;go_wp2_with fail
    apply bS C8.aa;rintro v13 E⟨Gv,I⟩;have aAA:=ae λW (k:K E W)=>bo Gv.aq k
    have lL:=ae (lL.aa.k (k7.tr I));have Tq:=ae λW (k:K E W)=>Tq.aa W ((oF.tr I).tr k)
    obtain⟨A13,c13,rfl⟩:=Gv.slice;have Kk:=Fj.tr I;have sY:=po.ay I;have akQ:=aAz.ay I;have qj:=oF.tr I;have hcm:u.length<=cm:=by obtain⟨_,_,e,-,hc⟩:=Tw.aa E Kk;injection e with _ _ e3;rw[e3];exact hc
    have aAB:min ((u.length:Nat):Int) 16=(G:Int):=Xr;have dq:G<=u.length:=Xr;have aFa:G<=16:=Xr;have hnc:(G:Int)<=cm:=af;clear C8 Gv;go_wp2_with fail
    have kk:=K.rf E;have D:=aB.nil (λk=>k<E.heap.size) E.heap.size 126 aV E;go_loopw [14,16,84] (fun o _ i W=>∃j:Nat,j<=G/\i=.int .i64 j/\aB (fun k=>k<E.heap.size) E.heap.size 126 aV ((u.take j).map (jE sl cs)) o W/\K E W) (fun _ _ i _=>G-(intOf i).toNat)
    case atStart=>exact⟨0,af,rfl,by simpa using D,kk⟩
    case round =>
     clear D kk aAB hcm hnc;obtain⟨j,hj,rfl,D,Z⟩:=hrel;by_cases wj:j<G
     ·have aAC:(j:Int)<G:=af;obtain⟨_,_,e0,rV,-⟩:=Tw.aa E Kk;injection e0 with e0 e00 e01;subst e0;clear e00 e01;have hjm:j<u.length:=af;obtain⟨b1,off,cs9,rfl,eS,hrl,d0,d⟩:=eB rV j hjm ax;have HS:Hid ((u.take (j+1)).map (jE sl cs)=(u.take j).map (jE sl cs)++[jE sl cs u[j]]):=ae (by rw[gJ hjm,List.map_append];rfl);have hxo:=HMO.aa _ (bZ hjm);have N8:Hid (((u.take j).map (jE sl cs)).length=j):=ae ba;generalize u[j]=x at *;obtain⟨Bn,Bo,rfl,hf,he⟩:=hrl E (K.rf E);have HE:Hid (∀W,K E W->dm x (.agg (aE x Bn Bo)) W):=ae λW k=>⟨_,_,rfl,eO _ _ _ _ hf k,bo he k⟩
      have q:∀i,i<8->wr.cell? ⟨b1,off+j*8+i,none⟩=(aE x Bn Bo)[i]?:=λi hi=>(d wr Z i hi).trans Array.getElem?_toList
      have q0:wr.cell? ⟨b1,off+j*8,none⟩=some (.int .i64 x.kind):=d0 wr Z;have nT:=ai.new wr 126 (aE x Bn Bo);have k9:=nT.aU;obtain⟨Af,cf,rfl⟩:=cA hf;obtain⟨Ae,Y,rfl⟩:=av he;obtain⟨U,co,rfl⟩:=D.slice;have bT:=D.blk;generalize (u.take j).map (jE sl cs)=o1 at *;clear d d0 hf he hrl eS rV;go_upto_region 19 with (fail);generalize wr.alloc _=w9 at *;have Tx:=Z.tr k9;have qx9:=nT.cell;have L:=D.st k9;have C9:=ae (ad5 sl cs x _ _ _ w9 (aAA.aa w9 Tx) (Tq.aa w9 Tx) (HE.aa w9 Tx) af af sc hxo.1);have nu:=k9.size;have hzq:=Z.size;generalize jE sl cs x=y at *;clear q q0 D nT;go_wp2_with fail
      apply bS C9.aa;rintro v10 xg⟨hy,Hx⟩;obtain⟨oK,oL,rfl,hF⟩:=B6 hy;obtain⟨J1,J2,e3,Tt,Tu⟩:=hF.now;cases e3;obtain⟨zI,zJ,rfl⟩:=cA Tt;obtain⟨xc,xd,rfl⟩:=av Tu;have ke:Fx (λk=>k<E.heap.size∨(Value.slice U o1.length co).ownBlock=some k) (λW=>aV.rel y (Value.agg (aE y (.slice zI y.f.length zJ) (.slice xc y.es.length xd))).cells.toList W) xg:=hF.less λk hk=>by
       rcases hk with hk|hk
       ·omega
       ·have:=(bT k hk).2;omega
      have hr:=eD.new (S:=aV) (e:=126) (v:=.agg (aE y (.slice zI y.f.length zJ) (.slice xc y.es.length xd))) ke 0 (eV _);have kA:=K.new xg (.cells (aE y (.slice zI y.f.length zJ) (.slice xc y.es.length xd)) 126);have nM:=(L.st Hx).st kA;have akR:=(Tx.tr Hx).tr kA;have NS:=akR.size;clear C9 hF ke Tt Tu hy L qx9;go_wp2_with (at_builtin;refine jN rfl _ _ 43 rfl _ 8 96 pw rfl rfl nM _ rfl y ?p1 ?p2 ?p3 ?_)
      case p1=>exact hr
      case p2=>have:=N8.aa;omega
      case p3=>simpa using NS
      intro v11 NR AV uK Gg Ju;rw[<- HS.aa]at AV;have kqF:=akR.trans Ju;clear hr nM uK Gg Ju;go_wp2;go_roundw
      case rel=>exact⟨j+1,af,bI,AV,kqF⟩
      case measure=>simp[intOf];omega
     ·have aAC:¬(j:Int)<G:=af;obtain rfl:j=G:=af;have hpl:((u.take j).map (jE sl cs)).length=j:=ba;obtain⟨U,co,rfl⟩:=D.slice;have Ty:=ae (D.fx λk hk=>hk);have yj:=Kk.tr Z;have nT:=sY.ay Z;have aAD:=akQ.ay Z;have qw:=λW (k:K wr W)=>q W (yj.tr k)
      have qx:=nT.cells;have aAE:=akP.lt;have h38:=qj.size;have h8r:=Z.size;have aAF:=ae (lL.aa.k Z);clear D hpl lL akQ sY nT;go_upto_region 21 with (fail);have qs:=And.intro qw qx;refine dV 18 ?_;iterate 4 refine au.i ?_
      refine au.c (λv W=>aq cd kn v W) (λ_ _ _ h k=>bo h k) (λW k=>(CK.aa W (yj.tr k)).mono λe w' ⟨v,J,h1,F⟩=>⟨v,J,h1.aq,F⟩) ?_;iterate 2 refine au.i ?_
      refine au.d (λv W=>Fx (λk=>k<wr.heap.size) (λW=>aq cd (uB kn A.asks) v W) W) (λ_ _ _ h k=>h.k k) (λV W k hp=>(asH kn A.asks _ _ W (hp 4 aj) (by obtain⟨_,_,_,_,_,_,e,h⟩:=HM.aa W (yj.tr k);cases e;exact h.2.1) pY af).mono λe w' ⟨v,J,h1,F⟩=>⟨v,J,(h1.fx λ_ h=>h).less λi hi=>bz hi k.size,F⟩) ?_;iterate 9 refine au.i ?_
      refine au.c (λv W=>Fx (λk=>k<wr.heap.size) (λW=>aq cd (uA B.st B.waits A) v W) W) (λ_ _ _ h k=>h.k k) (λW k=>(ass B.st B.waits A _ _ _ _ _ W ⟨_,_,_,rfl,(HD.aa W (yj.tr k)).list,(HD.aa W (yj.tr k)).prom,(HD.aa W (yj.tr k)).ab⟩ (HD.aa W (yj.tr k)).waits (HM.aa W (yj.tr k)) ⟨af,af⟩ af af).mono λe w' ⟨v,J,h1,F⟩=>⟨v,J,(h1.fx λ_ h=>h).less λi hi=>bz hi k.size,F⟩) ?_;intro V W kW hA;simp only[aO,aR,cC,aJ,Nat.reduceAdd]at hA;obtain⟨f0,f1,f2,-,-,-,-,f7,-,-,-,-,-,-,-,-,-,f17,-⟩:=id hA;obtain⟨At,ct,et⟩:=av f7.now;obtain⟨Ae,Y,ee⟩:=av f17.now;rw[et]at f7;rw[ee]at f17;have zE:=aAD.ay kW;have qz:=zE.cell;have zz:=zE.frozen;have Sm:=ae (Ty.aa.k kW);have HE9:=ae (aAF.aa.k kW);have F7:=ae f7;have F17:=ae f17;clear f7 f17 hA qs qw qx;refine aH.pure (.agg #[.int .i64 2,.int .u64 C,.slice none 0 0,.slice none 0 0,.slice O es.length Q,.slice U ((u.take j).map (jE sl cs)).length co,.slice At (uB kn A.asks).length ct,.slice Ae (uA B.st B.waits A).length Y]) rfl (by simp[aF,List.lookup,f0,f1,f2,et,ee,execOp,aG,go_sem]) ?_;refine aH.skip (ef W gz 0 [.int .i64 2,.int .u64 C,.slice none 0 0,.slice none 0 0,.slice O es.length Q,.slice U ((u.take j).map (jE sl cs)).length co,.slice At (uB kn A.asks).length ct,.slice Ae (uA B.st B.waits A).length Y]) rfl (by simp[aF,List.lookup,bj,execOp,aG,qz,zz,ef,go_sem]) ?_;refine aH.e ?_;have tT:=FU (us:=[.int .i64 2,.int .u64 C,.slice none 0 0,.slice none 0 0,.slice O es.length Q,.slice U ((u.take j).map (jE sl cs)).length co,.slice At (uB kn A.asks).length ct,.slice Ae (uA B.st B.waits A).length Y]) zE rfl;have u9:=ag.sets (X:=λk=>k=gz) (g:=gz) rfl ([.int .i64 2,.int .u64 C,.slice none 0 0,.slice none 0 0,.slice O es.length Q,.slice U ((u.take j).map (jE sl cs)).length co,.slice At (uB kn A.asks).length ct,.slice Ae (uA B.st B.waits A).length Y]) 0 W;have Kl:=ae (show mj R (.agg #[.int .i64 2,.int .u64 C,.slice none 0 0,.slice none 0 0,.slice O es.length Q,.slice U ((u.take j).map (jE sl cs)).length co,.slice At (uB kn A.asks).length ct,.slice Ae (uA B.st B.waits A).length Y]) (ef W gz 0 ([.int .i64 2,.int .u64 C,.slice none 0 0,.slice none 0 0,.slice O es.length Q,.slice U ((u.take j).map (jE sl cs)).length co,.slice At (uB kn A.asks).length ct,.slice Ae (uA B.st B.waits A).length Y])) by
       have g1:=(HE9.aa.up u9 λk e=>by subst e;exact aAE).now;rw[Tv.aa]at g1;rw[Tn.aa];exact⟨_,_,_,_,_,_,rfl,gI _ _,gI _ _,g1,(Sm.aa.up u9 λk e=>QQ).now,(F7.aa.up u9 λk e=>QQ).now,(F17.aa.up u9 λk e=>QQ).now⟩)
      have HK:=ae (u9.k (yj.tr kW) λk e=>by have:=HGZ.aa;omega);clear u9 zE qz zz Sm HE9 F7 F17 f0 f1 f2 et ee;generalize ef W gz 0 _=W9 at *;have e9:=tT.cell;go_wp2;refine bodyPost_ret (v:=.agg #[.int .i64 2,.int .u64 C,.slice none 0 0,.slice none 0 0,.slice O es.length Q,.slice U ((u.take j).map (jE sl cs)).length co,.slice At (uB kn A.asks).length ct,.slice Ae (uA B.st B.waits A).length Y]) (by simp[results,results95,go_sem,e9]) rfl ?_;exact⟨_,rfl,Kl.aa,HK.aa⟩
theorem ID{a}(h:dW a):(fC a).length<=30000:=aiy
theorem asL{a}(h:dW a):(fC a).length<=27:=aiy
theorem U4{v}(h:dW v.id):(mz v).length<=30000:=by
 grind [asL,cS,mz,dx]
theorem adk{x}(h:cE x):(qE x).length<=20000:=by
 grind [qE,bJ,KX]
theorem FH{x}(h:cE x):(gY x).length<=30000:=by
 grind [adk,cS,qE,gY,iD,dx]
theorem K6{α:Type}(enc:α->List UInt8) B:∀(l:List α),(∀x∈l,(enc x).length<=B)->(l.flatMap enc).length<=B*l.length
 | [],_=>aj
 | x :: l,h=>by have t:=h x aj;have j:=K6 enc B l (λy hy=>h y IY);simp only[uy,dx,fg,Nat.mul_succ];omega
theorem acM l v a w(h:sl l v w)(hl:l.length<=900000000)(hf:dW a) :
 Calls prog 152 #[v,.agg (dt a)] w λe w'=>∃v',e=.returned v'/\Own w' w.heap.size 5 v' (l++fC a)/\K w w':=by
 obtain⟨A,c,rfl,R⟩:=h
 obtain⟨b,j,t⟩:=a
 obtain⟨h0,C,D⟩:=hf
 simp only at h0 C D
 have p0:=cS (bf b) (gP b)
 have p1:=cS j C
 have p2:=cS t D
 have J:=ai.new w 26 #[.int .i64 b,.int .u64 j,.int .u64 t]
 have y:=J.aU
 have U:=(R.below y (aD _)).more y.size
 go_enter func152,ntmps152
 go_upto_region 1 with (fail)
 generalize w.alloc _=L at *
 have W:=J.cells
 have G:=K.rf L
 go_wp2_with fail
 rw[DK b]
 apply bS (xp A _ c l (bf b) (gP b) L _ U (aD _) af)
 rintro v2 N⟨H,u⟩
 obtain⟨V,c2,rfl,X⟩:=(eT H)
 have ew:(l++az (bf b)).length<=900000009:=ba
 generalize M:(l++az (bf b)).length=Z at *
 clear M
 go_wp2_with fail
 apply bS (xp V Z c2 _ j C N _ X (aD _) af)
 rintro v3 Q⟨E,Y⟩
 replace u:=u.tr Y
 obtain⟨A3,c3,rfl,T⟩:=(eT E)
 have qX:(l++az (bf b)++az j).length<=900000018:=ba
 generalize sN:(l++az (bf b)++az j).length=m3 at *
 clear sN
 go_wp2_with fail
 apply bS (xp A3 m3 c3 _ t D Q _ T (aD _) af)
 rintro v4 w4⟨I,O⟩
 have B:=mN (y.tr u).size I
 have F:l++az (bf b)++az j++az t=l++fC (b,j,t):=by simp[fC]
 rw[F]at B
 have S:=ae B
 have G:=y.tr (u.tr O)
 clear B I E H F W
 go_wp2
 go_ret
 exact⟨_,rfl,S.aa,G⟩
theorem apw l v x w(h:sl l v w)(O:l.length<=800000000)(C:dW x.id) :
 Calls prog 148 #[v,.agg (ib x)] w λe w'=>∃v',e=.returned v'/\Own w' w.heap.size 5 v' (l++mz x)/\K w w':=by
 have u:=ai.new w 225 (ib x)
 have k1:=u.aU
 have E:=oh _ _ _ _ h k1
 have D:=ae (acM l v x.id _ E af C)
 have B:=ID C
 obtain⟨A,c,rfl,-⟩:=h
 obtain⟨a,y⟩:=x
 have B:(fC a).length<=30000:=B
 clear E
 go_enter func148,ntmps148
 go_upto_region 1 with (fail)
 generalize w.alloc _=H at *
 generalize w.heap.size=g at u⊢
 have qx:=u.cells
 have N:=K.rf H
 cases y
 ·go_wp2_with fail
  apply bS D.aa;rintro I F⟨hs,k2⟩;have j:=vR 0 (eT hs) af aA;rw[show ((0:Nat):Int)=0 from rfl]at j;replace j:=ae j;obtain⟨G,c2,rfl,-⟩:=eT hs;generalize t:(l++fC a).length=L at *;clear t;go_wp2_with fail
  apply bS j.aa;rintro M J⟨ho,k3⟩;have hs:=mN (k1.tr k2).size ho;rw[show l++fC a++az 0=l++mz ⟨a,false⟩from by simp[mz]]at hs;exact aiz
 ·go_wp2_with fail
  apply bS D.aa;rintro I F⟨hs,k2⟩;have j:=vR 1 (eT hs) af aA;rw[show ((1:Nat):Int)=1 from rfl]at j;replace j:=ae j;obtain⟨G,c2,rfl,-⟩:=eT hs;generalize t:(l++fC a).length=L at *;clear t;go_wp2_with fail
  apply bS j.aa;rintro M J⟨ho,k3⟩;have hs:=mN (k1.tr k2).size ho;rw[show l++fC a++az 1=l++mz ⟨a,true⟩from by simp[mz]]at hs;exact aiz
theorem ao1 l v x u w(h:sl l v w)(M:dm x u w)(S:l.length<=800000000)(D:cE x) :
 Calls prog 150 #[v,u] w λe w'=>∃v',e=.returned v'/\Own w' w.heap.size 5 v' (l++gY x)/\K w w':=by
 obtain⟨vf,U,rfl,y,C⟩:=M
 obtain⟨L,G,rfl⟩:=cA y
 obtain⟨E,N,rfl⟩:=av C
 have t:=K.new w (.cells (aE x (.slice L x.f.length G) (.slice E x.es.length N)) 126)
 have Q:=ae (Uf x _ _ ⟨_,_,rfl,eO _ _ _ _ y t,bo C t⟩ D)
 have I:=ae λW (kW:K w W)=>oh _ _ _ _ h kW
 have V:=adk D
 obtain⟨A,c,rfl,-⟩:=h
 clear y C
 go_enter func150,ntmps150
 go_wp2_with fail
 generalize w.alloc _=Y at *
 refine Q.aa.mono ?_
 rintro e F⟨T,rfl,j,B⟩
 have H:=ae (Pz (I.aa F (t.tr B)) (eT j) af af)
 obtain⟨X,c2,rfl,-⟩:=eT j
 clear j
 go_wp2_with fail
 refine H.aa.mono ?_
 rintro e R⟨Z,rfl,j,O⟩
 have J:=ae (mN (t.tr B).size j)
 clear j
 go_wp2
 go_ret
 exact⟨_,rfl,J.aa,t.tr (B.tr O)⟩
theorem aqc b l v u w(hb:sl b v w)(h:aq oG l u w)(V:b.length<=500000000)(akS:l.length<=16)(hfit:∀s∈l,dW s.id) :
 Calls prog 147 #[v,u,.func (Fn.func 148) #[] #[]] w λe w'=>∃v',e=.returned v'/\Own w' w.heap.size 5 v' (b++gy mz l)/\K w w':=by
 obtain⟨A,c,rfl,M,Y⟩:=h
 have G:=ae hfit
 clear hfit
 have D:=ae (vR l.length hb af af)
 obtain⟨X,S,rfl,-⟩:=hb
 have U:=cS l.length af
 have hu:IntKind.u64.wrap (l.length:Int)=l.length:=Xt
 go_enter func147,ntmps147
 go_wp2_with fail
 apply bS D.aa
 rintro Z w1⟨J,y⟩
 have xZ:=ae J
 clear J D
 go_wp2_with fail
 go_loopw [0,8,16] (fun o _ i wr=>∃j:Nat,j<=l.length/\i=.int .i64 j/\Hid (Own wr w.heap.size 5 o (b++az l.length++(l.take j).flatMap mz))/\K w wr) (fun _ _ i _=>l.length-(intOf i).toNat)
 case atStart=>exact⟨0,af,rfl,ae Xu,y⟩
 case round =>
  clear y;obtain⟨j,hj,rfl,HB,kr⟩:=hrel;by_cases hlt:j<l.length
  ·have R:(j:Int)<l.length:=af;obtain⟨L,I,cs,rfl,O,F,C,d⟩:=eB M j hlt ax;have HS:Hid (b++az l.length++(l.take (j+1)).flatMap mz=b++az l.length++(l.take j).flatMap mz++mz l[j]):=ae Xv;have B:=G.aa _ (bZ hlt);have T:(b++az l.length++(l.take j).flatMap mz).length<=600000000:=by have:=K6 mz 30000 (l.take j) (λx t=>by have B:=G.aa x (om t);exact U4 B);exact Xw
   generalize l[j]=x at *;obtain rfl:=F w (K.rf w);have C:∀W,K wr W->W.cell? ⟨L,I+j*4,none⟩=some (.int .i64 x.id.1):=λW kW=>C W (kr.tr kW)
   have d:∀W,K wr W->∀i,i<4->W.cell? ⟨L,I+j*4+i,none⟩=(ib x)[i]?:=λW kW i N=>(d W (kr.tr kW) i N).trans Array.getElem?_toList
   have y:=K.rf wr;have Q:=K.rf wr;have t:=ai.new wr 225 (ib x);have H:=t.aU;clear O F;go_upto_region 5 with (fail);have uV:=kr.tr H;generalize wr.alloc _=E at *;generalize wr.heap.size=gx at *;have q:=t.cells;have y:=K.rf E;clear C d t;go_wp2_with fail
   apply bS (apw _ _ x E (oh _ _ _ _ (eT HB.aa) (Q.tr H)) af B);exact Xx
  ·have R:¬(j:Int)<l.length:=af;have hs:=HB.aa;rw[gQ af,eu]at hs;have HS:=ae (show Own wr w.heap.size 5 u0 (b++gy mz l)from hs);exact Xy
theorem Ul b l v u w(hb:sl b v w)(h:aq aV l u w)(bT:b.length<=500000000)(akS:l.length<=16)(hfit:∀s∈l,cE s) :
 Calls prog 149 #[v,u,.func (Fn.func 150) #[] #[]] w λe w'=>∃v',e=.returned v'/\Own w' w.heap.size 5 v' (b++gy gY l)/\K w w':=by
 obtain⟨A,c,rfl,T,hc⟩:=h
 have H:=ae hfit
 clear hfit
 have E:=ae (vR l.length hb af af)
 obtain⟨Ab,Z,rfl,-⟩:=hb
 have hpl:=cS l.length af
 have hu:IntKind.u64.wrap (l.length:Int)=l.length:=Xt
 go_enter func149,ntmps149
 go_wp2_with fail
 apply bS E.aa
 rintro v1 w1⟨O,y⟩
 have xZ:=ae O
 clear O E
 go_wp2_with fail
 go_loopw [0,8,16] (fun o _ i wr=>∃j:Nat,j<=l.length/\i=.int .i64 j/\Hid (Own wr w.heap.size 5 o (b++az l.length++(l.take j).flatMap gY))/\K w wr) (fun _ _ i _=>l.length-(intOf i).toNat)
 case atStart=>exact⟨0,af,rfl,ae Xu,y⟩
 case round =>
  clear y;obtain⟨j,hj,rfl,HB,kr⟩:=hrel;by_cases hlt:j<l.length
  ·have Y:(j:Int)<l.length:=af;obtain⟨S,L,cs,rfl,V,G,C,d⟩:=eB T j hlt ax;have HS:Hid (b++az l.length++(l.take (j+1)).flatMap gY=b++az l.length++(l.take j).flatMap gY++gY l[j]):=ae Xv;have B:=H.aa _ (bZ hlt);have hbj:(b++az l.length++(l.take j).flatMap gY).length<=600000000:=by have:=K6 gY 30000 (l.take j) (λx t=>by have B:=H.aa x (om t);exact FH B);exact Xw
   generalize l[j]=x at *;obtain⟨vf,ve,rfl,R,N⟩:=G w (K.rf w);obtain⟨M,J,rfl⟩:=cA R;obtain⟨D,Q,rfl⟩:=av N;have C:∀W,K wr W->W.cell? ⟨S,L+j*8,none⟩=some (.int .i64 x.kind):=λW kW=>C W (kr.tr kW)
   have d:∀W,K wr W->∀i,i<8->W.cell? ⟨S,L+j*8+i,none⟩=(aE x (.slice M x.f.length J) (.slice D x.es.length Q))[i]?:=λW kW i U=>(d W (kr.tr kW) i U).trans Array.getElem?_toList
   have y:=K.rf wr;have X:=K.rf wr;have t:=ai.new wr 126 (aE x (.slice M x.f.length J) (.slice D x.es.length Q));have I:=t.aU;clear V G;go_upto_region 5 with (fail);have uV:=kr.tr I;generalize wr.alloc _=F at *;generalize wr.heap.size=gx at *;have q:=t.cells;have y:=K.rf F;clear C d t;go_wp2_with fail
   apply bS (ao1 _ _ x _ F (oh _ _ _ _ (eT HB.aa) (X.tr I)) ⟨_,_,rfl,eO _ _ _ _ R uV,bo N uV⟩ af B);exact Xx
  ·have Y:¬(j:Int)<l.length:=af;have hs:=HB.aa;rw[gQ af,eu]at hs;have HS:=ae (show Own wr w.heap.size 5 u0 (b++gy gY l)from hs);exact Xy
theorem adl b l v u w(hb:sl b v w)(h:aq cd l u w)(V:b.length<=500000000)(akS:l.length<=16)(hfit:∀s∈l,dW s) :
 Calls prog 151 #[v,u,.func (Fn.func 152) #[] #[]] w λe w'=>∃v',e=.returned v'/\Own w' w.heap.size 5 v' (b++gy fC l)/\K w w':=by
 obtain⟨A,c,rfl,M,Y⟩:=h
 have G:=ae hfit
 clear hfit
 have D:=ae (vR l.length hb af af)
 obtain⟨X,S,rfl,-⟩:=hb
 have U:=cS l.length af
 have hu:IntKind.u64.wrap (l.length:Int)=l.length:=Xt
 go_enter func151,ntmps151
 go_wp2_with fail
 apply bS D.aa
 rintro Z w1⟨J,y⟩
 have xZ:=ae J
 clear J D
 go_wp2_with fail
 go_loopw [0,8,16] (fun o _ i wr=>∃j:Nat,j<=l.length/\i=.int .i64 j/\Hid (Own wr w.heap.size 5 o (b++az l.length++(l.take j).flatMap fC))/\K w wr) (fun _ _ i _=>l.length-(intOf i).toNat)
 case atStart=>exact⟨0,af,rfl,ae Xu,y⟩
 case round =>
  clear y;obtain⟨j,hj,rfl,HB,kr⟩:=hrel;by_cases hlt:j<l.length
  ·have R:(j:Int)<l.length:=af;obtain⟨L,I,cs,rfl,O,F,C,d⟩:=eB M j hlt ax;have HS:Hid (b++az l.length++(l.take (j+1)).flatMap fC=b++az l.length++(l.take j).flatMap fC++fC l[j]):=ae Xv;have B:=G.aa _ (bZ hlt);have T:(b++az l.length++(l.take j).flatMap fC).length<=600000000:=by have:=K6 fC 30000 (l.take j) (λx t=>by have B:=G.aa x (om t);exact ID B);exact Xw
   generalize l[j]=x at *;obtain rfl:=F w (K.rf w);have C:∀W,K wr W->W.cell? ⟨L,I+j*3,none⟩=some (.int .i64 x.1):=λW kW=>C W (kr.tr kW)
   have d:∀W,K wr W->∀i,i<3->W.cell? ⟨L,I+j*3+i,none⟩=(dt x)[i]?:=λW kW i N=>(d W (kr.tr kW) i N).trans Array.getElem?_toList
   have y:=K.rf wr;have Q:=K.rf wr;have t:=ai.new wr 26 (dt x);have H:=t.aU;clear O F;go_upto_region 5 with (fail);have uV:=kr.tr H;generalize wr.alloc _=E at *;generalize wr.heap.size=gx at *;have q:=t.cells;have y:=K.rf E;clear C d t;go_wp2_with fail
   apply bS (acM _ _ x E (oh _ _ _ _ (eT HB.aa) (Q.tr H)) af B);exact Xx
  ·have R:¬(j:Int)<l.length:=af;have hs:=HB.aa;rw[gQ af,eu]at hs;have HS:=ae (show Own wr w.heap.size 5 u0 (b++gy fC l)from hs);exact Xy
