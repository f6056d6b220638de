/-
  The walk of table.Cut (layer 15). Conditions: lists of at most a million.
-/
import Derived.Test.YtfndfpdhlbmboaaGreatMa23
import Derived.Test.YtfndfpdhlbmboaaGreatMz
set_option maxRecDepth 100000
set_option linter.constructorNameAsVariable false
set_option maxHeartbeats 16000000
set_option linter.unusedVariables false
set_option linter.unusedSimpArgs false
namespace Go.Proofs.YtfndfpdhlbmboaaGreat
open Go Go.RowKit _root_.Go.Proofs.Tryz
theorem awZ{e}(h:fB e=true):∀x∈e,j9 x=true:=by
 simp only[fB,dE,decide_eq_true_eq]at h;have key:∀(l:List cT) (p:Option ByteArray),jk p l=true->∀x∈l,j9 x=true:=by
  intro l
  induction l with
  | nil=>intro p _ x j;simp at j
  | cons y l t =>
   grind [fB,j9,jk]
 exact key e none h.2
theorem asf{l cs}{es:List (List cT)}(u:∀s∈l,okF s.f=true)(j:∀e∈es,fB e=true):es.filter (jJ (rS ((pU l cs).map (·.f))))=es.filter (anyS (pU l cs)):=by
 refine List.filter_congr λe hm=>?_
 rw[ar9 (λf t=>?_) (awZ (j e hm))]
 ·grind [jJ,anyS,List.any_map]
 ·grind [okF,fB,jJ,rS,pU,anyS]
theorem asg l e v t g w(j:aq nS l v w)(hg:ah w g 206 #[v])(u:iU e t w)(B:l.length<=1000000)(E:∀f∈l,f.length<=1000000)(D:e.length<=1000000) :
 Calls prog 256 #[t,.pointer (some ⟨g,0,none⟩)] w λr w'=>r=.returned (.bool (jJ l e))/\K w w':=by
 have y:=ae (atV l e v t w j u B E D)
 obtain⟨G,F,rfl⟩:=xR u
 obtain⟨A,c,rfl⟩:=aw j
 generalize jJ l e=R at *
 clear j u
 have q:=hg.cell
 go_enter func256,ntmps256
 go_wp2_with fail
 apply bF y.aa
 intro H C
 clear y q hg
 go_wp2
 go_ret
 exact⟨rfl,C⟩
theorem adD l cs x v vc vx w(h:aq iu l v w)(hc:aq cR cs vc w)(L:cV x vx w)(hlen:l.length<=500000)(hcl:cs.length<=1000000)(hs:∀s∈l,okF s.f=true)(hok:bK x=true) :
 Calls prog 162 #[v,vc,vx] w λe w'=>∃v',e=.returned v'/\vG w.heap.size (jx l cs x) v' w'/\K w w':=by
 have U:=ae (uy hok)
 have ES:∀s∈l,s.f.length<=1000000:=λs hs'=>by have:=(De (hs s hs')).1;omega
 have CF:=ae λW (k:K w W)=>ao5 l cs v vc W (bo h k) (bo hc k) hlen hcl ES
 have SR:Hid ((rS ((pU l cs).map (·.f))).length<=1000000/\∀f∈rS ((pU l cs).map (·.f)),f.length<=1000000):=ae (by
  have h1:(pU l cs).length<=l.length:=ll _ _;refine⟨?_,λf hf=>?_⟩
  ·have:=@US ((pU l cs).map (·.f)) [];unfold rS;simp at this;omega
  ·have:=UR hf;simp only[List.not_mem_nil,false_or]at this;obtain⟨s,hs',rfl⟩:=List.mem_map.1 this;exact ES s (List.mem_filter.1 hs').1)
 have HCF:Hid (x.kind=1->x.es.filter (jJ (rS ((pU l cs).map (·.f))))=x.es.filter (anyS (pU l cs))):=ae λhk=>asf hs (by
  unfold bK at hok;rw[if_pos hk]at hok;simp only[dE,uO]at hok;exact hok.2.2)
 have SS:Hid (jx l cs x=if x.kind=1 then { x with es:=x.es.filter (anyS (pU l cs)) }else x):=ae rfl
 obtain⟨vf,ve,rfl,hf,he⟩:=L
 have HF:=ae hf
 have HE:=ae he
 obtain⟨V,S,rfl⟩:=b6 hf
 obtain⟨Ae,ce,rfl⟩:=aw he
 obtain⟨A,d,rfl⟩:=aw h
 obtain⟨Ac,cc,rfl⟩:=aw hc
 generalize rS ((pU l cs).map (·.f))=RF at *
 generalize jx l cs x=R at *
 have k1:=K.lq w (.cells (aD x (.slice V x.f.length S) (.slice Ae x.es.length ce)) 126) (.cells #[.int .i64 0,.int .i64 0,.int .u64 0,.int .u64 0,.int .i64 0,.int .u64 0,.slice none 0 0,.slice none 0 0] 126)
 have hb:=(ah.new w 126 (aD x (.slice V x.f.length S) (.slice Ae x.es.length ce))).alloc (.cells #[.int .i64 0,.int .i64 0,.int .u64 0,.int .u64 0,.int .i64 0,.int .u64 0,.slice none 0 0,.slice none 0 0] 126)
 have J:=ah.new (w.alloc (.cells (aD x (.slice V x.f.length S) (.slice Ae x.es.length ce)) 126)) 126 #[.int .i64 0,.int .i64 0,.int .u64 0,.int .u64 0,.int .i64 0,.int .u64 0,.slice none 0 0,.slice none 0 0]
 have hz:(w.alloc (.cells (aD x (.slice V x.f.length S) (.slice Ae x.es.length ce)) 126)).heap.size=w.heap.size+1:=aj
 rw[hz]at J
 clear hf he h hc ES hs hok hz
 go_enter func162,ntmps162
 go_upto_region 1 with (fail)
 generalize World.alloc (World.alloc w _) _=w1 at *
 generalize kp:w.heap.size=lo at hb J⊢
 have lG:=ae kp.symm
 have Yy:=J.lt
 clear kp
 by_cases hk:x.kind=1
 rotate_left
 ·have hkb:(x.kind==1)=false:=sE;obtain⟨es,H⟩:∃es,es=x.es:=⟨_,rfl⟩;have JQ:Hid (R={ x with es:=es }):=ae (by rw[SS.aa,if_neg hk,H]);have kO:es.length<=1000000:=by rw[H];exact U.aa.2.1
  have eE:∀e∈es,e.length<=1000000:=by rw[H];exact U.aa.2.2
  have hle:aq cG es (.slice Ae es.length ce) w1:=by rw[H];exact bo HE.aa k1
  have L:ah w1 lo 126 (aD x (.slice V x.f.length S) (.slice Ae es.length ce)):=by rw[H];exact hb
  have q0:=L.cell;have kA:=k1;have tX:=Yy;clear hk H SS HCF HE hb k1 Yy CF SR;generalize w1=wA at *;go_upto_region 4 with (fail);clear q0;have CE:=ae (TM es _ wA hle kO eE);have q:=L.cell;go_wp2_with fail
  apply lQ CE.aa;rintro v5 G⟨cC,F⟩;have Q:=L.av F;have NC:=J.av F;have hzA:=kA.size;have hzB:=F.size;clear CE q L J hle;have q:=Q.cell;have z:=Q.frozen;obtain⟨B,c5,rfl⟩:=aw cC.sR.aq;go_upto_region 5 with (fail);have G5:ah (G.setCell ⟨lo,7,none⟩ (.slice B es.length c5)) lo 126 (aD x (.slice V x.f.length S) (.slice B es.length c5)):=Q.aM 7 _;have ND:=NC.far (p:=⟨lo,7,none⟩) aj (.slice B es.length c5);have kC:K w (G.setCell ⟨lo,7,none⟩ (.slice B es.length c5)):=K.set (kA.tr F) Ld 7 _;have Md:=cC.up (w':=G.setCell ⟨lo,7,none⟩ (.slice B es.length c5)) (aC _) (aI.set af 7 _);have hzC:(G.setCell ⟨lo,7,none⟩ (.slice B es.length c5)).heap.size=G.heap.size:=aj;clear Q NC cC q z;generalize G.setCell _ _=wC at *;have CT:=ae (TU x.f _ wC (eH _ _ _ _ HF.aa kC) (U.aa.1));have q:=G5.cell;go_wp2_with fail
  apply lQ CT.aa;rintro v6 I⟨Z,O⟩;have M:=G5.av O;have NF:=ND.av O;have Me:=Md.st O;clear CT q G5 ND Md;have q:=M.cell;have z:=M.frozen;have Yz:=b6 (wP Z);obtain⟨t,j,rfl⟩:=Yz;go_upto_region 6 with (fail);have hxE:ah (I.setCell ⟨lo,6,none⟩ (.slice t x.f.length j)) lo 126 (aD x (.slice t x.f.length j) (.slice B es.length c5)):=M.aM 6 _;have G7:=NF.far (p:=⟨lo,6,none⟩) aj (.slice t x.f.length j);have kE:K w (I.setCell ⟨lo,6,none⟩ (.slice t x.f.length j)):=K.set (kC.tr O) Ld 6 _;have YA:=Me.up (w':=I.setCell ⟨lo,6,none⟩ (.slice t x.f.length j)) (aC _) (aI.set af 6 _);have YB:fH (I.setCell ⟨lo,6,none⟩ (.slice t x.f.length j)) wC.heap.size (.slice t x.f.length j) x.f:=fH.up Z (aI.set af 6 _);clear M NF Me Z q z;generalize I.setCell _ _=C at *;have q:=hxE.cell;have y:=G7.cell;have z:=G7.frozen;have D:w.heap.size<=lo+1:=by rw[lG.aa];omega
  have E:=tX;go_wp2;have cS:ah (World.setCell C _ _) (lo+1) 126 #[.int .i64 x.kind,.int .i64 0,.int .u64 0,.int .u64 0,.int .i64 0,.int .u64 0,.slice none 0 0,.slice none 0 0]:=G7.aM 0 (.int .i64 x.kind);have hr1:ah (World.setCell (World.setCell C _ _) _ _) (lo+1) 126 #[.int .i64 x.kind,.int .i64 x.br,.int .u64 0,.int .u64 0,.int .i64 0,.int .u64 0,.slice none 0 0,.slice none 0 0]:=cS.aM 1 (.int .i64 x.br);have T:ah (World.setCell (World.setCell (World.setCell C _ _) _ _) _ _) (lo+1) 126 #[.int .i64 x.kind,.int .i64 x.br,.int .u64 (x.life:Int),.int .u64 0,.int .i64 0,.int .u64 0,.slice none 0 0,.slice none 0 0]:=hr1.aM 2 (.int .u64 (x.life:Int));have Y:ah (World.setCell (World.setCell (World.setCell (World.setCell C _ _) _ _) _ _) _ _) (lo+1) 126 #[.int .i64 x.kind,.int .i64 x.br,.int .u64 (x.life:Int),.int .u64 (x.bV:Int),.int .i64 0,.int .u64 0,.slice none 0 0,.slice none 0 0]:=T.aM 3 (.int .u64 (x.bV:Int));have N:ah (World.setCell (World.setCell (World.setCell (World.setCell (World.setCell C _ _) _ _) _ _) _ _) _ _) (lo+1) 126 #[.int .i64 x.kind,.int .i64 x.br,.int .u64 (x.life:Int),.int .u64 (x.bV:Int),.int .i64 x.cl,.int .u64 0,.slice none 0 0,.slice none 0 0]:=Y.aM 4 (.int .i64 x.cl);have ie:ah (World.setCell (World.setCell (World.setCell (World.setCell (World.setCell (World.setCell C _ _) _ _) _ _) _ _) _ _) _ _) (lo+1) 126 #[.int .i64 x.kind,.int .i64 x.br,.int .u64 (x.life:Int),.int .u64 (x.bV:Int),.int .i64 x.cl,.int .u64 (x.sub:Int),.slice none 0 0,.slice none 0 0]:=N.aM 5 (.int .u64 (x.sub:Int));have ng:ah (World.setCell (World.setCell (World.setCell (World.setCell (World.setCell (World.setCell (World.setCell C _ _) _ _) _ _) _ _) _ _) _ _) _ _) (lo+1) 126 #[.int .i64 x.kind,.int .i64 x.br,.int .u64 (x.life:Int),.int .u64 (x.bV:Int),.int .i64 x.cl,.int .u64 (x.sub:Int),.slice t x.f.length j,.slice none 0 0]:=ie.aM 6 (.slice t x.f.length j);have jy:ah (World.setCell (World.setCell (World.setCell (World.setCell (World.setCell (World.setCell (World.setCell (World.setCell C _ _) _ _) _ _) _ _) _ _) _ _) _ _) _ _) (lo+1) 126 #[.int .i64 x.kind,.int .i64 x.br,.int .u64 (x.life:Int),.int .u64 (x.bV:Int),.int .i64 x.cl,.int .u64 (x.sub:Int),.slice t x.f.length j,.slice B es.length c5]:=ng.aM 7 (.slice B es.length c5);have U9:=(((((((((aI.rf wA.heap.size none C).tr (aI.set (b:=lo+1) E 0 (.int .i64 x.kind))).tr (aI.set (b:=lo+1) E 1 (.int .i64 x.br))).tr (aI.set (b:=lo+1) E 2 (.int .u64 (x.life:Int)))).tr (aI.set (b:=lo+1) E 3 (.int .u64 (x.bV:Int)))).tr (aI.set (b:=lo+1) E 4 (.int .i64 x.cl))).tr (aI.set (b:=lo+1) E 5 (.int .u64 (x.sub:Int)))).tr (aI.set (b:=lo+1) E 6 (.slice t x.f.length j))).tr (aI.set (b:=lo+1) E 7 (.slice B es.length c5)));have K9:=(K.set (K.set (K.set (K.set (K.set (K.set (K.set (K.set kE (r:=lo+1) D 0 (.int .i64 x.kind)) (r:=lo+1) D 1 (.int .i64 x.br)) (r:=lo+1) D 2 (.int .u64 (x.life:Int))) (r:=lo+1) D 3 (.int .u64 (x.bV:Int))) (r:=lo+1) D 4 (.int .i64 x.cl)) (r:=lo+1) D 5 (.int .u64 (x.sub:Int))) (r:=lo+1) D 6 (.slice t x.f.length j)) (r:=lo+1) D 7 (.slice B es.length c5));clear q y z cS hr1 T Y N ie ng;generalize (World.setCell (World.setCell (World.setCell (World.setCell (World.setCell (World.setCell (World.setCell (World.setCell C _ _) _ _) _ _) _ _) _ _) _ _) _ _) _ _)=W9 at *;have e9:=jy.cell;refine bodyPost_ret (v:=.agg #[.int .i64 x.kind,.int .i64 x.br,.int .u64 (x.life:Int),.int .u64 (x.bV:Int),.int .i64 x.cl,.int .u64 (x.sub:Int),.slice t x.f.length j,.slice B es.length c5]) aib rfl ?_;refine⟨_,rfl,?_,K9⟩;rw[JQ.aa];exact⟨_,_,rfl,mg af (fH.up YB (U9.more af (λ_ _ _=>aj))),aV.low (aV.floor (YA.up (aC _) (U9.more af (λ_ _ _=>aj))) af) af⟩
 have hkb:(x.kind==1)=true:=sE
 have AH:=ae (HCF.aa hk)
 have Gv:Hid (R={ x with es:=x.es.filter (anyS (pU l cs)) }):=ae (by rw[SS.aa,if_pos hk])
 have q0:=hb.cell
 have C1:=ae (CF.aa w1 k1)
 clear hk HCF SS CF
 go_wp2_with fail
 apply lQ C1.aa
 rintro v2 w2⟨LV,k2⟩
 obtain⟨A2,c2,rfl⟩:=aw LV
 have hb2:=hb.av k2
 have T:=J.av k2
 have bC:=k1.tr k2
 clear C1 hb J q0
 go_upto_region 3 with (fail)
 have ix:=ah.new w2 206 #[.slice A2 RF.length c2]
 have F:=ix.aS
 have bG:=hb2.av F
 have Y:=T.av F
 have kT:=bC.tr F
 have H3:=ae (bo LV F)
 have hz2:=k2.size
 clear hb2 T LV
 generalize w2.alloc _=w3 at *
 generalize w2.heap.size=g3 at ix hz2⊢
 have Ev:=(IA HE.aa).st kT
 have C2:=ae (ab5 (λk=>w.heap.size<=k) x.es _ (jJ RF) 256 #[.pointer (some ⟨g3,0,none⟩)] w3 Ev U.aa.2.1 (λ_ _=>fk) λW k e he u hu=>asg RF e _ u g3 W (bo H3.aa k) (ix.av k) hu SR.aa.1 SR.aa.2 (U.aa.2.2 e he))
 have q3:=bG.cell
 clear Ev
 go_wp2_with fail
 apply lQ C2.aa
 rintro v4 w4⟨cB,k4⟩
 obtain⟨es,H⟩:∃es,es=x.es.filter (jJ RF):=⟨_,rfl⟩
 have JQ:Hid (R={ x with es:=es }):=ae (by rw[Gv.aa,H,AH.aa])
 have kO:es.length<=1000000:=by rw[H];exact bn (ll _ _) U.aa.2.1
 have eE:∀e∈es,e.length<=1000000:=by rw[H];exact λe he=>U.aa.2.2 e (List.mem_filter.1 he).1
 rw[<- H]at cB
 have hb4:=bG.av k4
 have N:=Y.av k4
 have sc:=kT.tr k4
 have gA:=ix.lt
 clear C2 q3 bG Y H Gv AH
 have bR:=cB.blk
 obtain⟨A4,c4,rfl⟩:=cB.slice
 have q:=hb4.cell
 have z:=hb4.frozen
 go_upto_region 4 with (fail)
 have L:ah (w4.setCell ⟨lo,7,none⟩ (.slice A4 es.length c4)) lo 126 (aD x (.slice V x.f.length S) (.slice A4 es.length c4)):=hb4.aM 7 _
 have J:=N.far (p:=⟨lo,7,none⟩) aj (.slice A4 es.length c4)
 have kA:K w (w4.setCell ⟨lo,7,none⟩ (.slice A4 es.length c4)):=K.set sc Ld 7 _
 have hle:aq cG es (.slice A4 es.length c4) (w4.setCell ⟨lo,7,none⟩ (.slice A4 es.length c4)):=(cB.to (X:=λk=>k=lo) (Y':=λ_=>False) (ag.bL (X:=λk=>k=lo) rfl 7 _) (λk hk=>by rw[hk,lG.aa];exact aC _) (λk hk e=>aG) (λk _ hk=>hk.elim)).aq
 have tX:lo+1<(w4.setCell ⟨lo,7,none⟩ (.slice A4 es.length c4)).heap.size:=by have:=N.lt;simpa using this
 clear hb4 N cB q z sc bC kT k1 Yy ix H3 SR F k2 k4 bR gA hz2 HE
 generalize w4.setCell _ _=wA at *
 have CE:=ae (TM es _ wA hle kO eE)
 have q:=L.cell
 go_wp2_with fail
 apply lQ CE.aa
 rintro v5 G⟨cC,F⟩
 have Q:=L.av F
 have NC:=J.av F
 have hzA:=kA.size
 have hzB:=F.size
 clear CE q L J hle
 have q:=Q.cell
 have z:=Q.frozen
 obtain⟨B,c5,rfl⟩:=aw cC.sR.aq
 go_upto_region 5 with (fail)
 have G5:ah (G.setCell ⟨lo,7,none⟩ (.slice B es.length c5)) lo 126 (aD x (.slice V x.f.length S) (.slice B es.length c5)):=Q.aM 7 _
 have ND:=NC.far (p:=⟨lo,7,none⟩) aj (.slice B es.length c5)
 have kC:K w (G.setCell ⟨lo,7,none⟩ (.slice B es.length c5)):=K.set (kA.tr F) Ld 7 _
 have Md:=cC.up (w':=G.setCell ⟨lo,7,none⟩ (.slice B es.length c5)) (aC _) (aI.set af 7 _)
 have hzC:(G.setCell ⟨lo,7,none⟩ (.slice B es.length c5)).heap.size=G.heap.size:=aj
 clear Q NC cC q z
 generalize G.setCell _ _=wC at *
 have CT:=ae (TU x.f _ wC (eH _ _ _ _ HF.aa kC) (U.aa.1))
 have q:=G5.cell
 go_wp2_with fail
 apply lQ CT.aa
 rintro v6 I⟨Z,O⟩
 have M:=G5.av O
 have NF:=ND.av O
 have Me:=Md.st O
 clear CT q G5 ND Md
 have q:=M.cell
 have z:=M.frozen
 have Yz:=b6 (wP Z)
 obtain⟨t,j,rfl⟩:=Yz
 go_upto_region 6 with (fail)
 have hxE:ah (I.setCell ⟨lo,6,none⟩ (.slice t x.f.length j)) lo 126 (aD x (.slice t x.f.length j) (.slice B es.length c5)):=M.aM 6 _
 have G7:=NF.far (p:=⟨lo,6,none⟩) aj (.slice t x.f.length j)
 have kE:K w (I.setCell ⟨lo,6,none⟩ (.slice t x.f.length j)):=K.set (kC.tr O) Ld 6 _
 have YA:=Me.up (w':=I.setCell ⟨lo,6,none⟩ (.slice t x.f.length j)) (aC _) (aI.set af 6 _)
 have YB:fH (I.setCell ⟨lo,6,none⟩ (.slice t x.f.length j)) wC.heap.size (.slice t x.f.length j) x.f:=fH.up Z (aI.set af 6 _)
 clear M NF Me Z q z
 generalize I.setCell _ _=C at *
 have q:=hxE.cell
 have y:=G7.cell
 have z:=G7.frozen
 have D:w.heap.size<=lo+1:=by rw[lG.aa];omega
 have E:=tX
 go_wp2
 have cS:ah (World.setCell C _ _) (lo+1) 126 #[.int .i64 x.kind,.int .i64 0,.int .u64 0,.int .u64 0,.int .i64 0,.int .u64 0,.slice none 0 0,.slice none 0 0]:=G7.aM 0 (.int .i64 x.kind)
 have hr1:ah (World.setCell (World.setCell C _ _) _ _) (lo+1) 126 #[.int .i64 x.kind,.int .i64 x.br,.int .u64 0,.int .u64 0,.int .i64 0,.int .u64 0,.slice none 0 0,.slice none 0 0]:=cS.aM 1 (.int .i64 x.br)
 have T:ah (World.setCell (World.setCell (World.setCell C _ _) _ _) _ _) (lo+1) 126 #[.int .i64 x.kind,.int .i64 x.br,.int .u64 (x.life:Int),.int .u64 0,.int .i64 0,.int .u64 0,.slice none 0 0,.slice none 0 0]:=hr1.aM 2 (.int .u64 (x.life:Int))
 have Y:ah (World.setCell (World.setCell (World.setCell (World.setCell C _ _) _ _) _ _) _ _) (lo+1) 126 #[.int .i64 x.kind,.int .i64 x.br,.int .u64 (x.life:Int),.int .u64 (x.bV:Int),.int .i64 0,.int .u64 0,.slice none 0 0,.slice none 0 0]:=T.aM 3 (.int .u64 (x.bV:Int))
 have N:ah (World.setCell (World.setCell (World.setCell (World.setCell (World.setCell C _ _) _ _) _ _) _ _) _ _) (lo+1) 126 #[.int .i64 x.kind,.int .i64 x.br,.int .u64 (x.life:Int),.int .u64 (x.bV:Int),.int .i64 x.cl,.int .u64 0,.slice none 0 0,.slice none 0 0]:=Y.aM 4 (.int .i64 x.cl)
 have ie:ah (World.setCell (World.setCell (World.setCell (World.setCell (World.setCell (World.setCell C _ _) _ _) _ _) _ _) _ _) _ _) (lo+1) 126 #[.int .i64 x.kind,.int .i64 x.br,.int .u64 (x.life:Int),.int .u64 (x.bV:Int),.int .i64 x.cl,.int .u64 (x.sub:Int),.slice none 0 0,.slice none 0 0]:=N.aM 5 (.int .u64 (x.sub:Int))
 have ng:ah (World.setCell (World.setCell (World.setCell (World.setCell (World.setCell (World.setCell (World.setCell C _ _) _ _) _ _) _ _) _ _) _ _) _ _) (lo+1) 126 #[.int .i64 x.kind,.int .i64 x.br,.int .u64 (x.life:Int),.int .u64 (x.bV:Int),.int .i64 x.cl,.int .u64 (x.sub:Int),.slice t x.f.length j,.slice none 0 0]:=ie.aM 6 (.slice t x.f.length j)
 have jy:ah (World.setCell (World.setCell (World.setCell (World.setCell (World.setCell (World.setCell (World.setCell (World.setCell C _ _) _ _) _ _) _ _) _ _) _ _) _ _) _ _) (lo+1) 126 #[.int .i64 x.kind,.int .i64 x.br,.int .u64 (x.life:Int),.int .u64 (x.bV:Int),.int .i64 x.cl,.int .u64 (x.sub:Int),.slice t x.f.length j,.slice B es.length c5]:=ng.aM 7 (.slice B es.length c5)
 have U9:=(((((((((aI.rf wA.heap.size none C).tr (aI.set (b:=lo+1) E 0 (.int .i64 x.kind))).tr (aI.set (b:=lo+1) E 1 (.int .i64 x.br))).tr (aI.set (b:=lo+1) E 2 (.int .u64 (x.life:Int)))).tr (aI.set (b:=lo+1) E 3 (.int .u64 (x.bV:Int)))).tr (aI.set (b:=lo+1) E 4 (.int .i64 x.cl))).tr (aI.set (b:=lo+1) E 5 (.int .u64 (x.sub:Int)))).tr (aI.set (b:=lo+1) E 6 (.slice t x.f.length j))).tr (aI.set (b:=lo+1) E 7 (.slice B es.length c5)))
 have K9:=(K.set (K.set (K.set (K.set (K.set (K.set (K.set (K.set kE (r:=lo+1) D 0 (.int .i64 x.kind)) (r:=lo+1) D 1 (.int .i64 x.br)) (r:=lo+1) D 2 (.int .u64 (x.life:Int))) (r:=lo+1) D 3 (.int .u64 (x.bV:Int))) (r:=lo+1) D 4 (.int .i64 x.cl)) (r:=lo+1) D 5 (.int .u64 (x.sub:Int))) (r:=lo+1) D 6 (.slice t x.f.length j)) (r:=lo+1) D 7 (.slice B es.length c5))
 clear q y z cS hr1 T Y N ie ng
 generalize (World.setCell (World.setCell (World.setCell (World.setCell (World.setCell (World.setCell (World.setCell (World.setCell C _ _) _ _) _ _) _ _) _ _) _ _) _ _) _ _)=W9 at *
 have e9:=jy.cell
 refine bodyPost_ret (v:=.agg #[.int .i64 x.kind,.int .i64 x.br,.int .u64 (x.life:Int),.int .u64 (x.bV:Int),.int .i64 x.cl,.int .u64 (x.sub:Int),.slice t x.f.length j,.slice B es.length c5]) aib rfl ?_
 refine⟨_,rfl,?_,K9⟩
 rw[JQ.aa]
 exact⟨_,_,rfl,mg af (fH.up YB (U9.more af (λ_ _ _=>aj))),aV.low (aV.floor (YA.up (aC _) (U9.more af (λ_ _ _=>aj))) af) af⟩
def wM(par ai:List Int)(k:Int)(j:Nat):List Int:=((List.range j).filter λc=>match ai[c]? with|some h=>Cl par k h|none=>false).map λ(c:Nat)=>(c:Int)
theorem ao6{par ai k j}(h:j<ai.length):wM par ai k (j+1)=if Cl par k ai[j]then wM par ai k j++[(j:Int)]else wM par ai k j:=by unfold wM;rw[List.range_succ,List.filter_append,List.map_append];have t:=List.getElem?_eq_getElem h;cases hu:Cl par k ai[j] <;> simp[t,hu]
theorem abN par ai k j:(wM par ai k j).length<=j:=by unfold wM;exact VM
theorem aoB{M p B w}(h:bA M p B w)(C:bD B) t :
 Calls prog 160 #[.pointer (some ⟨p.g,0,none⟩),.int .i64 t] w λe w'=>∃v',e=.returned v'/\aA (λk=>k<w.heap.size) w.heap.size 3 cR (uC B t) v' w'/\K w w':=by
 have HR:Hid (uC B t=wM B.par B.ai t B.ai.length):=ae rfl
 have hlen:=Pg C.hm
 have hpl:=(sD C.tr).2
 have y:=ae λW (k:K w W)=>(h.bI.at k).par
 have J:=h.bI.now.ai
 have q:=h.q
 obtain⟨g,gl,gd,gr,gt,vd,vr,vp,vh,vl,vq,va,vt,vf,vw,kr⟩:=p
 simp only at q J y
 have hvp:=aw (y.aa w (K.rf w))
 obtain⟨Ap,cp,rfl⟩:=hvp
 have CU:=ae λW (k:K w W) b=>ati B.par t b _ W (y.aa W k) af
 generalize uC B t=R at *
 obtain⟨A,c1,rfl,hl,-⟩:=J
 have V:=K.rf w
 have js:=aA.nil (λk=>k<w.heap.size) w.heap.size 3 cR w
 clear h C y
 go_enter func160,ntmps160
 go_wp2_with fail
 go_loopw [5,6,7,13] (fun vo _ _ i W=>∃j:Nat,j<=B.ai.length/\i=.int .i64 j/\aA (fun k=>k<w.heap.size) w.heap.size 3 cR (wM B.par B.ai t j) vo W/\K w W) (fun _ _ _ i _=>B.ai.length-(intOf i).toNat)
 case atStart=>exact⟨0,af,rfl,js,V⟩
 case round =>
  clear js V;obtain⟨j,hj,rfl,hO,kr⟩:=hrel;by_cases hlt:j<B.ai.length
  ·have aP:(j:Int)<B.ai.length:=af;obtain⟨b1,off,rfl,Y⟩:=ints_at hl af;have q2:=Y wr kr j hlt;have T:=ae (ao6 (par:=B.par) (k:=t) hlt);have hcl:=abN B.par B.ai t j;generalize B.ai[j]=hm at *;have F:=ae (CU.aa wr kr hm);generalize wM B.par B.ai t j=o at *;obtain⟨L,Q,rfl⟩:=hO.slice;clear Y;go_wp2_with fail
   refine F.aa.mono ?_;rintro e X⟨rfl,G⟩;have H:=kr.tr G;have D:=hO.st G;clear F q2 hO;cases hu:Cl B.par t hm
   ·have y:Hid (wM B.par B.ai t (j+1)=o):=ae (by rw[T.aa,hu];rfl);clear hu;go_wp2;go_roundw
    case rel=>exact⟨j+1,af,bJ,by rw[y.aa];exact D,H⟩
    case measure=>simp[intOf];omega
   have y:Hid (wM B.par B.ai t (j+1)=o++[(j:Int)]):=ae (by rw[T.aa,hu];rfl);have E:=ew.new (S:=cR) (e:=3) (x:=(j:Int)) (v:=.int .i64 j) (w:=X) (N:=λk=>k<w.heap.size∨(Value.slice L o.length Q).ownBlock=some k) (λW u=>rfl) 0 (eV _);have U:=K.new X (.cells #[.int .i64 j] 3);have O:=D.st U;have Z:=H.tr U;have qv:=Z.size;clear D hu;go_wp2_with (at_builtin;refine jt rfl _ _ 23 rfl _ 1 8 Co rfl rfl O _ rfl (j:Int) ?p1 ?p2 ?p3 ?_)
   case p1=>exact E
   case p2=>omega
   case p3=>simpa using qv
   intro v9 w9 bq bB cQ I;have ui:=Z.trans I;clear E O bB cQ I;go_wp2;go_roundw
   case rel=>exact⟨j+1,af,bJ,by rw[y.aa];exact bq,ui⟩
   case measure=>simp[intOf];omega
  ·have aP:¬(j:Int)<B.ai.length:=af;obtain rfl:j=B.ai.length:=af;rw[<- HR.aa]at hO;obtain⟨L,Q,rfl⟩:=hO.slice;exact PT
theorem aA.YC{α S Y base e l go cap w}(h:aA Y base e S l (.slice (some ⟨go,0,none⟩) l.length cap) w){j}(G:j<l.length){y:α}{cs}(L:cs.length=S.size)
 (D:Fx (λk=>Y k∨k=go) (λW=>S.rel y cs W) (dV w go (j*S.size) cs)):aA Y base e S (l.set j y) (.slice (some ⟨go,0,none⟩) l.length cap) (dV w go (j*S.size) cs):=by
 obtain⟨css,C,J,A⟩:=h
 have t:=A w (ag.rf _ _)
 have F:j<css.length:=af
 have H:=t.lens
 have M:=t.FQ
 have hb:j*S.size+S.size<=l.length*S.size:=by
  have:=Nat.mul_le_mul_right S.size (show j+1<=l.length from G)
  grind
 have E:=O7 cs css.flatten (j*S.size) w C af
 have B:=Ot S.size cs css H j 0 F af
 rw[Nat.add_zero]at B
 rw[B,T2 cs css[j] 0 aG,XH,aO]at E
 refine⟨css.set j cs,aG,aG,λw' u=>?_⟩
 have I:ag (λk=>Y k∨(Value.slice (some ⟨go,0,none⟩) l.length cap).ownBlock=some k) w (dV w go (j*S.size) cs):=ag.sets (X:=λk=>Y k∨(Value.slice (some ⟨go,0,none⟩) l.length cap).ownBlock=some k) (.inr rfl) cs _ w
 exact (A w' (I.tr u)).set j (D w' (u.more λk hk=>hk.imp id λe=>by simpa [Value.ownBlock]using e.symm))
def pY(L:List aK)(cs:List Int)(n j:Nat)(l:List aK):List aK:=l.zipIdx.map λp=>if p.2<j then jx (jW (L.take (n+p.2))) cs p.1 else p.1
theorem atY L cs n l:pY L cs n 0 l=l:=by simp[pY]
theorem Fk L cs n j l:(pY L cs n j l).length=l.length:=by simp[pY]
theorem axa L cs n j l(h:j<l.length):(pY L cs n j l)[j]'(by rw[Fk];exact h)=l[j]:=by
 grind [pY]
theorem aDQ L cs n j l i:(pY L cs n j l)[i]?=(l[i]?).map λx=>if i<j then jx (jW (L.take (n+i))) cs x else x:=by
 grind [pY,jx,jW]
theorem atZ L cs n j l(h:j<l.length):pY L cs n (j+1) l=(pY L cs n j l).set j (jx (jW (L.take (n+j))) cs l[j]):=by
 apply List.ext_getElem?
 intro i
 grind [pY,jx,jW]
theorem avI B cs n l:pY B.st.list cs n l.length l=BN B cs n l:=by
 grind [pY,BN,List.map_congr_left,List.mem_zipIdx]
theorem avJ{l}(h:∀x∈l,bK x=true):∀s∈jW l,okF s.f=true:=by
 have key:∀(l:List aK) (o:List lA),(∀x∈l,bK x=true)->(∀s∈o,okF s.f=true)->∀s∈l.foldl kK o,okF s.f=true:=by
  intro l
  induction l with
  | nil=>intro o _ ho;exact ho
  | cons x l t =>
   intro o j ho;refine t _ (λy hy=>j y Fw) ?_;unfold kK;split
   ·exact ho
   unfold tE;split
   ·rename_i u;intro s hs;simp only[DK,List.mem_singleton]at hs;rcases hs with (hs|rfl)|hs
    ·exact Qt
    ·rcases (Dc (j x aj)).2.2 with ⟨g,-⟩|⟨g,-⟩|⟨-,-,g⟩
     ·omega
     ·omega
     ·exact g
    ·exact Qt
   ·split
    ·intro s hs;rcases List.mem_append.1 hs with hs|hs
     ·exact Qt
     ·exact Qt
    ·exact ho
 exact key l [] h λs hs=>by simp at hs
theorem ayd(n:Nat)(h:n<=1000000):IntKind.i64.wrap (n:Int)=(n:Int):=by rw[IntKind.wrap_i64];omega
theorem ajp(n:Nat)(h:n<=1000000):IntKind.u64.wrap (n:Int)=(n:Int):=by show (n:Int)%2^64=_;omega
theorem avK{B B' x v W w}(h:vG B x v w)(hb:B'<=B)(k:K W w):∃v',Ending.returned v=.returned v'/\(∃vf j,v'=.agg (aD x vf j)/\Fx (λk=>k<B') (λW=>aU.rel x (aD x vf j).toList W) w)/\K W w:=by obtain⟨vf,j,e,h⟩:=Bq h;exact⟨_,rfl,⟨vf,j,e,h.less λk hk=>bz hk hb⟩,k⟩
theorem aoC{M p B w}(h:bA M p B w)(G:bD B)(hn:B.told.Nodup)(gV:B.told.length<=800000) t :
 Calls prog 95 #[.pointer (some ⟨p.g,0,none⟩),.int .i64 t] w λe w'=>∃v',e=.returned v'/\lF (wL B t) v' w'/\K w w':=by
 have SV:Hid (wL B t=⟨2,pK B t,[],[],BN B (uC B t) (pK B t) (zJ B.st.list (pK B t)),((if mQ B then B.waits else B.st.prom).take 16).map (jx (jW B.st.list) (uC B t)),uU (BI B) (i7 B t).asks,uT B.st B.waits (i7 B t)⟩):=ae rfl
 have aEm:=G.ajo t
 have hinv:=G.dk.inv
 have iz:=G.DD
 have hlen:=G.dk.len
 have hwl:=G.yB
 have hhv:pK B t<=B.st.list.length:=Nat.min_le_right _ _
 have HH:Hid (pK B t=min (i7 B t).got B.st.list.length):=ae rfl
 have q:=h.q
 have Q1:=ae λW (k:K w W)=>(Df (DX (P:=prog) (kt:=3) underlying3) underlying159 (ajl W) (h.rep.st k) t).2
 have HM:Hid (∀W,K w W->lF (i7 B t) ((di p.kr t).getD (.agg Cv)) W):=ae λW k=>(h.bI.at k).bQ.look t
 have CC:=ae λW (k:K w W)=>aoB (h.st k) G t
 have CS:=ae λW (k:K w W) n hn=>ab8 (h.st k) G n hn
 have CF:=ae λW (k:K w W)=>ase B.st.list (pK B t) p.vl W (h.bI.at k).list iz.1 af af
 have CK:=ae λW (k:K w W)=>apn (h.st k) G hn
 have CR:=ae λW (k:K w W)=>OG (h.st k)
 have HD:=ae λW (k:K w W)=>h.bI.at k
 have HSO:=ae λn=>avJ (l:=B.st.list.take n) λx hx=>(hinv.yU x (lM hx)).1
 have SX:=ae λn=>Uq (B.st.list.take n)
 have pg:(BI B).length<=1000000:=by unfold BI;rw[cF];omega
 have HOL:=ae hinv.yU
 have HOP:=ae hinv.yV
 have HOW:=ae G.waits
 have hcl:(uC B t).length<=32:=by have:=abN B.par B.ai t B.ai.length;have:=(Pg G.hm).2;show (wM B.par B.ai t B.ai.length).length<=32;omega
 have HCA:Hid (∀j l,j=l.length->pY B.st.list (uC B t) (pK B t) j l=BN B (uC B t) (pK B t) l):=ae λj l e=>by rw[e];exact avI B _ _ l
 have cL:∀x∈zJ B.st.list (pK B t),x∈B.st.list:=λx hx=>List.mem_of_mem_drop (lM hx)
 have hfn:(zJ B.st.list (pK B t)).length+pK B t<=B.st.list.length:=by unfold zJ;simp;omega
 have R7:=ae cL
 generalize wL B t=R at *
 generalize uC B t=cs at *
 generalize BI B=kn at *
 generalize pK B t=C at *
 generalize i7 B t=A at *
 generalize zJ B.st.list C=es at *
 obtain⟨g,gl,gd,gr,gt,vd,vr,vp,vh,vl,vq,va,vt,vf,vw,kr⟩:=p
 simp only at q Q1 HM CC CS CF CK CR HD
 have sw:=HD.aa w (K.rf w)
 obtain⟨Al,cl,rfl⟩:=aw sw.list
 obtain⟨Aq,cq,rfl⟩:=aw sw.prom
 obtain⟨Aa,ca,rfl⟩:=aw sw.ab
 obtain⟨Aw,cw,rfl⟩:=aw sw.waits
 obtain⟨m1,m2,m3,m4,m5,m6,em,jL,hm2,rV,vR,Em,yK⟩:=HM.aa w (K.rf w)
 obtain⟨A1,c1,rfl⟩:=aw jL
 obtain⟨A2,c2,rfl⟩:=aw hm2
 obtain⟨A3,c3,rfl⟩:=aw rV
 obtain⟨A4,c4,rfl⟩:=aw vR
 obtain⟨A5,c5,rfl⟩:=aw Em
 obtain⟨A6,c6,rfl⟩:=aw yK
 rw[em]at HM Q1
 have MV:=ah.new w 156 Cv
 have F:=MV.aS
 simp only[encI]at Q1
 clear h G hn sw em jL hm2 rV vR Em yK hinv cL
 go_enter func95,ntmps95
 go_upto_region 1 with (fail)
 generalize w.alloc _=w1 at *
 generalize sP:w.heap.size=gz at MV⊢
 have HGZ:=ae sP
 clear sP
 have ql:=Q1.aa w1 F
 have hx:=ah.new w1 156 (km A (.slice A1 A.cK.length c1) (.slice A2 A.asks.length c2) (.slice A3 A.entries.length c3) (.slice A4 A.fc.length c4) (.slice A5 A.dN.length c5) (.slice A6 A.ends.length c6))
 have k2:=hx.aS
 go_upto_region 2 with (fail)
 have akr:=MV.av k2
 have kX:=F.tr k2
 generalize World.alloc w1 _=w2 at *
 generalize s5:w1.heap.size=gx at hx⊢
 clear ql s5 MV
 go_wp2_with fail
 apply lQ (CC.aa w2 kX)
 rintro v7 w3⟨jC,k3⟩
 have SY:=ae λW (k:K w3 W)=>bo jC.aq k
 obtain⟨A7,c7,rfl⟩:=jC.slice
 have ni:=kX.tr k3
 have eO:=hx.av k3
 have aks:=akr.av k3
 have qx:=eO.cell
 have hw:=ajp B.st.list.length af
 have CF3:=ae (CF.aa w3 ni)
 clear CC CF Q1 jC hx akr
 go_wp2_with fail
 rw[show min ((A.got:Nat):Int) ((B.st.list.length:Nat):Int)=(C:Int) by rw[HH.aa];omega]
 apply lQ CF3.aa
 rintro v9 w4⟨H,k4⟩
 obtain⟨O,L,rfl⟩:=H.slice
 have kk:=k4
 have hO:aA (λk=>k<w3.heap.size) w3.heap.size 126 aU (pY B.st.list cs C 0 es) (.slice O es.length L) w4:=by rw[atY];exact H
 clear CF3 qx hw k4 H HH
 go_wp2_with fail
 go_loopw [10,11,46] (fun _ _ i W=>∃j:Nat,j<=es.length/\i=.int .i64 (j:Int)/\aA (fun k=>k<w3.heap.size) w3.heap.size 126 aU (pY B.st.list cs C j es) (.slice O es.length L) W/\K w3 W) (fun _ _ i _=>es.length-(intOf i).toNat)
 case atStart=>exact⟨0,af,rfl,hO,kk⟩
 case round =>
  clear hO kk;obtain⟨j,hj,rfl,hO,kr⟩:=hrel;by_cases hlt:j<es.length
  ·have aP:(j:Int)<(es.length:Int):=af;obtain⟨go,cap,e9,hgo⟩:∃go cap,Value.slice O es.length L=.slice (some ⟨go,0,none⟩) es.length cap/\w3.heap.size<=go:=by
    obtain⟨css,hrow,-,-⟩:=hO;rcases hrow.2 with ⟨-,h0⟩|⟨go,cap,cur,e,hg,-⟩
    ·rw[Fk]at h0;omega
    ·rw[Fk]at e;exact⟨go,cap,e,hg⟩
   injection e9 with J _ e3;subst J e3;have SU:j<(pY B.st.list cs C j es).length:=by rw[Fk];exact hlt
   obtain⟨A0,c0,e0,rT,-⟩:=hO.aq;injection e0 with e0 _ _;subst e0;obtain⟨b1,off,cs9,e9,eJ,hrl,d0,d⟩:=ed rT j SU ay;cases e9;have HS:=ae (atZ B.st.list cs C j es hlt);have Sm:=hrl wr (K.rf wr);rw[axa _ _ _ _ _ hlt]at Sm;have hxL:=R7.aa _ (bS hlt);have hxo:=HOL.aa _ hxL;generalize es[j]=x at *;obtain⟨AK,AL,rfl,hf,he⟩:=Sm;have HE:Hid (∀W,K wr W->cV x (.agg (aD x AK AL)) W):=ae λW k=>⟨_,_,rfl,eH _ _ _ _ hf k,bo he k⟩
   have q:∀i,i<8->wr.cell? ⟨go,j*8+i,none⟩=(aD x AK AL)[i]?:=λi hi=>by have:=d wr (K.rf wr) i hi;rw[mi]at this;exact this.trans Array.getElem?_toList
   have q0:wr.cell? ⟨go,j*8,none⟩=some (.int .i64 x.kind):=q 0 ay;have HQ:Hid (∀W,K wr W->∀i,i<8->W.cell? ⟨go,j*8+i,none⟩=(aD x AK AL)[i]?):=ae λW k i hi=>by have:=d W k i hi;rw[mi]at this;exact this.trans Array.getElem?_toList
   have r8:=ah.new wr 126 (aD x AK AL);have I:=r8.aS;obtain⟨Af,cf,rfl⟩:=b6 hf;obtain⟨U,T,rfl⟩:=aw he;have HO:=ae hO;clear d d0 hf he hrl eJ rT hO;go_upto_region 9 with (fail);generalize wr.alloc _=w6 at *;have nK:=kr.tr I;have SZ:=ni.tr nK;have Gi:C+j<=B.st.list.length:=af;have hwi:=ayd C af;have hwj:IntKind.i64.wrap ((C:Int)+(j:Int))=(C:Int)+(j:Int):=Lf;have C1:=ae λW k=>by have:=CS.aa W k (C+j) Gi;rw[Int.natCast_add]at this;exact this
   have mA:=SX.aa (C+j);have ru:=HSO.aa (C+j);simp only[nX]at mA;have C2:=ae λvS W (k:K w6 W) (hS:aq iu (jW (B.st.list.take (C+j))) vS W)=>adD (jW (B.st.list.take (C+j))) cs x vS _ _ W hS (SY.aa W (nK.tr k)) (HE.aa W (I.tr k)) af af ru hxo.1
   generalize jW (B.st.list.take (C+j))=sj at *;generalize jx sj cs x=y at *;have qx8:=r8.cells;clear q q0 mA ru;have qs:=And.intro hwi (And.intro hwj qx8);refine dD 11 [([],[]),([],[]),([],[]),([],[]),([3],[(54,3)]),([],[]),([4,5],[(55,4),(56,5)]),([2,6],[(53,2),(57,6)]),([],[]),([],[]),([7,8,9],[(58,7),(59,8),(60,9)]),([0,1,2,3,4,5,6,7,8,9,10],[(51,0),(52,1)]),([0,1,2,3,4,5,6,7,8,9,10,11],[(62,11),(61,10)])] 115 ?_;iterate 7 refine au.i ?_
   refine au.c (λv W=>aq iu sj v W) (λ_ _ _ h k=>bo h k) (λW k=>(C1.aa W (SZ.tr k)).mono λe w' ⟨v,J,Q,F⟩=>⟨v,J,Q.aq,F⟩) ?_;iterate 2 refine au.i ?_
   refine au.d (λv W=>∃vf ve,v=.agg (aD y vf ve)/\Fx (λk=>k<w6.heap.size) (λW=>aU.rel y (aD y vf ve).toList W) W) (λ_ _ _ ⟨vf,ve,e,h⟩ k=>⟨vf,ve,e,h.k k⟩) (λV W k hp=>(C2.aa _ W k (hp 7 aj)).mono λe w' ⟨v,J,Q,F⟩=>J▸avK Q k.size F) ?_;intro V W kW hA;simp only[aO,aQ,cz,aJ,Nat.reduceAdd]at hA;obtain⟨f0,f1,-,-,-,-,-,-,-,-,⟨nP,nQ,f10,hF⟩,-⟩:=hA;have hfn:=hF.now;obtain⟨Jz,JA,e3,S0,S4⟩:=hfn;cases e3;obtain⟨y8,y9,rfl⟩:=b6 S0;obtain⟨wq,wu,rfl⟩:=aw S4;have kF:K wr W:=I.tr kW;have H:=HO.aa.st kF;have hfz:∀i,W.frozen? ⟨go,i,none⟩=false:=by obtain⟨css,hrow,-,-⟩:=H;rw[Fk]at hrow;exact (Fb hrow).2
   have hq:=HQ.aa W kF;have B7:W.cell? ⟨go,j*8,none⟩=some (.int .i64 x.kind):=hq 0 ay;refine aH.pure (.pointer (some ⟨go,j*8,none⟩)) rfl (by simp[aE,List.lookup,ba,f0,f1,execOp,aF,aP,go_sem]) ?_;refine aH.skip (dV W go (j*8) [.int .i64 y.kind,.int .i64 y.br,.int .u64 (y.life:Int),.int .u64 (y.bV:Int),.int .i64 y.cl,.int .u64 (y.sub:Int),.slice y8 y.f.length y9,.slice wq y.es.length wu]) rfl (by simp[aE,List.lookup,ba,f10,execOp,aF,hq,B7,hfz,dV,go_sem]) ?_;refine aH.e ?_;have gA:=(HO.aa.blk go rfl).2;have qv:=I.size;have Cx:=kW.size;have u9:ag (λk=>k=go) W (dV W go (j*8) [.int .i64 y.kind,.int .i64 y.br,.int .u64 (y.life:Int),.int .u64 (y.bV:Int),.int .i64 y.cl,.int .u64 (y.sub:Int),.slice y8 y.f.length y9,.slice wq y.es.length wu]):=ag.sets (X:=λk=>k=go) (g:=go) rfl _ _ W;have JL:=(hF.up u9 λk e=>Qu).less (N:=λk=>k<w3.heap.size∨k=go) λk hk=>by have:=nK.size;rcases hk with hk|hk <;> omega
   rw[show es.length=(pY B.st.list cs C j es).length from (Fk _ _ _ _ _).symm]at H;have mZ:=H.YC (j:=j) SU (y:=y) rfl JL;rw[<- HS.aa,Fk]at mZ;have kF9:=u9.k (nK.tr kW) λk e=>by subst e;exact hgo
   clear hq B7 hfz hF H f0 f1 qs f10 qx8 JL u9;go_wp2;go_roundw
   case rel=>exact⟨j+1,af,bJ,mZ,kF9⟩
   case measure=>simp[intOf];omega
  ·have aP:¬(j:Int)<(es.length:Int):=af;obtain rfl:j=es.length:=af;rw[HCA.aa _ _ rfl]at hO;have hce:(BN B cs C es).length=es.length:=by simp[BN]
   have S5:=ae hce;have kU:=ae (hO.fx λk hk=>hk);rw[<- hce]at kU;obtain⟨u,I3⟩:∃u,u=if mQ B then B.waits else B.st.prom:=⟨_,rfl⟩
   obtain⟨Am,cm,hmt,M4,tR,hmo⟩:∃Am cm,(mQ B=true->Value.slice Aw B.waits.length cw=.slice Am u.length cm)/\(mQ B=false->Value.slice Aq B.st.prom.length cq=.slice Am u.length cm)/\(∀W,K w W->aq aU u (.slice Am u.length cm) W)/\∀x∈u,bK x=true/\cD x:=by
    cases hr:mQ B
    ·rw[hr]at I3;obtain rfl:u=B.st.prom:=I3;exact⟨Aq,cq,λh=>wR,λ_=>rfl,λW k=>(HD.aa W k).prom,HOP.aa⟩
    ·rw[hr]at I3;obtain rfl:u=B.waits:=I3;exact⟨Aw,cw,λ_=>rfl,λh=>wR,λW k=>(HD.aa W k).waits,HOW.aa⟩
   rw[<- I3]at SV;have HMT:=ae hmt;have HMF:=ae M4;have S6:=ae tR;have HMO:=ae hmo;have iJ:=ni.tr kr;have CR7:=ae (CR.aa wr iJ);clear hO hce hmt M4 tR hmo I3 CR HOP HOW HOL R7;go_wp2_with fail
   apply oX CR7.aa kr;intro w7 k7 oF;have G8:=iJ.tr k7;have oA:=eO.av oF;have aAe:=aks.av oF;clear CR7;go_upto_if 70 with (fail);go_cut [12,70]from 71 to 74 (fun v _ W=>v=.slice Am u.length cm/\w7=W)
   case first =>
    cases hr:mQ B
    ·have e:=ae (HMF.aa hr);exact aic
    ·have e:=ae (HMT.aa hr);exact aic
   case rest =>
    obtain⟨rfl,rfl⟩:=hcut;clear HMT HMF;have C8:=ae (CS.aa w7 G8 B.st.list.length (aC _));have mA:=SX.aa B.st.list.length;have ru:=HSO.aa B.st.list.length;rw[lL]at C8 mA ru;have vT:u.take 16=u.take (min u.length 16):=by rw[List.take_eq_take_iff];omega
    rw[vT]at SV;obtain⟨E,hnm⟩:∃E,E=min u.length 16:=⟨_,rfl⟩;rw[<- hnm]at SV;have HNM:=ae hnm;generalize jW B.st.list=sl at *;clear vT hnm;go_wp2_with fail
    apply lQ C8.aa;rintro v13 D⟨F3,I⟩;have aAf:=ae λW (k:K D W)=>bo F3.aq k
    have kU:=ae (kU.aa.k (k7.tr I));have SY:=ae λW (k:K D W)=>SY.aa W ((oF.tr I).tr k)
    obtain⟨A13,c13,rfl⟩:=F3.slice;have JS:=G8.tr I;have r8:=oA.av I;have akt:=aAe.av I;have pz:=oF.tr I;have hcm:u.length<=cm:=by obtain⟨_,_,e,-,hc⟩:=S6.aa D JS;injection e with _ _ e3;rw[e3];exact hc
    have aAg:min ((u.length:Nat):Int) 16=(E:Int):=WO;have dA:E<=u.length:=WO;have aEn:E<=16:=WO;have hnc:(E:Int)<=(cm:Int):=af;clear C8 F3;go_wp2_with fail
    have kk:=K.rf D;have hO:=aA.nil (λk=>k<D.heap.size) D.heap.size 126 aU D;go_loopw [14,16,84] (fun o _ i W=>∃j:Nat,j<=E/\i=.int .i64 (j:Int)/\aA (fun k=>k<D.heap.size) D.heap.size 126 aU ((u.take j).map (jx sl cs)) o W/\K D W) (fun _ _ i _=>E-(intOf i).toNat)
    case atStart=>exact⟨0,af,rfl,Bv,kk⟩
    case round =>
     clear hO kk aAg hcm hnc;obtain⟨j,hj,rfl,hO,kq⟩:=hrel;by_cases vA:j<E
     ·have aAh:(j:Int)<(E:Int):=af;obtain⟨_,_,e0,rT,-⟩:=S6.aa D JS;injection e0 with e0 e00 e01;subst e0;clear e00 e01;have hjm:j<u.length:=af;obtain⟨b1,off,cs9,rfl,eJ,hrl,d0,d⟩:=ed rT j hjm ay;have HS:Hid ((u.take (j+1)).map (jx sl cs)=(u.take j).map (jx sl cs)++[jx sl cs u[j]]):=ae (by rw[gj hjm,List.map_append];rfl);have hxo:=HMO.aa _ (bS hjm);have NG:Hid (((u.take j).map (jx sl cs)).length=j):=ae aY;generalize u[j]=x at *;obtain⟨AK,AL,rfl,hf,he⟩:=hrl D (K.rf D);have HE:Hid (∀W,K D W->cV x (.agg (aD x AK AL)) W):=ae λW k=>⟨_,_,rfl,eH _ _ _ _ hf k,bo he k⟩
      have q:∀i,i<8->wr.cell? ⟨b1,off+j*8+i,none⟩=(aD x AK AL)[i]?:=λi hi=>(d wr kq i hi).trans Array.getElem?_toList
      have q0:wr.cell? ⟨b1,off+j*8,none⟩=some (.int .i64 x.kind):=d0 wr kq;have nj:=ah.new wr 126 (aD x AK AL);have k9:=nj.aS;obtain⟨Af,cf,rfl⟩:=b6 hf;obtain⟨U,T,rfl⟩:=aw he;obtain⟨Y,Z,rfl⟩:=hO.slice;have bR:=hO.blk;generalize (u.take j).map (jx sl cs)=o1 at *;clear d d0 hf he hrl eJ rT;go_upto_region 19 with (fail);generalize wr.alloc _=w9 at *;have S7:=kq.tr k9;have qx9:=nj.cell;have H:=hO.st k9;have C9:=ae (adD sl cs x _ _ _ w9 (aAf.aa w9 S7) (SY.aa w9 S7) (HE.aa w9 S7) af af ru hxo.1);have nt:=k9.size;have hzq:=kq.size;generalize jx sl cs x=y at *;clear q q0 hO nj;go_wp2_with fail
      apply lQ C9.aa;rintro v10 sk⟨hy,G0⟩;obtain⟨nP,nQ,rfl,hF⟩:=Bq hy;obtain⟨Jz,JA,e3,S0,S4⟩:=hF.now;cases e3;obtain⟨y8,y9,rfl⟩:=b6 S0;obtain⟨wq,wu,rfl⟩:=aw S4;have jD:Fx (λk=>k<D.heap.size∨(Value.slice Y o1.length Z).ownBlock=some k) (λW=>aU.rel y (Value.agg (aD y (.slice y8 y.f.length y9) (.slice wq y.es.length wu))).cells.toList W) sk:=hF.less λk hk=>by
       rcases hk with hk|hk
       ·omega
       ·have:=(bR k hk).2;omega
      have hr:=ew.new (S:=aU) (e:=126) (v:=.agg (aD y (.slice y8 y.f.length y9) (.slice wq y.es.length wu))) jD 0 (eV _);have kA:=K.new sk (.cells (aD y (.slice y8 y.f.length y9) (.slice wq y.es.length wu)) 126);have mZ:=(H.st G0).st kA;have aku:=(S7.tr G0).tr kA;have hzA:=aku.size;clear C9 hF jD S0 S4 hy H qx9;go_wp2_with (at_builtin;refine jt rfl _ _ 43 rfl _ 8 96 oH rfl rfl mZ _ rfl y ?p1 ?p2 ?p3 ?_)
      case p1=>exact hr
      case p2=>have:=NG.aa;omega
      case p3=>simpa using hzA
      intro v11 Bc zX xc FK I2;rw[<- HS.aa]at zX;have kqF:=aku.trans I2;clear hr mZ xc FK I2;go_wp2;go_roundw
      case rel=>exact⟨j+1,af,bJ,zX,kqF⟩
      case measure=>simp[intOf];omega
     ·have aAh:¬(j:Int)<(E:Int):=af;obtain rfl:j=E:=af;obtain⟨Y,Z,rfl⟩:=hO.slice;have HPR:=ae (hO.fx λk hk=>hk);have xK:=JS.tr kq;have nj:=r8.av kq;have aAi:=akt.av kq;have qw:=λW (k:K wr W)=>q W (xK.tr k)
      have qx:=nj.cells;have aAj:=aks.lt;have h38:=pz.size;have h8r:=kq.size;have aAk:=ae (kU.aa.k kq);clear hO kU akt r8 nj;go_upto_region 21 with (fail);have qs:=And.intro qw qx;refine dD 18 [([],[]),([],[]),([],[]),([],[]),([3],[(99,3)]),([],[]),([5],[(101,5)]),([4,6],[(100,4),(102,6)]),([],[]),([8],[(104,8)]),([9],[(105,9)]),([10],[(106,10)]),([],[]),([12],[(108,12)]),([13],[(109,13)]),([14],[(110,14)]),([],[]),([11,15,16],[(107,11),(111,15),(112,16)]),([0,1,2,7,17],[(96,0),(97,1),(98,2),(103,7),(113,17)]),([0,1,2,3,4,5,6,7,8,9,10,11,12,13,14,15,16,17,18],[(114,18)])] 115 ?_;iterate 4 refine au.i ?_
      refine au.c (λv W=>aq b5 kn v W) (λ_ _ _ h k=>bo h k) (λW k=>(CK.aa W (xK.tr k)).mono λe w' ⟨v,J,Q,F⟩=>⟨v,J,Q.aq,F⟩) ?_;iterate 2 refine au.i ?_
      refine au.d (λv W=>Fx (λk=>k<wr.heap.size) (λW=>aq b5 (uU kn A.asks) v W) W) (λ_ _ _ h k=>h.k k) (λV W k hp=>(asd kn A.asks _ _ W (hp 4 aj) (by obtain⟨_,_,_,_,_,_,e,h⟩:=HM.aa W (xK.tr k);cases e;exact h.2.1) pg af).mono λe w' ⟨v,J,Q,F⟩=>⟨v,J,(Q.fx λ_ h=>h).less λi hi=>bz hi k.size,F⟩) ?_;iterate 9 refine au.i ?_
      refine au.c (λv W=>Fx (λk=>k<wr.heap.size) (λW=>aq b5 (uT B.st B.waits A) v W) W) (λ_ _ _ h k=>h.k k) (λW k=>(arZ B.st B.waits A _ _ _ _ _ W ⟨_,_,_,rfl,(HD.aa W (xK.tr k)).list,(HD.aa W (xK.tr k)).prom,(HD.aa W (xK.tr k)).ab⟩ (HD.aa W (xK.tr k)).waits (HM.aa W (xK.tr k)) ⟨af,af⟩ af af).mono λe w' ⟨v,J,Q,F⟩=>⟨v,J,(Q.fx λ_ h=>h).less λi hi=>bz hi k.size,F⟩) ?_;intro V W kW hA;simp only[aO,aQ,cz,aJ,Nat.reduceAdd]at hA;obtain⟨f0,f1,f2,-,-,-,-,f7,-,-,-,-,-,-,-,-,-,f17,-⟩:=id hA;obtain⟨At,ct,et⟩:=aw f7.now;obtain⟨U,T,ee⟩:=aw f17.now;rw[et]at f7;rw[ee]at f17;have Cx:=aAi.av kW;have qz:=Cx.cell;have zz:=Cx.frozen;have RQ:=ae (HPR.aa.k kW);have HE9:=ae (aAk.aa.k kW);have F7:=ae f7;have F17:=ae f17;clear f7 f17 hA qs qw qx;refine aH.pure (.agg #[.int .i64 2,.int .u64 (C:Int),.slice none 0 0,.slice none 0 0,.slice O es.length L,.slice Y ((u.take j).map (jx sl cs)).length Z,.slice At (uU kn A.asks).length ct,.slice U (uT B.st B.waits A).length T]) rfl (by simp[aE,List.lookup,f0,f1,f2,et,ee,execOp,aF,go_sem]) ?_;refine aH.skip (dV W gz 0 [.int .i64 2,.int .u64 (C:Int),.slice none 0 0,.slice none 0 0,.slice O es.length L,.slice Y ((u.take j).map (jx sl cs)).length Z,.slice At (uU kn A.asks).length ct,.slice U (uT B.st B.waits A).length T]) rfl (by simp[aE,List.lookup,ba,execOp,aF,qz,zz,dV,go_sem]) ?_;refine aH.e ?_;have sZ:=Fq (us:=[.int .i64 2,.int .u64 (C:Int),.slice none 0 0,.slice none 0 0,.slice O es.length L,.slice Y ((u.take j).map (jx sl cs)).length Z,.slice At (uU kn A.asks).length ct,.slice U (uT B.st B.waits A).length T]) Cx rfl;have u9:=ag.sets (X:=λk=>k=gz) (g:=gz) rfl ([.int .i64 2,.int .u64 (C:Int),.slice none 0 0,.slice none 0 0,.slice O es.length L,.slice Y ((u.take j).map (jx sl cs)).length Z,.slice At (uU kn A.asks).length ct,.slice U (uT B.st B.waits A).length T]) 0 W;have JT:=ae (show lF R (.agg #[.int .i64 2,.int .u64 (C:Int),.slice none 0 0,.slice none 0 0,.slice O es.length L,.slice Y ((u.take j).map (jx sl cs)).length Z,.slice At (uU kn A.asks).length ct,.slice U (uT B.st B.waits A).length T]) (dV W gz 0 ([.int .i64 2,.int .u64 (C:Int),.slice none 0 0,.slice none 0 0,.slice O es.length L,.slice Y ((u.take j).map (jx sl cs)).length Z,.slice At (uU kn A.asks).length ct,.slice U (uT B.st B.waits A).length T])) by
       have g1:=(HE9.aa.up u9 λk e=>by subst e;exact aAj).now;rw[S5.aa]at g1;rw[SV.aa];exact⟨_,_,_,_,_,_,rfl,gh _ _,gh _ _,g1,(RQ.aa.up u9 λk e=>Qu).now,(F7.aa.up u9 λk e=>Qu).now,(F17.aa.up u9 λk e=>Qu).now⟩)
      have HK:=ae (u9.k (xK.tr kW) λk e=>by have:=HGZ.aa;omega);clear u9 Cx qz zz RQ HE9 F7 F17 f0 f1 f2 et ee;generalize dV W gz 0 _=W9 at *;have e9:=sZ.cell;go_wp2;refine bodyPost_ret (v:=.agg #[.int .i64 2,.int .u64 (C:Int),.slice none 0 0,.slice none 0 0,.slice O es.length L,.slice Y ((u.take j).map (jx sl cs)).length Z,.slice At (uU kn A.asks).length ct,.slice U (uT B.st B.waits A).length T]) (by simp[results,results95,go_sem,e9]) rfl ?_;exact⟨_,rfl,JT.aa,HK.aa⟩
