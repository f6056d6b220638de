/-
  The walks of table.Filters (layer 15). Conditions: lists of at most a million.
-/
import Derived.Test.YtoeiinllelipoaaGreatMa27
import Derived.Test.YtoeiinllelipoaaGreatMz
set_option maxRecDepth 100000
set_option maxHeartbeats 16000000
set_option linter.unusedVariables false
set_option linter.unusedSimpArgs false
namespace Go.Proofs.YtoeiinllelipoaaGreat
open Go Go.RowKit _root_.Go.Proofs.Tryz
theorem apF(l:List Int)(a:Int)(v:Value)(w:World)(h:ar eS l v w)(F:l.length<=1000000) :
 Calls prog 99 #[v,.int .i64 a] w λe w'=>∃i:Int,e=.returned (.int .i64 i)/\K w w'/\decide (0<=i)=l.any λx=>decide (x=a):=by
 have kk:=K.rf w
 obtain⟨A,c,rfl,y,-⟩:=h
 go_enter func99,ntmps99
 go_wp2_with fail
 go_loopw [5,8] (fun _ i wr=>∃k:Nat,k<=l.length/\i=.int .i64 (k:Int)/\Hid ((l.take k).any (fun x=>decide (x=a))=false)/\K w wr) (fun _ i _=>l.length-(intOf i).toNat)
 case atStart=>exact⟨0,af,rfl,ae aj,kk⟩
 case round =>
  clear kk;obtain⟨k,hk,rfl,u,kr⟩:=hrel;by_cases j:k<l.length
  ·have E:(k:Int)<(l.length:Int):=af;obtain⟨H,G,rfl,s⟩:=ints_at y af;have HB:=ae (xp (λx=>decide (x=a)) l k j);have B:=ae (xq (λx=>decide (x=a)) l (k+1));have q:=s wr kr k j;generalize l[k]=t at *;clear s;by_cases hx:t=a
   ·have HE:Hid (l.any (λx=>decide (x=a))=true):=ae (B.aa WT);have D:(a==t)=true:=Ds;clear hx;exact WU
   ·have C:Hid ((l.take (k+1)).any (λx=>decide (x=a))=false):=ae (by rw[HB.aa,u.aa];simpa using hx);have D:(a==t)=false:=by simpa using λe=>hx e.symm
    clear hx;go_wp2;go_roundw
    case rel=>exact⟨k+1,af,bO,C,kr⟩
    case measure=>simp[intOf];omega
  ·have E:¬(k:Int)<(l.length:Int):=af;have HE:Hid (l.any (λx=>decide (x=a))=false):=ae (by
    have:=u.aa;rw[eT af]at this;exact this)
   exact WU
theorem aaQ(l:List Int)(a:Int)(v:Value)(w:World)(h:ar eS l v w)(B:l.length<=1000000) :
 Calls prog 53 #[v,.int .i64 a] w λe w'=>e=.returned (.bool (decide (a∈l)))/\K w w':=by
 have j:=ae (apF l a v w h B)
 obtain⟨A,c,rfl⟩:=az h
 have y:Hid (decide (a∈l)=l.any λx=>decide (x=a)):=ae PY
 clear h
 generalize decide (a∈l)=R at *
 go_enter func53,ntmps53
 go_wp2_with fail
 refine j.aa.mono ?_
 rintro e C⟨i,rfl,t,s⟩
 have u:=ae s
 clear j s
 go_wp2
 go_ret
 exact⟨by rw[y.aa,<- u.aa];rfl,t⟩
theorem aqE(s:dZ)(cs:List Int)(v j:Value)(g:Nat)(w:World)(h:sub s v w)(hg:ai w g 22 #[j])(t:ar eS cs j w)(E:cs.length<=1000000) :
 Calls prog 236 #[v,.pointer (some ⟨g,0,none⟩)] w λe w'=>e=.returned (.bool (decide (s.cl∈cs)))/\K w w':=by
 obtain⟨G,rfl,B⟩:=h
 obtain⟨A,d,rfl⟩:=cB B
 have i:K w (w.alloc (.cells (jU s (.slice A s.f.length d)) 206)):=(K.rf w).al _
 have hb:=ai.new w 206 (jU s (.slice A s.f.length d))
 have u:=hg.below i hg.lt
 have y:=ae (aaQ cs s.cl j _ (aW t i) E)
 obtain⟨I,cc,rfl⟩:=az t
 generalize decide (s.cl∈cs)=R at *
 clear B hg t
 go_enter func236,ntmps236
 go_upto_region 1 with (fail)
 generalize w.alloc _=H at *
 have q:=hb.cell
 have D:=u.cell
 go_wp2_with fail
 refine y.aa.mono ?_
 rintro r J⟨rfl,C⟩
 have F:=i.tr C
 clear y q D hb u
 go_wp2
 go_ret
 exact⟨rfl,F⟩
theorem aoW(l:List dZ)(cs:List Int)(v vc:Value)(w:World)(h:ar gQ l v w)(T:ar eS cs vc w)(hlen:l.length<=500000)(hcl:cs.length<=1000000)(F:∀s∈l,s.f.length<=1000000) :
 Calls prog 194 #[v,vc] w λe w'=>∃v',e=.returned v'/\ar nT (si ((p7 l cs).map (·.f))) v' w'/\K w w':=by
 have HR:Hid (si ((p7 l cs).map (·.f))=si ((l.filter λs=>decide (s.cl∈cs)).map (·.f))):=ae rfl
 have HL:=ae (II h)
 have HS:=ae F
 have HC:=ae T
 obtain⟨A,d,rfl⟩:=az h
 obtain⟨Ac,cc,rfl⟩:=az T
 have E:K w (w.alloc (.cells #[.slice Ac cs.length cc] 22)):=(K.rf w).al _
 have hb:=ai.new w 22 #[.slice Ac cs.length cc]
 generalize si ((p7 l cs).map (·.f))=R at *
 clear h T F
 go_enter func194,ntmps194
 go_upto_region 1 with (fail)
 generalize w.alloc _=w1 at *
 have hz1:=E.size
 generalize kL:w.heap.size=lo at hb HL hz1⊢
 have C1:=ae (ER (λk=>lo<=k) l _ (λs=>decide (s.cl∈cs)) 236 #[.pointer (some ⟨lo,0,none⟩)] w1 (HL.aa.st E) af (λ_ _=>nz) λW k s _ u hu=>aqE s cs u _ lo W hu (hb.below k hb.lt) (aW HC.aa (E.tr k)) hcl)
 clear kL
 go_wp2_with fail
 refine C1.aa.mono ?_
 rintro e B⟨v2,rfl,D,k2⟩
 have cC:=lV (λs=>decide (s.cl∈cs)) l
 have zU:=yP (q:=λs=>decide (s.cl∈cs)) HS.aa
 generalize l.filter (λs=>decide (s.cl∈cs))=t at *
 have bw:=E.tr k2
 have QB:=D.blk
 obtain⟨Q,c2,rfl⟩:=D.slice
 have H2:=ae (D.GQ (N:=λk=>lo<=k/\(Value.slice Q t.length c2).ownBlock≠some k) (λk hk=>.inl hk.1) λk h1 h2=>h2.2 h1)
 have JG:=ae zU
 have jt:=aT.nil (λk=>lo<=k/\(Value.slice Q t.length c2).ownBlock≠some k) B.heap.size 36 nT B
 have kk:=K.rf B
 clear C1 D hb zU
 go_wp2_with fail
 go_loopw [6,8,14] (fun vo _ i W=>∃j:Nat,j<=t.length/\i=.int .i64 (j:Int)/\aT (fun k=>lo<=k/\(Value.slice Q t.length c2).ownBlock≠some k) B.heap.size 36 nT ((t.take j).map (·.f)) vo W/\K B W) (fun _ _ i _=>t.length-(intOf i).toNat)
 case atStart=>exact⟨0,af,rfl,by simpa using jt,kk⟩
 case round =>
  clear jt kk;obtain⟨j,hj,rfl,y,kr⟩:=hrel;by_cases hlt:j<t.length
  ·have ba:(j:Int)<(t.length:Int):=af;obtain⟨b,I,c',cs1,L,wJ,dH,U,d⟩:=H2.aa.at j hlt au;injection L with L _ e2;subst L e2;have HT:Hid ((t.take (j+1)).map (·.f)=(t.take j).map (·.f)++[t[j].f]):=ae VV;generalize t[j]=x at *;obtain⟨vf,rfl,X⟩:=U.now;have q9:∀i,i<3->wr.cell? ⟨b,I+j*3+i,none⟩=(jU x vf)[i]?:=λi hi=>(d wr (ah.bg kr _) i hi).trans Array.getElem?_toList
   have q0:wr.cell? ⟨b,I+j*3,none⟩=some (.int .i64 x.cl):=by first|exact q9 0 (by decide)|simp
   have Y:Fx (λk=>lo<=k/\(Value.slice (some ⟨b,I,none⟩) t.length c2).ownBlock≠some k) (λW=>nT.rel x.f [vf] W) B:=λW u=>by obtain⟨iO,e,h⟩:=U W u;simp at e;subst e;exact⟨_,rfl,h⟩
   obtain⟨C,G,rfl⟩:=cB X;have hx:=ai.new wr 206 (jU x (.slice C x.f.length G));have k3:K wr (wr.alloc (.cells (jU x (.slice C x.f.length G)) 206)):=(K.rf wr).al _;obtain⟨Ao,co,rfl⟩:=y.slice;have zy:((t.take j).map (·.f)).length<=500000:=aU;clear d U X dH;go_upto_region 6 with (fail);have J:=y.st k3;have cS:=kr.tr k3;generalize wr.alloc _=M at *;clear q9 q0 y;have q8:=hx.cell;generalize (t.take j).map (·.f)=o at *;have bN:=J.blk;have V:=fE.new (S:=nT) (e:=36) (v:=.slice C x.f.length G) (Y.k cS) 0 (fw _);have kA:K M (M.alloc (.cells #[.slice C x.f.length G] 36)):=(K.rf M).al _;have cE:=J.st kA;have gB:=cS.tr kA;have iX:=gB.size;clear J Y;go_wp2_with (at_builtin;refine jK rfl _ _ 262 rfl _ 1 24 TFl rfl rfl cE _ rfl x.f ?p1 ?p2 ?p3 ?_)
   case p1 =>
    exact V.less λk hk=>by
     rcases hk with hk|hk
     ·exact hk
     ·have h1:=bN k hk;have h2:=k2.size;exact⟨af,λe=>by have:=(QB k e).2;omega⟩
   case p2=>omega
   case p3=>simpa using iX
   intro v9 w9 bG bJ dc bo;have tF:=gB.trans bo;clear V cE bJ dc bo bN;go_wp2;go_roundw
   case rel=>exact⟨j+1,af,bO,by rw[HT.aa];exact bG,tF⟩
   case measure=>simp[intOf];omega
  ·have ba:¬(j:Int)<(t.length:Int):=af;have Z:(t.take j).map (·.f)=t.map (·.f):=by rw[eT (by omega)]
   rw[Z]at y;have H:=ae (apE (t.map (·.f)) _ wr y.ar aU (λf hf=>by obtain⟨s,F,rfl⟩:=List.mem_map.1 hf;exact JG.aa s F));obtain⟨Ao,co,rfl⟩:=y.slice;rw[<- HR.aa]at H;have oB:=bw.tr kr;clear Z y;generalize t.map (·.f)=o at *;go_wp2_with fail
   refine H.aa.mono ?_;rintro e w5⟨v5,rfl,O,k5⟩;have kF:=oB.tr k5;have B4:=ae O.ar;obtain⟨A5,c5,rfl⟩:=O.slice;clear H O;go_wp2;go_ret;exact⟨_,rfl,B4.aa,kF⟩
theorem awt{e:List bh}(h:fK e=true):∀x∈e,mo x=true:=by
 simp only[fK,cz,decide_eq_true_eq]at h;have key:∀(l:List bh) (p:Option ByteArray),jC p l=true->∀x∈l,mo x=true:=by
  intro l
  induction l with
  | nil=>intro p _ x i;simp at i
  | cons y l j =>
   intro p h x i;simp only[jC,cz]at h;rcases List.mem_cons.1 i with rfl|i
   ·exact h.1.1
   ·exact j _ h.2 x i
 exact key e none h.2
theorem ar3{l:List dZ}{cs:List Int}{es:List (List bh)}(i:∀s∈l,okF s.f=true)(h:∀e∈es,fK e=true):es.filter (ko (si ((p7 l cs).map (·.f))))=es.filter (anyS (p7 l cs)):=by
 refine List.filter_congr λe hm=>?_
 rw[arX (λf j=>?_) (awt (h e hm))]
 ·unfold ko anyS;rw[List.any_map];rfl
 ·obtain⟨s,t,rfl⟩:=List.mem_map.1 j;exact (AV (i s (List.mem_filter.1 t).1)).2
theorem ar4(l:List (List bc))(e:List bh)(v s:Value)(g:Nat)(w:World)(i:ar nT l v w)(hg:ai w g 262 #[v])(j:ik e s w)(B:l.length<=1000000)(y:∀f∈l,f.length<=1000000)(C:e.length<=1000000) :
 Calls prog 195 #[s,.pointer (some ⟨g,0,none⟩)] w λr w'=>r=.returned (.bool (ko l e))/\K w w':=by
 have t:=ae (atK l e v s w i j B y C)
 obtain⟨D,E,rfl⟩:=vN j
 obtain⟨A,c,rfl⟩:=az i
 generalize ko l e=R at *
 clear i j
 have q:=hg.cell
 go_enter func195,ntmps195
 go_wp2_with fail
 refine t.aa.mono ?_
 rintro r F⟨rfl,u⟩
 clear t q hg
 go_wp2
 go_ret
 exact⟨rfl,u⟩
theorem ac6(l:List dZ)(cs:List Int)(x:aq)(v vc vx:Value)(w:World)(h:ar gQ l v w)(hc:ar eS cs vc w)(H:cR x vx w)(hlen:l.length<=500000)(hcl:cs.length<=1000000)(hs:∀s∈l,okF s.f=true)(hok:bP x=true) :
 Calls prog 131 #[v,vc,vx] w λe w'=>∃v',e=.returned v'/\um w.heap.size (kj l cs x) v' w'/\K w w':=by
 have V:=ae (tK hok)
 have EJ:∀s∈l,s.f.length<=1000000:=λs hs'=>by have:=(AV (hs s hs')).1;omega
 have CF:=ae λW (k:K w W)=>aoW l cs v vc W (aW h k) (aW hc k) hlen hcl EJ
 have Sr:Hid ((si ((p7 l cs).map (·.f))).length<=1000000/\∀f∈si ((p7 l cs).map (·.f)),f.length<=1000000):=ae (by
  have h1:(p7 l cs).length<=l.length:=lV _ _;refine⟨?_,λf hf=>?_⟩
  ·have:=@UE ((p7 l cs).map (·.f)) [];unfold si;simp at this;omega
  ·have:=UD hf;simp only[List.not_mem_nil,false_or]at this;obtain⟨s,hs',rfl⟩:=List.mem_map.1 this;exact EJ s (List.mem_filter.1 hs').1)
 have HCF:Hid (x.kind=1->x.es.filter (ko (si ((p7 l cs).map (·.f))))=x.es.filter (anyS (p7 l cs))):=ae λhk=>ar3 hs (by
  unfold bP at hok;rw[if_pos hk]at hok;simp only[cz,pU]at hok;exact hok.2.2)
 have Ss:Hid (kj l cs x=if x.kind=1 then { x with es:=x.es.filter (anyS (p7 l cs)) }else x):=ae rfl
 obtain⟨vf,ve,rfl,hf,he⟩:=H
 have HF:=ae hf
 have HE:=ae he
 obtain⟨U,Y,rfl⟩:=cB hf
 obtain⟨Ae,ce,rfl⟩:=az he
 obtain⟨A,d,rfl⟩:=az h
 obtain⟨Ac,cc,rfl⟩:=az hc
 generalize si ((p7 l cs).map (·.f))=RF at *
 generalize kj l cs x=R at *
 have k1:K w ((w.alloc (.cells (aA x (.slice U x.f.length Y) (.slice Ae x.es.length ce)) 102)).alloc (.cells #[.int .i64 0,.int .i64 0,.int .u64 0,.int .u64 0,.int .i64 0,.int .u64 0,.slice none 0 0,.slice none 0 0] 102)):=((K.rf w).al _).al _
 have hb:=(ai.new w 102 (aA x (.slice U x.f.length Y) (.slice Ae x.es.length ce))).alloc (.cells #[.int .i64 0,.int .i64 0,.int .u64 0,.int .u64 0,.int .i64 0,.int .u64 0,.slice none 0 0,.slice none 0 0] 102)
 have F:=ai.new (w.alloc (.cells (aA x (.slice U x.f.length Y) (.slice Ae x.es.length ce)) 102)) 102 #[.int .i64 0,.int .i64 0,.int .u64 0,.int .u64 0,.int .i64 0,.int .u64 0,.slice none 0 0,.slice none 0 0]
 have hz:(w.alloc (.cells (aA x (.slice U x.f.length Y) (.slice Ae x.es.length ce)) 102)).heap.size=w.heap.size+1:=aj
 rw[hz]at F
 clear hf he h hc EJ hs hok hz
 go_enter func131,ntmps131
 go_upto_region 1 with (fail)
 generalize World.alloc (World.alloc w _) _=w1 at *
 generalize kL:w.heap.size=lo at hb F⊢
 have lQ:=ae kL.symm
 have Yw:=F.lt
 clear kL
 by_cases hk:x.kind=1
 rotate_left
 ·have hkb:(x.kind==1)=false:=pc;obtain⟨es,I⟩:∃es,es=x.es:=⟨_,rfl⟩;have JI:Hid (R={ x with es:=es }):=ae (by rw[Ss.aa,if_neg hk,I]);have jD:es.length<=1000000:=by rw[I];exact V.aa.2.1
  have fg:∀e∈es,e.length<=1000000:=by rw[I];exact V.aa.2.2
  have hle:ar dJ es (.slice Ae es.length ce) w1:=by rw[I];exact aW HE.aa k1
  have H:ai w1 lo 102 (aA x (.slice U x.f.length Y) (.slice Ae es.length ce)):=by rw[I];exact hb
  have q0:=H.cell;have kA:=k1;have yr:=Yw;clear hk I Ss HCF HE hb k1 Yw CF Sr;generalize w1=wA at *;go_upto_region 4 with (fail);clear q0;have CE:=ae (Tp es _ wA hle jD fg);have q:=H.cell;go_wp2_with fail
  refine CE.aa.mono ?_;rintro e G⟨v5,rfl,b9,E⟩;have L:=H.below E H.lt;have Nu:=F.below E F.lt;have hzA:=kA.size;have hzB:=E.size;clear CE q H F hle;have q:=L.cell;have z:=L.frozen;obtain⟨t,c5,rfl⟩:=az b9.sG.ar;go_upto_region 5 with (fail);have M:ai (G.setCell ⟨lo,7,none⟩ (.slice t es.length c5)) lo 102 (aA x (.slice U x.f.length Y) (.slice t es.length c5)):=L.aR 7 _;have He:=Nu.far (p:=⟨lo,7,none⟩) aj (.slice t es.length c5);have kC:K w (G.setCell ⟨lo,7,none⟩ (.slice t es.length c5)):=K.set (kA.tr E) Lb 7 _;have LY:=b9.up (w':=G.setCell ⟨lo,7,none⟩ (.slice t es.length c5)) (aG _) (aH.set Bh 7 _);have hzC:(G.setCell ⟨lo,7,none⟩ (.slice t es.length c5)).heap.size=G.heap.size:=aj;clear L Nu b9 q z;generalize G.setCell _ _=wC at *;have CT:=ae (Tw x.f _ wC (dB _ _ _ _ HF.aa kC) (V.aa.1));have q:=M.cell;go_wp2_with fail
  refine CT.aa.mono ?_;rintro e J⟨v6,rfl,Hf,T⟩;have S:=M.below T M.lt;have Nv:=He.below T He.lt;have LZ:=LY.st T;clear CT q M He LY;have q:=S.cell;have z:=S.frozen;have Yx:=cB (sU Hf);obtain⟨j,i,rfl⟩:=Yx;go_upto_region 6 with (fail);have hxE:ai (J.setCell ⟨lo,6,none⟩ (.slice j x.f.length i)) lo 102 (aA x (.slice j x.f.length i) (.slice t es.length c5)):=S.aR 6 _;have Hg:=Nv.far (p:=⟨lo,6,none⟩) aj (.slice j x.f.length i);have kE:K w (J.setCell ⟨lo,6,none⟩ (.slice j x.f.length i)):=K.set (kC.tr T) Lb 6 _;have Yy:=LZ.up (w':=J.setCell ⟨lo,6,none⟩ (.slice j x.f.length i)) (aG _) (aH.set Bh 6 _);have Yz:fC (J.setCell ⟨lo,6,none⟩ (.slice j x.f.length i)) wC.heap.size (.slice j x.f.length i) x.f:=fC.up Hf (aH.set Bh 6 _);clear S Nv LZ Hf q z;generalize J.setCell _ _=B at *;have q:=hxE.cell;have y:=Hg.cell;have z:=Hg.frozen;have D:w.heap.size<=lo+1:=by rw[lQ.aa];omega
  have C:lo+1<wA.heap.size:=yr;go_wp2;have dm:ai (World.setCell B _ _) (lo+1) 102 #[.int .i64 x.kind,.int .i64 0,.int .u64 0,.int .u64 0,.int .i64 0,.int .u64 0,.slice none 0 0,.slice none 0 0]:=Hg.aR 0 (.int .i64 x.kind);have hr1:ai (World.setCell (World.setCell B _ _) _ _) (lo+1) 102 #[.int .i64 x.kind,.int .i64 x.br,.int .u64 0,.int .u64 0,.int .i64 0,.int .u64 0,.slice none 0 0,.slice none 0 0]:=dm.aR 1 (.int .i64 x.br);have O:ai (World.setCell (World.setCell (World.setCell B _ _) _ _) _ _) (lo+1) 102 #[.int .i64 x.kind,.int .i64 x.br,.int .u64 (x.life:Int),.int .u64 0,.int .i64 0,.int .u64 0,.slice none 0 0,.slice none 0 0]:=hr1.aR 2 (.int .u64 (x.life:Int));have Q:ai (World.setCell (World.setCell (World.setCell (World.setCell B _ _) _ _) _ _) _ _) (lo+1) 102 #[.int .i64 x.kind,.int .i64 x.br,.int .u64 (x.life:Int),.int .u64 (x.cI:Int),.int .i64 0,.int .u64 0,.slice none 0 0,.slice none 0 0]:=O.aR 3 (.int .u64 (x.cI:Int));have N:ai (World.setCell (World.setCell (World.setCell (World.setCell (World.setCell B _ _) _ _) _ _) _ _) _ _) (lo+1) 102 #[.int .i64 x.kind,.int .i64 x.br,.int .u64 (x.life:Int),.int .u64 (x.cI:Int),.int .i64 x.cl,.int .u64 0,.slice none 0 0,.slice none 0 0]:=Q.aR 4 (.int .i64 x.cl);have fq:ai (World.setCell (World.setCell (World.setCell (World.setCell (World.setCell (World.setCell B _ _) _ _) _ _) _ _) _ _) _ _) (lo+1) 102 #[.int .i64 x.kind,.int .i64 x.br,.int .u64 (x.life:Int),.int .u64 (x.cI:Int),.int .i64 x.cl,.int .u64 (x.sub:Int),.slice none 0 0,.slice none 0 0]:=N.aR 5 (.int .u64 (x.sub:Int));have kp:ai (World.setCell (World.setCell (World.setCell (World.setCell (World.setCell (World.setCell (World.setCell B _ _) _ _) _ _) _ _) _ _) _ _) _ _) (lo+1) 102 #[.int .i64 x.kind,.int .i64 x.br,.int .u64 (x.life:Int),.int .u64 (x.cI:Int),.int .i64 x.cl,.int .u64 (x.sub:Int),.slice j x.f.length i,.slice none 0 0]:=fq.aR 6 (.slice j x.f.length i);have gN:ai (World.setCell (World.setCell (World.setCell (World.setCell (World.setCell (World.setCell (World.setCell (World.setCell B _ _) _ _) _ _) _ _) _ _) _ _) _ _) _ _) (lo+1) 102 #[.int .i64 x.kind,.int .i64 x.br,.int .u64 (x.life:Int),.int .u64 (x.cI:Int),.int .i64 x.cl,.int .u64 (x.sub:Int),.slice j x.f.length i,.slice t es.length c5]:=kp.aR 7 (.slice t es.length c5);have U9:=(((((((((aH.rf wA.heap.size none B).tr (aH.set (b:=lo+1) C 0 (.int .i64 x.kind))).tr (aH.set (b:=lo+1) C 1 (.int .i64 x.br))).tr (aH.set (b:=lo+1) C 2 (.int .u64 (x.life:Int)))).tr (aH.set (b:=lo+1) C 3 (.int .u64 (x.cI:Int)))).tr (aH.set (b:=lo+1) C 4 (.int .i64 x.cl))).tr (aH.set (b:=lo+1) C 5 (.int .u64 (x.sub:Int)))).tr (aH.set (b:=lo+1) C 6 (.slice j x.f.length i))).tr (aH.set (b:=lo+1) C 7 (.slice t es.length c5)));have K9:=(K.set (K.set (K.set (K.set (K.set (K.set (K.set (K.set kE (r:=lo+1) D 0 (.int .i64 x.kind)) (r:=lo+1) D 1 (.int .i64 x.br)) (r:=lo+1) D 2 (.int .u64 (x.life:Int))) (r:=lo+1) D 3 (.int .u64 (x.cI:Int))) (r:=lo+1) D 4 (.int .i64 x.cl)) (r:=lo+1) D 5 (.int .u64 (x.sub:Int))) (r:=lo+1) D 6 (.slice j x.f.length i)) (r:=lo+1) D 7 (.slice t es.length c5));clear q y z dm hr1 O Q N fq kp;generalize (World.setCell (World.setCell (World.setCell (World.setCell (World.setCell (World.setCell (World.setCell (World.setCell B _ _) _ _) _ _) _ _) _ _) _ _) _ _) _ _)=W9 at *;have e9:=gN.cell;refine bodyPost_ret (v:=.agg #[.int .i64 x.kind,.int .i64 x.br,.int .u64 (x.life:Int),.int .u64 (x.cI:Int),.int .i64 x.cl,.int .u64 (x.sub:Int),.slice j x.f.length i,.slice t es.length c5]) aiQ rfl ?_;refine⟨_,rfl,?_,K9⟩;rw[JI.aa];exact⟨_,_,rfl,my af (fC.up Yz (U9.more af (λ_ _ _=>aj))),aX.low (aX.floor (Yy.up (aG _) (U9.more af (λ_ _ _=>aj))) af) af⟩
 have hkb:(x.kind==1)=true:=pc
 have Gb:=ae (HCF.aa hk)
 have Gq:Hid (R={ x with es:=x.es.filter (anyS (p7 l cs)) }):=ae (by rw[Ss.aa,if_pos hk])
 have q0:=hb.cell
 have C1:=ae (CF.aa w1 k1)
 clear hk HCF Ss CF
 go_wp2_with fail
 refine C1.aa.mono ?_
 rintro e w2⟨v2,rfl,LN,k2⟩
 obtain⟨A2,c2,rfl⟩:=az LN
 have hb2:=hb.below k2 hb.lt
 have O:=F.below k2 F.lt
 have bw:=k1.tr k2
 clear C1 hb F q0
 go_upto_region 3 with (fail)
 have E:K w2 (w2.alloc (.cells #[.slice A2 RF.length c2] 262)):=(K.rf w2).al _
 have gW:=ai.new w2 262 #[.slice A2 RF.length c2]
 have bD:=hb2.below E hb2.lt
 have Q:=O.below E O.lt
 have dW:=bw.tr E
 have H3:=ae (aW LN E)
 have hz2:=k2.size
 clear hb2 O LN
 generalize w2.alloc _=w3 at *
 generalize w2.heap.size=g3 at gW hz2⊢
 have Eu:=(II HE.aa).st dW
 have C2:=ae (abu (λk=>w.heap.size<=k) x.es _ (ko RF) 195 #[.pointer (some ⟨g3,0,none⟩)] w3 Eu V.aa.2.1 (λ_ _=>nz) λW k e he u hu=>ar4 RF e _ u g3 W (aW H3.aa k) (gW.below k gW.lt) hu Sr.aa.1 Sr.aa.2 (V.aa.2.2 e he))
 have q3:=bD.cell
 clear Eu
 go_wp2_with fail
 refine C2.aa.mono ?_
 rintro e w4⟨v4,rfl,cE,k4⟩
 obtain⟨es,I⟩:∃es,es=x.es.filter (ko RF):=⟨_,rfl⟩
 have JI:Hid (R={ x with es:=es }):=ae (by rw[Gq.aa,I,Gb.aa])
 have jD:es.length<=1000000:=by rw[I];exact bq (lV _ _) V.aa.2.1
 have fg:∀e∈es,e.length<=1000000:=by rw[I];exact λe he=>V.aa.2.2 e (List.mem_filter.1 he).1
 rw[<- I]at cE
 have hb4:=bD.below k4 bD.lt
 have N:=Q.below k4 Q.lt
 have oX:=dW.tr k4
 have ij:=gW.lt
 clear C2 q3 bD Q I Gq Gb
 have bN:=cE.blk
 obtain⟨Z,c4,rfl⟩:=cE.slice
 have q:=hb4.cell
 have z:=hb4.frozen
 go_upto_region 4 with (fail)
 have H:ai (w4.setCell ⟨lo,7,none⟩ (.slice Z es.length c4)) lo 102 (aA x (.slice U x.f.length Y) (.slice Z es.length c4)):=hb4.aR 7 _
 have F:=N.far (p:=⟨lo,7,none⟩) aj (.slice Z es.length c4)
 have kA:K w (w4.setCell ⟨lo,7,none⟩ (.slice Z es.length c4)):=K.set oX Lb 7 _
 have hle:ar dJ es (.slice Z es.length c4) (w4.setCell ⟨lo,7,none⟩ (.slice Z es.length c4)):=(cE.to (X:=λk=>k=lo) (Y':=λ_=>False) (ah.b6 (X:=λk=>k=lo) rfl 7 _) (λk hk=>by rw[hk,lQ.aa];exact aG _) (λk hk e=>by have:=(bN k hk).1;omega) (λk _ hk=>hk.elim)).ar
 have yr:lo+1<(w4.setCell ⟨lo,7,none⟩ (.slice Z es.length c4)).heap.size:=by have:=N.lt;simpa using this
 clear hb4 N cE q z oX bw dW k1 Yw gW H3 Sr E k2 k4 bN ij hz2 HE
 generalize w4.setCell _ _=wA at *
 have CE:=ae (Tp es _ wA hle jD fg)
 have q:=H.cell
 go_wp2_with fail
 refine CE.aa.mono ?_
 rintro e G⟨v5,rfl,b9,E⟩
 have L:=H.below E H.lt
 have Nu:=F.below E F.lt
 have hzA:=kA.size
 have hzB:=E.size
 clear CE q H F hle
 have q:=L.cell
 have z:=L.frozen
 obtain⟨t,c5,rfl⟩:=az b9.sG.ar
 go_upto_region 5 with (fail)
 have M:ai (G.setCell ⟨lo,7,none⟩ (.slice t es.length c5)) lo 102 (aA x (.slice U x.f.length Y) (.slice t es.length c5)):=L.aR 7 _
 have He:=Nu.far (p:=⟨lo,7,none⟩) aj (.slice t es.length c5)
 have kC:K w (G.setCell ⟨lo,7,none⟩ (.slice t es.length c5)):=K.set (kA.tr E) Lb 7 _
 have LY:=b9.up (w':=G.setCell ⟨lo,7,none⟩ (.slice t es.length c5)) (aG _) (aH.set Bh 7 _)
 have hzC:(G.setCell ⟨lo,7,none⟩ (.slice t es.length c5)).heap.size=G.heap.size:=aj
 clear L Nu b9 q z
 generalize G.setCell _ _=wC at *
 have CT:=ae (Tw x.f _ wC (dB _ _ _ _ HF.aa kC) (V.aa.1))
 have q:=M.cell
 go_wp2_with fail
 refine CT.aa.mono ?_
 rintro e J⟨v6,rfl,Hf,T⟩
 have S:=M.below T M.lt
 have Nv:=He.below T He.lt
 have LZ:=LY.st T
 clear CT q M He LY
 have q:=S.cell
 have z:=S.frozen
 have Yx:=cB (sU Hf)
 obtain⟨j,i,rfl⟩:=Yx
 go_upto_region 6 with (fail)
 have hxE:ai (J.setCell ⟨lo,6,none⟩ (.slice j x.f.length i)) lo 102 (aA x (.slice j x.f.length i) (.slice t es.length c5)):=S.aR 6 _
 have Hg:=Nv.far (p:=⟨lo,6,none⟩) aj (.slice j x.f.length i)
 have kE:K w (J.setCell ⟨lo,6,none⟩ (.slice j x.f.length i)):=K.set (kC.tr T) Lb 6 _
 have Yy:=LZ.up (w':=J.setCell ⟨lo,6,none⟩ (.slice j x.f.length i)) (aG _) (aH.set Bh 6 _)
 have Yz:fC (J.setCell ⟨lo,6,none⟩ (.slice j x.f.length i)) wC.heap.size (.slice j x.f.length i) x.f:=fC.up Hf (aH.set Bh 6 _)
 clear S Nv LZ Hf q z
 generalize J.setCell _ _=B at *
 have q:=hxE.cell
 have y:=Hg.cell
 have z:=Hg.frozen
 have D:w.heap.size<=lo+1:=by rw[lQ.aa];omega
 have C:lo+1<wA.heap.size:=yr
 go_wp2
 have dm:ai (World.setCell B _ _) (lo+1) 102 #[.int .i64 x.kind,.int .i64 0,.int .u64 0,.int .u64 0,.int .i64 0,.int .u64 0,.slice none 0 0,.slice none 0 0]:=Hg.aR 0 (.int .i64 x.kind)
 have hr1:ai (World.setCell (World.setCell B _ _) _ _) (lo+1) 102 #[.int .i64 x.kind,.int .i64 x.br,.int .u64 0,.int .u64 0,.int .i64 0,.int .u64 0,.slice none 0 0,.slice none 0 0]:=dm.aR 1 (.int .i64 x.br)
 have O:ai (World.setCell (World.setCell (World.setCell B _ _) _ _) _ _) (lo+1) 102 #[.int .i64 x.kind,.int .i64 x.br,.int .u64 (x.life:Int),.int .u64 0,.int .i64 0,.int .u64 0,.slice none 0 0,.slice none 0 0]:=hr1.aR 2 (.int .u64 (x.life:Int))
 have Q:ai (World.setCell (World.setCell (World.setCell (World.setCell B _ _) _ _) _ _) _ _) (lo+1) 102 #[.int .i64 x.kind,.int .i64 x.br,.int .u64 (x.life:Int),.int .u64 (x.cI:Int),.int .i64 0,.int .u64 0,.slice none 0 0,.slice none 0 0]:=O.aR 3 (.int .u64 (x.cI:Int))
 have N:ai (World.setCell (World.setCell (World.setCell (World.setCell (World.setCell B _ _) _ _) _ _) _ _) _ _) (lo+1) 102 #[.int .i64 x.kind,.int .i64 x.br,.int .u64 (x.life:Int),.int .u64 (x.cI:Int),.int .i64 x.cl,.int .u64 0,.slice none 0 0,.slice none 0 0]:=Q.aR 4 (.int .i64 x.cl)
 have fq:ai (World.setCell (World.setCell (World.setCell (World.setCell (World.setCell (World.setCell B _ _) _ _) _ _) _ _) _ _) _ _) (lo+1) 102 #[.int .i64 x.kind,.int .i64 x.br,.int .u64 (x.life:Int),.int .u64 (x.cI:Int),.int .i64 x.cl,.int .u64 (x.sub:Int),.slice none 0 0,.slice none 0 0]:=N.aR 5 (.int .u64 (x.sub:Int))
 have kp:ai (World.setCell (World.setCell (World.setCell (World.setCell (World.setCell (World.setCell (World.setCell B _ _) _ _) _ _) _ _) _ _) _ _) _ _) (lo+1) 102 #[.int .i64 x.kind,.int .i64 x.br,.int .u64 (x.life:Int),.int .u64 (x.cI:Int),.int .i64 x.cl,.int .u64 (x.sub:Int),.slice j x.f.length i,.slice none 0 0]:=fq.aR 6 (.slice j x.f.length i)
 have gN:ai (World.setCell (World.setCell (World.setCell (World.setCell (World.setCell (World.setCell (World.setCell (World.setCell B _ _) _ _) _ _) _ _) _ _) _ _) _ _) _ _) (lo+1) 102 #[.int .i64 x.kind,.int .i64 x.br,.int .u64 (x.life:Int),.int .u64 (x.cI:Int),.int .i64 x.cl,.int .u64 (x.sub:Int),.slice j x.f.length i,.slice t es.length c5]:=kp.aR 7 (.slice t es.length c5)
 have U9:=(((((((((aH.rf wA.heap.size none B).tr (aH.set (b:=lo+1) C 0 (.int .i64 x.kind))).tr (aH.set (b:=lo+1) C 1 (.int .i64 x.br))).tr (aH.set (b:=lo+1) C 2 (.int .u64 (x.life:Int)))).tr (aH.set (b:=lo+1) C 3 (.int .u64 (x.cI:Int)))).tr (aH.set (b:=lo+1) C 4 (.int .i64 x.cl))).tr (aH.set (b:=lo+1) C 5 (.int .u64 (x.sub:Int)))).tr (aH.set (b:=lo+1) C 6 (.slice j x.f.length i))).tr (aH.set (b:=lo+1) C 7 (.slice t es.length c5)))
 have K9:=(K.set (K.set (K.set (K.set (K.set (K.set (K.set (K.set kE (r:=lo+1) D 0 (.int .i64 x.kind)) (r:=lo+1) D 1 (.int .i64 x.br)) (r:=lo+1) D 2 (.int .u64 (x.life:Int))) (r:=lo+1) D 3 (.int .u64 (x.cI:Int))) (r:=lo+1) D 4 (.int .i64 x.cl)) (r:=lo+1) D 5 (.int .u64 (x.sub:Int))) (r:=lo+1) D 6 (.slice j x.f.length i)) (r:=lo+1) D 7 (.slice t es.length c5))
 clear q y z dm hr1 O Q N fq kp
 generalize (World.setCell (World.setCell (World.setCell (World.setCell (World.setCell (World.setCell (World.setCell (World.setCell B _ _) _ _) _ _) _ _) _ _) _ _) _ _) _ _)=W9 at *
 have e9:=gN.cell
 refine bodyPost_ret (v:=.agg #[.int .i64 x.kind,.int .i64 x.br,.int .u64 (x.life:Int),.int .u64 (x.cI:Int),.int .i64 x.cl,.int .u64 (x.sub:Int),.slice j x.f.length i,.slice t es.length c5]) aiQ rfl ?_
 refine⟨_,rfl,?_,K9⟩
 rw[JI.aa]
 exact⟨_,_,rfl,my af (fC.up Yz (U9.more af (λ_ _ _=>aj))),aX.low (aX.floor (Yy.up (aG _) (U9.more af (λ_ _ _=>aj))) af) af⟩
def vP(par aZ:List Int)(k:Int)(j:Nat):List Int:=((List.range j).filter λc=>match aZ[c]? with|some h=>Ci par k h|none=>false).map λ(c:Nat)=>(c:Int)
theorem aoX{par aZ:List Int}{k:Int}{j:Nat}(h:j<aZ.length):vP par aZ k (j+1)=if Ci par k aZ[j]then vP par aZ k j++[(j:Int)]else vP par aZ k j:=by unfold vP;rw[List.range_succ,List.filter_append,List.map_append];have i:aZ[j]?=some aZ[j]:=List.getElem?_eq_getElem h;cases hu:Ci par k aZ[j] <;> simp[i,hu]
theorem abg(par aZ:List Int)(k:Int)(j:Nat):(vP par aZ k j).length<=j:=by unfold vP;exact VX
theorem aos{M:Nat->Prop}{p:cV}{B:aB}{w:World}(h:bC M p B w)(D:bH B)(s:Int) :
 Calls prog 129 #[.pointer (some ⟨p.g,0,none⟩),.int .i64 s] w λe w'=>∃Y,e=.returned Y/\aT (λk=>k<w.heap.size) w.heap.size 3 eS (tO B s) Y w'/\K w w':=by
 have HR:Hid (tO B s=vP B.par B.aZ s B.aZ.length):=ae rfl
 have hlen:=Uw D.hm
 have hpl:=(vO D.tr).2
 have t:=ae λW (k:K w W)=>(h.bL.at k).par
 have F:=h.bL.now.aZ
 have q:=h.q
 obtain⟨g,gl,gd,gr,gt,vd,vr,vp,vh,vl,vq,va,vt,vf,vw,kr⟩:=p
 simp only at q F t
 have hvp:=az (t.aa w (K.rf w))
 obtain⟨Ap,cp,rfl⟩:=hvp
 have CU:=ae λW (k:K w W) b=>as3 B.par s b _ W (t.aa W k) af
 generalize tO B s=R at *
 obtain⟨A,c1,rfl,hl,-⟩:=F
 have kk:=K.rf w
 have T:=aT.nil (λk=>k<w.heap.size) w.heap.size 3 eS w
 clear h D t
 go_enter func129,ntmps129
 go_wp2_with fail
 go_loopw [5,6,7,13] (fun vo _ _ i W=>∃j:Nat,j<=B.aZ.length/\i=.int .i64 (j:Int)/\aT (fun k=>k<w.heap.size) w.heap.size 3 eS (vP B.par B.aZ s j) vo W/\K w W) (fun _ _ _ i _=>B.aZ.length-(intOf i).toNat)
 case atStart=>exact⟨0,af,rfl,T,kk⟩
 case round =>
  clear T kk;obtain⟨j,hj,rfl,hO,kr⟩:=hrel;by_cases L:j<B.aZ.length
  ·have ba:(j:Int)<(B.aZ.length:Int):=af;obtain⟨b1,off,rfl,U⟩:=ints_at hl af;have q2:=U wr kr j L;have O:=ae (aoX (par:=B.par) (k:=s) L);have hcl:=abg B.par B.aZ s j;generalize B.aZ[j]=hm at *;have V:=ae (CU.aa wr kr hm);generalize vP B.par B.aZ s j=o at *;obtain⟨H,Z,rfl⟩:=hO.slice;clear U;go_wp2_with fail
   refine V.aa.mono ?_;rintro e y⟨rfl,k2⟩;have X:=kr.tr k2;have C:=hO.st k2;clear V q2 hO;cases hu:Ci B.par s hm
   ·have t:Hid (vP B.par B.aZ s (j+1)=o):=ae (by rw[O.aa,hu];rfl);clear hu;go_wp2;go_roundw
    case rel=>exact⟨j+1,af,bO,by rw[t.aa];exact C,X⟩
    case measure=>simp[intOf];omega
   have t:Hid (vP B.par B.aZ s (j+1)=o++[(j:Int)]):=ae (by rw[O.aa,hu];rfl);have E:=fE.new (S:=eS) (e:=3) (x:=(j:Int)) (v:=.int .i64 (j:Int)) (w:=y) (N:=λk=>k<w.heap.size∨(Value.slice H o.length Z).ownBlock=some k) (λW u=>rfl) 0 (fw _);have Q:K y (y.alloc (.cells #[.int .i64 (j:Int)] 3)):=(K.rf y).al _;have I:=C.st Q;have G:=X.tr Q;have pI:=G.size;clear C hu;go_wp2_with (at_builtin;refine jK rfl _ _ 22 rfl _ 1 8 Rw rfl rfl I _ rfl (j:Int) ?p1 ?p2 ?p3 ?_)
   case p1=>exact E
   case p2=>omega
   case p3=>simpa using pI
   intro v9 w9 bG bJ dc J;have tF:=G.trans J;clear E I bJ dc J;go_wp2;go_roundw
   case rel=>exact⟨j+1,af,bO,by rw[t.aa];exact bG,tF⟩
   case measure=>simp[intOf];omega
  ·have ba:¬(j:Int)<(B.aZ.length:Int):=af;obtain rfl:j=B.aZ.length:=af;rw[<- HR.aa]at hO;obtain⟨H,Z,rfl⟩:=hO.slice;exact Pn
theorem aT.azv{α:Type}{S:cF α}{Y:Nat->Prop}{base:Nat}{e:TypeId}{l:List α}{go cap:Nat}{w:World}(h:aT Y base e S l (.slice (some ⟨go,0,none⟩) l.length cap) w){j:Nat}(I:j<l.length){y:α}{cs:List Value}(t:cs.length=S.size)
 (G:Fx (λk=>Y k∨k=go) (λW=>S.rel y cs W) (fN w go (j*S.size) cs)):aT Y base e S (l.set j y) (.slice (some ⟨go,0,none⟩) l.length cap) (fN w go (j*S.size) cs):=by
 obtain⟨css,F,h2,B⟩:=h
 have D:=B w (ah.rf _ _)
 have A:j<css.length:=af
 have s:=D.lens
 have H:=D.DX
 have hb:j*S.size+S.size<=l.length*S.size:=by have:=Nat.mul_le_mul_right S.size (show j+1<=l.length from I);rw[Nat.add_mul,Nat.one_mul]at this;exact this
 have C:=OA cs css.flatten (j*S.size) w F (by rw[H,t];exact hb)
 have i:=NW S.size cs css s j 0 A af
 rw[Nat.add_zero]at i
 rw[i,TG cs css[j] 0 (by rw[t,fP];exact (s _ (bW A)).symm),dN,aJ]at C
 refine⟨css.set j cs,by rw[List.length_set];exact C,Ko,λw' u=>?_⟩
 have E:ah (λk=>Y k∨(Value.slice (some ⟨go,0,none⟩) l.length cap).ownBlock=some k) w (fN w go (j*S.size) cs):=ah.sets (X:=λk=>Y k∨(Value.slice (some ⟨go,0,none⟩) l.length cap).ownBlock=some k) (.inr rfl) cs _ w
 exact (B w' (E.tr u)).set j (G w' (u.more λk hk=>hk.imp id λe=>by simpa [Value.ownBlock]using e.symm))
def p9(L:List aq)(cs:List Int)(n j:Nat)(l:List aq):List aq:=l.zipIdx.map λp=>if p.2<j then kj (kO (L.take (n+p.2))) cs p.1 else p.1
theorem atM(L:List aq)(cs:List Int)(n:Nat)(l:List aq):p9 L cs n 0 l=l:=by unfold p9;simp only[Nat.not_lt_zero,if_false];exact List.zipIdx_map_fst 0 l
theorem Dn(L:List aq)(cs:List Int)(n j:Nat)(l:List aq):(p9 L cs n j l).length=l.length:=by simp[p9]
theorem awu(L:List aq)(cs:List Int)(n j:Nat)(l:List aq)(h:j<l.length):(p9 L cs n j l)[j]'(by rw[Dn];exact h)=l[j]:=by unfold p9;simp
theorem adL(L:List aq)(cs:List Int)(n j:Nat)(l:List aq)(i:Nat):(p9 L cs n j l)[i]?=(l[i]?).map λx=>if i<j then kj (kO (L.take (n+i))) cs x else x:=by unfold p9;rw[List.getElem?_map,List.getElem?_zipIdx];cases l[i]? <;> simp
theorem atN(L:List aq)(cs:List Int)(n j:Nat)(l:List aq)(h:j<l.length):p9 L cs n (j+1) l=(p9 L cs n j l).set j (kj (kO (L.take (n+j))) cs l[j]):=by
 apply List.ext_getElem?;intro i;rw[List.getElem?_set,adL,adL,Dn];by_cases e:j=i
 ·subst e;simp[h]
 ·rw[if_neg e];congr 1;funext x;by_cases s:i<j
  ·rw[if_pos s,if_pos af]
  ·rw[if_neg s,if_neg af]
theorem ave(B:aB)(cs:List Int)(n:Nat)(l:List aq):p9 B.st.list cs n l.length l=Bv B cs n l:=by unfold p9 Bv;apply List.map_congr_left;intro p i;have:=(List.mem_zipIdx i).2.1;rw[if_pos af]
theorem avf{l:List aq}(h:∀x∈l,bP x=true):∀s∈kO l,okF s.f=true:=by
 have key:∀(l:List aq) (o:List dZ),(∀x∈l,bP x=true)->(∀s∈o,okF s.f=true)->∀s∈l.foldl kU o,okF s.f=true:=by
  intro l
  induction l with
  | nil=>intro o _ ho;exact ho
  | cons x l j =>
   intro o i ho;refine j _ (λy hy=>i y Bd) ?_;unfold kU;split
   ·exact ho
   unfold sY;split
   ·rename_i t;intro s hs;simp only[xG,List.mem_singleton]at hs;rcases hs with (hs|rfl)|hs
    ·exact PZ
    ·rcases (Dg (i x aj)).2.2 with ⟨g,-⟩|⟨g,-⟩|⟨-,-,g⟩
     ·omega
     ·omega
     ·exact g
    ·exact PZ
   ·split
    ·intro s hs;rcases List.mem_append.1 hs with hs|hs
     ·exact PZ
     ·exact PZ
    ·exact ho
 exact key l [] h λs hs=>by simp at hs
theorem axt(n:Nat)(h:n<=1000000):IntKind.i64.wrap (n:Int)=(n:Int):=by rw[IntKind.wrap_i64];omega
theorem ajK(n:Nat)(h:n<=1000000):IntKind.u64.wrap (n:Int)=(n:Int):=by show (n:Int)%2^64=_;omega
theorem avg{B B':Nat}{x:aq}{v:Value}{W w:World}(h:um B x v w)(hb:B'<=B)(k:K W w):∃j,Ending.returned v=.returned j/\(∃vf i,j=.agg (aA x vf i)/\Fx (λk=>k<B') (λW=>aQ.rel x (aA x vf i).toList W) w)/\K W w:=by obtain⟨vf,i,e,h⟩:=Fi h;exact⟨_,rfl,⟨vf,i,e,h.less λk hk=>bB hk hb⟩,k⟩
theorem aot{M:Nat->Prop}{p:cV}{B:aB}{w:World}(h:bC M p B w)(G:bH B)(hn:B.told.Nodup)(gA:B.told.length<=800000)(s:Int) :
 Calls prog 63 #[.pointer (some ⟨p.g,0,none⟩),.int .i64 s] w λe w'=>∃v',e=.returned v'/\js (xu B s) v' w'/\K w w':=by
 have St:Hid (xu B s=⟨2,oL B s,[],[],Bv B (tO B s) (oL B s) (y9 B.st.list (oL B s)),((if jO B then B.waits else B.st.prom).take 16).map (kj (kO B.st.list) (tO B s)),tX (Bo B) (iI B s).asks,tW B.st B.waits (iI B s)⟩):=ae rfl
 have aDs:=G.ajJ s
 have hinv:=G.dk.inv
 have gY:=G.IH
 have hlen:=G.dk.len
 have hwl:=G.BK
 have hhv:oL B s<=B.st.list.length:=Nat.min_le_right _ _
 have HH:Hid (oL B s=min (iI B s).got B.st.list.length):=ae rfl
 have q:=h.q
 have Q1:=ae λW (k:K w W)=>(Ig (LF (P:=prog) (kt:=3) underlying3) underlying92 (ajG W) (h.rep.st k) s).2
 have HM:Hid (∀W,K w W->js (iI B s) ((qV p.kr s).getD (.agg AB)) W):=ae λW k=>(h.bL.at k).bR.look s
 have CC:=ae λW (k:K w W)=>aos (h.st k) G s
 have CS:=ae λW (k:K w W) n hn=>abx (h.st k) G n hn
 have CF:=ae λW (k:K w W)=>ar2 B.st.list (oL B s) p.vl W (h.bL.at k).list gY.1 af af
 have CK:=ae λW (k:K w W)=>apz (h.st k) G hn
 have CR:=ae λW (k:K w W)=>JV (h.st k)
 have HD:=ae λW (k:K w W)=>h.bL.at k
 have HSO:=ae λn=>avf (l:=B.st.list.take n) λx hx=>(hinv.wV x (lE hx)).1
 have HSL:=ae λn=>T5 (B.st.list.take n)
 have oU:(Bo B).length<=1000000:=by unfold Bo;rw[cT];omega
 have HOL:=ae hinv.wV
 have HOP:=ae hinv.yq
 have HOW:=ae G.waits
 have hcl:(tO B s).length<=32:=by have:=abg B.par B.aZ s B.aZ.length;have:=(Uw G.hm).2;show (vP B.par B.aZ s B.aZ.length).length<=32;omega
 have HCA:Hid (∀j l,j=l.length->p9 B.st.list (tO B s) (oL B s) j l=Bv B (tO B s) (oL B s) l):=ae λj l e=>by rw[e];exact ave B _ _ l
 have cC:∀x∈y9 B.st.list (oL B s),x∈B.st.list:=λx hx=>List.mem_of_mem_drop (lE hx)
 have hfn:(y9 B.st.list (oL B s)).length+oL B s<=B.st.list.length:=by unfold y9;simp;omega
 have Gs:=ae cC
 generalize xu B s=R at *
 generalize tO B s=cs at *
 generalize Bo B=T at *
 generalize oL B s=C at *
 generalize iI B s=t at *
 generalize y9 B.st.list C=es at *
 obtain⟨g,gl,gd,gr,gt,vd,vr,vp,vh,vl,vq,va,vt,vf,vw,kr⟩:=p
 simp only at q Q1 HM CC CS CF CK CR HD
 have CZ:=HD.aa w (K.rf w)
 obtain⟨Al,cl,rfl⟩:=az CZ.list
 obtain⟨Aq,cq,rfl⟩:=az CZ.prom
 obtain⟨Aa,ca,rfl⟩:=az CZ.ab
 obtain⟨Aw,cw,rfl⟩:=az CZ.waits
 obtain⟨m1,m2,m3,m4,m5,m6,em,pB,hm2,rE,zD,Ek,x9⟩:=HM.aa w (K.rf w)
 obtain⟨A1,c1,rfl⟩:=az pB
 obtain⟨A2,c2,rfl⟩:=az hm2
 obtain⟨A3,c3,rfl⟩:=az rE
 obtain⟨A4,c4,rfl⟩:=az zD
 obtain⟨A5,c5,rfl⟩:=az Ek
 obtain⟨A6,c6,rfl⟩:=az x9
 rw[em]at HM Q1
 have MT:=ai.new w 41 AB
 have k1:K w (w.alloc (.cells AB 41)):=(K.rf w).al _
 simp only[encI]at Q1
 clear h G hn CZ em pB hm2 rE zD Ek x9 hinv cC
 go_enter func63,ntmps63
 go_upto_region 1 with (fail)
 generalize w.alloc _=w1 at *
 generalize rA:w.heap.size=gz at MT⊢
 have HGZ:=ae rA
 clear rA
 have ql:=Q1.aa w1 k1
 have hx:=ai.new w1 41 (fH t (.slice A1 t.bM.length c1) (.slice A2 t.asks.length c2) (.slice A3 t.entries.length c3) (.slice A4 t.cH.length c4) (.slice A5 t.bY.length c5) (.slice A6 t.ends.length c6))
 have k2:=(K.rf w1).al (.cells (fH t (.slice A1 t.bM.length c1) (.slice A2 t.asks.length c2) (.slice A3 t.entries.length c3) (.slice A4 t.cH.length c4) (.slice A5 t.bY.length c5) (.slice A6 t.ends.length c6)) 41)
 go_upto_region 2 with (fail)
 have YA:=MT.below k2 MT.lt
 have gP:=k1.tr k2
 generalize World.alloc w1 _=w2 at *
 generalize sJ:w1.heap.size=gx at hx⊢
 clear ql sJ MT
 go_wp2_with fail
 refine (CC.aa w2 gP).mono ?_
 rintro e Q⟨v7,rfl,jh,k3⟩
 have Su:=ae λW (k:K Q W)=>aW jh.ar k
 obtain⟨A7,c7,rfl⟩:=jh.slice
 have je:=gP.tr k3
 have eI:=hx.below k3 hx.lt
 have YB:=YA.below k3 YA.lt
 have Z:=eI.cell
 have hw:=ajK B.st.list.length af
 have CF3:=ae (CF.aa Q je)
 clear CC CF Q1 jh hx YA
 go_wp2_with fail
 rw[show min ((t.got:Nat):Int) ((B.st.list.length:Nat):Int)=(C:Int) by rw[HH.aa];omega]
 refine CF3.aa.mono ?_
 rintro e w4⟨v9,rfl,F,k4⟩
 obtain⟨O,L,rfl⟩:=F.slice
 have kk:K Q w4:=k4
 have hO:aT (λk=>k<Q.heap.size) Q.heap.size 102 aQ (p9 B.st.list cs C 0 es) (.slice O es.length L) w4:=by rw[atM];exact F
 clear CF3 Z hw k4 F HH
 go_wp2_with fail
 go_loopw [10,11,46] (fun _ _ i W=>∃j:Nat,j<=es.length/\i=.int .i64 (j:Int)/\aT (fun k=>k<Q.heap.size) Q.heap.size 102 aQ (p9 B.st.list cs C j es) (.slice O es.length L) W/\K Q W) (fun _ _ i _=>es.length-(intOf i).toNat)
 case atStart=>exact⟨0,af,rfl,hO,kk⟩
 case round =>
  clear hO kk;obtain⟨j,hj,rfl,hO,kr⟩:=hrel;by_cases hlt:j<es.length
  ·have ba:(j:Int)<(es.length:Int):=af;obtain⟨go,cap,e9,hgo⟩:∃go cap,Value.slice O es.length L=.slice (some ⟨go,0,none⟩) es.length cap/\Q.heap.size<=go:=by
    obtain⟨css,hrow,-,-⟩:=hO;rcases hrow.2 with ⟨-,h0⟩|⟨go,cap,cur,e,hg,-⟩
    ·rw[Dn]at h0;omega
    ·rw[Dn]at e;exact⟨go,cap,e,hg⟩
   injection e9 with e1 _ e3;subst e1 e3;have Nw:j<(p9 B.st.list cs C j es).length:=by rw[Dn];exact hlt
   obtain⟨A0,c0,e0,ru,-⟩:=hO.ar;injection e0 with e0 _ _;subst e0;obtain⟨b1,off,cs9,e9,dH,hrl,d0,d⟩:=dM ru j Nw au;cases e9;have HS:=ae (atN B.st.list cs C j es hlt);have RL:=hrl wr (K.rf wr);rw[awu _ _ _ _ _ hlt]at RL;have hxL:=Gs.aa _ (bW hlt);have hxo:=HOL.aa _ hxL;generalize es[j]=x at *;obtain⟨J,I,rfl,hf,he⟩:=RL;have HE:Hid (∀W,K wr W->cR x (.agg (aA x J I)) W):=ae λW k=>⟨_,_,rfl,dB _ _ _ _ hf k,aW he k⟩
   have q:∀i,i<8->wr.cell? ⟨go,j*8+i,none⟩=(aA x J I)[i]?:=λi hi=>by have:=d wr (K.rf wr) i hi;rw[fP]at this;exact this.trans Array.getElem?_toList
   have q0:wr.cell? ⟨go,j*8,none⟩=some (.int .i64 x.kind):=q 0 au;have HQ:Hid (∀W,K wr W->∀i,i<8->W.cell? ⟨go,j*8+i,none⟩=(aA x J I)[i]?):=ae λW k i hi=>by have:=d W k i hi;rw[fP]at this;exact this.trans Array.getElem?_toList
   have rO:=ai.new wr 102 (aA x J I);have H:K wr (wr.alloc (.cells (aA x J I) 102)):=(K.rf wr).al _;obtain⟨Af,cf,rfl⟩:=cB hf;obtain⟨U,ce,rfl⟩:=az he;have HO:=ae hO;clear d d0 hf he hrl dH ru hO;go_upto_region 9 with (fail);generalize wr.alloc _=w6 at *;have nL:=kr.tr H;have Nx:=je.tr nL;have F5:C+j<=B.st.list.length:=af;have Sv:=axt C af;have Sw:IntKind.i64.wrap ((C:Int)+(j:Int))=(C:Int)+(j:Int):=KX;have C1:Hid (∀W,K w W->Calls prog 68 #[.pointer (some ⟨g,0,none⟩),.int .i64 ((C:Int)+(j:Int))] W λe w'=>∃v',e=.returned v'/\aT (λk=>k<W.heap.size) W.heap.size 206 gQ (kO (B.st.list.take (C+j))) v' w'/\K W w'):=ae λW k=>by have:=CS.aa W k (C+j) F5;rw[Int.natCast_add]at this;exact this
   have tg:=HSL.aa (C+j);have tG:=HSO.aa (C+j);simp only[od]at tg;have C2:=ae λvS W (k:K w6 W) (hS:ar gQ (kO (B.st.list.take (C+j))) vS W)=>ac6 (kO (B.st.list.take (C+j))) cs x vS _ _ W hS (Su.aa W (nL.tr k)) (HE.aa W (H.tr k)) af af tG hxo.1
   generalize kO (B.st.list.take (C+j))=sj at *;generalize kj sj cs x=y at *;have Ny:=rO.cells;clear q q0 tg tG;refine eM 11 [([],[]),([],[]),([],[]),([],[]),([3],[(54,3)]),([],[]),([4,5],[(55,4),(56,5)]),([2,6],[(53,2),(57,6)]),([],[]),([],[]),([7,8,9],[(58,7),(59,8),(60,9)]),([0,1,2,3,4,5,6,7,8,9,10],[(51,0),(52,1)]),([0,1,2,3,4,5,6,7,8,9,10,11],[(62,11),(61,10)])] 115 rfl ak ak ak ak au ?_;simp only[dR,dN,ew,dP];iterate 7 (apply aV.is;intro V W kW A;(try simp only[aI,aJ,aM,aE,aF,ag]at A);simp[aL,aw,List.lookup,A,aS,execOp,ay,ag,aN,kW,Sv,Sw,Ny,go_sem];rfl)
   refine aV.op (λv W=>ar gQ sj v W) (λ_ _ _ h k=>aW h k) (λV W kW A=>?_) ?_
   ·(try simp only[aI,aJ,aM,aE,aF,ag]at A)
    simp[aL,aw,List.lookup,A,aS,execOp,ay,Sv,Sw,Ny,go_sem];refine (C1.aa W (Nx.tr kW)).mono ?_;exact WV
   iterate 2 (apply aV.is;intro V W kW A;(try simp only[aI,aJ,aM,aE,aF,ag]at A);simp[aL,aw,List.lookup,A,aS,execOp,ay,ag,aN,kW,Sv,Sw,Ny,go_sem];rfl)
   refine aV.op (λv W=>∃vf ve,v=.agg (aA y vf ve)/\Fx (λk=>k<w6.heap.size) (λW=>aQ.rel y (aA y vf ve).toList W) W) (λ_ _ _ ⟨vf,ve,e,h⟩ k=>⟨vf,ve,e,h.k k⟩) (λV W kW A=>?_) ?_
   ·(try simp only[aI,aJ,aM,aE,aF,ag]at A)
    simp[aL,aw,List.lookup,A,aS,execOp,ay,Sv,Sw,Ny,go_sem];refine (C2.aa _ W kW A.1).mono ?_;rintro e w4⟨v4,rfl,hO,k4⟩;exact avg hO kW.size k4
   intro V W kW hA;simp only[aJ,aM,eA,ag,Nat.reduceAdd]at hA;obtain⟨f0,f1,f2,f3,f4,f5,f6,f7,f8,f9,⟨kH,kI,f10,hF⟩,-⟩:=hA;have hfn:=hF.now;obtain⟨Cs,Ct,e3,Sy,Sz⟩:=hfn;cases e3;obtain⟨yB,yC,rfl⟩:=cB Sy;obtain⟨vC,vD,rfl⟩:=az Sz;have kF:K wr W:=H.tr kW;have F:=HO.aa.st kF;have hfz:∀i,W.frozen? ⟨go,i,none⟩=false:=by obtain⟨css,hrow,-,-⟩:=F;rw[Dn]at hrow;exact (EW hrow).2
   have hq:=HQ.aa W kF;have YN:W.cell? ⟨go,j*8,none⟩=some (.int .i64 x.kind):=hq 0 au;refine bu.pure (.pointer (some ⟨go,j*8,none⟩)) rfl (by simp[aw,List.lookup,bj,f0,f1,execOp,ay,ba,go_sem]) ?_;refine bu.skip (fN W go (j*8) [.int .i64 y.kind,.int .i64 y.br,.int .u64 (y.life:Int),.int .u64 (y.cI:Int),.int .i64 y.cl,.int .u64 (y.sub:Int),.slice yB y.f.length yC,.slice vC y.es.length vD]) rfl (by simp[aw,List.lookup,bj,f10,execOp,ay,hq,YN,hfz,fN,go_sem]) ?_;refine bu.nil ?_;simp only[bF,Act.put,cO,cM,cL,Nat.reduceAdd,bj];have ij:go<wr.heap.size:=(HO.aa.blk go rfl).2;have pI:=H.size;have G8:=kW.size;have u9:ah (λk=>k=go) W (fN W go (j*8) [.int .i64 y.kind,.int .i64 y.br,.int .u64 (y.life:Int),.int .u64 (y.cI:Int),.int .i64 y.cl,.int .u64 (y.sub:Int),.slice yB y.f.length yC,.slice vC y.es.length vD]):=ah.sets (X:=λk=>k=go) (g:=go) rfl _ _ W;have JE:=(hF.up u9 λk e=>P4).less (N:=λk=>k<Q.heap.size∨k=go) λk hk=>by have:=nL.size;rcases hk with hk|hk <;> omega
   rw[show es.length=(p9 B.st.list cs C j es).length from (Dn _ _ _ _ _).symm]at F;have nH:=F.azv (j:=j) Nw (y:=y) rfl JE;rw[<- HS.aa,Dn]at nH;have kF9:=u9.k (nL.tr kW) λk e=>by subst e;exact hgo
   clear hq YN hfz hF F f0 f1 f2 f3 f4 f5 f6 f7 f8 f9 f10 Ny JE u9;go_wp2;go_roundw
   case rel=>exact⟨j+1,af,bO,nH,kF9⟩
   case measure=>simp[intOf];omega
  ·have ba:¬(j:Int)<(es.length:Int):=af;obtain rfl:j=es.length:=af;rw[HCA.aa _ _ rfl]at hO;have hce:(Bv B cs C es).length=es.length:=by simp[Bv]
   have HCE:=ae hce;have oy:=ae (hO.fx λk hk=>hk);rw[<- hce]at oy;obtain⟨u,I5⟩:∃u,u=if jO B then B.waits else B.st.prom:=⟨_,rfl⟩
   obtain⟨Am,cm,hmt,M3,zy,hmo⟩:∃Am cm,(jO B=true->Value.slice Aw B.waits.length cw=.slice Am u.length cm)/\(jO B=false->Value.slice Aq B.st.prom.length cq=.slice Am u.length cm)/\(∀W,K w W->ar aQ u (.slice Am u.length cm) W)/\∀x∈u,bP x=true/\cK x:=by
    cases hr:jO B
    ·rw[hr]at I5;obtain rfl:u=B.st.prom:=I5;exact⟨Aq,cq,λh=>vR,λ_=>rfl,λW k=>(HD.aa W k).prom,HOP.aa⟩
    ·rw[hr]at I5;obtain rfl:u=B.waits:=I5;exact⟨Aw,cw,λ_=>rfl,λh=>vR,λW k=>(HD.aa W k).waits,HOW.aa⟩
   rw[<- I5]at St;have HMT:=ae hmt;have HMF:=ae M3;have HML:=ae zy;have HMO:=ae hmo;have j0:=je.tr kr;have CR7:=ae (CR.aa wr j0);clear hO hce hmt M3 zy hmo I5 CR HOP HOW HOL Gs;go_wp2_with fail
   refine CR7.aa.mono ?_;rintro e w7⟨rfl,k7⟩;have ov:=kr.tr k7;have JK:=j0.tr k7;have jc:=eI.below ov eI.lt;have ak3:=YB.below ov YB.lt;clear CR7;go_upto_if 70 with (fail);go_cut [12,70]from 71 to 74 (fun v _ W=>v=.slice Am u.length cm/\w7=W)
   case first =>
    cases hr:jO B
    ·have e:=ae (HMF.aa hr);exact aiR
    ·have e:=ae (HMT.aa hr);exact aiR
   case rest =>
    obtain⟨rfl,rfl⟩:=hcut;clear HMT HMF;have C8:=ae (CS.aa w7 JK B.st.list.length (aG _));have tg:=HSL.aa B.st.list.length;have tG:=HSO.aa B.st.list.length;rw[mC]at C8 tg tG;have tz:u.take 16=u.take (min u.length 16):=by rw[List.take_eq_take_iff];omega
    rw[tz]at St;obtain⟨E,hnm⟩:∃E,E=min u.length 16:=⟨_,rfl⟩;rw[<- hnm]at St;have HNM:=ae hnm;generalize kO B.st.list=sl at *;clear tz hnm;go_wp2_with fail
    refine C8.aa.mono ?_;rintro e D⟨v13,rfl,I6,H⟩;have azw:=ae λW (k:K D W)=>aW I6.ar k
    have oy:=ae (oy.aa.k (k7.tr H));have Su:=ae λW (k:K D W)=>Su.aa W ((ov.tr H).tr k)
    obtain⟨A13,c13,rfl⟩:=I6.slice;have Nz:=JK.tr H;have rO:=jc.below H jc.lt;have YC:=ak3.below H ak3.lt;have oY:=ov.tr H;have hcm:u.length<=cm:=by obtain⟨_,_,e,-,hc⟩:=HML.aa D Nz;injection e with _ _ e3;rw[e3];exact hc
    have azx:min ((u.length:Nat):Int) 16=(E:Int):=WW;have dK:E<=u.length:=WW;have aDt:E<=16:=WW;have hnc:(E:Int)<=(cm:Int):=af;clear C8 I6;go_wp2_with fail
    have kk:=K.rf D;have hO:=aT.nil (λk=>k<D.heap.size) D.heap.size 102 aQ D;go_loopw [14,16,84] (fun o _ i W=>∃j:Nat,j<=E/\i=.int .i64 (j:Int)/\aT (fun k=>k<D.heap.size) D.heap.size 102 aQ ((u.take j).map (kj sl cs)) o W/\K D W) (fun _ _ i _=>E-(intOf i).toNat)
    case atStart=>exact⟨0,af,rfl,Dz,kk⟩
    case round =>
     clear hO kk azx hcm hnc;obtain⟨j,hj,rfl,hO,kq⟩:=hrel;by_cases jl:j<E
     ·have azy:(j:Int)<(E:Int):=af;obtain⟨_,_,e0,ru,-⟩:=HML.aa D Nz;injection e0 with e0 e00 e01;subst e0;clear e00 e01;have hjm:j<u.length:=af;obtain⟨b1,off,cs9,rfl,dH,hrl,d0,d⟩:=dM ru j hjm au;have HS:Hid ((u.take (j+1)).map (kj sl cs)=(u.take j).map (kj sl cs)++[kj sl cs u[j]]):=ae (by rw[gE hjm,List.map_append];rfl);have hxo:=HMO.aa _ (bW hjm);have Eh:Hid (((u.take j).map (kj sl cs)).length=j):=ae aU;generalize u[j]=x at *;obtain⟨J,I,rfl,hf,he⟩:=hrl D (K.rf D);have HE:Hid (∀W,K D W->cR x (.agg (aA x J I)) W):=ae λW k=>⟨_,_,rfl,dB _ _ _ _ hf k,aW he k⟩
      have q:∀i,i<8->wr.cell? ⟨b1,off+j*8+i,none⟩=(aA x J I)[i]?:=λi hi=>(d wr kq i hi).trans Array.getElem?_toList
      have q0:wr.cell? ⟨b1,off+j*8,none⟩=some (.int .i64 x.kind):=d0 wr kq;have mK:=ai.new wr 102 (aA x J I);have k9:K wr (wr.alloc (.cells (aA x J I) 102)):=(K.rf wr).al _;obtain⟨Af,cf,rfl⟩:=cB hf;obtain⟨U,ce,rfl⟩:=az he;obtain⟨Ao,co,rfl⟩:=hO.slice;have bN:=hO.blk;generalize (u.take j).map (kj sl cs)=o1 at *;clear d d0 hf he hrl dH ru;go_upto_region 19 with (fail);generalize wr.alloc _=w9 at *;have SA:=kq.tr k9;have qx9:=mK.cell;have F:=hO.st k9;have C9:=ae (ac6 sl cs x _ _ _ w9 (azw.aa w9 SA) (Su.aa w9 SA) (HE.aa w9 SA) af af tG hxo.1);have nr:=k9.size;have hzq:=kq.size;generalize kj sl cs x=y at *;clear q q0 hO mK;go_wp2_with fail
      refine C9.aa.mono ?_;rintro e iB⟨v10,rfl,hy,oC⟩;obtain⟨kH,kI,rfl,hF⟩:=Fi hy;obtain⟨Cs,Ct,e3,Sy,Sz⟩:=hF.now;cases e3;obtain⟨yB,yC,rfl⟩:=cB Sy;obtain⟨vC,vD,rfl⟩:=az Sz;have jH:Fx (λk=>k<D.heap.size∨(Value.slice Ao o1.length co).ownBlock=some k) (λW=>aQ.rel y (Value.agg (aA y (.slice yB y.f.length yC) (.slice vC y.es.length vD))).cells.toList W) iB:=hF.less λk hk=>by
       rcases hk with hk|hk
       ·omega
       ·have:=(bN k hk).2;omega
      have hr:=fE.new (S:=aQ) (e:=102) (v:=.agg (aA y (.slice yB y.f.length yC) (.slice vC y.es.length vD))) jH 0 (fw _);have kA:K iB (iB.alloc (.cells (aA y (.slice yB y.f.length yC) (.slice vC y.es.length vD)) 102)):=(K.rf iB).al _;have nH:=(F.st oC).st kA;have ak4:=(SA.tr oC).tr kA;have hzA:=ak4.size;clear C9 hF jH Sy Sz hy F qx9;go_wp2_with (at_builtin;refine jK rfl _ _ 39 rfl _ 8 96 rG rfl rfl nH _ rfl y ?p1 ?p2 ?p3 ?_)
      case p1=>exact hr
      case p2=>have:=Eh.aa;omega
      case p3=>simpa using hzA
      intro v11 yJ sg wG FB zw;rw[<- HS.aa]at sg;have kqF:=ak4.trans zw;clear hr nH wG FB zw;go_wp2;go_roundw
      case rel=>exact⟨j+1,af,bO,sg,kqF⟩
      case measure=>simp[intOf];omega
     ·have azy:¬(j:Int)<(E:Int):=af;obtain rfl:j=E:=af;obtain⟨Ao,co,rfl⟩:=hO.slice;have HPR:=ae (hO.fx λk hk=>hk);have Y:=Nz.tr kq;have mK:=rO.below kq rO.lt;have ak5:=YC.below kq YC.lt;have qw:=λW (k:K wr W)=>q W (Y.tr k)
      have Z:=mK.cells;have azz:=YB.lt;have h38:=oY.size;have h8r:=kq.size;have azA:=ae (oy.aa.k kq);clear hO oy YC rO mK;go_upto_region 21 with (fail);refine eM 18 [([],[]),([],[]),([],[]),([],[]),([3],[(99,3)]),([],[]),([5],[(101,5)]),([4,6],[(100,4),(102,6)]),([],[]),([8],[(104,8)]),([9],[(105,9)]),([10],[(106,10)]),([],[]),([12],[(108,12)]),([13],[(109,13)]),([14],[(110,14)]),([],[]),([11,15,16],[(107,11),(111,15),(112,16)]),([0,1,2,7,17],[(96,0),(97,1),(98,2),(103,7),(113,17)]),([0,1,2,3,4,5,6,7,8,9,10,11,12,13,14,15,16,17,18],[(114,18)])] 115 rfl ak ak ak ak au ?_;simp only[dR,dN,ew,dP];iterate 4 (apply aV.is;intro V W kW A;(try simp only[aI,aJ,aM,aE,aF,ag]at A);simp[aL,aw,List.lookup,A,aS,execOp,ay,ag,aN,kW,qw,Z,go_sem];rfl)
      refine aV.op (λv W=>ar bI T v W) (λ_ _ _ h k=>aW h k) (λV W kW A=>?_) ?_
      ·(try simp only[aI,aJ,aM,aE,aF,ag]at A)
       simp[aL,aw,List.lookup,A,aS,execOp,ay,qw,Z,go_sem];refine (CK.aa W (Y.tr kW)).mono ?_;exact WV
      iterate 2 (apply aV.is;intro V W kW A;(try simp only[aI,aJ,aM,aE,aF,ag]at A);simp[aL,aw,List.lookup,A,aS,execOp,ay,ag,aN,kW,qw,Z,go_sem];rfl)
      refine aV.op (λv W=>Fx (λk=>k<wr.heap.size) (λW=>ar bI (tX T t.asks) v W) W) (λ_ _ _ h k=>h.k k) (λV W kW A=>?_) ?_
      ·(try simp only[aI,aJ,aM,aE,aF,ag]at A)
       simp[aL,aw,List.lookup,A,aS,execOp,ay,qw,Z,go_sem];refine (ar1 T t.asks _ _ W A.1 (by obtain⟨_,_,_,_,_,_,e,h⟩:=HM.aa W (Y.tr kW);cases e;exact h.2.1) oU af).mono ?_;exact aiS
      iterate 9 (apply aV.is;intro V W kW A;(try simp only[aI,aJ,aM,aE,aF,ag]at A);simp[aL,aw,List.lookup,A,aS,execOp,ay,ag,aN,kW,qw,Z,go_sem];rfl)
      refine aV.op (λv W=>Fx (λk=>k<wr.heap.size) (λW=>ar bI (tW B.st B.waits t) v W) W) (λ_ _ _ h k=>h.k k) (λV W kW A=>?_) ?_
      ·(try simp only[aI,aJ,aM,aE,aF,ag]at A)
       simp[aL,aw,List.lookup,A,aS,execOp,ay,qw,Z,go_sem];refine (arJ B.st B.waits t _ _ _ _ _ W ⟨_,_,_,rfl,(HD.aa W (Y.tr kW)).list,(HD.aa W (Y.tr kW)).prom,(HD.aa W (Y.tr kW)).ab⟩ (HD.aa W (Y.tr kW)).waits (HM.aa W (Y.tr kW)) ⟨af,af⟩ af af).mono ?_;exact aiS
      intro V W kW hA;simp only[aJ,aM,eA,ag,Nat.reduceAdd]at hA;obtain⟨f0,f1,f2,f3,f4,f5,f6,f7,f8,f9,f10,f11,f12,f13,f14,f15,f16,f17,-⟩:=hA;obtain⟨At,ct,et⟩:=az f7.now;obtain⟨U,ce,ee⟩:=az f17.now;rw[et]at f7;rw[ee]at f17;have G8:=ak5.below kW ak5.lt;have qz:=G8.cell;have zz:=G8.frozen;have Rk:=ae (HPR.aa.k kW);have HE9:=ae (azA.aa.k kW);have F7:=ae f7;have F17:=ae f17;clear f7 f17 f3 f4 f5 f6 f8 f9 f10 f11 f12 f13 f14 f15 f16 qw Z;refine bu.pure (.agg #[.int .i64 2,.int .u64 (C:Int),.slice none 0 0,.slice none 0 0,.slice O es.length L,.slice Ao ((u.take j).map (kj sl cs)).length co,.slice At (tX T t.asks).length ct,.slice U (tW B.st B.waits t).length ce]) rfl (by simp[aw,List.lookup,f0,f1,f2,et,ee,execOp,ay,go_sem]) ?_;refine bu.skip (fN W gz 0 [.int .i64 2,.int .u64 (C:Int),.slice none 0 0,.slice none 0 0,.slice O es.length L,.slice Ao ((u.take j).map (kj sl cs)).length co,.slice At (tX T t.asks).length ct,.slice U (tW B.st B.waits t).length ce]) rfl (by simp[aw,List.lookup,bj,execOp,ay,qz,zz,fN,go_sem]) ?_;refine bu.nil ?_;simp only[bF,Act.put,cO,cM,cL,Nat.reduceAdd,bj];have sI:=Ve (us:=[.int .i64 2,.int .u64 (C:Int),.slice none 0 0,.slice none 0 0,.slice O es.length L,.slice Ao ((u.take j).map (kj sl cs)).length co,.slice At (tX T t.asks).length ct,.slice U (tW B.st B.waits t).length ce]) G8 rfl;have u9:=ah.sets (X:=λk=>k=gz) (g:=gz) rfl ([.int .i64 2,.int .u64 (C:Int),.slice none 0 0,.slice none 0 0,.slice O es.length L,.slice Ao ((u.take j).map (kj sl cs)).length co,.slice At (tX T t.asks).length ct,.slice U (tW B.st B.waits t).length ce]) 0 W;have Hh:=ae (show js R (.agg #[.int .i64 2,.int .u64 (C:Int),.slice none 0 0,.slice none 0 0,.slice O es.length L,.slice Ao ((u.take j).map (kj sl cs)).length co,.slice At (tX T t.asks).length ct,.slice U (tW B.st B.waits t).length ce]) (fN W gz 0 ([.int .i64 2,.int .u64 (C:Int),.slice none 0 0,.slice none 0 0,.slice O es.length L,.slice Ao ((u.take j).map (kj sl cs)).length co,.slice At (tX T t.asks).length ct,.slice U (tW B.st B.waits t).length ce])) by
       have g1:=(HE9.aa.up u9 λk e=>by subst e;exact azz).now;rw[HCE.aa]at g1;rw[St.aa];exact⟨_,_,_,_,_,_,rfl,iu _ _,iu _ _,g1,(Rk.aa.up u9 λk e=>P4).now,(F7.aa.up u9 λk e=>P4).now,(F17.aa.up u9 λk e=>P4).now⟩)
      have HK:=ae (u9.k (Y.tr kW) λk e=>by have:=HGZ.aa;omega);clear u9 G8 qz zz Rk HE9 F7 F17 f0 f1 f2 et ee;generalize fN W gz 0 _=W9 at *;have e9:=sI.cell;go_wp2;refine bodyPost_ret (v:=.agg #[.int .i64 2,.int .u64 (C:Int),.slice none 0 0,.slice none 0 0,.slice O es.length L,.slice Ao ((u.take j).map (kj sl cs)).length co,.slice At (tX T t.asks).length ct,.slice U (tW B.st B.waits t).length ce]) (by simp[results,results63,go_sem,e9]) rfl ?_;exact⟨_,rfl,Hh.aa,HK.aa⟩
