/-
  The walks of broker's root, kids, aborted, Status (layer 20). Conditions: none.
-/
import Derived.Test.YtfndfpdhlbmboaaGreatMd13
import Derived.Shelf.SlSortCmp.WholeK
import Derived.Deep.QuietTactic
import Derived.BigQuiet
import Derived.Shelf.SlSortCmp.NoneTotal
import Derived.Shelf.Lay
import Derived.Ground.SlsfProg
import Derived.Test.YtfndfpdhlbmboaaGreatMdz
set_option maxRecDepth 100000
set_option linter.constructorNameAsVariable false
set_option maxHeartbeats 16000000
set_option linter.unusedVariables false
set_option linter.unusedSimpArgs false
namespace Go.Proofs.YtfndfpdhlbmboaaGreat
open Go Go.RowKit _root_.Go.Proofs.Tryz
theorem O7{M p B w}(h:bB M p B w) :
 Calls prog 90 #[.pointer (some ⟨p.g,0,none⟩)] w λe w'=>e=.returned (.bool (mT B))/\K w w':=by
 have HR:Hid (mT B=decide (B.me=0)):=ae rfl
 have q:=h.blk.cell
 obtain⟨g,gl,gd,gr,gt,vd,vr,vp,vh,vl,vq,va,vt,vf,vw,kr⟩:=p
 simp only at q
 clear h
 have j:=K.rf w
 generalize mT B=R at *
 go_enter func90,ntmps90
 go_wp2
 go_ret
 exact⟨fW,j⟩
theorem Uv{M p B w}(h:bB M p B w)(u:bE B) :
 Calls prog 94 #[.pointer (some ⟨p.g,0,none⟩)] w λe w'=>∃v',e=.returned v'/\aB (λk=>k<w.heap.size) w.heap.size 3 cQ (oo B) v' w'/\K w w':=by
 have hn:B.par.length<=1000000:=by have:=sA u.tr;omega
 have q:=h.q
 have C:=ae λW (k:K w W)=>aqy B.par B.me p.vp W (h.bK.at k).par hn
 have y:=av h.bK.now.par
 obtain⟨g,gl,gd,gr,gt,vd,vr,vp,vh,vl,vq,va,vt,vf,vw,kr⟩:=p
 simp only at q C y
 obtain⟨A,c,rfl⟩:=y
 clear h u
 unfold oo
 generalize En B.par B.me=R at *
 go_enter func94,ntmps94
 go_upto_region 1 with (fail)
 have qs:=q
 refine dV 9 ?_
 iterate 8 refine au.i ?_
 refine au.op (λv W=>aB (λk=>k<w.heap.size) w.heap.size 3 cQ R v W) (λ_ _ _ h k=>h.st k) (λV W kW hp=>?_) ?_
 ·(try simp only[cF,aO,aR,bW,bY,aJ]at hp)
  simp[bR,aF,List.lookup,hp,cW,execOp,aG,q,go_sem];apply bS (C.aa W kW);rintro Q O⟨j,F⟩;exact⟨_,rfl,(j.less λk hk=>bz hk kW.size).low kW.size,F⟩
 clear qs
 intro V W kW hA
 simp only[aO,aR,cC,aJ,Nat.reduceAdd]at hA
 obtain⟨I,E,H,G,D,J,L,N,j,-⟩:=hA
 obtain⟨S,c2,t⟩:=j.slice
 rw[t]at j
 apply aH.pure
 rfl
 simp[aF,List.lookup,bj,t,execOp,aG,go_sem]
 rfl
 refine aH.nil ?_
 simp only[fZ,Act.put,sC,rI,rH,Nat.reduceAdd,bj,I,E,H,G,D,J,L,N,t]
 go_wp2
 go_ret
 exact⟨_,rfl,j,kW⟩
theorem ac3 l a:(dh (pO l) a).isSome=dJ l a:=by
 have key:∀(l:List aS) (n i:Nat),(gu a ((l.zipIdx n).map λp=>(p.1,Value.int .i64 p.2)) i).isSome=dJ l a:=by
  intro l
  induction l with
  | nil=>intro n i;rfl
  | cons x l j =>
   intro n i;simp only[List.zipIdx_cons,jR,gu,dJ,List.any_cons];by_cases h:x=a
   ·simp[h]
   ·grind [dh,pO,dJ]
 unfold dh pO
 grind
theorem WC W:(zeroValue 3).run prog W=.ok (.int .i64 0) W:=by rfl
theorem Uc{M p B w}(h:bB M p B w)(hG:bE B) a :
 Calls prog 108 #[.pointer (some ⟨p.g,0,none⟩),cN a] w λe w'=>e=.returned (.bool (ue B a))/\K w w':=by
 have A:Hid (ue B a=(dJ B.told a||dJ B.st.ab a)):=ae rfl
 have hb:=ai.new w 26 #[.int .i64 a.1,.int .u64 a.2.1,.int .u64 a.2.2]
 have t:=hb.aU
 have H:=ae h
 have G:=ae λW (k:K w W)=>Io B.st a (.agg (cP B.st p.vl p.vq p.va)) W ⟨_,_,_,rfl,(h.bK.at k).list,(h.bK.at k).prom,(h.bK.at k).ab⟩ B8
 have C:=ae λW (k:K w W)=>(DG Rl underlying160 (WC W) (h.xb.st k) a).1
 simp only[ac3]at C
 have E:=av h.bK.now.list
 have D:=av h.bK.now.prom
 have I:=av h.bK.now.ab
 have q:=h.q
 obtain⟨g,gl,gd,gr,gt,vd,vr,vp,vh,vl,vq,va,vt,vf,vw,kr⟩:=p
 simp only at q G C E D I
 obtain⟨O,cl,rfl⟩:=E
 obtain⟨X,L,rfl⟩:=D
 obtain⟨Q,T,rfl⟩:=I
 generalize (dh (pO B.told) a).getD (.int .i64 0)=J at *
 generalize ue B a=R at *
 clear h hG H
 go_enter func108,ntmps108
 go_upto_region 1 with (fail)
 generalize w.alloc _=F at *
 generalize w.heap.size=U at hb⊢
 have u:=hb.cells
 have y:=λW (k:K F W)=>q W (t.tr k)
 have j:∀W,K F W->(Instr.lookup 160 (.map (some gt)) (.agg #[.int .i64 a.1,.int .u64 a.2.1,.int .u64 a.2.2]) true).run prog W=.ok (.tuple #[J,.bool (dJ B.told a)]) W:=λW k=>C.aa W (t.tr k)
 cases ht:dJ B.told a
 ·have HQ:Hid (R=dJ B.st.ab a):=ae (by rw[A.aa,ht];rfl);rw[ht]at j;clear ht A;have qs:=And.intro y (And.intro u j);refine dV 11 ?_;iterate 11 refine au.i ?_
  clear qs;intro V W kW hA;simp only[aO,aR,cC,aJ,Nat.reduceAdd]at hA;refine aH.h ?_;have q2:=λW' (k:K W W')=>q W' (t.tr (kW.tr k))
  have sX:=λW' (k:K W W')=>u W' (kW.tr k)
  have k2:=t.tr kW;generalize dJ B.st.ab a=Z at *;clear hA y j u hb;go_upto_region 2 with (fail);have qs:=And.intro q2 sX;refine dV 10 ?_;iterate 7 refine au.i ?_
  refine au.is (.bool Z) (λV W kW hp=>?_) ?_
  ·(try simp only[cF,aO,aR,bW,bY,aJ]at hp)
   simp[bR,aF,List.lookup,hp,cW,execOp,aG,aJ,q2,sX,go_sem];apply aM (G.aa W (k2.tr kW));intro S N;grind
  iterate 2 refine au.i ?_
  exact ag4
 ·have HQ:Hid (R=true):=ae (by rw[A.aa,ht];rfl);rw[ht]at j;clear ht A;have qs:=And.intro y (And.intro u j);refine dV 11 ?_;iterate 11 refine au.i ?_
  clear qs;intro V W kW hA;simp only[aO,aR,cC,aJ,Nat.reduceAdd]at hA;refine aH.h ?_;have q2:=λW' (k:K W W')=>q W' (t.tr (kW.tr k))
  have sX:=λW' (k:K W W')=>u W' (kW.tr k)
  have k2:=t.tr kW;clear hA y j u hb;go_upto_region 2 with (fail);have qs:=And.intro q2 sX;refine dV 10 ?_;iterate 7 refine au.i ?_
  refine au.i ?_;iterate 2 refine au.i ?_
  exact ag4
section
open Go Go.RowKit Go.Sort
def pT(l:List aS)(a:aS):Nat:=(l.findIdx? λx=>decide (x=a)).getD 0
theorem adO(a:aS):∀(l:List aS) (n i:Nat),gu a ((l.zipIdx n).map λp=>(p.1,Value.int .i64 p.2)) i=(l.findIdx? λx=>decide (x=a)).map λj=>(i+j,Value.int .i64 ((n+j:Nat):Int))
 | [],n,i=>rfl
 | x :: l,n,i=>by
  rw[List.zipIdx_cons,jR,List.findIdx?_cons];unfold gu;by_cases h:x=a
  ·simp[h]
  ·simp only[h,if_false,decide_false,Bool.false_eq_true];rw[adO a l (n+1) (i+1),Option.map_map];congr 1;funext j;simp only[Function.comp_apply,Prod.mk.injEq,Value.int.injEq,true_and];constructor
   ·omega
   ·congr 1;omega
theorem at0 l a:(dh (pO l) a).getD (.int .i64 0)=.int .i64 (pT l a:Int):=by unfold dh pO pT;rw[adO a l 0 0];cases l.findIdx? λx=>decide (x=a) <;> simp
theorem ag5{l}(h:l.Nodup) i(j:i<l.length):pT l l[i]=i:=by
 unfold pT;have:(l.findIdx? λx=>decide (x=l[i]))=some i:=by
  grind [List.findIdx?_eq_some_iff_getElem,List.pairwise_iff_getElem]
 rw[this];rfl
def Gs(l:List aS)(x y:aS):Int:=Lib.compareInt (pT l x:Int) (pT l y:Int)
theorem SG l x y:Go.Proofs.ltOf (Gs l) x y=decide (pT l x<pT l y):=by
 unfold ltOf Gs Lib.compareInt
 grind
theorem az3 l:SWO (Go.Proofs.ltOf (Gs l)) where
 irrefl x:=by rw[SG];simp
 trans x y z h1 h2:=by rw[SG]at *;simp at *;omega
 ntrans x y z h1 h2:=by rw[SG]at *;simp at *;omega
theorem aqH{l}(h:l.Nodup){d t}(hp:d.toList.Perm l)(C:PermIn 0 d.size d t)(B:SortedIn (Go.Proofs.ltOf (Gs l)) 0 d.size t):t.toList=l:=by
 obtain⟨F,-,D⟩:=C;have A:t.toList.Perm d.toList:=by have G:(t.extract 0 d.size)=t:=aA;simp_all
 have y:=A.trans hp;refine List.Perm.eq_of_pairwise (le:=λa b=>pT l a<=pT l b) ?_ ?_ ?_ y
 ·grind [List.mem_iff_getElem,ag5]
 ·rw[List.pairwise_iff_getElem];intro i j H E u;have:=B i j (eV _) u aA;rw[SG]at this;grind
 ·grind [List.pairwise_iff_getElem,ag5]
end
section
open Go Go.RowKit Go.Sort
theorem at1 a w:Calls prog 265 #[.int .i64 a] w λe w'=>e=.returned (.bool false)/\w'=w:=by go_enter func265,ntmps265;go_wp2;go_ret;exact⟨aj,rfl⟩
theorem at2 a b w:Calls prog 179 #[.int .i64 a,.int .i64 b] w λe w'=>e=.returned (.int .i64 (Lib.compareInt a b))/\w'=w:=by
 have j:=ae λa W=>at1 a W
 have HR:Hid (Lib.compareInt a b=if a<b then -1 else if b<a then 1 else 0):=ae rfl;generalize Lib.compareInt a b=R at *;go_enter func179,ntmps179;go_wp2_with fail
 apply aM (j.aa a w);rintro t rfl;go_wp2_with fail
 apply aM (j.aa b t);rintro u rfl;clear j;by_cases h1:a<b
 ·have HE:Hid (R=-1):=ae ag6;clear HR;exact DX
 by_cases h2:b<a
 ·have HE:Hid (R=1):=ae ag7;clear HR;exact DX
 have HE:Hid (R=0):=ae ag8;clear HR;exact DX
theorem eC.drewN{α enc w b}{ak:List (α×Value)}(h:eC enc w b ak) n:eC enc (w.drewN n) b ak:=h
theorem aph told x y g gt gb A W(hg:ai W g 162 A)(hA:A[12]?=some (.map (some gt)))(hm:eC mD W gt (pO told))(hb:ai W gb 90 #[.pointer (some ⟨g,0,none⟩)]) :
 Calls prog 261 #[cN x,cN y,.pointer (some ⟨gb,0,none⟩)] W λe w'=>e=.returned (.int .i64 (Gs told x y))/\∃q M,w'=grow (W.drewN q) M:=by
 have C:=(ai.new W 26 (dt x)).alloc (.cells (dt y) 26)
 have u:=ai.new (W.alloc (.cells (dt x) 26)) 26 (dt y)
 have j:=K.lW W (.cells (dt x) 26) (.cells (dt y) 26)
 have H:=(hg.ay j).cell
 have U:=(hb.ay j).cell 0
 have B:=hm.st j
 have O:∃os,(W.alloc (.cells (dt x) 26)).alloc (.cells (dt y) 26)=grow W os:=⟨_,by rw[alloc_eq_grow,alloc_eq_grow,grow_grow]⟩
 have hz:(W.alloc (.cells (dt x) 26)).heap.size=W.heap.size+1:=aj
 rw[hz]at u
 obtain⟨os,F⟩:=O
 have N:=ae F
 have I:=ae λW=>at2 (pT told x:Int) (pT told y:Int) W
 have L:Hid (Gs told x y=Lib.compareInt (pT told x:Int) (pT told y:Int)):=ae rfl
 have t:∀n (a:aS),(Instr.lookup 160 (.map (some gt)) (.agg #[.int .i64 a.1,.int .u64 a.2.1,.int .u64 a.2.2]) false).run prog (((W.alloc (.cells (dt x) 26)).alloc (.cells (dt y) 26)).drewN n)=.ok (.int .i64 (pT told a:Int)) (((W.alloc (.cells (dt x) 26)).alloc (.cells (dt y) 26)).drewN n):=λn a=>by have:=(DG Rl underlying160 (WC _) (B.drewN n) a).2;rw[at0]at this;exact this
 have Y:=(H 12).trans hA
 clear hm B F hg hb H hz hA j
 have E:=C.cell
 have S:=u.cell
 clear C u
 go_enter func261,ntmps261
 go_upto_region 1 with (fail)
 generalize World.alloc (World.alloc W _) _=T at *
 generalize Lib.compareInt (pT told x:Int) (pT told y:Int)=R at *
 generalize D:pT told x=V at *
 generalize G:pT told y=X at *
 have Q:=λn=>t n x
 have J:=λn=>t n y
 rw[D]at Q
 rw[G]at J
 clear t D G
 have E:=λi=>E i
 go_quiet ((go_at_call 179;refine Calls.quiet_of_same (I.aa _)))
 go_wp2
 go_ret
 exact⟨by rw[L.aa];rfl,_,os,by rw[N.aa];rfl⟩
end
section
open Go Go.RowKit Go.Shelf Go.Sort
shelf_lay_g SlLaysF0.n6 Slsf 6 at Tryz 298 as Tryz.ag9
theorem ayz(l:List aS) i j(u:i<l.length)(t:j<3):(l.flatMap fw)[i*3+j]?=(fw l[i])[j]?:=by
 have e:l.flatMap fw=(l.map fw).flatten:=cV
 have h:=yx 3 (l.map fw) (λcs h=>aA) i j aA t
 grind
theorem aeA d i j(u:i<d.size)(y:j<3):some (flatK fw 3 d)[i*3+j]! = (fw d[i])[j]?:=by
 have t:i*3+j<d.size*3:=af
 rw[get_flatK fw 3 d _ t,show (i*3+j)/3=i by omega,show (i*3+j)%3=j by omega,getElem!_pos d i u]
 grind
theorem Ps{w base g cap}{l:List aS}(h:w.ownsRow base 26 3 (.slice (some ⟨g,0,none⟩) l.length cap) l.length (l.flatMap fw))(F:base<=g):HoldsK fw 3 w g 0 l.toArray/\g<w.heap.size/\base<=g/\l.length<=cap:=by
 rcases h.2 with ⟨e,-⟩|⟨I,G,cur,e,hb,B,E,-,H,C⟩
 ·cases e
 ·injection e with e1 e2 e3;injection e1 with e1;injection e1 with e1;subst e1 e3;have j:ai w g 26 cur:=B;refine⟨λt D=>⟨?_,j.frozen _⟩,j.lt,hb,E⟩;rw[size_flatK,List.size_toArray]at D;have hi:t/3<l.length:=af;have u:t%3<3:=Nat.mod_lt _ ax;have A:t=t/3*3+t%3:=af;rw[j.cell];show cur[0+t]?=some _;rw[mQ,show (flatK fw 3 l.toArray)[t]! = (flatK fw 3 l.toArray)[t/3*3+t%3]! by rw[<- A],id,aeA _ _ _ PN u];have y:=ayz l (t/3) (t%3) hi u;rw[<- A,<- C,List.getElem?_take_of_lt af]at y;rw[<- Array.getElem?_toList,y];simp
theorem at3{w g cap d}(h:HoldsK fw 3 w g 0 d)(hg:g<w.heap.size)(B:d.size<=cap):aq cd d.toList (.slice (some ⟨g,0,none⟩) d.size cap) w:=by
 refine⟨_,cap,aj,⟨d.toList.map fw,PA _ _,?_,λ_=>⟨g,0,rfl,hg,λt u j=>?_⟩⟩,af⟩
 ·rw[BQ 3 _ λcs h=>aA];simp[cd]
 ·have hl:t<d.size*3:=by have:=(List.getElem?_eq_some_iff.1 j).1;rw[BQ 3 _ λcs h=>aA]at this;simpa using this
  have hi:t/3<d.size:=af;have A:t%3<3:=Nat.mod_lt _ ax;have y:t=t/3*3+t%3:=af;rw[(h t WD).1,id,show (flatK fw 3 d)[t]! = (flatK fw 3 d)[t/3*3+t%3]! by rw[<- y],aeA _ _ _ hi A];have:=yx 3 (d.toList.map fw) (λcs h=>by obtain⟨a,-,rfl⟩:=List.mem_map.1 h;rfl) (t/3) (t%3) PN A;rw[<- y,j,List.getElem?_map,List.getElem?_eq_getElem (show t/3<d.toList.length by simpa using hi)]at this;exact this.symm
theorem adP w g m d os:ag (λk=>k=g) w (sortWorldK fw 3 w g 0 m d os):=by
 refine⟨rfl,rfl,rfl,?_,λk hk hg=>?_⟩
 ·simp[sortWorldK,grow,putRowK,putRow,mapBlock,Sort.ahead]
 ·simp only[sortWorldK,grow,putRowK,putRow,mapBlock,Sort.ahead];grind
theorem aoT b t ak w(y:w.cell? ⟨t,0,none⟩=some (.map (some b)))(hm:eC mD w b ak)(B:ak.length<=1000000) :
 Calls prog 297 #[.func (.func 299) #[] #[.pointer (some ⟨t,0,none⟩)]] w λe w'=>∃(v':Value) (j:List aS),e=.returned v'/\j.Perm (ak.map (·.1))/\w'.ownsRow w.heap.size 26 3 v' j.length (j.flatMap fw)/\K w w':=by
 have C:=ae (aoR b t ak w y hm B)
 clear y hm
 go_enter func297,ntmps297
 go_wp2_with fail
 refine C.aa.mono ?_
 rintro e E⟨v',j,rfl,hp,u,k⟩
 have A:=ae hp
 have D:=ae u
 clear hp u
 go_wp2
 go_ret
 exact⟨_,j,rfl,A.aa,D.aa,k⟩
theorem at4 l:(pO l).map (·.1)=l:=by unfold pO;rw[List.map_map];exact List.zipIdx_map_fst 0 l
theorem aow{α}[Inhabited α] enc k w blk j(d dk:Array α) m os(t:HoldsK enc k w blk j d)(y:blk<w.heap.size)(u:dk.size=d.size):HoldsK enc k (sortWorldK enc k w blk j m dk os) blk j dk:=holdsK_sortWorldK_c enc k w blk j d dk m os t y u
theorem api told g gt gb H A w(hg:ai w g 162 A)(hA:A[12]?=some (.map (some gt)))(hm:eC mD w gt (pO told))(hb:ai w gb 90 #[.pointer (some ⟨g,0,none⟩)])
 (L:w.cell? ⟨H,0,none⟩=some (.map (some gt))) (hn:told.Nodup) (O:told.length<=1000000) :
 Calls prog 259 #[.func (.func 299) #[] #[.pointer (some ⟨H,0,none⟩)],.func (.func 261) #[] #[.pointer (some ⟨gb,0,none⟩)]] w λe w'=>∃v',e=.returned v'/\aq cd told v' w'/\K w w':=by
 have C:=ae (aoT gt H (pO told) w L hm (by simpa [pO]using O))
 have X:=hm.lt
 have J:=ae λW (k:K w W) (l:List aS) (j cap:Nat) (t:W.ownsRow w.heap.size 26 3 (.slice (some ⟨j,0,none⟩) l.length cap) l.length (l.flatMap fw)) (Q:w.heap.size<=j) (hl:l.length<=1000000) =>
  AnyQ.slices_SortFunc Tryz.ag9 3 (λW=>Tryz.isAgg26 W) (λW=>Tryz.sizeOf26 W) fw (λ_=>rfl) (λx v V=>by simp at V;rcases V with rfl|rfl|rfl <;> rfl) (Gs told) (az3 told) 261 #[.pointer (some ⟨gb,0,none⟩)] j 0 cap l.toArray W
   (enters_of func261 cV rfl)
   (λm os dk hs x y=>by
    have u:=adP W j m dk os;have F:=hg.lt;have bT:=hb.lt;exact aph told x y g gt gb A _ ((hg.below k F).aW u af) hA ((hm.st k).aW u af) ((hb.below k bT).aW u af))
   (Ps t Q).1 (Ps t Q).2.1 ba
 have N:=ae λ(p:Option Addr) (cap:Nat) (fv:Value) (W:World)=>AnyF.slices_SortFunc_none Tryz.ag9 p cap fv W
 rw[at4]at C
 have HN:=ae hn
 have Y:=ae O
 clear hg hm hb L X hn O
 go_enter func259,ntmps259
 go_wp2_with fail
 refine C.aa.mono ?_
 rintro e D⟨v2,B,rfl,hp,t,M⟩
 have ZO:B.length<=1000000:=by rw[hp.length_eq];exact Y.aa
 have HP:=ae hp
 have G:=ae t
 clear C hp
 rcases t.2 with ⟨rfl,Q⟩|⟨j,cap,cur,rfl,hb,hc,L,h2,h3,h4⟩
 ·have ht:told=[]:=by
   have:=HP.aa.length_eq
   cases told with
   | nil=>rfl
   | cons a l=>simp at this;omega
  clear t G J;go_wp2_with fail
  apply aM (N.aa _ _ _ _);rintro U rfl;clear N;go_wp2;go_ret;exact⟨_,rfl,by rw[ht];exact gI _ _,M⟩
 ·have T:=ae (J.aa D M B j cap G.aa hb ZO);have F:=(Ps G.aa hb).2.1;have HH:=ae (Ps G.aa hb).1;clear J N t hc h3 h4;go_wp2_with fail
  apply aM T.aa;rintro U⟨E,n,os,I,R,rfl⟩;have u:=adP D j n E os;have hd:=aqH HN.aa (d:=B.toArray) fP I R;have hsz:E.size=B.length:=by have:=I.1;simpa using this
  have HF:=ae (at3 (cap:=cap) (aow fw 3 D j 0 B.toArray E n os HH.aa F af) (bz F u.size) af);have S:=u.k M λk hk=>af
  have Z:=ae S;clear I R T u S;generalize sortWorldK fw 3 D j 0 n E os=U at *;go_wp2;go_ret;exact⟨_,rfl,by rw[<- hd,<- hsz];exact HF.aa,Z.aa⟩
end
theorem jI.small{l}(h:jI l):∀t∈l,eJ t.e:=λt j=>vO (h.each t j).1
def Rs(lo:Nat)(t:TypeId)(cs:Array Value)(v:Value)(W:World):Prop:=∃b,v=.pointer (some ⟨b,0,none⟩)/\lo<=b/\ai W b t cs
theorem axq lo t cs:∀v w w',Rs lo t cs v w->Below w.heap.size w w'->Rs lo t cs v w':=by rintro v w w'⟨b,e,j,h⟩ k;exact⟨b,e,j,h.ay k⟩
theorem av2{lo} t cs(W:World)(h:lo<=W.heap.size):Rs lo t cs (.pointer (some ⟨W.heap.size,0,none⟩)) (W.alloc (.cells cs t)):=⟨_,rfl,h,ai.new W t cs⟩
section
variable {M:Nat->Prop} {p:nU} {B:aZ} {w:World}
theorem bB.Mm(h:bB M p B w){l v}(j:Fx M (λW=>aq df l v W) w):bB M { p with vt:=v } { B with aC:=l } (w.setCell ⟨p.g,8,none⟩ v) :=
 h.cell 8 v (h.blk.aQ 8 v) ⟨rfl,rfl,rfl,rfl,rfl,rfl,rfl,rfl⟩ ⟨rfl,rfl⟩ λW u d=>⟨d.par,d.ah,d.list,d.prom,d.ab,j W u,d.fD,d.waits,d.bO⟩
theorem bB.az4(h:bB M p B w) n:bB M p { B with calls:=n } (w.setCell ⟨p.g,9,none⟩ (.int .u64 n)) :=
 h.cell 9 _ (h.blk.aQ 9 _) ⟨rfl,rfl,rfl,rfl,rfl,rfl,rfl,rfl⟩ ⟨rfl,rfl⟩ λW u d=>⟨d.par,d.ah,d.list,d.prom,d.ab,d.aC,d.fD,d.waits,d.bO⟩
theorem bB.az5(h:bB M p B w){l v}(j:Fx M (λW=>aq aV l v W) w):bB M { p with vw:=v } { B with waits:=l } (w.setCell ⟨p.g,13,none⟩ v) :=
 h.cell 13 v (h.blk.aQ 13 v) ⟨rfl,rfl,rfl,rfl,rfl,rfl,rfl,rfl⟩ ⟨rfl,rfl⟩ λW u d=>⟨d.par,d.ah,d.list,d.prom,d.ab,d.aC,d.fD,j W u,d.bO⟩
theorem bB.az6(h:bB M p B w){l v}(j:Fx M (λW=>aq cd l v W) w):bB M { p with vf:=v } { B with refused:=l } (w.setCell ⟨p.g,11,none⟩ v) :=
 h.cell 11 v (h.blk.aQ 11 v) ⟨rfl,rfl,rfl,rfl,rfl,rfl,rfl,rfl⟩ ⟨rfl,rfl⟩ λW u d=>⟨d.par,d.ah,d.list,d.prom,d.ab,d.aC,j W u,d.waits,d.bO⟩
theorem bB.akr{p' B' w'}(h:bB M p B w)(hg:p'.g=p.g/\p'.gl=p.gl/\p'.gd=p.gd/\p'.gr=p.gr/\p'.gt=p.gt/\p'.vd=p.vd/\p'.vr=p.vr)(t:bB M p' B' w')(u:ag (bw p) w w'):dK M p B' w w':=by
 have j:∀k,bw p' k↔bw p k:=λk=>by
  grind [bw]
 exact⟨p',t.less (λk hk=>.inr hk) (λk hk=>hk.elim id λy=>h.sub k ((j k).1 y)),u,(by grind [nU.key]),λk hk=>.inl ((j k).1 hk)⟩
theorem aX.JY{e α S}{l:List α}{v w'}(h:aX w.heap.size w.heap.size e S l v w')(j:∀k,M k->k<w.heap.size):Fx M (λW=>Go.Proofs.YtfndfpdhlbmboaaGreat.aq S l v W) w':=(h.tO.fx λ_ h=>h).less j
end
theorem acw{M p B w}(h:bB M p B w){l v} c(j:Fx M (λW=>aq df l v W) w) :
 Calls prog 109 #[.pointer (some ⟨p.g,0,none⟩),v,.int .i64 c] w λe w'=>e=.returned (.int .i64 (fK B (l,c)).2)/\dK M p (fK B (l,c)).1 w w':=by
 have y:Hid (fK B (l,c)=if c=0 then ({ B with aC:=l },0)else (B,c)):=ae rfl
 generalize fK B (l,c)=R at *
 have u:=ae (h.akr (p':={ p with vt:=v }) ⟨rfl,rfl,rfl,rfl,rfl,rfl,rfl⟩ (h.Mm j) (ag.bM (X:=bw p) (.inl rfl) 8 v))
 have t:=ae (h.n (K.rf w))
 have q:=h.blk.cell
 have z:=h.blk.frozen
 obtain⟨A,cc,rfl⟩:=av j.now
 obtain⟨g,gl,gd,gr,gt,vd,vr,vp,vh,vl,vq,va,vt,vf,vw,kr⟩:=p
 simp only at q z u t
 clear h j
 go_enter func109,ntmps109
 by_cases hc:c=0
 ·subst hc;have HR:Hid (R=({ B with aC:=l },0)):=ae fP;go_wp2;go_ret;exact⟨fW,by rw[HR.aa];exact u.aa⟩
 ·have HR:Hid (R=(B,c)):=ae (by rw[y.aa,if_neg hc]);have C:(c==0)=false:=DY;go_wp2;go_ret;exact⟨fW,by rw[HR.aa];exact t.aa⟩
theorem acx{M p B w}(h:bB M p B w)(hG:bE B) c(f:Nat) cs j(hf:∀args W,(callFunc f args).run prog W=.ok (.enter f args) W)
 (Rt:∀W,K w W->Calls prog f (#[cN (jG B)]++cs) W λe w'=>∃v',e=.returned (.tuple #[v',.int .i64 j.2])/\aX W.heap.size W.heap.size 128 df j.1 v' w'/\K W w') :
 Calls prog 99 #[.pointer (some ⟨p.g,0,none⟩),.int .i64 c,.func (.func f) #[] cs] w λe w'=>e=.returned (.tuple #[cN (jq B c j).2.1,.int .i64 (jq B c j).2.2])/\dK M p (jq B c j).1 w w':=by
 have HK:Hid (jq B c j=if vX B c then (if j.2=0 then ({ B with aC:=j.1,calls:=B.calls+1 },jG B,0)else (B,(0,0,0),j.2))else (B,(0,0,0),200)):=ae rfl
 generalize jq B c j=R at *
 have H:=ae h
 have HX:=ae λk hk=>h.low k (h.sub k hk)
 have HM:=ae h.low
 have hcl:=hG.calls
 have C1:=ae λW (k:K w W)=>acu (h.st k) hG c
 have C2:=ae Rt
 have q:=h.q
 have hr:=ai.new w 26 #[.int .i64 0,.int .u64 0,.int .u64 0]
 have k0:=hr.aU
 generalize vX B c=HB at *
 generalize je:jG B=u at *
 obtain⟨C,dq⟩:∃n,n=B.calls+1:=⟨_,rfl⟩
 have y5:Hid (u=(B.me,B.st.life,C)):=ae (by rw[dq];exact je.symm)
 have Q:IntKind.u64.wrap ((B.calls:Int)+1)=(C:Int):=by rw[IntWalk.u64_in _ (by omega),dq];omega
 have Dg:=ae dq
 clear dq hcl
 clear h hG Rt je
 go_enter func99,ntmps99
 go_upto_region 1 with (fail)
 generalize w.alloc _=w1 at *
 generalize ez:w.heap.size=t at hr⊢
 have G7:=ae ez
 clear ez
 go_wp2_with fail
 refine (C1.aa w1 k0).mono ?_
 rintro e U⟨rfl,k2⟩
 have D:=hr.ay k2
 have bD:=k0.tr k2
 clear C1 hr
 cases Nn:HB
 ·have y:Hid (R=(B,(0,0,0),200)):=ae (by rw[HK.aa,Nn];rfl);have Y:=D.cell;have S:=D.frozen;clear HK C2 q;go_wp2;have N:ai (World.setCell (World.setCell (World.setCell U _ _) _ _) _ _) t 26 #[.int .i64 0,.int .u64 0,.int .u64 0]:=((D.aQ 0 (.int .i64 0)).aQ 1 (.int .u64 0)).aQ 2 (.int .u64 0);have kS:=K.set (K.set (K.set bD (r:=t) WE 0 (.int .i64 0)) (r:=t) WE 1 (.int .u64 0)) (r:=t) WE 2 (.int .u64 0);clear Y S D;generalize World.setCell (World.setCell (World.setCell U _ _) _ _) _ _=W9 at *;have e9:=N.cell;try rw[iq]
  refine bodyPost_ret (v:=.tuple #[cN (0,0,0),.int .i64 200]) WG rfl ?_;exact⟨by rw[y.aa],by rw[y.aa];exact H.aa.n kS⟩
 have GV:Hid (R=if j.2=0 then ({ B with aC:=j.1,calls:=B.calls+1 },u,0)else (B,(0,0,0),j.2)):=ae (by rw[HK.aa,Nn,if_pos rfl])
 have q2:=λW (k:K U W)=>q W (bD.tr k)
 subst Nn
 clear HK q
 obtain⟨g,gl,gd,gr,gt,vd,vr,vp,vh,vl,vq,va,vt,vf,vw,kr⟩:=p
 simp only at q2
 go_upto_region 5 with (fail)
 have qs:=And.intro q2 Q
 refine dV 16 ?_
 iterate 15 refine au.i ?_
 refine au.op (Rs (U.heap.size) 26 #[.int .i64 0,.int .u64 0,.int .u64 0]) (axq _ _ _) (λV W kW hp=>?_) ?_
 ·simp[bR,aF,List.lookup,cW,execOp,aG,go_sem];exact⟨av2 _ _ _ kW.size,(K.rf W).al _⟩
 clear qs
 intro V W kW hA
 simp only[aO,aR,cC,aJ,Nat.reduceAdd]at hA
 obtain⟨e0,e1,e2,e3,e4,e5,e6,e7,e8,e9,fO,p9,Dj,zH,E3,⟨Z,ru,O,sY⟩,-⟩:=hA
 have F:=sY.cell
 have z8:=sY.frozen
 obtain⟨G,SH⟩:∃G,G=World.setCell (World.setCell (World.setCell W ⟨Z,0,none⟩ (.int .i64 B.me)) ⟨Z,1,none⟩ (.int .u64 B.st.life)) ⟨Z,2,none⟩ (.int .u64 C):=⟨_,rfl⟩
 refine aH.skip G rfl (by rw[SH];simp[aF,List.lookup,E3,ru,bj,execOp,aG,F,z8,go_sem]) ?_
 refine aH.nil ?_
 simp only[fZ,Act.put,sC,rI,rH,Nat.reduceAdd,bj,e0,e1,e2,e3,e4,e5,e6,e7,e8,e9,fO,p9,Dj,zH,E3,ru]
 have JZ:ai G Z 26 #[.int .i64 u.1,.int .u64 u.2.1,.int .u64 u.2.2]:=by rw[SH,y5.aa];exact ((sY.aQ 0 (.int .i64 B.me)).aQ 1 (.int .u64 B.st.life)).aQ 2 (.int .u64 C)
 have k8:K U G:=by rw[SH];exact K.set (K.set (K.set kW O 0 _) O 1 _) O 2 _
 have tP:=D.ay k8
 have J:=bD.tr k8
 have hne:Z≠t:=by have:=D.lt;omega
 have HB8:=ae O
 have C3:=ae (C2.aa G J)
 have HW:=ae Q
 clear F z8 sY D O SH e0 e1 e2 e3 e4 e5 e6 e7 e8 e9 fO p9 Dj zH E3 ru kW q2 Q C2 k8
 have F:=JZ.cell
 go_wp2_with fail
 refine C3.aa.mono ?_
 rintro e A⟨v4,rfl,cI,E⟩
 have jJ:=G7.aa
 have gM:=(J.tr E).size
 have aEX:=bz tP.lt E.size
 have T:bB (λk=>M k∨k=t) _ B A:=H.aa.far (X:=λ_=>False) (ag.aT (J.tr E) _) (λk hk=>hk.elim) (λk hk=>hk.elim) (λk hk L=>L.resolve_right af) (λk hk=>.inl (H.aa.sub k hk)) (λk hk=>hk.elim (λh=>bz (HM.aa k h) gM) λe=>af)
 have iR:Fx (λk=>M k∨k=t) (λW=>aq df j.1 v4 W) A:=cI.JY λk hk=>hk.elim (λh=>bz (HM.aa k h) J.size) λe=>e▸tP.lt
 have J0:=JZ.ay E
 have I:=tP.ay E
 have s5:=J.tr E
 obtain⟨A4,c4,rfl⟩:=av iR.now
 clear C3 cI E F JZ tP J
 by_cases hc:j.2=0
 rotate_left
 ·have y:Hid (R=(B,(0,0,0),j.2)):=ae (by rw[GV.aa,if_neg hc]);have ik:(j.2 != 0)=true:=DY;have Y:=I.cell;have S:=I.frozen;clear T iR J0 GV;go_wp2;have N:ai (World.setCell (World.setCell (World.setCell A _ _) _ _) _ _) t 26 #[.int .i64 0,.int .u64 0,.int .u64 0]:=((I.aQ 0 (.int .i64 0)).aQ 1 (.int .u64 0)).aQ 2 (.int .u64 0);have kS:=K.set (K.set (K.set s5 (r:=t) af 0 (.int .i64 0)) (r:=t) af 1 (.int .u64 0)) (r:=t) af 2 (.int .u64 0);clear Y S I;generalize World.setCell (World.setCell (World.setCell A _ _) _ _) _ _=W9 at *;have e9:=N.cell;try rw[iq]
  refine bodyPost_ret (v:=.tuple #[cN (0,0,0),.int .i64 j.2]) WG rfl ?_;exact⟨by rw[y.aa],by rw[y.aa];exact H.aa.n kS⟩
 ·have y:Hid (R=({ B with aC:=j.1,calls:=B.calls+1 },u,0)):=ae (by rw[GV.aa,if_pos hc]);have q4:=T.blk.cell;have z4:=T.blk.frozen;have E4:bB (λk=>M k∨k=t) ⟨g,gl,gd,gr,gt,vd,vr,vp,vh,vl,vq,va,.slice A4 j.1.length c4,vf,vw,kr⟩ { B with aC:=j.1,calls:=C } ((A.setCell ⟨g,8,none⟩ (.slice A4 j.1.length c4)).setCell ⟨g,9,none⟩ (.int .u64 C)):=(T.Mm iR).az4 C;have u5:ag (λk=>k=g) A ((A.setCell ⟨g,8,none⟩ (.slice A4 j.1.length c4)).setCell ⟨g,9,none⟩ (.int .u64 C)):=(ag.bM (X:=λk=>k=g) rfl 8 _).tr (ag.bM (X:=λk=>k=g) rfl 9 _);have fL:=HX.aa g (.inl rfl);have aEY:=HB8.aa;have hz2:=bD.size;have SI:=J0.aW u5 af;have iy:=I.aW u5 af;have Q:=HW.aa;rw[hc];clear T iR hc GV J0 I;simp only at q4 z4;go_upto_region 11 with (fail);generalize (A.setCell ⟨g,8,none⟩ _).setCell ⟨g,9,none⟩ _=w5 at *;clear q4 z4 Q;have F:=SI.cell;have Y:=iy.cell;have S:=iy.frozen;go_wp2;have N:ai (World.setCell (World.setCell (World.setCell w5 _ _) _ _) _ _) t 26 #[.int .i64 u.1,.int .u64 u.2.1,.int .u64 u.2.2]:=((iy.aQ 0 (.int .i64 u.1)).aQ 1 (.int .u64 u.2.1)).aQ 2 (.int .u64 u.2.2);have u9:ag (λk=>k=t) w5 _:=((ag.bM (X:=λk=>k=t) rfl 0 (.int .i64 u.1)).tr (ag.bM (X:=λk=>k=t) rfl 1 (.int .u64 u.2.1))).tr (ag.bM (X:=λk=>k=t) rfl 2 (.int .u64 u.2.2));clear Y S iy F;generalize World.setCell (World.setCell (World.setCell w5 _ _) _ _) _ _=W9 at *;have e9:=N.cell;have p5:=u5.size;have nu:=u9.size;have tT:=E4.far (M':=M) u9 (λk hk=>.inr hk) (λk hk L=>by have:=HX.aa k L;omega) (λk hk L=>.inl L) (λk hk=>H.aa.sub k hk) (λk hk=>by have:=HM.aa k hk;omega);have hU:ag (bw ⟨g,gl,gd,gr,gt,vd,vr,vp,vh,vl,vq,va,vt,vf,vw,kr⟩) w W9:=((ag.aT s5 _).tr (u5.more λk hk=>.inl hk)).gF u9 λk hk L=>af
  have SJ:=ae (H.aa.akr (p':=⟨g,gl,gd,gr,gt,vd,vr,vp,vh,vl,vq,va,.slice A4 j.1.length c4,vf,vw,kr⟩) ⟨rfl,rfl,rfl,rfl,rfl,rfl,rfl⟩ tT hU);try rw[iq]
  refine bodyPost_ret (v:=.tuple #[cN u,.int .i64 0]) WG rfl ?_;exact⟨by rw[y.aa],by rw[y.aa,<- Dg.aa];exact SJ.aa⟩
theorem av3{Y base v l W}(h:W.ownsRow base 26 3 v l.length (l.flatMap fw)):aB Y base 26 cd l v W :=
 ⟨l.map fw,by rw[<- List.flatMap_def];exact h,aj,λw' _=>PA l w'⟩
theorem ac4{v l W}(h:aq cd l v W):∃A c,v=.slice A l.length c/\Reads W W.heap.size 3 A l.length (l.flatMap fw):=by
 obtain⟨A,c,rfl,⟨css,t,j⟩,-⟩:=h;have e:css=l.map fw:=by apply List.ext_getElem (by simpa using t.1);intro i u y;rw[List.getElem_map];exact t.2 i aA u
 rw[e,<- List.flatMap_def]at j;exact⟨A,c,rfl,j⟩
theorem apQ{M p B w}(h:bB M p B w)(D:bE B)(hn:B.told.Nodup) :
 Calls prog 164 #[.pointer (some ⟨p.g,0,none⟩)] w λe w'=>∃v',e=.returned v'/\aB (λk=>k<w.heap.size) w.heap.size 26 cd (Cf B) v' w'/\K w w':=by
 have HR:Hid (Cf B=B.st.ab++B.told):=ae rfl
 have hlen:=D.dk.len
 have gV:=D.told
 have q:=h.q
 have hb:=ai.new w 90 #[.pointer (some ⟨p.g,0,none⟩)]
 have I:=hb.aU
 have L:=ae λW=>aqz p.gt W
 have F:=ae λW (k:K w W) gb B1 (hb:ai W gb 90 #[.pointer (some ⟨p.g,0,none⟩)]) (h1:W.cell? ⟨B1,0,none⟩=some (.map (some p.gt)))=>api B.told p.g p.gt gb B1 _ W (h.blk.ay k) rfl (h.xb.st k) hb h1 hn gV
 have y:=ae λW (k:K w W)=>ac4 (h.bK.at k).ab
 generalize Cf B=R at *
 obtain⟨g,gl,gd,gr,gt,vd,vr,vp,vh,vl,vq,va,vt,vf,vw,kr⟩:=p
 simp only at q hb I L F y
 obtain⟨Aa,ca,rfl,-⟩:=y.aa w (K.rf w)
 clear h D hn
 go_enter func164,ntmps164
 go_upto_region 1 with (fail)
 generalize w.alloc _=j at *
 generalize X:w.heap.size=gb at hb⊢
 have HGB:=ae X
 clear X
 have A:=hb.cells j (K.rf _) 0
 have G:=q j I
 go_wp2_with fail
 apply aM (L.aa j)
 rintro N rfl
 have J:=ai.new j 160 #[.map (some gt)]
 have H:=J.aU
 have C:=hb.ay H
 have lO:=I.tr H
 generalize World.alloc j _=N at *
 have S:=ae (F.aa N lO gb j.heap.size C (J.cell 0))
 clear L F hb A G J H
 go_wp2_with fail
 apply rM S.aa lO
 intro v3 t Z k3 u
 have bG:=C.ay k3
 have A:=bG.cells t (K.rf _) 0
 have G:=q t u
 obtain⟨At,ct,rfl,Q⟩:=ac4 Z
 obtain⟨Aa2,ca2,E,hra⟩:=y.aa t u
 injection E with E _ e3
 subst E e3
 have C5:=ae (ab4 Aa B.st.ab.length ca _ t hra (Qe _) af)
 have Sy:=ae λW (k:K t W)=>(Q.below k (aD _)).more k.size
 clear S y hra Q Z C
 go_wp2_with fail
 apply bS C5.aa
 rintro v4 w4⟨Y,T⟩
 have O:=Sy.aa w4 T
 have rm:=u.tr T
 have hz:=u.size
 have gM:=rm.size
 clear C5 Sy A G
 go_wp2_with (at_builtin;refine iW rfl _ _ 44 rfl w.heap.size 26 _ 3 24 wU _ B.st.ab.length _ rfl (mN hz Y) _ At B.told.length ct _ rfl O (Qe _) ?p1 gM ?_)
 case p1=>omega
 intro v9 V U _ _ aY
 have HF:=ae (show aB (λk=>k<w.heap.size) w.heap.size 26 cd R v9 V by
  rw[HR.aa];refine av3 ?_;rw[dx,List.flatMap_append];exact U)
 have kF:K w V:=rm.trans aY
 clear U aY Y O
 go_wp2
 go_ret
 exact⟨_,rfl,HF.aa,kF⟩
theorem at5(l:List eI)(t:eI):jb (l++[t])=if t.asked=true/\(jb l).length<4 then jb l++[t.e]else jb l:=by
 unfold jb;rw[List.filter_append,List.map_append,List.take_append];generalize ((l.filter eI.asked).map eI.e)=X;rcases t with ⟨e,b⟩;cases b
 ·simp
 ·simp only[qI,true_and,List.filter_cons,if_true,List.filter_nil,jR,List.map_nil];split
  ·rename_i h;rw[gQ (l:=[e]) ba]
  ·rename_i h;rw[show 4-X.length=0 by omega,Yd,List.append_nil]
theorem axr:(prog.info? 126).map (λi=>(i.zero,i.size,i.bytes))=some (some (.agg eQ),8,96):=by rfl
theorem az7:fY prog 43 126 (.agg eQ) 8 96:=⟨underlying43,axr,rfl,ax⟩
theorem ar5 l v w(h:aq df l v w)(hs:∀t∈l,eJ t.e)(hn:l.length<=1000000) :
 Calls prog 158 #[v] w λe w'=>∃v',e=.returned v'/\aX w.heap.size w.heap.size 126 aV (jb l) v' w'/\K w w':=by
 obtain⟨A,c,rfl,hl,hc⟩:=h
 have HS:=ae hs
 clear hs
 have kk:=K.rf w
 go_enter func158,ntmps158
 go_wp2_with fail
 go_loopw [3,5,8] (fun o _ i W=>∃j:Nat,j<=l.length/\i=.int .i64 j/\aX w.heap.size w.heap.size 126 aV (jb (l.take j)) o W/\K w W) (fun _ _ i _=>l.length-(intOf i).toNat)
 case atStart=>exact⟨0,af,rfl,by simpa [jb]using aX.nil _ _ _ _ _,kk⟩
 case round =>
  clear kk;obtain⟨j,hj,rfl,hO,kr⟩:=hrel;by_cases S:j<l.length
  ·have aP:(j:Int)<l.length:=af;obtain⟨b1,off,cs,rfl,X,hrl,N,d⟩:=eB hl j S ax;have D:Hid (jb (l.take (j+1))=if l[j].asked=true/\(jb (l.take j)).length<4 then jb (l.take j)++[l[j].e]else jb (l.take j)):=ae (by rw[gJ S,at5]);have hst:=HS.aa _ (bZ S);generalize l[j]=t at *;obtain⟨vf,ve,rfl,Z,V⟩:=hrl w (K.rf w);obtain⟨H,F,rfl⟩:=cA Z;obtain⟨E,M,rfl⟩:=av V;have HE:Hid (∀W,K w W->dm t.e (.agg (aE t.e (.slice H t.e.f.length F) (.slice E t.e.es.length M))) W):=ae λW k=>⟨_,_,rfl,eO _ _ _ _ Z k,bo V k⟩
   have N:∀W,K w W->W.cell? ⟨b1,off+j*9,none⟩=some (.int .i64 t.e.kind):=N;have d:∀W,K w W->∀i,i<9->W.cell? ⟨b1,off+j*9+i,none⟩=(gW t (.slice H t.e.f.length F) (.slice E t.e.es.length M))[i]?:=λW k i hi=>(d W k i hi).trans Array.getElem?_toList
   have gV:(jb (l.take j)).length<=4:=by unfold jb;rw[qI];omega
   clear hrl X Z V;generalize jb (l.take j)=L at *;obtain⟨Ao,co,rfl,-⟩:=hO.slice;have I:=ai.new wr 128 (gW t (.slice H t.e.f.length F) (.slice E t.e.es.length M));have Y:=I.aU;go_upto_region 5 with (fail);have B:=hO.st Y;generalize wr.alloc _=w5 at *;generalize wr.heap.size=g5 at I⊢;generalize Value.slice H t.e.f.length F=vf at *;generalize Value.slice E t.e.es.length M=ve at *;have k5:=kr.tr Y;have q:=I.cell;clear d N hO Y;clear d N;have lq:=B.blk;have iH:=I.lt;rcases t with ⟨y,ta⟩;cases ta
   ·have HQ:Hid (jb (l.take (j+1))=L):=ae (by rw[D.aa];simp);have HO:=ae B;clear D B;exact aha
   ·by_cases h4:L.length<4;rotate_left
    ·have ZQ:¬(L.length:Int)<4:=af;have HQ:Hid (jb (l.take (j+1))=L):=ae (by rw[D.aa,if_neg (λh=>h4 h.2)]);have HO:=ae B;clear D B lq;exact aha
    ·have ZQ:(L.length:Int)<4:=af;have HQ:Hid (jb (l.take (j+1))=L++[y]):=ae (by rw[D.aa,if_pos ⟨rfl,h4⟩]);clear D;go_wp2_with fail
     apply bS (KC y _ w5 (HE.aa _ k5) hst);rintro v6 C⟨ho,U⟩;have lB:=B.st U;obtain⟨oK,oL,rfl,T,hV⟩:=ho;have ni:=k5.tr U;obtain⟨css,hown,X,lJ⟩:=lB;have tM:=U.size;have p5:=k5.size;have HF:Hid (∀w',aI w5.heap.size none C w'->fF y.f oK w'/\aq cO y.es oL w'):=ae λw' u=>⟨xA (T.up u),(hV.up (aD _) u).aq⟩
     obtain⟨Q,O,rfl⟩:=cA (xA T);obtain⟨G,J,rfl⟩:=av hV.aq;have R:=K.new C (.cells (aE y (.slice Q y.f.length O) (.slice G y.es.length J)) 126);have hbase:w.heap.size<=(C.alloc (.cells (aE y (.slice Q y.f.length O) (.slice G y.es.length J)) 126)).heap.size:=by have:=R.size;omega
     have MR:(L.length+1)*97<=140737488355328:=af;clear B T hV;go_wp2_with (at_builtin;refine iW rfl _ _ 43 rfl w.heap.size 126 _ 8 96 az7 _ _ _ rfl (qG hown _) (C.heap.size+1) _ 1 1 (Yo y (.slice Q y.f.length O) (.slice G y.es.length J)) rfl ?c1 ?c2 ?c3 hbase ?_)
     case c1=>exact Reads.new C (Yo y (.slice Q y.f.length O) (.slice G y.es.length J)) 126 8 1 rfl
     case c2=>have h0:=HF.aa C (aI.rf _ _ _);exact aV.one (x:=y) (w:=C) ⟨_,_,rfl,h0.1,h0.2⟩
     case c3=>omega
     intro v9 w9 gg bC cY aY;have k9:=(ni.tr R).trans aY;have bq:Hid (aX w.heap.size w.heap.size 126 aV (jb (l.take (j+1))) v9 w9):=by
      rw[HQ.aa];exact aX.snoc X (λw' u=>lJ w' (aI.tr (aI.aT R _ _) u)) gg bC rE
       (λw' u=>by
        have:=HF.aa w' ((aI.tr (aI.aT R _ _) u).more af (λk hk _ e=>aA));exact⟨_,_,rfl,this.1,this.2⟩)
     clear gg bC cY aY hown lJ;go_wp2;go_roundw
     case rel=>exact⟨j+1,af,bI,bq.aa,k9⟩
     case measure=>simp[intOf];omega
  ·have aP:¬(j:Int)<l.length:=af;exact ahb
theorem ac5{P ρ w} s x T ty t g o cur cells(hs:ρ s=.pointer (some ⟨g,o,none⟩))(hx:ρ x=.agg cells)(hb:ai w g t cur)
 (y:(P.info? T).map (·.size)=some cells.size) (B:o+cells.size<=cur.size) (j:∀u∈cells.toList,u.oneCell'=true) :
 ∃w',(execOp ρ (aG (.store T s x) ty)).run P w=.ok .skip w'/\ai w' g t (cur.toList.take o++cells.toList++cur.toList.drop (o+cells.size)).toArray/\w.grownBy w' (some g):=by
 have hst:=run_storeCells_at P g o t cells.toList 0 cur w hb af j
 simp only[Nat.add_zero,Array.length_toList]at hst
 refine⟨_,?_,setRow_heap w g cur _ t _ hb,⟨rfl,rfl,rfl,aj,λk hk A=>setRow_other w g k _ (λe=>A DU)⟩⟩
 cases hq:P.info? T with
 | none=>simp[hq]at y
 | some i => exact ahc
theorem at6(l:List eI)(a:aS):tB l a=match jn l a with|none=>(wu,false)|some k=>match l[k]? with|some t=>(t,true)|none=>(wu,false):=by
 cases h:jn l a with
 | none=>exact arS (acW h)
 | some k =>
  grind [KR,List.getElem?_eq_some_iff,nK,List.find?_eq_some_iff_getElem,List.getElem?_eq_getElem,tB]
abbrev E5:Array Value:=#[.int .i64 0,.int .i64 0,.int .u64 0,.int .u64 0,.int .i64 0,.int .u64 0,.slice none 0 0,.slice none 0 0,.bool false]
theorem aqI l a v w(h:aq df l v w)(hs:∀s∈l,eJ s.e)(hlen:l.length<=1000000) :
 Calls prog 106 #[v,cN a] w λe w'=>∃u,e=.returned (.tuple #[u,.bool (tB l a).2])/\MZ (tB l a).1 u w'/\K w w':=by
 have U:=ae λW (kW:K w W)=>Pf l a v W (bo h kW) hlen
 obtain⟨A,c,rfl,hl,hc⟩:=h
 have hx:=(ai.new w 26 #[.int .i64 a.1,.int .u64 a.2.1,.int .u64 a.2.2]).alloc (.cells E5 128)
 have M:=ai.new (w.alloc (.cells #[.int .i64 a.1,.int .u64 a.2.1,.int .u64 a.2.2] 26)) 128 E5
 have D:=K.lW w (.cells #[.int .i64 a.1,.int .u64 a.2.1,.int .u64 a.2.2] 26) (.cells E5 128)
 have hz:(w.alloc (.cells #[.int .i64 a.1,.int .u64 a.2.1,.int .u64 a.2.2] 26)).heap.size=w.heap.size+1:=aj
 rw[hz]at M
 clear hz
 have HI:Hid (sD l a=match jn l a with|some k=>(k:Int)|none=>-1):=ae rfl
 have HC:=ae (at6 l a)
 have J:=ae λk h=>@KR l a k h
 generalize tB l a=R at *
 go_enter func106,ntmps106
 go_upto_region 1 with (fail)
 generalize World.alloc (World.alloc w _) _=w1 at *
 have q:=hx.cell
 go_wp2_with fail
 clear q
 apply cG (U.aa w1 D) D
 intro F k2 bD
 have B:=M.ay k2
 have hrg:w.heap.size<=w.heap.size+1:=af
 generalize w.heap.size+1=y at *
 generalize sD l a=I at *
 clear hx M U
 cases ho:jn l a with
 | none => obtain rfl:I=-1:=DW;have HQ:Hid (R=(wu,false)):=ae Lv;clear ho HI HC J;have q:=B.cell;have z:=B.frozen;go_wp2;have cX:=((((((((B.aQ 0 (.int .i64 0)).aQ 1 (.int .i64 0)).aQ 2 (.int .u64 0)).aQ 3 (.int .u64 0)).aQ 4 (.int .i64 0)).aQ 5 (.int .u64 0)).aQ 6 (.slice none 0 0)).aQ 7 (.slice none 0 0)).aQ 8 (.bool false);have e9:=cX.cell;refine bodyPost_ret (v:=.tuple #[.agg E5,.bool false]) ahd rfl ?_;refine⟨.agg E5,by rw[HQ.aa],by rw[HQ.aa];exact ag3 wu rfl rfl _,?_⟩;exact ((((((((bD.setCell Ca _).setCell Ca _).setCell Ca _).setCell Ca _).setCell Ca _).setCell Ca _).setCell Ca _).setCell Ca _).setCell Ca _
 | some k =>
  obtain rfl:I=(k:Int):=DW;obtain⟨t,h1,-⟩:=J.aa k ho;have HQ:Hid (R=(t,true)):=ae WA;obtain⟨hk,O⟩:=List.getElem?_eq_some_iff.1 h1;have fM:(k:Int)<l.length:=af;have GI:¬(k:Int)<0:=af;obtain⟨b1,Y,cs,rfl,hcl,G,L,d⟩:=eB hl k hk ax;have hst:=hs _ (bZ hk);rw[O]at G hst;obtain⟨vf,j,rfl,hf,he⟩:=G w (K.rf w);have HE:Hid (∀W,K w W->dm t.e (.agg (aE t.e vf j)) W):=ae λW k=>⟨_,_,rfl,eO _ _ _ _ hf k,bo he k⟩
  have L:∀W,K w W->W.cell? ⟨b1,Y+k*9,none⟩=some (.int .i64 t.e.kind):=L;have d:∀W,K w W->∀i,i<9->W.cell? ⟨b1,Y+k*9+i,none⟩=(gW t vf j)[i]?:=λW kk i hi=>(d W kk i hi).trans Array.getElem?_toList
  clear G hcl hf he ho HI HC J h1 O;go_upto_region 4 with (fail);obtain⟨gb,Q⟩:∃gb,gb=F.heap.size:=⟨_,rfl⟩;have H:y<gb:=by rw[Q];exact B.lt
  have E:∀W,ag (λk=>k=y) F W->K w W:=λW u=>u.k bD λk e=>e▸hrg
  have qs:=And.intro (λW u=>L W (E W u)) (And.intro (λW u=>d W (E W u)) fM);refine OL 14 [12] (λW=>ag (λk=>k=y) F W) (λW W'=>W.grownBy W' (some y)) (λk _ W=>∃cs,ai W y 128 cs/\(k=0/\cs=E5∨k≠0/\∃vf j,cs=gW t vf j/\Fx (λk=>k<gb) (λW=>df.rel t (gW t vf j).toList W) W)) [([],[]),([],[]),([0,1],[(13,0),(14,1)]),([2],[(15,2)]),([3],[(16,3)]),([4],[(17,4)]),([],[]),([],[]),([6,7],[(19,6),(20,7)]),([8],[(21,8)]),([9],[(22,9)]),([5,10],[(18,5),(23,10)]),([11],[(24,11)]),([],[])] 25
   (λ_ _ h k=>h.tr (ag.aT k _)) (λ_ _ h=>BN h _) (λk vs W W' ⟨cs,h1,h3⟩ kW=>⟨cs,h1.ay kW,h3.imp id λ⟨h,vf,j,e,f⟩=>⟨h,vf,j,e,f.k kW⟩⟩) (ag.rf _ _) (λ_=>⟨E5,B,.inl ⟨rfl,rfl⟩⟩) ?_
  iterate 5 refine au.i ?_
  refine au.c (Ex gb t.e) (λv w w' ⟨vf,j,e,h⟩ k=>⟨vf,j,e,h.up (ag.eU (X:=λb=>b=y) k λ_ e=>by cases e;rfl) λk e=>e▸H⟩) (λW u=>(KC t.e _ W (HE.aa _ (E W u)) hst).mono λe w' ⟨v,e1,ho,D⟩=>⟨v,e1,X8 (by rw[Q];exact u.size) ho,D⟩) ?_;iterate 5 refine au.i ?_
  refine au.op (Nk gb t) (λv w w' ⟨vf,j,e,h⟩ k=>⟨vf,j,e,h.up (ag.eU (X:=λb=>b=y) k λ_ e=>by cases e;rfl) λk e=>e▸H⟩) (λV W kW hp=>?_) ?_
  ·exact Ww
  refine au.s ?_;refine au.i ?_;clear qs;refine⟨⟨⟨_,_,rfl,rfl,rfl,λV W C N hp=>?_⟩,trivial⟩,λV W C N hA=>?_⟩
  ·simp only[cF,aO,aR,bW,bY,aJ]at hp;obtain⟨⟨J1,J2,e3,hF⟩,-⟩:=hp;obtain⟨_,hb,⟨-,rfl⟩|⟨h,-⟩⟩:=N
   ·change kI _ _ ((execOp (aF [(24,11)] _ V) (aG (.store 128 (.tmp 4) (.tmp 24)) 0)).run _ _);generalize hA:aF [(24,11)] _ V=ρ;obtain⟨w'',hrun,hb2,dM⟩:=ac5 (P:=prog) (ρ:=ρ) (.tmp 4) (.tmp 24) 128 0 128 y 0 E5 (gW t J1 J2) (by rw[<- hA];rfl) (by rw[<- hA];exact e3) hb fB aj (df.one (x:=t) (w:=W) hF.now);have S:ag (λk=>k=y) W w'':=ag.eU dM λ_ e=>by cases e;rfl
    rw[hrun];exact⟨C.tr S,dM,⟨_,hb2,.inr ⟨ax,J1,J2,rfl,hF.up S λk e=>e▸H⟩⟩,trivial⟩
   ·exact absurd rfl h
  simp only[aO,aR,cC,aJ,Nat.reduceAdd]at hA;obtain⟨_,aY,⟨h,-⟩|⟨-,T,Z,rfl,hF⟩⟩:=N
  ·cases h
  refine aH.h ?_;have kW:=E W C;have HW:Hid (MZ t (.agg (gW t T Z)) W):=ae (by
   obtain⟨vf,j,e,h1,h2⟩:=hF.now;simp at e;obtain⟨rfl,rfl⟩:=e;exact⟨_,_,rfl,h1,h2⟩)
  have e9:=aY.cell;clear hA hF aY C;go_wp2;refine bodyPost_ret (v:=.tuple #[.agg (gW t T Z),.bool true]) ahd rfl ?_;exact⟨_,by rw[HQ.aa],F3,kW⟩
theorem aqJ l a j v u w(h:aq df l v w)(hu:ji j u w)(hl:∀s∈l,eJ s.e)(hlf:∀s∈l,cE s.e)(iN:j.length<=1000000)(Mn:∀x∈j,nJ x)(hlen:l.length<=1000000) :
 Calls prog 134 #[v,cN a,u] w λe w'=>∃v',e=.returned (.tuple #[v',.int .i64 (jm l a j).2])/\(∀W,aI w.heap.size none w' W->aq df (jm l a j).1 v' W)/\K w w':=by
 have C1:=ae λW (kW:K w W)=>OM l v W (bo h kW) hl hlen
 have C2:=ae λW (kW:K w W)=>ac2 l a v W (bo h kW) hlen
 have C3:=ae λW (kW:K w W)=>acU (qC _ _ _ _ hu kW)
 obtain⟨A,d,rfl,sU,-⟩:=h
 have HU:Hid (∀W,K w W->ji j u W):=ae λW k=>qC _ _ _ _ hu k
 obtain⟨Ae,ce,rfl⟩:=yy hu
 clear hu
 have T:=ai.new w 26 #[.int .i64 a.1,.int .u64 a.2.1,.int .u64 a.2.2]
 have k1:=T.aU
 have HI:Hid (Ej l a=match wg l a with|some k=>(k:Int)|none=>-1):=ae rfl
 have HC:Hid (jm l a j=match wg l a with|none=>(l,170)|some k=>match l[k]? with|none=>(l,170)|some t=>if fN j=false then (l,40)else if 8<=t.e.es.length then (l,171)else if qQ (mS t.e j)then (l,172)else (l.set k ⟨mS t.e j,t.asked⟩,0)):=ae rfl
 have HO:=ae λk h=>@Pc l a k h
 have HEV:=ae Mn
 clear Mn
 generalize jm l a j=R at *
 have q:=T.cells
 go_enter func134,ntmps134
 go_wp2
 go_step3
 go_wp2_with fail
 generalize w.alloc _=w1 at *
 apply rM (C1.aa w1 k1) k1
 intro u8 w2 y k2 bD
 generalize Ej l a=I at *
 replace q:=T.ay k2
 replace q:=ai.cell q
 go_wp2_with fail
 apply aM (C2.aa w2 bD)
 intro w3 k3
 replace bD:=bD.tr k3
 replace y:=y.st k3
 have nt:=k1.size
 have Di:=ae λ(W W':World) (h:aX w1.heap.size w1.heap.size 128 df l u8 W) (u:aI w.heap.size none W W')=>(h.up (aD _) (u.more nt (λk _ h=>h))).aq
 clear C1 C2 k3 k2 T q
 cases ho:wg l a with
 | none =>
  obtain rfl:I=-1:=DW;have HQ:Hid (R=(l,170)):=ae Lv;have HW:=ae λW u=>Di.aa _ W y u
  clear y ho HI HC HO;go_wp2;go_step3;exact IZ
 | some k =>
  obtain rfl:I=(k:Int):=DW;obtain⟨t,h1,-⟩:=HO.aa k ho;have HR:Hid (R=if fN j=false then (l,40)else if 8<=t.e.es.length then (l,171)else if qQ (mS t.e j)then (l,172)else (l.set k ⟨mS t.e j,t.asked⟩,0)):=ae WA;obtain⟨hk,tQ⟩:=List.getElem?_eq_some_iff.1 h1;have fM:(k:Int)<l.length:=af;have GI:¬(k:Int)<0:=af;have aEZ:(0:Int)<=(k:Int):=af;clear ho HI HC HO h1;go_wp2;go_step3;go_wp2_with fail
  apply aM (C3.aa w3 bD);intro E k4;replace y:=y.st k4;replace bD:=bD.tr k4;cases hok:fN j
  ·have HQ:Hid (R=(l,40)):=ae (by rw[HR.aa,if_pos hok]);have HW:=ae λW u=>Di.aa _ W y u
   have az8:ko j=40:=by unfold ko;rw[hok];rfl
   rw[az8];clear y HR;exact IZ
  have hc0:ko j=0:=by unfold ko;rw[hok];rfl
  rw[hc0];have iQ:Hid (R=if 8<=t.e.es.length then (l,171)else if qQ (mS t.e j)then (l,172)else (l.set k ⟨mS t.e j,t.asked⟩,0)):=ae (by rw[HR.aa,if_neg (by rw[hok];decide)]);clear HR;obtain⟨b1,off,cs,rfl,hcl,hrl,d0,d⟩:=eB sU k hk ax;have hst:=hl _ (bZ hk);have D:=hlf _ (bZ hk);rw[tQ]at hrl hst D;obtain⟨vf,ve,rfl,hf,he⟩:=hrl w (K.rf w);have HE:Hid (∀W,K w W->dm t.e (.agg (aE t.e vf ve)) W):=ae λW k=>⟨_,_,rfl,eO _ _ _ _ hf k,bo he k⟩
  have d0:∀W,K w W->W.cell? ⟨b1,off+k*9,none⟩=some (.int .i64 t.e.kind):=d0;have d:∀W,K w W->∀i,i<9->W.cell? ⟨b1,off+k*9+i,none⟩=(gW t vf ve)[i]?:=λW kk i hi=>(d W kk i hi).trans Array.getElem?_toList
  clear hrl hcl hf he;have q0:=d0 _ bD;have q:=d _ bD;have hqs:∀i,i<9->i<df.size:=λi h=>h
  go_wp2_with fail
  apply bS (KC t.e _ E (HE.aa _ bD) hst);rintro v5 w5⟨pq,k5⟩;obtain⟨SK,Y,rfl,Nq,Q⟩:=pq;obtain⟨O,c5,rfl,-⟩:=Nq.slice;obtain⟨Z,d5,rfl,-⟩:=Q.slice;have M:=ai.new w5 126 (aE t.e (.slice O t.e.f.length c5) (.slice Z t.e.es.length d5));have k6:=M.aU;go_upto_region 8 with (fail);generalize w5.alloc _=U at *;have ZR:=k5.tr k6;have s5:=bD;replace bD:=bD.tr ZR;have q6:=M.cell;clear q q0;by_cases h8:8<=t.e.es.length
  ·have xN:(8:Int)<=(t.e.es.length:Int):=af;have HQ:Hid (R=(l,171)):=ae (by rw[iQ.aa,if_pos h8]);have HW:=ae λW u=>Di.aa _ W (y.st ZR) u
   clear y iQ Nq Q;exact IZ
  have xN:¬(8:Int)<=(t.e.es.length:Int):=af;have ya:Hid (R=if qQ (mS t.e j)then (l,172)else (l.set k ⟨mS t.e j,t.asked⟩,0)):=ae (by rw[iQ.aa,if_neg h8]);clear iQ;go_upto_region 10 with (fail);have aE0:=k5.size;have aE1:=k6.size;obtain⟨B,pn⟩:∃B,B=w5.heap.size:=⟨_,rfl⟩;rw[<- pn]at M q6⊢;have aE2:=M.lt;have J6:=Q.blk;obtain⟨N,C⟩:∃N:Nat->Prop,N=λk=>(k<E.heap.size∨k=B)∨(Value.slice Z t.e.es.length d5).ownBlock=some k:=⟨_,rfl⟩
  have hNl:∀k,N k->k<U.heap.size:=λk h=>aA
  have hoY:aB (λk=>k<E.heap.size∨k=B) E.heap.size 51 cO t.e.es (.slice Z t.e.es.length d5) U:=(Q.tO.to (ag.rf (λ_=>False) _) (λ_ h=>h.elim) (λ_ _ h=>h) λk hk h=>.inl af).st k6;have HX:=ae (show Fx N (λW=>fF t.e.f (.slice O t.e.f.length c5) W) U from λW' u=>xA (FJ Nq λg h1 h2 h3=>(u.block g af (λhk=>by
   rw[C]at hk;rcases hk with (hk|hk)|hk
   ·omega
   ·omega
   ·obtain⟨cur,h4⟩:=mq Nq h3;exact absurd ((Q.tO.own hk).2.2.elim λ_ h=>h4.ie h) ax)).trans (k6.block g h2)))
  have hne:(Value.slice Z t.e.es.length d5).ownBlock≠some B:=λe=>by have:=J6 B e;omega
  generalize hve:Value.slice Z t.e.es.length d5=Y at *;generalize G8:Value.slice O t.e.f.length c5=SK at *;have aks:Hid (∀W,K E W->K w W):=ae λW k=>s5.tr k
  have kR:∀W,rQ Y U W->K E W:=λW u=>u.k ZR λk e=>(J6 k e).1
  have qs:=λW (u:rQ Y U W)=>(M.aW u hne).cell
  refine Fy 7 5 t.e.es Y j 37 JD [([],[]),([0],[(34,0)]),([],[]),([2],[(36,2)]),([3],[(37,3)]),([1,4],[(35,1),(38,4)]),([5],[]),([6,5],[(40,6),(39,5)])] 50 hoY af af ?_;iterate 3 refine au.i ?_
  refine au.op (λv W=>(∃A n c,v=.slice A n c)/\Fx N (λW=>ji j v W) W) (λv w w' ⟨e,h⟩ k=>⟨e,h.up (ag.eU (X:=λb=>Y.ownBlock=some b) k λ_ h=>h) λb h=>by rw[C];exact .inr h⟩) (λV W H hp=>?_) ?_
  ·simp only[cF,aO,aR,bW,bY,aJ]at hp;obtain⟨xc,xd,e2,bA⟩:=HU.aa W (aks.aa _ (kR W H));rw[e2]at hp;obtain⟨v',w'',hrun,h1,h5,h3⟩:=atf (P:=prog) (ρ:=aF [(36,2)] _ V) (.const (.slice none 0 0)) (.tmp 36) 51 51 76 W.heap.size _ 4 48 TE (.slice none 0 0) 0 [] rfl (kU _ _ _ _) W.heap.size xc j.length xd (j.flatMap nI) hp.1 bA (Vj j) af (aD _);change cW _ _ _ ((execOp (aF [(36,2)] _ V) (aG (.call { callee:=.builtin .append,args:=#[.const (.slice none 0 0),.tmp 36],argTypes:=#[51,51] }) 51)).run _ _);rw[hrun];have ho:qM w'' W.heap.size v' j:=BZ;have hr:Fx N (λW=>ji j v' W) w'':=λW' u=>by obtain⟨v2,e3,h9⟩:=qM.rel ho W' (u.rY λk h1 _ _ T=>by have:=hNl k T;have:=H.size;omega);injection e3 with e3;rw[e3];exact h9
   obtain⟨A3,c3,e3⟩:=yy hr.now;exact⟨⟨⟨_,_,_,e3⟩,hr⟩,h5⟩
  refine au.Gq (S:=cO) (N:=N) U.heap.size JD j (λ_ h=>h.size) (λb hb=>⟨by rw[C];exact .inr hb,hNl b (by rw[C];exact .inr hb)⟩) (λV W H hp=>?_) ?_
  ·simp only[cF,aO,aR,bW,bY,aJ]at hp;obtain⟨⟨⟨A,n,c,e⟩,hF⟩,-⟩:=hp;show uQ _ _ _ (V 3) _;rw[e]at hF⊢;exact⟨rfl,hF.mono λW h=>⟨_,rfl,h⟩⟩
  refine au.s ?_;refine au.i ?_;refine⟨λ_ _=>trivial,λV W H hp=>?_,λV W H hP hv hA=>?_⟩
  ·simp only[cF,aO,aR,bW,bY,aJ]at hp;exact⟨hp.1,hp.2.1.less λ_ h=>by rw[C];exact h⟩
  simp only[aO,aR,cC,aJ,Nat.reduceAdd]at hA;obtain⟨F,G,J⟩:=hP.slice;rw[dx,List.length_singleton]at J;rw[J]at hP;have hA:=And.intro J hA;have j8:=M.aW H hne;have qs:=And.intro j8.cell j8.frozen;refine aH.s ?_;refine aH.h ?_;have us:ag (λk=>k=B) W (W.setCell ⟨B,7,none⟩ (.slice F (t.e.es.length+1) G)):=ag.bM (X:=λk=>k=B) rfl 7 _;have aY:ai (W.setCell ⟨B,7,none⟩ (.slice F (t.e.es.length+1) G)) B 126 (aE (mS t.e j) SK (.slice F (t.e.es.length+1) G)):=j8.aQ 7 _;have kW4:=us.k (kR W H) λk e=>af
  have C:∀W',ag (λk=>k<E.heap.size∨k=B) (W.setCell ⟨B,7,none⟩ (.slice F (t.e.es.length+1) G)) W'->fF t.e.f SK W'/\aq cO (t.e.es++[j]) (.slice F (t.e.es.length+1) G) W':=λW' u=>by
   have u2:ag (λk=>k<E.heap.size∨k=B) W W':=(us.more λ_ h=>.inr h).tr u;refine⟨HX.aa W' ((H.more λk h=>by rw[C];exact .inr h).tr (u2.more λk h=>by rw[C];exact .inl h)),(hP.to u2 (λ_ h=>h) (λk e h=>?_) λ_ _ h=>.inl h).aq⟩;have h1:=hP.own e;rcases h with h|h
   ·omega
   ·subst h;exact absurd (h1.2.2.elim λ_ h=>h.ie j8) ax
  clear hA qs us hP hv;generalize World.setCell W _ _=W at *;have kW:=aks.aa _ kW4;have q:=aY.cell;have Nr:cE (mS t.e j):=⟨D.1,D.2.1,D.2.2.1,D.2.2.2.1,D.2.2.2.2.1,D.2.2.2.2.2.1,D.2.2.2.2.2.2.1,λe he=>by
   rcases List.mem_append.1 he with h1|h1
   ·exact D.2.2.2.2.2.2.2 e h1
   ·simp at h1;subst h1;exact HEV.aa⟩
  have C4:=ae (adM (mS t.e j) (.agg (aE (mS t.e j) SK (.slice F (t.e.es.length+1) G))) W ⟨_,_,rfl,(C W (ag.rf _ _)).1,(C W (ag.rf _ _)).2⟩ Nr);have HN:=ae C;have HOW:=ae (y.st kW4);have azl:=ae λg h=>(y.blk g h).2
  have uT:=ae (show w.heap.size<=E.heap.size from s5.size);clear HX y C Nq Q hoY D hst Nr pn;subst G8;go_wp2_with fail
  apply aM C4.aa;intro L k8;have SL:=ae (HOW.aa.st k8);have kw8:=kW.tr k8;have pE:=aY.ay k8;clear q aY;cases YJ:qQ (mS t.e j);rotate_left
  ·have HQ:Hid (R=(l,172)):=ae ahe;have HW:=ae λW u=>Di.aa _ W SL.aa u
   clear YJ ya SL HOW;go_wp2;try rw[iq]
   go_ret2;exact⟨_,nW,F3,kw8⟩
  have HQ:Hid (R=(l.set k ⟨mS t.e j,t.asked⟩,0)):=ae ahe;have y:=SL.aa;have hkb:=y.blk;obtain⟨Ru,Rb,az9,ZS⟩:=y;have SN:=ZS L (aI.rf _ _ _);have tD:=SN.lens;have hkc:k<Ru.length:=af;have cR:=SN.Gl;obtain⟨vfo,veo,hcs,-,-⟩:=SN.2 k hk hkc;rw[tQ]at hcs;rcases Rb.2 with ⟨h0,EJ⟩|⟨go,cap,cur,rfl,-⟩
  ·omega
  have hgo:=(hkb go rfl).1;have aAa:=azl.aa go rfl;have hqO:k*9+9<=Ru.flatten.length:=by rw[cR];show k*9+9<=l.length*9;omega
  obtain⟨hcell,hfz⟩:=FF Rb;have dO:∀i,i<9->L.cell? ⟨go,k*9+i,none⟩=(gW t vfo veo)[i]?:=λi hi=>by rw[hcell _ af,show k*9+i=k*df.size+i from rfl,yx df.size Ru tD k i hkc hi,List.getElem?_eq_getElem hkc,Option.getD_some,hcs];exact Array.getElem?_toList
  have dO0:L.cell? ⟨go,k*9,none⟩=some (.int .i64 t.e.kind):=dO 0 af;have zO:=λi=>hfz (k*9+i)
  have zO0:=hfz (k*9);have q:=pE.cell;obtain⟨xH,Rc⟩:∃xH:List Value,xH=(aE (mS t.e j) (.slice O t.e.f.length c5) (.slice F (t.e.es.length+1) G)).toList:=⟨_,rfl⟩;have ZT:xH.length=8:=by rw[Rc];rfl
  have gg:=Py xH _ (k*9) L Rb (by rw[ZT];omega);have J:=OQ df.size xH Ru tD k 0 hkc (by rw[ZT];decide);rw[show k*df.size+0=k*9 from rfl]at J;rw[J,hcs]at gg;have fO:oU (gW t vfo veo).toList 0 xH=(gW ⟨mS t.e j,t.asked⟩ (.slice O t.e.f.length c5) (.slice F (t.e.es.length+1) G)).toList:=by rw[Rc];rfl
  rw[fO]at gg;have uG:=ag.sets (X:=λk=>k=go) (g:=go) rfl xH (k*9) L;have uX:=ag.sets (X:=λk=>k<E.heap.size∨k=B) (g:=go) (.inl aAa) xH (k*9) L;have HK:=ae (aI.k (uG.rY (lo:=0) (row:=some go) (λk _ _ h e=>h K8)) kw8 (by rintro b e;cases e;omega));have gM:=uT.aa;have HW:Hid (∀W',aI w.heap.size none (ef L go (k*9) xH) W'->aq df (l.set k ⟨mS t.e j,t.asked⟩) (.slice (some ⟨go,0,none⟩) l.length cap) W'):=ae λW' u=>by have h9:=HN.aa _ (((ag.aT k8 _).tr uX).tr (aI.upN u (λk hk=>by rcases hk with hk|hk;exact .inl (by omega);cases hk)));have ZU:=(ZS _ ((uG.rY (λk _ _ h e=>h Cb)).tr (u.more nt (λk _ _=>aj)))).set k (x:=⟨mS t.e j,t.asked⟩) (cs:=(gW ⟨mS t.e j,t.asked⟩ (.slice O t.e.f.length c5) (.slice F (t.e.es.length+1) G)).toList) ⟨_,_,rfl,h9.1,h9.2⟩;exact Pa (S:=df) (FJ (by rw[List.length_set];exact gg) λg h1 h2 _=>u.block g af h2 aj) ZU
  rw[Rc]at HW HK;clear hcell hfz Rb gg ZS tD cR hkb HN uG uX J fO ZT Rc SN hcs az9 hqO SL HOW ya YJ tQ HU;go_wp2;try rw[iq]
  go_ret2;exact⟨_,nW,F3,HK.aa⟩
