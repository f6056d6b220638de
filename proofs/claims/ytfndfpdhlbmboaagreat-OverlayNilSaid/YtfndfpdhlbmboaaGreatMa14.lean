/-
  Those told aborted stand in the order of their numbers (layer 20), in plain Lean. Conditions: none.
-/
import Derived.Test.YtfndfpdhlbmboaaGreatMa13
import Derived.Shelf.SlSortCmp.WholeK
import Derived.Deep.QuietTactic
import Derived.BigQuiet
import Derived.Shelf.SlSortCmp.NoneTotal
import Derived.Shelf.Lay
import Derived.Ground.SlsfProg
import Derived.Test.YtfndfpdhlbmboaaGreatMz
set_option maxRecDepth 100000
set_option linter.constructorNameAsVariable false
set_option maxHeartbeats 16000000
set_option linter.unusedVariables false
set_option linter.unusedSimpArgs false
namespace Go.Proofs.YtfndfpdhlbmboaaGreat
open Go Go.RowKit _root_.Go.Proofs.Tryz
section
open Go Go.RowKit Go.Sort
def o6(l:List aR)(a:aR):Nat:=(l.findIdx? λx=>decide (x=a)).getD 0
theorem adm(a:aR):∀(l:List aR) (n i:Nat),fR a ((l.zipIdx n).map λp=>(p.1,Value.int .i64 p.2)) i=(l.findIdx? λx=>decide (x=a)).map λj=>(i+j,Value.int .i64 ((n+j:Nat):Int))
 | [],n,i=>rfl
 | x :: l,n,i=>by
  rw[List.zipIdx_cons,jU,List.findIdx?_cons];unfold fR;by_cases h:x=a
  ·simp[h]
  ·simp only[h,if_false,decide_false,Bool.false_eq_true];rw[adm a l (n+1) (i+1),Option.map_map];congr 1;funext j;simp only[Function.comp_apply,Prod.mk.injEq,Value.int.injEq,true_and];constructor
   ·omega
   ·congr 1;omega
theorem atw l a:(di (pL l) a).getD (.int .i64 0)=.int .i64 (o6 l a:Int):=by unfold di pL o6;rw[adm a l 0 0];cases l.findIdx? λx=>decide (x=a) <;> simp
theorem agM{l}(h:l.Nodup) i(j:i<l.length):o6 l l[i]=i:=by
 unfold o6;have:(l.findIdx? λx=>decide (x=l[i]))=some i:=by
  grind [List.findIdx?_eq_some_iff_getElem,List.pairwise_iff_getElem]
 rw[this];rfl
def FX(l:List aR)(x y:aR):Int:=Lib.compareInt (o6 l x:Int) (o6 l y:Int)
theorem Sd l x y:Go.Proofs.ltOf (FX l) x y=decide (o6 l x<o6 l y):=by
 unfold ltOf FX Lib.compareInt
 grind
theorem azJ l:SWO (Go.Proofs.ltOf (FX l)) where
 irrefl x:=by rw[Sd];simp
 trans x y z h1 h2:=by rw[Sd]at *;simp at *;omega
 ntrans x y z h1 h2:=by rw[Sd]at *;simp at *;omega
theorem aqj{l}(h:l.Nodup){d t}(hp:d.toList.Perm l)(u:PermIn 0 d.size d t)(y:SortedIn (Go.Proofs.ltOf (FX l)) 0 d.size t):t.toList=l:=by
 obtain⟨F,-,H⟩:=u;have A:t.toList.Perm d.toList:=by have D:(t.extract 0 d.size)=t:=aG;simp_all
 have C:=A.trans hp;refine List.Perm.eq_of_pairwise (le:=λa b=>o6 l a<=o6 l b) ?_ ?_ ?_ C
 ·grind [List.mem_iff_getElem,agM]
 ·rw[List.pairwise_iff_getElem];intro i j E G B;have:=y i j (eV _) B aG;rw[Sd]at this;grind
 ·grind [List.pairwise_iff_getElem,agM]
end
section
open Go Go.RowKit Go.Sort
theorem atx a w:Calls prog 265 #[.int .i64 a] w λe w'=>e=.returned (.bool false)/\w'=w:=by go_enter func265,ntmps265;go_wp2;go_ret;exact⟨aj,rfl⟩
theorem aty a b w:Calls prog 179 #[.int .i64 a,.int .i64 b] w λe w'=>e=.returned (.int .i64 (Lib.compareInt a b))/\w'=w:=by
 have j:=ae λa W=>atx a W
 have HR:Hid (Lib.compareInt a b=if a<b then -1 else if b<a then 1 else 0):=ae rfl;generalize Lib.compareInt a b=R at *;go_enter func179,ntmps179;go_wp2_with fail
 refine (j.aa a w).mono ?_;rintro e t⟨rfl,rfl⟩;go_wp2_with fail
 refine (j.aa b t).mono ?_;rintro e u⟨rfl,rfl⟩;clear j;by_cases h1:a<b
 ·have HE:Hid (R=-1):=ae agN;clear HR;exact Dt
 by_cases h2:b<a
 ·have HE:Hid (R=1):=ae agO;clear HR;exact Dt
 have HE:Hid (R=0):=ae agP;clear HR;exact Dt
theorem ei.drewN{α enc w b}{ak:List (α×Value)}(h:ei enc w b ak) n:ei enc (w.drewN n) b ak:=h
theorem aoT told x y g gt gb A W(hg:ah W g 162 A)(hA:A[12]?=some (.map (some gt)))(hm:ei lS W gt (pL told))(hb:ah W gb 90 #[.pointer (some ⟨g,0,none⟩)]) :
 Calls prog 261 #[bU x,bU y,.pointer (some ⟨gb,0,none⟩)] W λe w'=>e=.returned (.int .i64 (FX told x y))/\∃q N,w'=grow (W.drewN q) N:=by
 have D:=(ah.new W 26 (df x)).alloc (.cells (df y) 26)
 have u:=ah.new (W.alloc (.cells (df x) 26)) 26 (df y)
 have j:=K.lq W (.cells (df x) 26) (.cells (df y) 26)
 have G:=(hg.av j).cell
 have X:=(hb.av j).cell 0
 have B:=hm.st j
 have M:∃os,(W.alloc (.cells (df x) 26)).alloc (.cells (df y) 26)=grow W os:=⟨_,by rw[alloc_eq_grow,alloc_eq_grow,grow_grow]⟩
 have hz:(W.alloc (.cells (df x) 26)).heap.size=W.heap.size+1:=aj
 rw[hz]at u
 obtain⟨os,F⟩:=M
 have I:=ae F
 have Q:=ae λW=>aty (o6 told x:Int) (o6 told y:Int) W
 have O:Hid (FX told x y=Lib.compareInt (o6 told x:Int) (o6 told y:Int)):=ae rfl
 have t:∀n (a:aR),(Instr.lookup 160 (.map (some gt)) (.agg #[.int .i64 a.1,.int .u64 a.2.1,.int .u64 a.2.2]) false).run prog (((W.alloc (.cells (df x) 26)).alloc (.cells (df y) 26)).drewN n)=.ok (.int .i64 (o6 told a:Int)) (((W.alloc (.cells (df x) 26)).alloc (.cells (df y) 26)).drewN n):=λn a=>by have:=(Df QX underlying160 (V1 _) (B.drewN n) a).2;rw[atw]at this;exact this
 have U:=(G 12).trans hA
 clear hm B F hg hb G hz hA j
 have H:=D.cell
 have Y:=u.cell
 clear D u
 go_enter func261,ntmps261
 go_upto_region 1 with (fail)
 generalize World.alloc (World.alloc W _) _=V at *
 generalize Lib.compareInt (o6 told x:Int) (o6 told y:Int)=R at *
 generalize E:o6 told x=S at *
 generalize C:o6 told y=T at *
 have J:=λn=>t n x
 have L:=λn=>t n y
 rw[E]at J
 rw[C]at L
 clear t E C
 have H:=λi=>H i
 go_quiet ((go_at_call 179;refine Calls.quiet_of_same (Q.aa _)))
 go_wp2
 go_ret
 exact⟨by rw[O.aa];rfl,_,os,by rw[I.aa];rfl⟩
end
section
open Go Go.RowKit Go.Shelf Go.Sort
shelf_lay_g SlLaysF0.n6 Slsf 6 at Tryz 298 as Tryz.agQ
theorem ax5(l:List aR) i j(u:i<l.length)(t:j<3):(l.flatMap eY)[i*3+j]?=(eY l[i])[j]?:=by
 have e:l.flatMap eY=(l.map eY).flatten:=fk
 have h:=zm 3 (l.map eY) (λcs h=>aG) i j aG t
 grind
theorem aea d i j(t:i<d.size)(y:j<3):some (flatK eY 3 d)[i*3+j]! = (eY d[i])[j]?:=by
 have u:i*3+j<d.size*3:=af
 rw[get_flatK eY 3 d _ u,show (i*3+j)/3=i by omega,show (i*3+j)%3=j by omega,getElem!_pos d i t]
 grind
theorem OZ{w base g cap}{l:List aR}(h:w.ownsRow base 26 3 (.slice (some ⟨g,0,none⟩) l.length cap) l.length (l.flatMap eY))(I:base<=g):HoldsK eY 3 w g 0 l.toArray/\g<w.heap.size/\base<=g/\l.length<=cap:=by
 rcases h.2 with ⟨e,-⟩|⟨H,G,cur,e,hb,C,B,-,F,E⟩
 ·cases e
 ·injection e with e1 e2 e3;injection e1 with e1;injection e1 with e1;subst e1 e3;have j:ah w g 26 cur:=C;refine⟨λt D=>⟨?_,j.frozen _⟩,j.lt,hb,B⟩;rw[size_flatK,List.size_toArray]at D;have hi:t/3<l.length:=af;have A:t%3<3:=Nat.mod_lt _ ay;have u:t=t/3*3+t%3:=af;rw[j.cell];show cur[0+t]?=some _;rw[mi,show (flatK eY 3 l.toArray)[t]! = (flatK eY 3 l.toArray)[t/3*3+t%3]! by rw[<- u],id,aea _ _ _ Pp A];have y:=ax5 l (t/3) (t%3) hi A;rw[<- u,<- E,List.getElem?_take_of_lt af]at y;rw[<- Array.getElem?_toList,y];simp
theorem atz{w g cap d}(h:HoldsK eY 3 w g 0 d)(hg:g<w.heap.size)(B:d.size<=cap):aq b5 d.toList (.slice (some ⟨g,0,none⟩) d.size cap) w:=by
 refine⟨_,cap,aj,⟨d.toList.map eY,Pa _ _,?_,λ_=>⟨g,0,rfl,hg,λt u j=>?_⟩⟩,af⟩
 ·rw[Db 3 _ λcs h=>aG];simp[b5]
 ·have hl:t<d.size*3:=by have:=(List.getElem?_eq_some_iff.1 j).1;rw[Db 3 _ λcs h=>aG]at this;simpa using this
  have hi:t/3<d.size:=af;have y:t%3<3:=Nat.mod_lt _ ay;have A:t=t/3*3+t%3:=af;rw[(h t Vm).1,id,show (flatK eY 3 d)[t]! = (flatK eY 3 d)[t/3*3+t%3]! by rw[<- A],aea _ _ _ hi y];have:=zm 3 (d.toList.map eY) (λcs h=>by obtain⟨a,-,rfl⟩:=List.mem_map.1 h;rfl) (t/3) (t%3) Pp y;rw[<- A,j,List.getElem?_map,List.getElem?_eq_getElem (show t/3<d.toList.length by simpa using hi)]at this;exact this.symm
theorem adn w g m d os:ag (λk=>k=g) w (sortWorldK eY 3 w g 0 m d os):=by
 refine⟨rfl,rfl,rfl,?_,λk hk hg=>?_⟩
 ·simp[sortWorldK,grow,putRowK,putRow,mapBlock,Sort.ahead]
 ·simp only[sortWorldK,grow,putRowK,putRow,mapBlock,Sort.ahead];grind
theorem aov b t ak w(u:w.cell? ⟨t,0,none⟩=some (.map (some b)))(hm:ei lS w b ak)(B:ak.length<=1000000) :
 Calls prog 297 #[.func (.func 299) #[] #[.pointer (some ⟨t,0,none⟩)]] w λe w'=>∃(v':Value) (j:List aR),e=.returned v'/\j.Perm (ak.map (·.1))/\w'.ownsRow w.heap.size 26 3 v' j.length (j.flatMap eY)/\K w w':=by
 have C:=ae (aot b t ak w u hm B)
 clear u hm
 go_enter func297,ntmps297
 go_wp2_with fail
 refine C.aa.mono ?_
 rintro e E⟨v',j,rfl,hp,y,k⟩
 have A:=ae hp
 have D:=ae y
 clear hp y
 go_wp2
 go_ret
 exact⟨_,j,rfl,A.aa,D.aa,k⟩
theorem atA l:(pL l).map (·.1)=l:=by unfold pL;rw[List.map_map];exact List.zipIdx_map_fst 0 l
theorem an7{α}[Inhabited α] enc k w blk j(d dk:Array α) m os(t:HoldsK enc k w blk j d)(u:blk<w.heap.size)(y:dk.size=d.size):HoldsK enc k (sortWorldK enc k w blk j m dk os) blk j dk:=holdsK_sortWorldK_c enc k w blk j d dk m os t u y
theorem aoU told g gt gb O A w(hg:ah w g 162 A)(hA:A[12]?=some (.map (some gt)))(hm:ei lS w gt (pL told))(hb:ah w gb 90 #[.pointer (some ⟨g,0,none⟩)])
 (L:w.cell? ⟨O,0,none⟩=some (.map (some gt))) (hn:told.Nodup) (M:told.length<=1000000) :
 Calls prog 259 #[.func (.func 299) #[] #[.pointer (some ⟨O,0,none⟩)],.func (.func 261) #[] #[.pointer (some ⟨gb,0,none⟩)]] w λe w'=>∃v',e=.returned v'/\aq b5 told v' w'/\K w w':=by
 have C:=ae (aov gt O (pL told) w L hm (by simpa [pL]using M))
 have hlt:=hm.lt
 have I:=ae λW (k:K w W) (l:List aR) (j cap:Nat) (t:W.ownsRow w.heap.size 26 3 (.slice (some ⟨j,0,none⟩) l.length cap) l.length (l.flatMap eY)) (J:w.heap.size<=j) (hl:l.length<=1000000) =>
  AnyQ.slices_SortFunc Tryz.agQ 3 (λW=>Tryz.isAgg26 W) (λW=>Tryz.sizeOf26 W) eY (λ_=>rfl) (λx v R=>by simp at R;rcases R with rfl|rfl|rfl <;> rfl) (FX told) (azJ told) 261 #[.pointer (some ⟨gb,0,none⟩)] j 0 cap l.toArray W
   (enters_of func261 fk rfl)
   (λm os dk hs x y=>by
    have u:=adn W j m dk os;have D:=hg.lt;have bR:=hb.lt;exact aoT told x y g gt gb A _ ((hg.below k D).aX u af) hA ((hm.st k).aX u af) ((hb.below k bR).aX u af))
   (OZ t J).1 (OZ t J).2.1 aY
 have Q:=ae λ(p:Option Addr) (cap:Nat) (Y:Value) (W:World)=>AnyF.slices_SortFunc_none Tryz.agQ p cap Y W
 rw[atA]at C
 have HN:=ae hn
 have HL:=ae M
 clear hg hm hb L hlt hn M
 go_enter func259,ntmps259
 go_wp2_with fail
 refine C.aa.mono ?_
 rintro e G⟨v2,B,rfl,hp,t,H⟩
 have Zk:B.length<=1000000:=by rw[hp.length_eq];exact HL.aa
 have X:=ae hp
 have F:=ae t
 clear C hp
 rcases t.2 with ⟨rfl,J⟩|⟨j,cap,cur,rfl,hb,hc,L,h2,h3,h4⟩
 ·have ht:told=[]:=by
   have:=X.aa.length_eq
   cases told with
   | nil=>rfl
   | cons a l=>simp at this;omega
  clear t F I;go_wp2_with fail
  apply bF (Q.aa _ _ _ _);rintro U rfl;clear Q;go_wp2;go_ret;exact⟨_,rfl,by rw[ht];exact gh _ _,H⟩
 ·have V:=ae (I.aa G H B j cap F.aa hb Zk);have D:=(OZ F.aa hb).2.1;have HH:=ae (OZ F.aa hb).1;clear I Q t hc h3 h4;go_wp2_with fail
  apply bF V.aa;rintro U⟨E,n,os,N,T,rfl⟩;have u:=adn G j n E os;have hd:=aqj HN.aa (d:=B.toArray) mh N T;have hsz:E.size=B.length:=by have:=N.1;simpa using this
  have Z:=ae (atz (cap:=cap) (an7 eY 3 G j 0 B.toArray E n os HH.aa D af) (bz D u.size) af);have S:=u.k H λk hk=>af
  have Zl:=ae S;clear N T V u S;generalize sortWorldK eY 3 G j 0 n E os=U at *;go_wp2;go_ret;exact⟨_,rfl,by rw[<- hd,<- hsz];exact Z.aa,Zl.aa⟩
end
theorem jo.small{l}(h:jo l):∀t∈l,eB t.e:=λt j=>uy (h.each t j).1
def Q6(lo:Nat)(t:TypeId)(cs:Array Value)(v:Value)(W:World):Prop:=∃b,v=.pointer (some ⟨b,0,none⟩)/\lo<=b/\ah W b t cs
theorem awK lo t cs:∀v w w',Q6 lo t cs v w->Below w.heap.size w w'->Q6 lo t cs v w':=by rintro v w w'⟨b,e,j,h⟩ k;exact⟨b,e,j,h.av k⟩
theorem avw{lo} t cs(W:World)(h:lo<=W.heap.size):Q6 lo t cs (.pointer (some ⟨W.heap.size,0,none⟩)) (W.alloc (.cells cs t)):=⟨_,rfl,h,ah.new W t cs⟩
section
variable {M:Nat->Prop} {p:nr} {B:bj} {w:World}
theorem bA.LO(h:bA M p B w){l v}(j:Fx M (λW=>aq cW l v W) w):bA M { p with vt:=v } { B with aB:=l } (w.setCell ⟨p.g,8,none⟩ v) :=
 h.cell 8 v (h.blk.aM 8 v) ⟨rfl,rfl,rfl,rfl,rfl,rfl,rfl,rfl⟩ ⟨rfl,rfl⟩ λW u d=>⟨d.par,d.ai,d.list,d.prom,d.ab,j W u,d.fe,d.waits,d.bQ⟩
theorem bA.azK(h:bA M p B w) n:bA M p { B with calls:=n } (w.setCell ⟨p.g,9,none⟩ (.int .u64 n)) :=
 h.cell 9 _ (h.blk.aM 9 _) ⟨rfl,rfl,rfl,rfl,rfl,rfl,rfl,rfl⟩ ⟨rfl,rfl⟩ λW u d=>⟨d.par,d.ai,d.list,d.prom,d.ab,d.aB,d.fe,d.waits,d.bQ⟩
theorem bA.azL(h:bA M p B w){l v}(j:Fx M (λW=>aq aU l v W) w):bA M { p with vw:=v } { B with waits:=l } (w.setCell ⟨p.g,13,none⟩ v) :=
 h.cell 13 v (h.blk.aM 13 v) ⟨rfl,rfl,rfl,rfl,rfl,rfl,rfl,rfl⟩ ⟨rfl,rfl⟩ λW u d=>⟨d.par,d.ai,d.list,d.prom,d.ab,d.aB,d.fe,j W u,d.bQ⟩
theorem bA.azM(h:bA M p B w){l v}(j:Fx M (λW=>aq b5 l v W) w):bA M { p with vf:=v } { B with refused:=l } (w.setCell ⟨p.g,11,none⟩ v) :=
 h.cell 11 v (h.blk.aM 11 v) ⟨rfl,rfl,rfl,rfl,rfl,rfl,rfl,rfl⟩ ⟨rfl,rfl⟩ λW u d=>⟨d.par,d.ai,d.list,d.prom,d.ab,d.aB,j W u,d.waits,d.bQ⟩
theorem bA.aj5{p' B' w'}(h:bA M p B w)(hg:p'.g=p.g/\p'.gl=p.gl/\p'.gd=p.gd/\p'.gr=p.gr/\p'.gt=p.gt/\p'.vd=p.vd/\p'.vr=p.vr)(y:bA M p' B' w')(u:ag (bw p) w w'):dC M p B' w w':=by
 have j:∀k,bw p' k↔bw p k:=λk=>by
  grind [bw]
 exact⟨p',y.less (λk hk=>.inr hk) (λk hk=>hk.elim id λt=>h.sub k ((j k).1 t)),u,(by grind [nr.key]),λk hk=>.inl ((j k).1 hk)⟩
theorem aV.Jv{e α S}{l:List α}{v w'}(h:aV w.heap.size w.heap.size e S l v w')(j:∀k,M k->k<w.heap.size):Fx M (λW=>Go.Proofs.YtfndfpdhlbmboaaGreat.aq S l v W) w':=(h.sR.fx λ_ h=>h).less j
end
theorem ab2{M p B w}(h:bA M p B w){l v} c(j:Fx M (λW=>aq cW l v W) w) :
 Calls prog 109 #[.pointer (some ⟨p.g,0,none⟩),v,.int .i64 c] w λe w'=>e=.returned (.int .i64 (fo B (l,c)).2)/\dC M p (fo B (l,c)).1 w w':=by
 have y:Hid (fo B (l,c)=if c=0 then ({ B with aB:=l },0)else (B,c)):=ae rfl
 generalize fo B (l,c)=R at *
 have u:=ae (h.aj5 (p':={ p with vt:=v }) ⟨rfl,rfl,rfl,rfl,rfl,rfl,rfl⟩ (h.LO j) (ag.bL (X:=bw p) (.inl rfl) 8 v))
 have t:=ae (h.n (K.rf w))
 have q:=h.blk.cell
 have z:=h.blk.frozen
 obtain⟨A,cc,rfl⟩:=aw j.now
 obtain⟨g,gl,gd,gr,gt,vd,vr,vp,vh,vl,vq,va,vt,vf,vw,kr⟩:=p
 simp only at q z u t
 clear h j
 go_enter func109,ntmps109
 by_cases hc:c=0
 ·subst hc;have HR:Hid (R=({ B with aB:=l },0)):=ae mh;go_wp2;go_ret;exact⟨fE,by rw[HR.aa];exact u.aa⟩
 ·have HR:Hid (R=(B,c)):=ae (by rw[y.aa,if_neg hc]);have C:(c==0)=false:=Il;go_wp2;go_ret;exact⟨fE,by rw[HR.aa];exact t.aa⟩
theorem ab3{M p B w}(h:bA M p B w)(hG:bD B) c(f:Nat) cs j(hf:∀args W,(callFunc f args).run prog W=.ok (.enter f args) W)
 (aj6:∀W,K w W->Calls prog f (#[bU (pV B)]++cs) W λe w'=>∃v',e=.returned (.tuple #[v',.int .i64 j.2])/\aV W.heap.size W.heap.size 128 cW j.1 v' w'/\K W w') :
 Calls prog 99 #[.pointer (some ⟨p.g,0,none⟩),.int .i64 c,.func (.func f) #[] cs] w λe w'=>e=.returned (.tuple #[bU (jg B c j).2.1,.int .i64 (jg B c j).2.2])/\dC M p (jg B c j).1 w w':=by
 have HK:Hid (jg B c j=if BH B c then (if j.2=0 then ({ B with aB:=j.1,calls:=B.calls+1 },pV B,0)else (B,(0,0,0),j.2))else (B,(0,0,0),200)):=ae rfl
 generalize jg B c j=R at *
 have H:=ae h
 have HX:=ae λk hk=>h.low k (h.sub k hk)
 have HM:=ae h.low
 have hcl:=hG.calls
 have C1:=ae λW (k:K w W)=>ab0 (h.st k) hG c
 have C2:=ae aj6
 have q:=h.q
 have Z:=ah.new w 26 #[.int .i64 0,.int .u64 0,.int .u64 0]
 have k0:=Z.aS
 generalize BH B c=HB at *
 generalize iQ:pV B=u at *
 obtain⟨C,dA⟩:∃n,n=B.calls+1:=⟨_,rfl⟩
 have yA:Hid (u=(B.me,B.st.life,C)):=ae (by rw[dA];exact iQ.symm)
 have S:IntKind.u64.wrap ((B.calls:Int)+1)=(C:Int):=by rw[IntWalk.u64_in _ (by omega),dA];omega
 have EC:=ae dA
 clear dA hcl
 clear h hG aj6 iQ
 go_enter func99,ntmps99
 go_upto_region 1 with (fail)
 generalize w.alloc _=w1 at *
 generalize cP:w.heap.size=t at Z⊢
 have y5:=ae cP
 clear cP
 go_wp2_with fail
 refine (C1.aa w1 k0).mono ?_
 rintro e O⟨rfl,k2⟩
 have I:=Z.av k2
 have bC:=k0.tr k2
 clear C1 Z
 cases MZ:HB
 ·have y:Hid (R=(B,(0,0,0),200)):=ae (by rw[HK.aa,MZ];rfl);have Y:=I.cell;have T:=I.frozen;clear HK C2 q;go_wp2;have Q:ah (World.setCell (World.setCell (World.setCell O _ _) _ _) _ _) t 26 #[.int .i64 0,.int .u64 0,.int .u64 0]:=((I.aM 0 (.int .i64 0)).aM 1 (.int .u64 0)).aM 2 (.int .u64 0);have kS:=K.set (K.set (K.set bC (r:=t) rG 0 (.int .i64 0)) (r:=t) rG 1 (.int .u64 0)) (r:=t) rG 2 (.int .u64 0);clear Y T I;generalize World.setCell (World.setCell (World.setCell O _ _) _ _) _ _=W9 at *;have e9:=Q.cell;try rw[gq]
  refine bodyPost_ret (v:=.tuple #[bU (0,0,0),.int .i64 200]) V2 rfl ?_;exact⟨by rw[y.aa],by rw[y.aa];exact H.aa.n kS⟩
 have Gq:Hid (R=if j.2=0 then ({ B with aB:=j.1,calls:=B.calls+1 },u,0)else (B,(0,0,0),j.2)):=ae (by rw[HK.aa,MZ,if_pos rfl])
 have q2:=λW (k:K O W)=>q W (bC.tr k)
 subst MZ
 clear HK q
 obtain⟨g,gl,gd,gr,gt,vd,vr,vp,vh,vl,vq,va,vt,vf,vw,kr⟩:=p
 simp only at q2
 go_upto_region 5 with (fail)
 have qs:=And.intro q2 S
 refine dD 16 [([],[]),([0],[(19,0)]),([1],[(20,1)]),([2],[(21,2)]),([],[]),([4],[(23,4)]),([5],[(24,5)]),([6],[(25,6)]),([7],[(26,7)]),([],[]),([9],[(28,9)]),([10],[(29,10)]),([11],[(30,11)]),([12],[(31,12)]),([3,8,13],[(22,3),(27,8),(32,13)]),([],[]),([0,1,2,3,4,5,6,7,8,9,10,11,12,13,14,15],[(8,15),(33,14)])] 56 ?_
 iterate 15 refine au.i ?_
 refine au.op (Q6 (O.heap.size) 26 #[.int .i64 0,.int .u64 0,.int .u64 0]) (awK _ _ _) (λV W kW hp=>?_) ?_
 ·simp[bP,aE,List.lookup,cN,execOp,aF,go_sem];exact⟨avw _ _ _ kW.size,(K.rf W).al _⟩
 clear qs
 intro V W kW hA
 simp only[aO,aQ,cz,aJ,Nat.reduceAdd]at hA
 obtain⟨e0,e1,e2,e3,e4,e5,e6,e7,e8,e9,fD,pr,Cs,y7,ED,⟨b8,qA,U,r8⟩,-⟩:=hA
 have J:=r8.cell
 have z8:=r8.frozen
 obtain⟨L,Sg⟩:∃L,L=World.setCell (World.setCell (World.setCell W ⟨b8,0,none⟩ (.int .i64 B.me)) ⟨b8,1,none⟩ (.int .u64 B.st.life)) ⟨b8,2,none⟩ (.int .u64 C):=⟨_,rfl⟩
 refine aH.skip L rfl (by rw[Sg];simp[aE,List.lookup,ED,qA,ba,execOp,aF,J,z8,go_sem]) ?_
 refine aH.nil ?_
 simp only[fX,Act.put,rJ,qM,qL,Nat.reduceAdd,ba,e0,e1,e2,e3,e4,e5,e6,e7,e8,e9,fD,pr,Cs,y7,ED,qA]
 have Jw:ah L b8 26 #[.int .i64 u.1,.int .u64 u.2.1,.int .u64 u.2.2]:=by rw[Sg,yA.aa];exact ((r8.aM 0 (.int .i64 B.me)).aM 1 (.int .u64 B.st.life)).aM 2 (.int .u64 C)
 have k8:K O L:=by rw[Sg];exact K.set (K.set (K.set kW U 0 _) U 1 _) U 2 _
 have sU:=I.av k8
 have F:=bC.tr k8
 have HB8:=ae U
 have C3:=ae (C2.aa L F)
 have HW:=ae S
 clear J z8 r8 I U Sg e0 e1 e2 e3 e4 e5 e6 e7 e8 e9 fD pr Cs y7 ED qA kW q2 S C2 k8
 have J:=Jw.cell
 go_wp2_with fail
 refine C3.aa.mono ?_
 rintro e A⟨v4,rfl,cB,D⟩
 have jA:=y5.aa
 have ir:=(F.tr D).size
 have aEd:=bz sU.lt D.size
 have N:bA (λk=>M k∨k=t) _ B A:=H.aa.far (X:=λ_=>False) (ag.aT (F.tr D) _) (λk hk=>hk.elim) (λk hk=>hk.elim) (λk hk E=>E.resolve_right af) (λk hk=>.inl (H.aa.sub k hk)) (λk hk=>hk.elim (λh=>bz (HM.aa k h) ir) λe=>af)
 have iB:Fx (λk=>M k∨k=t) (λW=>aq cW j.1 v4 W) A:=cB.Jv λk hk=>hk.elim (λh=>bz (HM.aa k h) F.size) λe=>e▸sU.lt
 have Jy:=Jw.av D
 have G:=sU.av D
 have sc:=F.tr D
 obtain⟨A4,c4,rfl⟩:=aw iB.now
 clear C3 cB D J Jw sU F
 by_cases hc:j.2=0
 rotate_left
 ·have y:Hid (R=(B,(0,0,0),j.2)):=ae (by rw[Gq.aa,if_neg hc]);have gS:(j.2 != 0)=true:=Il;have Y:=G.cell;have T:=G.frozen;clear N iB Jy Gq;go_wp2;have Q:ah (World.setCell (World.setCell (World.setCell A _ _) _ _) _ _) t 26 #[.int .i64 0,.int .u64 0,.int .u64 0]:=((G.aM 0 (.int .i64 0)).aM 1 (.int .u64 0)).aM 2 (.int .u64 0);have kS:=K.set (K.set (K.set sc (r:=t) af 0 (.int .i64 0)) (r:=t) af 1 (.int .u64 0)) (r:=t) af 2 (.int .u64 0);clear Y T G;generalize World.setCell (World.setCell (World.setCell A _ _) _ _) _ _=W9 at *;have e9:=Q.cell;try rw[gq]
  refine bodyPost_ret (v:=.tuple #[bU (0,0,0),.int .i64 j.2]) V2 rfl ?_;exact⟨by rw[y.aa],by rw[y.aa];exact H.aa.n kS⟩
 ·have y:Hid (R=({ B with aB:=j.1,calls:=B.calls+1 },u,0)):=ae (by rw[Gq.aa,if_pos hc]);have q4:=N.blk.cell;have z4:=N.blk.frozen;have EE:bA (λk=>M k∨k=t) ⟨g,gl,gd,gr,gt,vd,vr,vp,vh,vl,vq,va,.slice A4 j.1.length c4,vf,vw,kr⟩ { B with aB:=j.1,calls:=C } ((A.setCell ⟨g,8,none⟩ (.slice A4 j.1.length c4)).setCell ⟨g,9,none⟩ (.int .u64 C)):=(N.LO iB).azK C;have u5:ag (λk=>k=g) A ((A.setCell ⟨g,8,none⟩ (.slice A4 j.1.length c4)).setCell ⟨g,9,none⟩ (.int .u64 C)):=(ag.bL (X:=λk=>k=g) rfl 8 _).tr (ag.bL (X:=λk=>k=g) rfl 9 _);have gA:=HX.aa g (.inl rfl);have aEe:=HB8.aa;have hz2:=bC.size;have Sh:=Jy.aX u5 af;have ie:=G.aX u5 af;have S:=HW.aa;rw[hc];clear N iB hc Gq Jy G;simp only at q4 z4;go_upto_region 11 with (fail);generalize (A.setCell ⟨g,8,none⟩ _).setCell ⟨g,9,none⟩ _=w5 at *;clear q4 z4 S;have J:=Sh.cell;have Y:=ie.cell;have T:=ie.frozen;go_wp2;have Q:ah (World.setCell (World.setCell (World.setCell w5 _ _) _ _) _ _) t 26 #[.int .i64 u.1,.int .u64 u.2.1,.int .u64 u.2.2]:=((ie.aM 0 (.int .i64 u.1)).aM 1 (.int .u64 u.2.1)).aM 2 (.int .u64 u.2.2);have u9:ag (λk=>k=t) w5 _:=((ag.bL (X:=λk=>k=t) rfl 0 (.int .i64 u.1)).tr (ag.bL (X:=λk=>k=t) rfl 1 (.int .u64 u.2.1))).tr (ag.bL (X:=λk=>k=t) rfl 2 (.int .u64 u.2.2));clear Y T ie J;generalize World.setCell (World.setCell (World.setCell w5 _ _) _ _) _ _=W9 at *;have e9:=Q.cell;have p7:=u5.size;have nt:=u9.size;have sZ:=EE.far (M':=M) u9 (λk hk=>.inr hk) (λk hk E=>by have:=HX.aa k E;omega) (λk hk E=>.inl E) (λk hk=>H.aa.sub k hk) (λk hk=>by have:=HM.aa k hk;omega);have hU:ag (bw ⟨g,gl,gd,gr,gt,vd,vr,vp,vh,vl,vq,va,vt,vf,vw,kr⟩) w W9:=((ag.aT sc _).tr (u5.more λk hk=>.inl hk)).gg u9 λk hk E=>af
  have Si:=ae (H.aa.aj5 (p':=⟨g,gl,gd,gr,gt,vd,vr,vp,vh,vl,vq,va,.slice A4 j.1.length c4,vf,vw,kr⟩) ⟨rfl,rfl,rfl,rfl,rfl,rfl,rfl⟩ sZ hU);try rw[gq]
  refine bodyPost_ret (v:=.tuple #[bU u,.int .i64 0]) V2 rfl ?_;exact⟨by rw[y.aa],by rw[y.aa,<- EC.aa];exact Si.aa⟩
theorem avx{Y base v l W}(h:W.ownsRow base 26 3 v l.length (l.flatMap eY)):aA Y base 26 b5 l v W :=
 ⟨l.map eY,by rw[<- List.flatMap_def];exact h,aj,λw' _=>Pa l w'⟩
theorem acD{v l W}(h:aq b5 l v W):∃A c,v=.slice A l.length c/\Reads W W.heap.size 3 A l.length (l.flatMap eY):=by
 obtain⟨A,c,rfl,⟨css,j,t⟩,-⟩:=h;have e:css=l.map eY:=by apply List.ext_getElem (by simpa using j.1);intro i u y;rw[List.getElem_map];exact j.2 i (by simpa using y) u
 rw[e,<- List.flatMap_def]at t;exact⟨A,c,rfl,t⟩
theorem apn{M p B w}(h:bA M p B w)(D:bD B)(hn:B.told.Nodup) :
 Calls prog 164 #[.pointer (some ⟨p.g,0,none⟩)] w λe w'=>∃v',e=.returned v'/\aA (λk=>k<w.heap.size) w.heap.size 26 b5 (BI B) v' w'/\K w w':=by
 have HR:Hid (BI B=B.st.ab++B.told):=ae rfl
 have hlen:=D.dk.len
 have gV:=D.told
 have q:=h.q
 have hb:=ah.new w 90 #[.pointer (some ⟨p.g,0,none⟩)]
 have k1:=hb.aS
 have y:=ae λW=>aqb p.gt W
 have C:=ae λW (k:K w W) gb B1 (hb:ah W gb 90 #[.pointer (some ⟨p.g,0,none⟩)]) (h1:W.cell? ⟨B1,0,none⟩=some (.map (some p.gt)))=>aoU B.told p.g p.gt gb B1 _ W (h.blk.av k) rfl (h.wm.st k) hb h1 hn gV
 have t:=ae λW (k:K w W)=>acD (h.bI.at k).ab
 generalize BI B=R at *
 obtain⟨g,gl,gd,gr,gt,vd,vr,vp,vh,vl,vq,va,vt,vf,vw,kr⟩:=p
 simp only at q hb k1 y C t
 obtain⟨Aa,ca,rfl,-⟩:=t.aa w (K.rf w)
 clear h D hn
 go_enter func164,ntmps164
 go_upto_region 1 with (fail)
 generalize w.alloc _=j at *
 generalize hgb:w.heap.size=gb at hb⊢
 clear hgb
 have F:=hb.cells j (K.rf _) 0
 go_wp2_with fail
 refine (y.aa j).mono ?_
 rintro e Z⟨rfl,rfl⟩
 have E:=ah.new j 160 #[.map (some gt)]
 have A:=E.aS
 have I:=hb.av A
 have L:=k1.tr A
 generalize World.alloc j _=Z at *
 have C4:=ae (C.aa Z L gb j.heap.size I (E.cell 0))
 clear y C hb F E A
 go_wp2_with fail
 refine C4.aa.mono ?_
 rintro e u⟨v3,rfl,hv3,X⟩
 have H:=L.tr X
 have bG:=I.av X
 have F:=bG.cells u (K.rf _) 0
 obtain⟨At,ct,rfl,T⟩:=acD hv3
 obtain⟨Aa2,ca2,G,hra⟩:=t.aa u H
 injection G with G _ e3
 subst G e3
 have O:=ae (abD Aa B.st.ab.length ca _ u hra (PK _) af)
 have J:=ae λW (k:K u W)=>(T.below k (aC _)).more k.size
 clear C4 t hra T hv3 I
 go_wp2_with fail
 refine O.aa.mono ?_
 rintro e w4⟨v4,rfl,S,N⟩
 have Y:=J.aa w4 N
 have U:=H.tr N
 have hz:=H.size
 have ir:=U.size
 clear O J F
 go_wp2_with (at_builtin;refine iF rfl _ _ 44 rfl w.heap.size 26 _ 3 24 vX _ B.st.ab.length _ rfl (mg hz S) _ At B.told.length ct _ rfl Y (PK _) ?p1 ir ?_)
 case p1=>omega
 intro v9 w9 V _ _ Q
 have HF:=ae (show aA (λk=>k<w.heap.size) w.heap.size 26 b5 R v9 w9 by
  rw[HR.aa];refine avx ?_;rw[cF,List.flatMap_append];exact V)
 have kF:K w w9:=U.trans Q
 clear V Q S Y
 go_wp2
 go_ret
 exact⟨_,rfl,HF.aa,kF⟩
theorem atB l t:je (l++[t])=if t.asked=true/\(je l).length<4 then je l++[t.e]else je l:=by
 unfold je;rw[List.filter_append,List.map_append,List.take_append];generalize ((l.filter eF.asked).map eF.e)=X;rcases t with ⟨e,b⟩;cases b
 ·simp
 ·simp only[nX,true_and,List.filter_cons,if_true,List.filter_nil,jU,List.map_nil];split
  ·rename_i h;rw[fM (l:=[e]) aY]
  ·rename_i h;rw[show 4-X.length=0 by omega,XH,List.append_nil]
theorem awL:(prog.info? 126).map (λi=>(i.zero,i.size,i.bytes))=some (some (.agg eI),8,96):=by kernel_rfl
theorem azN:fK prog 43 126 (.agg eI) 8 96:=⟨underlying43,awL,rfl,ay⟩
theorem arD l v w(h:aq cW l v w)(hs:∀t∈l,eB t.e)(hn:l.length<=1000000) :
 Calls prog 158 #[v] w λe w'=>∃v',e=.returned v'/\aV w.heap.size w.heap.size 126 aU (je l) v' w'/\K w w':=by
 obtain⟨A,c,rfl,hl,hc⟩:=h
 have HS:=ae hs
 clear hs
 have kk:=K.rf w
 go_enter func158,ntmps158
 go_wp2_with fail
 go_loopw [3,5,8] (fun o _ i W=>∃j:Nat,j<=l.length/\i=.int .i64 j/\aV w.heap.size w.heap.size 126 aU (je (l.take j)) o W/\K w W) (fun _ _ i _=>l.length-(intOf i).toNat)
 case atStart=>exact⟨0,af,rfl,by simpa [je]using aV.nil _ _ _ _ _,kk⟩
 case round =>
  clear kk;obtain⟨j,hj,rfl,hO,kr⟩:=hrel;by_cases Z:j<l.length
  ·have aP:(j:Int)<l.length:=af;obtain⟨b1,off,cs,rfl,T,hrl,O,d⟩:=ed hl j Z ay;have D:Hid (je (l.take (j+1))=if l[j].asked=true/\(je (l.take j)).length<4 then je (l.take j)++[l[j].e]else je (l.take j)):=ae (by rw[gj Z,atB]);have hst:=HS.aa _ (bS Z);generalize l[j]=t at *;obtain⟨vf,ve,rfl,X,Y⟩:=hrl w (K.rf w);obtain⟨H,J,rfl⟩:=b6 X;obtain⟨N,F,rfl⟩:=aw Y;have HE:Hid (∀W,K w W->cV t.e (.agg (aD t.e (.slice H t.e.f.length J) (.slice N t.e.es.length F))) W):=ae λW k=>⟨_,_,rfl,eH _ _ _ _ X k,bo Y k⟩
   have O:∀W,K w W->W.cell? ⟨b1,off+j*9,none⟩=some (.int .i64 t.e.kind):=O;have d:∀W,K w W->∀i,i<9->W.cell? ⟨b1,off+j*9+i,none⟩=(gE t (.slice H t.e.f.length J) (.slice N t.e.es.length F))[i]?:=λW k i hi=>(d W k i hi).trans Array.getElem?_toList
   have gV:(je (l.take j)).length<=4:=by unfold je;rw[nX];omega
   clear hrl T X Y;generalize je (l.take j)=L at *;obtain⟨Ao,co,rfl,-⟩:=hO.slice;have R:=ah.new wr 128 (gE t (.slice H t.e.f.length J) (.slice N t.e.es.length F));have V:=R.aS;go_upto_region 5 with (fail);have C:=hO.st V;generalize wr.alloc _=w5 at *;generalize wr.heap.size=g5 at R⊢;generalize Value.slice H t.e.f.length J=vf at *;generalize Value.slice N t.e.es.length F=ve at *;have k5:=kr.tr V;have q:=R.cell;clear d O hO V;clear d O;have kQ:=C.blk;rcases t with ⟨y,ta⟩;cases ta
   ·have HQ:Hid (je (l.take (j+1))=L):=ae (by rw[D.aa];simp);have HO:=ae C;clear D C;exact agR
   ·by_cases h4:L.length<4;rotate_left
    ·have Zm:¬(L.length:Int)<4:=af;have HQ:Hid (je (l.take (j+1))=L):=ae (by rw[D.aa,if_neg (λh=>h4 h.2)]);have HO:=ae C;clear D C kQ;exact agR
    ·have Zm:(L.length:Int)<4:=af;have HQ:Hid (je (l.take (j+1))=L++[y]):=ae (by rw[D.aa,if_pos ⟨rfl,h4⟩]);clear D;go_wp2_with fail
     refine (J8 y _ w5 (HE.aa _ k5) hst).mono ?_;rintro e B⟨v6,rfl,ho,S⟩;have ko:=C.st S;obtain⟨nP,nQ,rfl,hF,U⟩:=ho;have nK:=k5.tr S;obtain⟨css,hown,T,ki⟩:=ko;have xg:=S.size;have p7:=k5.size;have HF:Hid (∀w',aI w5.heap.size none B w'->fu y.f nP w'/\aq cG y.es nQ w'):=ae λw' u=>⟨wP (hF.up u),(U.up (aC _) u).aq⟩
     obtain⟨I,M,rfl⟩:=b6 (wP hF);obtain⟨E,G,rfl⟩:=aw U.aq;have Q:=K.new B (.cells (aD y (.slice I y.f.length M) (.slice E y.es.length G)) 126);have hbase:w.heap.size<=(B.alloc (.cells (aD y (.slice I y.f.length M) (.slice E y.es.length G)) 126)).heap.size:=by have:=Q.size;omega
     have Mv:(L.length+1)*97<=140737488355328:=af;clear C hF U;go_wp2_with (at_builtin;refine iF rfl _ _ 43 rfl w.heap.size 126 _ 8 96 azN _ _ _ rfl (pH hown _) (B.heap.size+1) _ 1 1 (XU y (.slice I y.f.length M) (.slice E y.es.length G)) rfl ?c1 ?c2 ?c3 hbase ?_)
     case c1=>exact Reads.new B (XU y (.slice I y.f.length M) (.slice E y.es.length G)) 126 8 1 rfl
     case c2=>have h0:=HF.aa B (aI.rf _ _ _);exact aU.one (x:=y) (w:=B) ⟨_,_,rfl,h0.1,h0.2⟩
     case c3=>omega
     intro v9 w9 fN bB cQ aZ;have k9:=(nK.tr Q).trans aZ;have bq:Hid (aV w.heap.size w.heap.size 126 aU (je (l.take (j+1))) v9 w9):=by
      rw[HQ.aa];exact aV.snoc T (λw' u=>ki w' (aI.tr (aI.aT Q _ _) u)) fN bB pC
       (λw' u=>by
        have:=HF.aa w' ((aI.tr (aI.aT Q _ _) u).more af (λk hk _ e=>Vs));exact⟨_,_,rfl,this.1,this.2⟩)
     clear fN bB cQ aZ hown ki;go_wp2;go_roundw
     case rel=>exact⟨j+1,af,bJ,bq.aa,k9⟩
     case measure=>simp[intOf];omega
  ·have aP:¬(j:Int)<l.length:=af;exact agS
theorem acE{P ρ w} s x T ty t g o cur cells(hs:ρ s=.pointer (some ⟨g,o,none⟩))(hx:ρ x=.agg cells)(hb:ah w g t cur)
 (A:(P.info? T).map (·.size)=some cells.size) (B:o+cells.size<=cur.size) (j:∀u∈cells.toList,u.oneCell'=true) :
 ∃w',(execOp ρ (aF (.store T s x) ty)).run P w=.ok .skip w'/\ah w' g t (cur.toList.take o++cells.toList++cur.toList.drop (o+cells.size)).toArray/\w.grownBy w' (some g):=by
 have hst:=run_storeCells_at P g o t cells.toList 0 cur w hb af j
 simp only[Nat.add_zero,Array.length_toList]at hst
 refine⟨_,?_,setRow_heap w g cur _ t _ hb,⟨rfl,rfl,rfl,aj,λk hk y=>setRow_other w g k _ (λe=>y tB)⟩⟩
 cases hq:P.info? T with
 | none=>simp[hq]at A
 | some i => exact agT
theorem atC(l:List eF)(a:aR):sG l a=match ju l a with|none=>(vF,false)|some k=>match l[k]? with|some t=>(t,true)|none=>(vF,false):=by
 cases h:ju l a with
 | none=>exact arp (acu h)
 | some k =>
  grind [Kk,List.getElem?_eq_some_iff,oh,List.find?_eq_some_iff_getElem,List.getElem?_eq_getElem,sG]
abbrev EF:Array Value:=#[.int .i64 0,.int .i64 0,.int .u64 0,.int .u64 0,.int .i64 0,.int .u64 0,.slice none 0 0,.slice none 0 0,.bool false]
theorem aqk l a v w(h:aq cW l v w)(hs:∀s∈l,eB s.e)(hlen:l.length<=1000000) :
 Calls prog 106 #[v,bU a] w λe w'=>∃u,e=.returned (.tuple #[u,.bool (sG l a).2])/\MD (sG l a).1 u w'/\K w w':=by
 have O:=ae λW (kW:K w W)=>OO l a v W (bo h kW) hlen
 obtain⟨A,c,rfl,hl,hc⟩:=h
 have T:=(ah.new w 26 #[.int .i64 a.1,.int .u64 a.2.1,.int .u64 a.2.2]).alloc (.cells EF 128)
 have F:=ah.new (w.alloc (.cells #[.int .i64 a.1,.int .u64 a.2.1,.int .u64 a.2.2] 26)) 128 EF
 have E:=K.lq w (.cells #[.int .i64 a.1,.int .u64 a.2.1,.int .u64 a.2.2] 26) (.cells EF 128)
 have hz:(w.alloc (.cells #[.int .i64 a.1,.int .u64 a.2.1,.int .u64 a.2.2] 26)).heap.size=w.heap.size+1:=aj
 rw[hz]at F
 clear hz
 have HI:Hid (rK l a=match ju l a with|some k=>(k:Int)|none=>-1):=ae rfl
 have HC:=ae (atC l a)
 have H:=ae λk h=>@Kk l a k h
 generalize sG l a=R at *
 go_enter func106,ntmps106
 go_upto_region 1 with (fail)
 generalize World.alloc (World.alloc w _) _=w1 at *
 have q:=T.cell
 go_wp2_with fail
 clear q
 apply oX (O.aa w1 E) E
 intro L k2 bC
 have B:=F.av k2
 have hrg:w.heap.size<=w.heap.size+1:=af
 generalize w.heap.size+1=y at *
 generalize rK l a=I at *
 clear T F O
 cases ho:ju l a with
 | none => obtain rfl:I=-1:=Ds;have HQ:Hid (R=(vF,false)):=ae K4;clear ho HI HC H;have q:=B.cell;have z:=B.frozen;go_wp2;have cO:=((((((((B.aM 0 (.int .i64 0)).aM 1 (.int .i64 0)).aM 2 (.int .u64 0)).aM 3 (.int .u64 0)).aM 4 (.int .i64 0)).aM 5 (.int .u64 0)).aM 6 (.slice none 0 0)).aM 7 (.slice none 0 0)).aM 8 (.bool false);have e9:=cO.cell;refine bodyPost_ret (v:=.tuple #[.agg EF,.bool false]) agU rfl ?_;refine⟨.agg EF,by rw[HQ.aa],by rw[HQ.aa];exact agK vF rfl rfl _,?_⟩;exact ((((((((bC.setCell Bt _).setCell Bt _).setCell Bt _).setCell Bt _).setCell Bt _).setCell Bt _).setCell Bt _).setCell Bt _).setCell Bt _
 | some k =>
  obtain rfl:I=(k:Int):=Ds;obtain⟨t,h1,-⟩:=H.aa k ho;have HQ:Hid (R=(t,true)):=ae V0;obtain⟨hk,sV⟩:=List.getElem?_eq_some_iff.1 h1;have fA:(k:Int)<l.length:=af;obtain⟨Y,off,cs,rfl,hcl,J,M,d⟩:=ed hl k hk ay;have Q:=hs _ (bS hk);rw[sV]at J Q;obtain⟨vf,j,rfl,hf,he⟩:=J w (K.rf w);have HE:Hid (∀W,K w W->cV t.e (.agg (aD t.e vf j)) W):=ae λW k=>⟨_,_,rfl,eH _ _ _ _ hf k,bo he k⟩
  have M:∀W,K w W->W.cell? ⟨Y,off+k*9,none⟩=some (.int .i64 t.e.kind):=M;have d:∀W,K w W->∀i,i<9->W.cell? ⟨Y,off+k*9+i,none⟩=(gE t vf j)[i]?:=λW kk i hi=>(d W kk i hi).trans Array.getElem?_toList
  clear J hcl hf he ho HI HC H h1 sV;go_upto_region 4 with (fail);obtain⟨gb,hgb⟩:∃gb,gb=L.heap.size:=⟨_,rfl⟩;have G:y<gb:=by rw[hgb];exact B.lt
  have C:∀W,ag (λk=>k=y) L W->K w W:=λW u=>u.k bC λk e=>e▸hrg
  have qs:=And.intro (λW u=>M W (C W u)) (And.intro (λW u=>d W (C W u)) fA);refine Ol 14 [12] (λW=>ag (λk=>k=y) L W) (λW W'=>W.grownBy W' (some y)) (λk _ W=>∃cs,ah W y 128 cs/\(k=0/\cs=EF∨k≠0/\∃vf j,cs=gE t vf j/\Fx (λk=>k<gb) (λW=>cW.rel t (gE t vf j).toList W) W)) [([],[]),([],[]),([0,1],[(13,0),(14,1)]),([2],[(15,2)]),([3],[(16,3)]),([4],[(17,4)]),([],[]),([],[]),([6,7],[(19,6),(20,7)]),([8],[(21,8)]),([9],[(22,9)]),([5,10],[(18,5),(23,10)]),([11],[(24,11)]),([],[])] 25
   (λ_ _ h k=>h.tr (ag.aT k _)) (λ_ _ h=>Bi h _) (λk vs W W' ⟨cs,h1,h3⟩ kW=>⟨cs,h1.av kW,h3.imp id λ⟨h,vf,j,e,f⟩=>⟨h,vf,j,e,f.k kW⟩⟩) (ag.rf _ _) (λ_=>⟨EF,B,.inl ⟨rfl,rfl⟩⟩) ?_
  iterate 5 refine au.i ?_
  refine au.c (D6 gb t.e) (λv w w' ⟨vf,j,e,h⟩ k=>⟨vf,j,e,h.up (ag.eM (X:=λb=>b=y) k λ_ e=>by cases e;rfl) λk e=>e▸G⟩) (λW u=>(J8 t.e _ W (HE.aa _ (C W u)) Q).mono λe w' ⟨v,e1,ho,E⟩=>⟨v,e1,XB (by rw[hgb];exact u.size) ho,E⟩) ?_;iterate 5 refine au.i ?_
  refine au.op (MW gb t) (λv w w' ⟨vf,j,e,h⟩ k=>⟨vf,j,e,h.up (ag.eM (X:=λb=>b=y) k λ_ e=>by cases e;rfl) λk e=>e▸G⟩) (λV W kW hp=>?_) ?_
  ·exact VX
  refine au.s ?_;refine au.i ?_;clear qs;refine⟨⟨⟨_,_,rfl,rfl,rfl,λV W D N hp=>?_⟩,trivial⟩,λV W D N hA=>?_⟩
  ·simp only[cd,aO,aQ,bW,bY,aJ]at hp;obtain⟨⟨Jz,JA,e3,hF⟩,-⟩:=hp;obtain⟨_,hb,⟨-,rfl⟩|⟨h,-⟩⟩:=N
   ·change jM _ _ ((execOp (aE [(24,11)] _ V) (aF (.store 128 (.tmp 4) (.tmp 24)) 0)).run _ _);generalize hA:aE [(24,11)] _ V=ρ;obtain⟨w'',hrun,hb2,dH⟩:=acE (P:=prog) (ρ:=ρ) (.tmp 4) (.tmp 24) 128 0 128 y 0 EF (gE t Jz JA) (by rw[<- hA];rfl) (by rw[<- hA];exact e3) hb ef aj (cW.one (x:=t) (w:=W) hF.now);have S:ag (λk=>k=y) W w'':=ag.eM dH λ_ e=>by cases e;rfl
    rw[hrun];exact⟨D.tr S,dH,⟨_,hb2,.inr ⟨ay,Jz,JA,rfl,hF.up S λk e=>e▸G⟩⟩,trivial⟩
   ·exact absurd rfl h
  simp only[aO,aQ,cz,aJ,Nat.reduceAdd]at hA;obtain⟨_,U,⟨h,-⟩|⟨-,Z,JC,rfl,hF⟩⟩:=N
  ·cases h
  refine aH.h ?_;have kW:=C W D;have HW:Hid (MD t (.agg (gE t Z JC)) W):=ae (by
   obtain⟨vf,j,e,h1,h2⟩:=hF.now;simp at e;obtain⟨rfl,rfl⟩:=e;exact⟨_,_,rfl,h1,h2⟩)
  have e9:=U.cell;clear hA hF U D;go_wp2;refine bodyPost_ret (v:=.tuple #[.agg (gE t Z JC),.bool true]) agU rfl ?_;exact⟨_,by rw[HQ.aa],Fz,kW⟩
theorem aql l a j v u w(h:aq cW l v w)(hu:iU j u w)(hl:∀s∈l,eB s.e)(hlf:∀s∈l,cD s.e)(iy:j.length<=1000000)(LP:∀x∈j,mX x)(hlen:l.length<=1000000) :
 Calls prog 134 #[v,bU a,u] w λe w'=>∃v',e=.returned (.tuple #[v',.int .i64 (iY l a j).2])/\(∀W,aI w.heap.size none w' W->aq cW (iY l a j).1 v' W)/\K w w':=by
 have C1:=ae λW (kW:K w W)=>Om l v W (bo h kW) hl hlen
 have C2:=ae λW (kW:K w W)=>acB l a v W (bo h kW) hlen
 have C3:=ae λW (kW:K w W)=>acr (pE _ _ _ _ hu kW)
 obtain⟨A,d,rfl,tX,-⟩:=h
 have HU:Hid (∀W,K w W->iU j u W):=ae λW k=>pE _ _ _ _ hu k
 obtain⟨Ae,ce,rfl⟩:=xR hu
 clear hu
 have M:=ah.new w 26 #[.int .i64 a.1,.int .u64 a.2.1,.int .u64 a.2.2]
 have k1:=M.aS
 have HI:Hid (DP l a=match uP l a with|some k=>(k:Int)|none=>-1):=ae rfl
 have HC:Hid (iY l a j=match uP l a with|none=>(l,170)|some k=>match l[k]? with|none=>(l,170)|some t=>if fB j=false then (l,40)else if 8<=t.e.es.length then (l,171)else if rN (mm t.e j)then (l,172)else (l.set k ⟨mm t.e j,t.asked⟩,0)):=ae rfl
 have HO:=ae λk h=>@OK l a k h
 have HEV:=ae LP
 clear LP
 generalize iY l a j=R at *
 have q:=M.cells
 go_enter func134,ntmps134
 go_wp2
 go_step3
 go_wp2_with fail
 generalize w.alloc _=w1 at *
 apply DW (C1.aa w1 k1) k1
 intro u8 w2 y k2 bC
 generalize DP l a=I at *
 replace q:=M.av k2
 replace q:=ah.cell q
 go_wp2_with fail
 apply bF (C2.aa w2 bC)
 intro w3 k3
 replace bC:=bC.tr k3
 replace y:=y.st k3
 have mI:=k1.size
 have Cr:=ae λ(W W':World) (h:aV w1.heap.size w1.heap.size 128 cW l u8 W) (u:aI w.heap.size none W W')=>(h.up (aC _) (u.more mI (λk _ h=>h))).aq
 clear C1 C2 k3 k2 M q
 cases ho:uP l a with
 | none =>
  obtain rfl:I=-1:=Ds;have HQ:Hid (R=(l,170)):=ae K4;have HW:=ae λW u=>Cr.aa _ W y u
  clear y ho HI HC HO;go_wp2;go_step3;exact Ij
 | some k =>
  obtain rfl:I=(k:Int):=Ds;obtain⟨t,h1,-⟩:=HO.aa k ho;have HR:Hid (R=if fB j=false then (l,40)else if 8<=t.e.es.length then (l,171)else if rN (mm t.e j)then (l,172)else (l.set k ⟨mm t.e j,t.asked⟩,0)):=ae V0;obtain⟨hk,sV⟩:=List.getElem?_eq_some_iff.1 h1;have fA:(k:Int)<l.length:=af;have aEf:(0:Int)<=(k:Int):=af;clear ho HI HC HO h1;go_wp2;go_step3;go_wp2_with fail
  apply bF (C3.aa w3 bC);intro E k4;replace y:=y.st k4;replace bC:=bC.tr k4;cases hok:fB j
  ·have HQ:Hid (R=(l,40)):=ae (by rw[HR.aa,if_pos hok]);have HW:=ae λW u=>Cr.aa _ W y u
   have azO:jY j=40:=by unfold jY;rw[hok];rfl
   rw[azO];clear y HR;exact Ij
  have hc0:jY j=0:=by unfold jY;rw[hok];rfl
  rw[hc0];have fU:Hid (R=if 8<=t.e.es.length then (l,171)else if rN (mm t.e j)then (l,172)else (l.set k ⟨mm t.e j,t.asked⟩,0)):=ae (by rw[HR.aa,if_neg (by rw[hok];decide)]);clear HR;obtain⟨b1,off,cs,rfl,hcl,hrl,d0,d⟩:=ed tX k hk ay;have hst:=hl _ (bS hk);have D:=hlf _ (bS hk);rw[sV]at hrl hst D;obtain⟨vf,ve,rfl,hf,he⟩:=hrl w (K.rf w);have HE:Hid (∀W,K w W->cV t.e (.agg (aD t.e vf ve)) W):=ae λW k=>⟨_,_,rfl,eH _ _ _ _ hf k,bo he k⟩
  have d0:∀W,K w W->W.cell? ⟨b1,off+k*9,none⟩=some (.int .i64 t.e.kind):=d0;have d:∀W,K w W->∀i,i<9->W.cell? ⟨b1,off+k*9+i,none⟩=(gE t vf ve)[i]?:=λW kk i hi=>(d W kk i hi).trans Array.getElem?_toList
  clear hrl hcl hf he;have q:=d _ bC;go_wp2_with fail
  apply lQ (J8 t.e _ E (HE.aa _ bC) hst);rintro v5 w5⟨oD,k5⟩;obtain⟨Sj,Y,rfl,M3,T⟩:=oD;obtain⟨Q,c5,rfl,-⟩:=M3.slice;obtain⟨D5,d5,rfl,-⟩:=T.slice;have O:=ah.new w5 126 (aD t.e (.slice Q t.e.f.length c5) (.slice D5 t.e.es.length d5));have k6:=O.aS;go_upto_region 8 with (fail);generalize w5.alloc _=U at *;have Zn:=k5.tr k6;have sc:=bC;replace bC:=bC.tr Zn;have q6:=O.cell;clear q;by_cases h8:8<=t.e.es.length
  ·have xe:(8:Int)<=(t.e.es.length:Int):=af;have HQ:Hid (R=(l,171)):=ae (by rw[fU.aa,if_pos h8]);have HW:=ae λW u=>Cr.aa _ W (y.st Zn) u
   clear y fU M3 T;exact Ij
  have xe:¬(8:Int)<=(t.e.es.length:Int):=af;have xE:Hid (R=if rN (mm t.e j)then (l,172)else (l.set k ⟨mm t.e j,t.asked⟩,0)):=ae (by rw[fU.aa,if_neg h8]);clear fU;go_upto_region 10 with (fail);have aEg:=k5.size;have aEh:=k6.size;obtain⟨B,oz⟩:∃B,B=w5.heap.size:=⟨_,rfl⟩;rw[<- oz]at O q6⊢;have aEi:=O.lt;have JE:=T.blk;obtain⟨N,C⟩:∃N:Nat->Prop,N=λk=>(k<E.heap.size∨k=B)∨(Value.slice D5 t.e.es.length d5).ownBlock=some k:=⟨_,rfl⟩
  have hNl:∀k,N k->k<U.heap.size:=λk h=>aG
  have hoY:aA (λk=>k<E.heap.size∨k=B) E.heap.size 51 cG t.e.es (.slice D5 t.e.es.length d5) U:=(T.sR.to (ag.rf (λ_=>False) _) (λ_ h=>h.elim) (λ_ _ h=>h) λk hk h=>.inl af).st k6;have HX:=ae (show Fx N (λW=>fu t.e.f (.slice Q t.e.f.length c5) W) U from λW' u=>wP (Fg M3 λg h1 h2 h3=>(u.block g af (λhk=>by
   rw[C]at hk;rcases hk with (hk|hk)|hk
   ·omega
   ·omega
   ·obtain⟨cur,h4⟩:=lI M3 h3;exact absurd ((T.sR.own hk).2.2.elim λ_ h=>h4.gM h) ay)).trans (k6.block g h2)))
  have hne:(Value.slice D5 t.e.es.length d5).ownBlock≠some B:=λe=>by have:=JE B e;omega
  generalize hve:Value.slice D5 t.e.es.length d5=Y at *;generalize GC:Value.slice Q t.e.f.length c5=Sj at *;have aj7:Hid (∀W,K E W->K w W):=ae λW k=>sc.tr k
  have kR:∀W,qU Y U W->K E W:=λW u=>u.k Zn λk e=>(JE k e).1
  have qs:=λW (u:qU Y U W)=>(O.aX u hne).cell
  refine E4 7 5 t.e.es Y j 37 Jb [([],[]),([0],[(34,0)]),([],[]),([2],[(36,2)]),([3],[(37,3)]),([1,4],[(35,1),(38,4)]),([5],[]),([6,5],[(40,6),(39,5)])] 50 hoY af af ?_;iterate 3 refine au.i ?_
  refine au.op (λv W=>(∃A n c,v=.slice A n c)/\Fx N (λW=>iU j v W) W) (λv w w' ⟨e,h⟩ k=>⟨e,h.up (ag.eM (X:=λb=>Y.ownBlock=some b) k λ_ h=>h) λb h=>by rw[C];exact .inr h⟩) (λV W H hp=>?_) ?_
  ·simp only[cd,aO,aQ,bW,bY,aJ]at hp;obtain⟨wq,wu,e2,aW⟩:=HU.aa W (aj7.aa _ (kR W H));rw[e2]at hp;obtain⟨v',w'',hrun,h1,h5,h3⟩:=asO (P:=prog) (ρ:=aE [(36,2)] _ V) (.const (.slice none 0 0)) (.tmp 36) 51 51 76 W.heap.size _ 4 48 TE (.slice none 0 0) 0 [] rfl (jV _ _ _ _) W.heap.size wq j.length wu (j.flatMap mV) hp.1 aW (UD j) af (aC _);change cN _ _ _ ((execOp (aE [(36,2)] _ V) (aF (.call { callee:=.builtin .append,args:=#[.const (.slice none 0 0),.tmp 36],argTypes:=#[51,51] }) 51)).run _ _);rw[hrun];have ho:pP w'' W.heap.size v' j:=Bo;have hr:Fx N (λW=>iU j v' W) w'':=λW' u=>by obtain⟨v2,e3,h9⟩:=pP.rel ho W' (u.qZ λk h1 _ _ M=>by have:=hNl k M;have:=H.size;omega);injection e3 with e3;rw[e3];exact h9
   obtain⟨A3,c3,e3⟩:=xR hr.now;exact⟨⟨⟨_,_,_,e3⟩,hr⟩,h5⟩
  refine au.FV (S:=cG) (N:=N) U.heap.size Jb j (λ_ h=>h.size) (λb hb=>⟨by rw[C];exact .inr hb,hNl b (by rw[C];exact .inr hb)⟩) (λV W H hp=>?_) ?_
  ·simp only[cd,aO,aQ,bW,bY,aJ]at hp;obtain⟨⟨⟨A,n,c,e⟩,hF⟩,-⟩:=hp;show tT _ _ _ (V 3) _;rw[e]at hF⊢;exact⟨rfl,hF.mono λW h=>⟨_,rfl,h⟩⟩
  refine au.s ?_;refine au.i ?_;refine⟨λ_ _=>trivial,λV W H hp=>?_,λV W H Z hv hA=>?_⟩
  ·simp only[cd,aO,aQ,bW,bY,aJ]at hp;exact⟨hp.1,hp.2.1.less λ_ h=>by rw[C];exact h⟩
  simp only[aO,aQ,cz,aJ,Nat.reduceAdd]at hA;obtain⟨G,F,J⟩:=Z.slice;rw[cF,List.length_singleton]at J;rw[J]at Z;have hA:=And.intro J hA;have jB:=O.aX H hne;have qs:=And.intro jB.cell jB.frozen;refine aH.s ?_;refine aH.h ?_;have us:ag (λk=>k=B) W (W.setCell ⟨B,7,none⟩ (.slice G (t.e.es.length+1) F)):=ag.bL (X:=λk=>k=B) rfl 7 _;have aZ:ah (W.setCell ⟨B,7,none⟩ (.slice G (t.e.es.length+1) F)) B 126 (aD (mm t.e j) Sj (.slice G (t.e.es.length+1) F)):=jB.aM 7 _;have kW4:=us.k (kR W H) λk e=>af
  have C:∀W',ag (λk=>k<E.heap.size∨k=B) (W.setCell ⟨B,7,none⟩ (.slice G (t.e.es.length+1) F)) W'->fu t.e.f Sj W'/\aq cG (t.e.es++[j]) (.slice G (t.e.es.length+1) F) W':=λW' u=>by
   have u2:ag (λk=>k<E.heap.size∨k=B) W W':=(us.more λ_ h=>.inr h).tr u;refine⟨HX.aa W' ((H.more λk h=>by rw[C];exact .inr h).tr (u2.more λk h=>by rw[C];exact .inl h)),(Z.to u2 (λ_ h=>h) (λk e h=>?_) λ_ _ h=>.inl h).aq⟩;have h1:=Z.own e;rcases h with h|h
   ·omega
   ·subst h;exact absurd (h1.2.2.elim λ_ h=>h.gM jB) ay
  clear hA qs us Z hv;generalize World.setCell W _ _=W at *;have kW:=aj7.aa _ kW4;have q:=aZ.cell;have M4:cD (mm t.e j):=⟨D.1,D.2.1,D.2.2.1,D.2.2.2.1,D.2.2.2.2.1,D.2.2.2.2.2.1,D.2.2.2.2.2.2.1,λe he=>by
   rcases List.mem_append.1 he with h1|h1
   ·exact D.2.2.2.2.2.2.2 e h1
   ·simp at h1;subst h1;exact HEV.aa⟩
  have C4:=ae (adk (mm t.e j) (.agg (aD (mm t.e j) Sj (.slice G (t.e.es.length+1) F))) W ⟨_,_,rfl,(C W (ag.rf _ _)).1,(C W (ag.rf _ _)).2⟩ M4);have HN:=ae C;have HOW:=ae (y.st kW4);have ayT:=ae λg h=>(y.blk g h).2
  have xh:=ae (show w.heap.size<=E.heap.size from sc.size);clear HX y C M3 T hoY D hst M4 oz;subst GC;go_wp2_with fail
  apply bF C4.aa;intro L k8;have Sk:=ae (HOW.aa.st k8);have kw8:=kW.tr k8;have oM:=aZ.av k8;clear q aZ;cases Yg:rN (mm t.e j);rotate_left
  ·have HQ:Hid (R=(l,172)):=ae agV;have HW:=ae λW u=>Cr.aa _ W Sk.aa u
   clear Yg xE Sk HOW;go_wp2;try rw[gq]
   go_ret2;exact⟨_,ny,Fz,kw8⟩
  have HQ:Hid (R=(l.set k ⟨mm t.e j,t.asked⟩,0)):=ae agV;have y:=Sk.aa;have hkb:=y.blk;obtain⟨Q7,QM,azP,Zo⟩:=y;have Sl:=Zo L (aI.rf _ _ _);have sI:=Sl.lens;have hkc:k<Q7.length:=af;have cL:=Sl.FQ;obtain⟨vfo,veo,hcs,-,-⟩:=Sl.2 k hk hkc;rw[sV]at hcs;rcases QM.2 with ⟨h0,RI⟩|⟨go,cap,cur,rfl,-⟩
  ·omega
  have hgo:=(hkb go rfl).1;have azQ:=ayT.aa go rfl;have hqO:k*9+9<=Q7.flatten.length:=by rw[cL];show k*9+9<=l.length*9;omega
  obtain⟨hcell,hfz⟩:=Fb QM;have dO:∀i,i<9->L.cell? ⟨go,k*9+i,none⟩=(gE t vfo veo)[i]?:=λi hi=>by rw[hcell _ af,show k*9+i=k*cW.size+i from rfl,zm cW.size Q7 sI k i hkc hi,List.getElem?_eq_getElem hkc,Option.getD_some,hcs];exact Array.getElem?_toList
  have dO0:L.cell? ⟨go,k*9,none⟩=some (.int .i64 t.e.kind):=dO 0 af;have zO:=λi=>hfz (k*9+i)
  have zO0:=hfz (k*9);have q:=oM.cell;obtain⟨wX,QN⟩:∃wX:List Value,wX=(aD (mm t.e j) (.slice Q t.e.f.length c5) (.slice G (t.e.es.length+1) F)).toList:=⟨_,rfl⟩;have Zp:wX.length=8:=by rw[QN];rfl
  have fN:=O7 wX _ (k*9) L QM (by rw[Zp];omega);have J:=Ot cW.size wX Q7 sI k 0 hkc (by rw[Zp];decide);rw[show k*cW.size+0=k*9 from rfl]at J;rw[J,hcs]at fN;have fD:nW (gE t vfo veo).toList 0 wX=(gE ⟨mm t.e j,t.asked⟩ (.slice Q t.e.f.length c5) (.slice G (t.e.es.length+1) F)).toList:=by rw[QN];rfl
  rw[fD]at fN;have uG:=ag.sets (X:=λk=>k=go) (g:=go) rfl wX (k*9) L;have uX:=ag.sets (X:=λk=>k<E.heap.size∨k=B) (g:=go) (.inl azQ) wX (k*9) L;have HK:=ae (aI.k (uG.qZ (lo:=0) (row:=some go) (λk _ _ h e=>h KU)) kw8 (by rintro b e;cases e;omega));have HW:Hid (∀W',aI w.heap.size none (dV L go (k*9) wX) W'->aq cW (l.set k ⟨mm t.e j,t.asked⟩) (.slice (some ⟨go,0,none⟩) l.length cap) W'):=ae λW' u=>by have h9:=HN.aa _ (((ag.aT k8 _).tr uX).tr (aI.upN u (λk hk=>by rcases hk with hk|hk;exact .inl (by omega);cases hk)));have Zq:=(Zo _ ((uG.qZ (λk _ _ h e=>h Bu)).tr (u.more mI (λk _ _=>aj)))).set k (x:=⟨mm t.e j,t.asked⟩) (cs:=(gE ⟨mm t.e j,t.asked⟩ (.slice Q t.e.f.length c5) (.slice G (t.e.es.length+1) F)).toList) ⟨_,_,rfl,h9.1,h9.2⟩;exact OI (S:=cW) (Fg (by rw[List.length_set];exact fN) λg h1 h2 _=>u.block g af h2 aj) Zq
  rw[QN]at HW HK;clear hcell hfz QM fN Zo sI cL hkb HN uG uX J fD Zp QN Sl hcs azP hqO Sk HOW xE Yg sV HU;go_wp2;try rw[gq]
  go_ret2;exact⟨_,ny,Fz,HK.aa⟩
theorem aH.call{P j E k o r x xs V w}
 f args (hg:o.guard=none) (t:(execOp (aE x.2 j V) (aF o.op o.type)).run P w=.ok (.enter f args) w) (h:Calls P f args w λe u=>∃v,e=.returned v/\aH P j E (k+1) r xs (ba V k v) u):aH P j E k (o :: r) (x :: xs) V w:=by
 unfold aH
 rw[hg,if_pos (show bP V none=true from rfl),t]
 exact h
theorem jo.zW{l}(h:jo l):l.length<=1000000:=by have:=h.len;omega
theorem aoV{M p B w}(h:bA M p B w)(y:bD B) a :
 Calls prog 55 #[.pointer (some ⟨p.g,0,none⟩),bU a] w λe w'=>e=.returned (.int .i64 (fo B (jG B.aB a)).2)/\dC M p (fo B (jG B.aB a)).1 w w':=by
 have u:=ae λW (k:K w W)=>arC B.aB a p.vt W (h.bI.at k).aB y.tx.small y.tx.zW
 have H:=ae h
 have hz:=λk hk=>h.low k hk
 have X:=ae λk hk=>h.low k (h.sub k hk)
 have C:=ae λW (k:K w W) v O=>ab2 (h.st k) (l:=(jG B.aB a).1) (v:=v) (jG B.aB a).2 O
 have q:=h.q
 have hb:=ah.new w 26 #[.int .i64 a.1,.int .u64 a.2.1,.int .u64 a.2.2]
 have t:=hb.aS
 have A:=aw h.bI.now.aB
 obtain⟨g,gl,gd,gr,gt,vd,vr,vp,vh,vl,vq,va,vt,vf,vw,kr⟩:=p
 simp only at q u A
 obtain⟨At,ct,rfl⟩:=A
 generalize Q:jG B.aB a=R at *
 obtain⟨J,rc⟩:=R
 have Y:=ae hz
 clear h y Q hz
 go_enter func55,ntmps55
 go_upto_region 1 with (fail)
 generalize w.alloc _=j at *
 generalize w.heap.size=ga at hb⊢
 have E:=hb.cells
 have I:=λW (k:K j W)=>q W (t.tr k)
 clear q hb
 go_upto_region 3 with (fail)
 have qs:=And.intro I E
 refine dD 9 [([],[]),([],[]),([1],[(8,1)]),([2],[(9,2)]),([3],[(10,3)]),([],[]),([4,5],[(11,4),(12,5)]),([6],[(13,6)]),([6],[(13,6)]),([0,6,7,8],[(7,0),(14,7),(15,8)]),([0,1,2,3,4,5,6,7,8,9],[(16,9)])] 17 ?_
 iterate 6 refine au.i ?_
 refine au.op (λv W=>∃v',v=.tuple #[v',.int .i64 rc]/\aV j.heap.size j.heap.size 128 cW J v' W) (λ_ _ _ ⟨v',e,h⟩ k=>⟨v',e,h.st k⟩) (λV W kW hp=>?_) ?_
 ·(try simp only[cd,aO,aQ,bW,bY,aJ]at hp)
  simp[bP,aE,List.lookup,hp,cN,execOp,aF,I,E,go_sem];refine (u.aa W (t.tr kW)).mono ?_;rintro e w4⟨v4,rfl,hO,N⟩;exact⟨_,rfl,⟨_,rfl,aV.low (aV.floor hO kW.size) kW.size⟩,N⟩
 refine au.op (λv W=>aV j.heap.size j.heap.size 128 cW J v W) (λ_ _ _ h k=>h.st k) (λV W kW hp=>?_) ?_
 ·exact PZ
 refine au.is (.int .i64 rc) (λV W kW hp=>?_) ?_
 ·exact P4
 clear qs
 intro V W kW hA
 simp only[aO,aQ,cz,aJ,Nat.reduceAdd]at hA
 obtain⟨S,e1,e2,e3,e4,e5,⟨v',e6,U⟩,hO,T,-⟩:=hA
 have G:=t.tr kW
 have F:=(aV.sR hO).fx (λ_ h=>h) |>.less λk hk=>bz (Y.aa k hk) t.size
 refine aH.call _ _ rfl (by simp[aE,List.lookup,ba,S,T,execOp,aF,go_sem];exact⟨rfl,rfl⟩) ?_
 refine (C.aa W G (V 7) F).mono ?_
 rintro e Z⟨rfl,D⟩
 refine⟨_,rfl,?_⟩
 have L:=ae (D.y4 G X.aa)
 apply aH.pure
 rfl
 simp[aE,List.lookup,ba,execOp,aF,go_sem]
 rfl
 refine aH.e ?_
 clear hO U F D u C
 go_wp2
 go_ret
 exact⟨V3,L.aa⟩
def xF(lo:Nat){α:Type}(S:dW α)(l:List α)(v:Value)(w:World):Prop:=∀W,aI lo none w W->aq S l v W
theorem xF.st{lo α S}{l:List α}{v w w'}(h:xF lo S l v w)(k:K w w'):xF lo S l v w':=λW u=>h W ((aI.aT k _ _).tr u)
theorem xF.low{lo j α S}{l:List α}{v w}(h:xF lo S l v w)(k:j<=lo):xF j S l v w:=λW u=>h W (u.more k λ_ _ h=>h)
theorem xF.fx{lo α S}{l:List α}{v w M}(h:xF lo S l v w)(j:∀k,M k->k<lo):Fx M (λW=>aq S l v W) w:=Fx.fresh h j
theorem aow{M p B w}(h:bA M p B w)(t:bD B) a j u(C:iU j u w)(Y:j.length<=1000000)(G:∀x∈j,mX x) :
 Calls prog 84 #[.pointer (some ⟨p.g,0,none⟩),bU a,u] w λe w'=>e=.returned (.int .i64 (fo B (iY B.aB a j)).2)/\dC M p (fo B (iY B.aB a j)).1 w w':=by
 have A:=ae λW (k:K w W)=>aql B.aB a j p.vt u W (h.bI.at k).aB (pE _ _ _ _ C k) t.tx.small (λs hs=>(t.tx.each s hs).2.1) Y G t.tx.zW
 have H:=ae h
 have hz:=λk hk=>h.low k hk
 have HX:=ae λk hk=>h.low k (h.sub k hk)
 have F:=ae λW (k:K w W) v U=>ab2 (h.st k) (l:=(iY B.aB a j).1) (v:=v) (iY B.aB a j).2 U
 have q:=h.q
 have hb:=ah.new w 26 #[.int .i64 a.1,.int .u64 a.2.1,.int .u64 a.2.2]
 have y:=hb.aS
 have E:=aw h.bI.now.aB
 obtain⟨g,gl,gd,gr,gt,vd,vr,vp,vh,vl,vq,va,vt,vf,vw,kr⟩:=p
 simp only at q A E
 obtain⟨At,ct,rfl⟩:=E
 obtain⟨Au,cu,rfl⟩:=xR C
 generalize X:iY B.aB a j=R at *
 obtain⟨Q,rc⟩:=R
 have HZ:=ae hz
 clear h t X hz C G
 go_enter func84,ntmps84
 go_upto_region 1 with (fail)
 generalize w.alloc _=D at *
 generalize w.heap.size=ga at hb⊢
 have J:=hb.cells
 have O:=λW (k:K D W)=>q W (y.tr k)
 clear q hb
 go_upto_region 3 with (fail)
 have qs:=And.intro O J
 refine dD 10 [([],[]),([],[]),([1],[(10,1)]),([2],[(11,2)]),([3],[(12,3)]),([],[]),([],[]),([4,5,6],[(13,4),(14,5),(15,6)]),([7],[(16,7)]),([7],[(16,7)]),([0,7,8,9],[(9,0),(17,8),(18,9)]),([0,1,2,3,4,5,6,7,8,9,10],[(19,10)])] 20 ?_
 iterate 7 refine au.i ?_
 refine au.op (λv W=>∃v',v=.tuple #[v',.int .i64 rc]/\xF D.heap.size cW Q v' W) (λ_ _ _ ⟨v',e,h⟩ k=>⟨v',e,h.st k⟩) (λV W kW hp=>?_) ?_
 ·(try simp only[cd,aO,aQ,bW,bY,aJ]at hp)
  simp[bP,aE,List.lookup,hp,cN,execOp,aF,O,J,go_sem];refine (A.aa W (y.tr kW)).mono ?_;rintro e w4⟨v4,rfl,hO,T⟩;exact⟨_,rfl,⟨_,rfl,xF.low hO kW.size⟩,T⟩
 refine au.op (λv W=>xF D.heap.size cW Q v W) (λ_ _ _ h k=>h.st k) (λV W kW hp=>?_) ?_
 ·exact PZ
 refine au.is (.int .i64 rc) (λV W kW hp=>?_) ?_
 ·exact P4
 clear qs
 intro V W kW hA
 simp only[aO,aQ,cz,aJ,Nat.reduceAdd]at hA
 obtain⟨e0,e1,e2,e3,e4,e5,e6,⟨v',e7,Z⟩,hO,e9,-⟩:=hA
 have N:=y.tr kW
 have L:=xF.fx hO λk hk=>bz (HZ.aa k hk) y.size
 refine aH.call _ _ rfl agW ?_
 refine (F.aa W N (V 8) L).mono ?_
 rintro e w5⟨rfl,I⟩
 refine⟨_,rfl,?_⟩
 have S:=ae (I.y4 N HX.aa)
 apply aH.pure
 rfl
 simp[aE,List.lookup,ba,execOp,aF,go_sem]
 rfl
 refine aH.e ?_
 clear hO Z L I A F
 go_wp2
 go_ret
 exact⟨V3,S.aa⟩
