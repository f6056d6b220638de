/-
  The walk of 'awake' of the statements of layer 20. Conditions: none.
-/
import Derived.Test.YtoeiinllelipoaaGreatMa31
import Derived.Test.YtoeiinllelipoaaGreatMz
set_option maxRecDepth 100000
set_option maxHeartbeats 16000000
set_option linter.unusedVariables false
set_option linter.unusedSimpArgs false
namespace Go.Proofs.YtoeiinllelipoaaGreat
open Go Go.RowKit _root_.Go.Proofs.Tryz
theorem asa(n:Int)(w:World):Calls prog 29 #[.int .i64 n] w λe w'=>e=.returned (.agg #[.int .i64 1,.int .i64 n,.string ⟨#[]⟩])/\K w w':=by have i:=ai.new w 79 #[.int .i64 0,.int .i64 0,.string ⟨#[]⟩];have s:K w (w.alloc (.cells #[.int .i64 0,.int .i64 0,.string ⟨#[]⟩] 79)):=(K.rf w).al _;go_enter func29,ntmps29;go_upto_region 1 with (fail);generalize w.alloc _=j at *;generalize hg:w.heap.size=g at i⊢;have HG:=ae hg;clear hg;have q:=i.cell;have z:=i.frozen;go_wp2;have u:ai (World.setCell (World.setCell (World.setCell j _ _) _ _) _ _) g 79 #[.int .i64 1,.int .i64 n,.string ⟨#[]⟩]:=((i.aR 0 (.int .i64 1)).aR 1 (.int .i64 n)).aR 2 (.string ⟨#[]⟩);have t:=K.set (K.set (K.set s (r:=g) PH 0 (.int .i64 1)) (r:=g) PH 1 (.int .i64 n)) (r:=g) PH 2 (.string ⟨#[]⟩);clear q z;generalize World.setCell (World.setCell (World.setCell j _ _) _ _) _ _=A at *;have y:=u.cell;refine bodyPost_ret (v:=.agg #[.int .i64 1,.int .i64 n,.string ⟨#[]⟩]) (by simp[results,results29,go_sem,y]) rfl ?_;exact⟨rfl,t⟩
theorem OI{w:World}(l:List Int)(T:TypeId){M:Nat->Prop}(s:∀k,M k->k<w.heap.size):Fx M (λW=>ar eS l (.slice (some ⟨w.heap.size,0,none⟩) l.length l.length) W) (w.alloc (.cells (l.map λn=>Value.int .i64 n).toArray T)):=by
 intro W u;have hb:=(ai.new w T (l.map λn=>Value.int .i64 n).toArray).bT u λh=>by have:=s _ h;omega
 refine⟨_,_,rfl,⟨l.map zo,J8 _ _,by rw[T4];simp[eS],λ_=>⟨_,0,rfl,hb.lt,λj u i=>?_⟩⟩,aG _⟩;rw[T4]at i;rw[fP,hb.cell j,List.getElem?_toArray];exact i
theorem awF(w:World)(t:bc)(T:TypeId):eJ [t] (.slice (some ⟨w.heap.size,0,none⟩) 1 1) (w.alloc (.cells (dY t).toArray T)) :=
 ⟨_,_,rfl,by simpa using (Reads.new w (dY t) T 5 1 rfl).more (by simp)⟩
theorem awG(w:World)(t:bh)(T:TypeId):ik [t] (.slice (some ⟨w.heap.size,0,none⟩) 1 1) (w.alloc (.cells (jQ t).toArray T)) :=
 ⟨_,_,rfl,by simpa using (Reads.new w (jQ t) T 4 1 rfl).more (by simp)⟩
theorem ai.z{Z:Nat->Prop}{W i:World}{g:Nat}{t:TypeId}{cs:Array Value}(h:ai W g t cs)(u:ah (λk=>¬Z k) W i)(hz:Z g):ai i g t cs:=h.bT u λhn=>hn hz
theorem asb(a b c d:Value)(W:World):(Instr.field 52 (.agg #[a,b,c,d]) 0).run prog W=.ok a W:=by kernel_rfl
theorem ao2(w:World):Calls prog 6 #[] w λe w'=>e=.returned (.bool true)/\K w w':=by
 have C1:=ae (agr 10000 w af)
 go_enter func6,ntmps6
 go_wp2_with fail
 refine C1.aa.mono ?_
 rintro e j⟨rfl,L,k1⟩
 clear C1
 obtain⟨gd,hgd⟩:∃gd,gd=w.heap.size:=⟨_,rfl⟩
 rw[<- hgd]at L⊢
 have Sg:=ae hgd
 clear hgd
 have R:K j ((j.alloc (.cells #[.int .i64 (-1)] 3)).alloc (.cells #[.int .i64 0] 3)):=((K.rf j).al _).al _
 have hdx:=L.lt
 have E:Fx (jf gd (.slice none 0 0)) (λW=>ar eS [-1] (.slice (some ⟨j.heap.size,0,none⟩) 1 1) W) ((j.alloc (.cells #[.int .i64 (-1)] 3)).alloc (.cells #[.int .i64 0] 3)):=(OI [-1] 3 hdx).k ((K.rf _).al _)
 have C:(j.alloc (.cells #[.int .i64 (-1)] 3)).heap.size=j.heap.size+1:=aj
 have B:Fx (jf gd (.slice none 0 0)) (λW=>ar eS [0] (.slice (some ⟨j.heap.size+1,0,none⟩) 1 1) W) ((j.alloc (.cells #[.int .i64 (-1)] 3)).alloc (.cells #[.int .i64 0] 3)):=by
  have:=OI (w:=j.alloc (.cells #[.int .i64 (-1)] 3)) [0] 3 (M:=jf gd (.slice none 0 0)) λk hk=>by rw[C];have:=hdx k hk;omega
  rw[C]at this;exact this
 have C2:=ae (abo gd (.slice none 0 0) ⟨[],10000⟩ iL [-1] [0] 0 _ _ _ (L.st R) (kX.new af) FN.nil xx E B au au au)
 have hzd:∀k,k<w.heap.size->¬jf gd (.slice none 0 0) k/\k<((j.alloc (.cells #[.int .i64 (-1)] 3)).alloc (.cells #[.int .i64 0] 3)).heap.size:=λk hk=>⟨λh=>by
  rcases h with h|h
  ·have:=Sg.aa;omega
  ·simp[Value.ownBlock]at h,by have:=k1.size;have:=R.size;omega⟩
 have bw:=k1.tr R
 clear L E B C hdx
 go_wp2_with fail
 generalize World.alloc (World.alloc j _) _=w2 at *
 refine C2.aa.mono ?_
 intro e A i
 unfold DH at i
 rw[if_pos aj7]at i
 obtain⟨q,hq⟩:=i
 have he:=hq.ret
 subst he
 obtain⟨hL,u3⟩:=j8.new (Z:=λk=>k<w.heap.size) hq (bH.open_ au au au ((kX.new (room:=10000) af).life aj7)) hzd
 have dW:K w A:=u3.k bw λk hk=>af
 generalize q.g=g at *
 have HL:j8 (λk=>k<w.heap.size) g SS A:=hL
 clear C2 hzd hq hL u3 bw R k1
 go_wp2_with fail
 have kB:K A (A.alloc (.cells #[.string ⟨#[112]⟩,.int .i64 8,.int .i64 0,.int .i64 0,.string ⟨#[]⟩] 81)):=(K.rf A).al _
 have C3:=ae (azD (HL.st kB) 0 pd aka.1 7 af YF _ (awF A (⟨#[112]⟩,8,0,0,⟨#[]⟩) _) (by simp[iH,bU]) aj)
 rw[ayh]at C3
 have NK:=dW.tr kB
 clear HL dW
 generalize A.alloc _=w3b at *
 refine C3.aa.mono ?_
 rintro e w4⟨rfl,CG,u4⟩
 have oX:K w w4:=u4.k NK λk hk=>af
 have G0:j8 (λk=>k<w.heap.size) g SU w4:=CG
 clear C3 CG u4 kB NK
 go_upto_region 4 with (fail)
 have kC:K w4 (w4.alloc (.cells #[.int .i64 0,.int .u64 1,.int .u64 1] 46)):=(K.rf w4).al _
 have aO:=ai.new w4 46 #[.int .i64 0,.int .u64 1,.int .u64 1]
 have pL:=G0.more (Z':=λk=>k<w.heap.size∨k=w4.heap.size) kC λk hk=>hk.imp id λe=>by rw[e];exact⟨aG _,aO.lt⟩
 have sA:=oX.tr kC
 generalize w4.alloc _=w5 at *
 generalize w4.heap.size=G at *
 clear G0 oX kC
 have C4:=ae (axx pL 0 pd aka.2)
 rw[ayi]at C4
 clear pL
 go_wp2_with fail
 refine C4.aa.mono ?_
 rintro e u⟨rfl,Cl,u6⟩
 have AK:K w u:=u6.k sA λk hk=>af
 have iy:=aO.z u6 (.inr rfl)
 have Sd:j8 (λk=>k<w.heap.size∨k=G) g NH u:=Cl
 clear C4 Cl u6 sA aO
 go_upto_region 5 with (fail)
 have T:K u (u.alloc (.cells #[.int .i64 0,.int .u64 1,.int .u64 2] 46)):=(K.rf u).al _
 have F:=ai.new u 46 #[.int .i64 0,.int .u64 1,.int .u64 2]
 have R6:=Sd.more (Z':=λk=>(k<w.heap.size∨k=G)∨k=u.heap.size) T λk hk=>hk.imp id λe=>by rw[e];exact⟨aG _,F.lt⟩
 have nS:=AK.tr T
 have U:=iy.below T iy.lt
 generalize u.alloc _=w7 at *
 generalize u.heap.size=b2 at *
 clear Sd AK T iy
 have J:=F.cells
 have C5:=ae λW=>asa 5 W
 refine eM 5 [([],[]),([],[]),([],[]),([2],[(46,2)]),([3],[(47,3)]),([0,1,2,4],[(44,0),(45,1),(48,4)]),([0,1,2,3,4,5],[(49,5)])] 149 rfl ak ak ak ak au ?_
 simp only[dR,dN,ew,dP]
 iterate 2 (apply aV.is;intro V W s i;(try simp only[aI,aJ,aM,aE,aF,ag]at i);simp[aL,aw,List.lookup,i,aS,execOp,ay,ag,aN,s,J,go_sem];rfl)
 refine aV.is (.agg #[.int .i64 1,.int .i64 5,.string ⟨#[]⟩]) (λV W s i=>?_) ?_
 ·(try simp only[aI,aJ,aM,aE,aF,ag]at i)
  simp[aL,aw,List.lookup,i,aS,execOp,ay,ag,J,go_sem];refine (C5.aa W).mono ?_;exact sW
 (apply aV.is;intro V W s i;(try simp only[aI,aJ,aM,aE,aF,ag]at i);simp[aL,aw,List.lookup,i,aS,execOp,ay,ag,aN,s,J,go_sem];rfl)
 refine aV.op (ik Mb) (mR _) (λV W s i=>?_) ?_
 ·simp only[aI,aJ,aM,aE,aF,ag]at i;simp[aL,aw,List.lookup,i,aS,execOp,ay,go_sem];exact⟨awG W (⟨#[112]⟩,1,5,⟨#[]⟩) _,(K.rf W).al _⟩
 intro V W s hA
 simp only[aJ,aM,eA,ag,Nat.reduceAdd]at hA
 obtain⟨e0,e1,e2,e3,h4,-⟩:=hA
 have tD:=nS.tr s
 have iP:=U.below s U.lt
 have hcW:=F.below s F.lt
 have C6:=ae (avo (R6.st s) (0,1,2) (by simp[df,bU]) Mb (V 4) h4 aj (by simp[mV,bU]))
 rw[ayj]at C6
 refine bu.call _ _ rfl (by simp[aw,List.lookup,bj,e0,e1,execOp,ay,go_sem];exact⟨rfl,rfl⟩) ?_
 refine C6.aa.mono ?_
 rintro e w8⟨rfl,pH,O⟩
 refine⟨_,rfl,?_⟩
 have rP:K w w8:=O.k tD λk hk=>af
 have mM:=iP.z O (.inl (.inr rfl))
 have hc8:=hcW.z O (.inr rfl)
 have Rt:j8 (λk=>(k<w.heap.size∨k=G)∨k=b2) g NI w8:=pH
 apply bu.pure
 rfl
 simp[aw,List.lookup,bj,execOp,ay,go_sem]
 rfl
 refine bu.nil ?_
 simp only[bF,Act.put,cO,cM,cL,Nat.reduceAdd,bj,Nat.reduceEqDiff,reduceIte]
 clear C6 C5 R6 pH O s J U F iP hcW e0 e1 e2 e3 h4 tD nS
 generalize V 0=x0 at *
 generalize V 1=x1 at *
 generalize V 2=x2 at *
 generalize V 3=x3 at *
 generalize V 4=x4 at *
 clear V
 have y:=hc8.cell
 have C7:=ae (awE Rt (0,1,2) (by simp[df,bU]))
 rw[ayk]at C7
 clear Rt
 go_wp2_with fail
 refine C7.aa.mono ?_
 rintro e w9⟨rfl,rL,u9⟩
 have G9:K w w9:=u9.k rP λk hk=>af
 have bo:=mM.z u9 (.inl (.inr rfl))
 have H:=hc8.z u9 (.inr rfl)
 have AE:j8 (λk=>(k<w.heap.size∨k=G)∨k=b2) g NJ w9:=rL
 clear C7 rL u9 rP mM hc8 y
 have y:=H.cell
 have C8:=ae (Xp AE (0,1,2))
 rw[ayl]at C8
 go_wp2_with fail
 refine C8.aa.mono ?_
 rintro e iB⟨rfl,D⟩
 have ala:=G9.tr D
 have alb:=bo.below D bo.lt
 have alc:=H.below D H.lt
 have C9:=ae (ayg (AE.st D) aj9.1 aj9.2)
 clear C8 y AE bo H G9 D
 go_wp2_with fail
 refine C9.aa.mono ?_
 rintro e yJ⟨rfl,QP,Q⟩
 have ald:K w yJ:=Q.k ala λk hk=>af
 have zw:=alb.z Q (.inl (.inr rfl))
 have YG:=alc.z Q (.inr rfl)
 have N:j8 (λk=>(k<w.heap.size∨k=G)∨k=b2) g Hp yJ:=QP
 have JO:=ae (aj6 N 0 0)
 rw[aym]at JO
 clear C9 QP Q ala alb alc
 go_wp2_with fail
 refine JO.aa.mono ?_
 rintro e SV⟨v12,rfl,ale,S⟩
 obtain⟨A12,c12,rfl⟩:=az ale.sG.ar
 have alf:=ald.tr S
 have Y:=ae (aj6 (N.st S) 0 2)
 rw[ayn]at Y
 clear JO ale
 go_wp2_with fail
 refine Y.aa.mono ?_
 rintro e t⟨v13,rfl,I6,je⟩
 obtain⟨A13,c13,rfl⟩:=az I6.sG.ar
 have alg:=alf.tr je
 have akb:=S.tr je
 clear Y I6 S je alf
 have X:K t ((t.alloc (.cells #[.int .i64 (-1)] 3)).alloc (.cells #[.int .i64 0] 3)):=((K.rf t).al _).al _
 have E:=((OI (w:=t) [-1] 3 (M:=λ_=>False) (λ_ h=>h.elim)).k ((K.rf _).al (.cells #[.int .i64 0] 3))).now
 have C:(t.alloc (.cells #[.int .i64 (-1)] 3)).heap.size=t.heap.size+1:=aj
 have B:=(OI (w:=t.alloc (.cells #[.int .i64 (-1)] 3)) [0] 3 (M:=λ_=>False) (λ_ h=>h.elim)).now
 rw[C]at B
 have C12:=ae (adw [-1] [0] 1 (.slice (some ⟨t.heap.size,0,none⟩) 1 1) (.slice (some ⟨t.heap.size+1,0,none⟩) 1 1) (.pointer (some ⟨gd,0,none⟩)) ((t.alloc (.cells #[.int .i64 (-1)] 3)).alloc (.cells #[.int .i64 0] 3)) E B aj aj (.inr ⟨_,rfl⟩) (.inr (.inl au)))
 rw[show iw [-1]=true from by decide,if_pos rfl]at C12
 clear E B C
 go_wp2_with fail
 generalize World.alloc (World.alloc t _) _=w14 at *
 refine C12.aa.mono ?_
 rintro e w15⟨rfl,De⟩
 have I:=(akb.tr X).tr De
 have azF:=(alg.tr X).tr De
 have YH:=ae (N.st I)
 have azG:=zw.below I zw.lt
 have YI:=YG.below I YG.lt
 clear C12 X De akb I alg N zw YG ald
 have q1:=azG.cell
 have y:=YI.cell
 have C13:=ae λW (k:K w15 W)=>Xp (YH.aa.st k) (0,1,1)
 have C14:=ae λW (k:K w15 W)=>Xp (YH.aa.st k) (0,1,2)
 rw[aj8.1]at C13
 rw[aj8.2]at C14
 go_wp2_with fail
 refine (C13.aa w15 (K.rf _)).mono ?_
 rintro e w16⟨rfl,Nx⟩
 have azH:=YI.below Nx YI.lt
 clear q1 y C13
 have y:=azH.cell
 go_wp2_with fail
 refine (C14.aa w16 Nx).mono ?_
 rintro e w17⟨rfl,JK⟩
 have akc:=Nx.tr JK
 have C15:=ae (axy (YH.aa.st akc))
 clear y C14
 go_wp2_with fail
 refine C15.aa.mono ?_
 rintro e w18⟨vl,vp,va,rfl,hst,Nz⟩
 obtain⟨hs1,dX,dF⟩:=hst.now
 obtain⟨_,_,rfl⟩:=az hs1
 obtain⟨_,_,rfl⟩:=az dX
 obtain⟨_,_,rfl⟩:=az dF
 clear hst hs1 dX dF
 have kF:=azF.tr (akc.tr Nz)
 have yd:((Hp.st.life:Nat):Int)=1:=by rw[ayo];rfl
 simp only[bS,yd]
 have cC:=asb
 clear C15
 go_wp2
 go_ret
 exact⟨rfl,kF⟩
section
open Go Go.RowKit Go.ChangeShapes Go.WideShapes Go.ChangeAt
theorem dE.grow{X X' Z Z':Nat->Prop}{g gd:Nat}{B:aB}{W i:World}(h:dE X Z g gd B W)(u:ah X W i)(y:∀k,X k->Z k)(s:∀k,X' k->X k∨(W.heap.size<=k/\k<i.heap.size))(A:∀k,Z' k->Z k∨(W.heap.size<=k/\k<i.heap.size)):dE X' Z' g gd B i:=by
 obtain⟨t,p,hb,hg,hz⟩:=h;refine⟨t,p,hb.far u (λ_ h=>.inl h) (λk hk=>(hz k (y k hk)).1) (λk hk j=>j.elim (λh=>.inl ((s k h).resolve_right af)) .inr) (λ_ h=>.inr h) (λk hk=>?_),hg,λk hk=>?_⟩
 ·rcases hk with h|h
  ·rcases s k h with h|h
   ·exact bB (hb.low k (.inl h)) u.size
   ·exact h.2
  ·exact bB (hb.low k (.inr h)) u.size
 ·rcases A k hk with h|h
  ·exact⟨(hz k h).1,bB (hz k h).2 u.size⟩
  ·exact⟨λj=>by have:=hb.low k (hb.sub k j);omega,h.2⟩
theorem alh{Z:Nat->Prop}{p:World->Prop}{w W:World}(h:∀W,K w W->p W)(hz:∀k,k<w.heap.size->Z k)(k:K w W):Fx (λk=>¬Z k) p W:=λs u=>h s (u.k k λj t=>Nat.le_of_not_lt λi=>t (hz j i))
end
section
open Go Go.RowKit Go.ChangeShapes Go.WideShapes Go.ChangeAt
def awH(w:World)(e:Ending)(w':World):Prop :=
 (∃a b,e=.returned (.tuple #[.pointer none,a,b])/\K w w') ∨
 ∃g gd B a b,e=.returned (.tuple #[.pointer (some ⟨g,0,none⟩),a,b])/\dE (λ_=>False) (λk=>k<w.heap.size) g gd B w'/\kY B 40/\K w w'
theorem adb{B:aB}(s:bH B)(c:Int)(j:List bz×Int):df (lF B c j).2.1:=by
 have i:df (0,0,0):=⟨pd,aj,aj⟩;unfold lF;split
 ·split
  ·exact s.new
  ·exact i
 ·exact i
section
variable {g gd gi:Nat} {B:aB} {w W:World} {v:Value} {l:List av}
theorem axz{cs:Array Value}{i:World}(C:ai W gi 46 cs)(A:cs.size=3)(u:dE (λk=>k=gi∨v.ownBlock=some k) (λk=>(k<w.heap.size∨v.ownBlock=some k)∨k=gi) g gd B W)(s:aT (λ_=>True) w.heap.size 46 bI l v W)(j:w.heap.size<=gi)(t:v.ownBlock≠some gi)(k:K w W)(a:av)(e:((W.setCell ⟨gi,0,none⟩ (.int .i64 a.1)).setCell ⟨gi,1,none⟩ (.int .u64 (a.2.1:Int))).setCell ⟨gi,2,none⟩ (.int .u64 (a.2.2:Int))=i) :
 ai i gi 46 (bZ a)/\dE (λk=>k=gi∨v.ownBlock=some k) (λk=>(k<w.heap.size∨v.ownBlock=some k)∨k=gi) g gd B i/\aT (λ_=>True) w.heap.size 46 bI l v i/\K w i:=by
 subst e
 obtain⟨x,y,z,rfl⟩:∃x y z,cs=#[x,y,z]:=by
  obtain⟨cs⟩:=cs
  match cs,A with
  | [x,y,z],_=>exact⟨x,y,z,rfl⟩
 have u9:ah (λk=>k=gi) W (((W.setCell ⟨gi,0,none⟩ (.int .i64 a.1)).setCell ⟨gi,1,none⟩ (.int .u64 (a.2.1:Int))).setCell ⟨gi,2,none⟩ (.int .u64 (a.2.2:Int))):=((ah.b6 (X:=λk=>k=gi) rfl _ _).tr (ah.b6 (X:=λk=>k=gi) rfl _ _)).tr (ah.b6 (X:=λk=>k=gi) rfl _ _)
 exact⟨((C.aR 0 _).aR 1 _).aR 2 _,u.far (u9.more λ_ h=>.inl h) λk h=>h.elim .inr λh=>.inl (.inr h),s.ids u9 λb hb hn=>t (hn▸hb),K.set (K.set (K.set k (r:=gi) j 0 _) (r:=gi) j 1 _) (r:=gi) j 2 _⟩
theorem avp{i:Value}{t:List av}{j:World}(u:dE (λk=>k=gi∨v.ownBlock=some k) (λk=>(k<w.heap.size∨v.ownBlock=some k)∨k=gi) g gd B W)(hg:W.grownBy j v.ownBlock)(y:i.ownBlock=v.ownBlock∨i.ownBlock=some W.heap.size)(s:aT (λ_=>True) w.heap.size 46 bI t i j) :
 dE (λk=>i.ownBlock=some k) (λk=>k<w.heap.size∨i.ownBlock=some k) g gd B j:=by
 have hz:=s.blk
 have hn:∀k,i.ownBlock=some k->v.ownBlock=some k∨W.heap.size<=k/\k<j.heap.size:=λk hk=>by
  rcases y with h|h
  ·exact .inl (h▸hk)
  ·exact .inr ⟨by rw[h]at hk;injection hk with hk;rw[<- hk];simp,(hz k hk).2⟩
 exact u.grow (ah.fM (X:=λk=>k=gi∨v.ownBlock=some k) hg λk e=>.inr e) (λk h=>h.elim .inr λh=>.inl (.inr h)) (λk hk=>(hn k hk).imp .inr id) λk hk=>hk.elim (λhk=>.inl (.inl (.inl hk))) λhk=>(hn k hk).imp (λh=>.inl (.inr h)) id
theorem Mc{n:Nat}{B':aB}{f:FuncId}{i:Array Value}{X Z:Nat->Prop}(h:Calls prog f i W λe w'=>∃v,e=.returned v/\dE X Z g gd B' w'/\ah (λk=>¬Z k) W w')(t:kY B' n) :
 Calls prog f i W λe w'=>∃v B',e=.returned v/\kY B' n/\dE X Z g gd B' w'/\ah (λk=>¬Z k) W w' :=
 h.mono λ_ _ ⟨v,j,s⟩=>⟨v,B',j,t,s⟩
end
theorem abJ{m:bK}(h:oQ m):(xH m).length<=1000000000:=by
 unfold xH;split
 ·rename_i i;have:=avh i h;omega
 ·simp
theorem aqJ(me:Int)(par aZ:List Int)(cs:List DV)(F M O:Value)(w:World)(G:ar eS par F w)(L:ar eS aZ M w)(hcs:ar SR cs O w)(hfit:∀c∈cs,QO c)(QR:par.length<=20)(YJ:aZ.length<=20) :
 Calls prog 15 #[.int .i64 me,F,M,O] w (awH w):=by
 obtain⟨Ac,cc,rfl,jD,YU⟩:=hcs
 have G:=ae G
 have L:=ae L
 have HF:=ae hfit
 obtain⟨Ap,cp,rfl⟩:=az G.aa
 obtain⟨Ah,ch,rfl⟩:=az L.aa
 have C2:=ae (agr 60000 w af)
 clear hfit
 go_enter func15,ntmps15
 go_wp2_with fail
 refine C2.aa.mono ?_
 rintro e w2⟨rfl,hd,y⟩
 obtain⟨gd,hgd⟩:∃gd,gd=w.heap.size:=⟨_,rfl⟩
 rw[<- hgd]at hd⊢
 have hD:DkS (λk=>k<w.heap.size) gd ⟨[],60000⟩ w2:=⟨_,hd,λk hk=>⟨λh=>by
  rcases h with h|h
  ·omega
  ·simp[Value.ownBlock]at h,by have:=y.size;omega⟩⟩
 clear hgd C2 hd
 by_cases D:iw par=false∨jd par me=false∨tc par aZ=false
 ·have J:=ae (adw par aZ me _ _ (.pointer (some ⟨gd,0,none⟩)) w2 (aW G.aa y) (aW L.aa y) af af (.inr ⟨_,rfl⟩) (by
   rcases D with h|h|h
   ·exact .inl h
   ·exact .inr (.inl h)
   ·exact .inr (.inr (.inr h))))
  have hne:((if iw par=true then (1:Int)else 120) != 0)=true:=by split <;> decide
  generalize (if iw par=true then (1:Int)else 120)=cd at *;clear hD D;go_wp2_with fail
  refine J.aa.mono ?_;rintro e w3⟨rfl,k3⟩;have kF:=y.tr k3;clear J;go_wp2;go_ret3;exact .inl ⟨_,_,rfl,kF⟩
 have ht:iw par=true:=by cases h:iw par;exact absurd (.inl h) D;rfl
 have hm:jd par me=true:=by cases h:jd par me;exact absurd (.inr (.inl h)) D;rfl
 have ho:tc par aZ=true:=by cases h:tc par aZ;exact absurd (.inr (.inr h)) D;rfl
 have J:=ae (ayf (X:=λ_=>False) hD (kX.new af) FN.nil xx par aZ me _ _ (alh (λW k=>aW G.aa k) (λ_ h=>h) y) (alh (λW k=>aW L.aa k) (λ_ h=>h) y) ht hm ho ar9 (λ_ h=>h.elim))
 clear D hD ht hm ho
 go_wp2_with fail
 refine J.aa.mono ?_
 rintro e w3⟨g,rfl,hL3,u3,-⟩
 have dW:K w w3:=u3.k y λk hk=>af
 have CG:dE (λk=>(Value.slice none 0 0).ownBlock=some k) (λk=>k<w.heap.size∨(Value.slice none 0 0).ownBlock=some k) g gd (tZ me par aZ ⟨eP (dS iL),60000⟩ (dS iL)) w3:=hL3.less (λk hk=>Ww) λk hk=>hk.resolve_right afE
 have hI0:kY (tZ me par aZ ⟨eP (dS iL),60000⟩ (dS iL)) 0:=kY.start
 have jt:=aT.nil (λ_=>True) w.heap.size 46 bI w3
 generalize tZ me par aZ ⟨eP (dS iL),60000⟩ (dS iL)=B0 at *
 clear J hL3 u3 QR YJ y
 go_wp2_with fail
 go_loopw [15,16,17,18,19,20] (fun vl i _ _ _ _ W=>∃(j:Nat) (B:aB) (l:List av),j<=cs.length/\j<=40/\i=.int .i64 (j:Int)/\kY B j/\l.length<=j/\(∀a∈l,df a)/\dE (fun k=>vl.ownBlock=some k) (fun k=>k<w.heap.size∨vl.ownBlock=some k) g gd B W/\aT (fun _=>True) w.heap.size 46 bI l vl W/\K w W) (fun _ i _ _ _ _ _=>cs.length-(intOf i).toNat)
 case atStart=>exact⟨0,B0,[],af,af,rfl,hI0,aj,aj,CG,jt,dW⟩
 case round =>
  generalize u15=NM at *;clear CG hI0 jt dW;obtain⟨j,B,l,hj,aDy,rfl,hI,jX,yd,hL,hO,kr⟩:=hrel;by_cases hlt:j<cs.length/\j<40;rotate_left
  ·have hF:Hid (dE (λ_=>False) (λk=>k<w.heap.size) g gd B wr):=ae (hL.less (λ_ h=>h.elim) λ_ h=>.inl h);have HI:Hid (kY B 40):=ae (by
    have:=hI.told;have:=hI.calls;exact⟨hI.inv,hI.fit,af,af⟩)
   obtain⟨Ao,co,rfl⟩:=hO.slice;by_cases H:(j:Int)<(cs.length:Int)
   ·have I:¬(j:Int)<40:=af;exact ajf
   ·exact ajf
  obtain⟨hlt,aC4⟩:=hlt;have ba:(j:Int)<(cs.length:Int):=af;have hj4:(j:Int)<40:=af;have hfc:=HF.aa _ (bW hlt);obtain⟨b1,off,cc1,rfl,hcl,hrl,d0,d⟩:=dM jD j hlt au;generalize cs[j]=c at *;obtain⟨ve,vf,e1,e2,e3,e4,e5,e6,vb,rfl,he,hf,H,I,R,h4,h5,h6,hb⟩:=hrl w (K.rf w);have HCB:=ae (show ∃Ce iO F M O v4 v5 v6 JA,Value.agg (AO c ve vf e1 e2 e3 e4 e5 e6 vb)=.agg (AO c Ce iO F M O v4 v5 v6 JA)/\ik c.e Ce w/\eJ c.f iO w/\ar jW c.m.bM F w/\ar aQ c.m.asks M w/\ar aQ c.m.entries O w/\ar aQ c.m.cH v4 w/\ar bI c.m.bY v5 w/\ar bI c.m.ends v6 w/\sl c.b JA w from ⟨_,_,_,_,_,_,_,_,_,rfl,he,hf,H,I,R,h4,h5,h6,hb⟩);have RE:=ae λW (k:K w W)=>mR _ _ _ _ he k
  have Gs:=ae λW (k:K w W)=>dB _ _ _ _ hf k
  have Hh:=ae λW (k:K w W)=>(show js c.m (.agg (fH c.m e1 e2 e3 e4 e5 e6)) W from ⟨_,_,_,_,_,_,rfl,aW H k,aW I k,aW R k,aW h4 k,aW h5 k,aW h6 k⟩)
  obtain⟨U,ce,rfl⟩:=vN he;obtain⟨V,cf,rfl⟩:=cB hf;obtain⟨A1,c1,rfl⟩:=az H;obtain⟨A2,c2,rfl⟩:=az I;obtain⟨A3,c3,rfl⟩:=az R;obtain⟨A4,c4,rfl⟩:=az h4;obtain⟨Z,c5,rfl⟩:=az h5;obtain⟨Y,Q,rfl⟩:=az h6;obtain⟨A7,T,rfl,-⟩:=hb;have q9:∀i,i<14->wr.cell? ⟨b1,off+j*14+i,none⟩=(AO c (.slice U c.e.length ce) (.slice V c.f.length cf) (.slice A1 c.m.bM.length c1) (.slice A2 c.m.asks.length c2) (.slice A3 c.m.entries.length c3) (.slice A4 c.m.cH.length c4) (.slice Z c.m.bY.length c5) (.slice Y c.m.ends.length Q) (.slice A7 c.b.length T))[i]?:=λi hi=>(d wr kr i hi).trans Array.getElem?_toList
  have q0:wr.cell? ⟨b1,off+j*14,none⟩=some (.int .i64 c.kind):=d0 wr kr;have hx:=ai.new wr 44 (AO c (.slice U c.e.length ce) (.slice V c.f.length cf) (.slice A1 c.m.bM.length c1) (.slice A2 c.m.asks.length c2) (.slice A3 c.m.entries.length c3) (.slice A4 c.m.cH.length c4) (.slice Z c.m.bY.length c5) (.slice Y c.m.ends.length Q) (.slice A7 c.b.length T));have kA:K wr (wr.alloc (.cells (AO c (.slice U c.e.length ce) (.slice V c.f.length cf) (.slice A1 c.m.bM.length c1) (.slice A2 c.m.asks.length c2) (.slice A3 c.m.entries.length c3) (.slice A4 c.m.cH.length c4) (.slice Z c.m.bY.length c5) (.slice Y c.m.ends.length Q) (.slice A7 c.b.length T)) 44)):=(K.rf wr).al _;have CS:=ae (ao1 c _ (wr.alloc (.cells (AO c (.slice U c.e.length ce) (.slice V c.f.length cf) (.slice A1 c.m.bM.length c1) (.slice A2 c.m.asks.length c2) (.slice A3 c.m.entries.length c3) (.slice A4 c.m.cH.length c4) (.slice Z c.m.bY.length c5) (.slice Y c.m.ends.length Q) (.slice A7 c.b.length T)) 44)) (by
   obtain⟨u1,u2,u3,u4,u5,u6,u7,u8,u9,e,f1,f2,f3,f4,f5,f6,f7,f8,f9⟩:=HCB.aa;have k:=kr.tr kA;exact⟨u1,u2,u3,u4,u5,u6,u7,u8,u9,e,mR _ _ _ _ f1 k,dB _ _ _ _ f2 k,aW f3 k,aW f4 k,aW f5 k,aW f6 k,aW f7 k,aW f8 k,iQ _ _ _ _ f9 k⟩))
  clear hcl hrl he hf H I R h4 h5 h6 d0 d HCB;go_upto_region 10 with (fail);generalize wr.alloc _=w4 at *;generalize Em:wr.heap.size=gc at hx⊢;have q:=hx.cell;clear q0 q9;go_wp2_with fail
  refine CS.aa.mono ?_;rintro e w5⟨rfl,k5⟩;have t:=kA.tr k5;have di:=hx.below k5 hx.lt;clear q CS;by_cases gY:Fl c=true;rotate_left
  ·have gY:Fl c=false:=by simpa using gY
   have hF:=hL.st t;have hO:=hO.st t;have kr:=kr.tr t;clear kA t hL;go_wp2;go_roundw
   case rel=>exact⟨j+1,B,l,af,af,bO,hI.step,af,yd,hF,hO,kr⟩
   case measure=>simp[intOf];omega
  have JD:=hL.st t;have b9:=hO.st t;have sA:=kr.tr t;have CK:=ae (ao0 l c.n _ w5 b9.ar af hfc.2.2.1 yd);have lO:=aqI gY;have q5:=di.cell;clear kA t k5 hL hO kr hx;go_wp2_with fail
  refine CK.aa.mono ?_;rintro e s⟨a,rfl,x7,k6⟩;have hi:=ai.new s 46 (bZ a);have kB:K s (s.alloc (.cells (bZ a) 46)):=(K.rf s).al _;have E:=k6.tr kB;have jc:=di.below E di.lt;have oF:=JD.more (X':=λk=>k=s.heap.size∨NM.ownBlock=some k) (Z':=λk=>(k<w.heap.size∨NM.ownBlock=some k)∨k=s.heap.size) E (λk hk=>hk.elim (λhk=>.inr ajg) .inl) (λk hk=>hk.imp id λhk=>ajg);have jh:=b9.st E;have nS:=sA.tr E;have Gr:Hid (NM.ownBlock≠some s.heap.size):=ae λh=>by have:=(b9.blk _ h).2;have:=k6.size;omega
  have Cq:Hid (w.heap.size<=s.heap.size):=ae (by have:=sA.size;have:=k6.size;omega);clear CK JD b9 sA E kB k6 di q5;go_upto_region 12 with (fail);generalize s.alloc _=w7 at *;generalize s.heap.size=gi at *;obtain⟨C,cl,nn,ev,fl,m,bb⟩:=c;obtain⟨BQ,Je,hcn,jo,sq,tv⟩:=hfc;simp only at jc BQ Je hcn jo sq tv RE Gs Hh lO;have q:=jc.cell;have qi:=hi.cell;have wj:=hI.calls;have gA:=hI.told;go_upto_block 2 with (fail);by_cases eK:C=1
  ·subst eK;have C5:=ae (ajL oF cl Je af);have HA:=ae (show df (pS B cl).2.1 from adb oF.1.tobH _ _);have HI:=ae (show kY (pS B cl).1 (j+1)from hI.call _ _);generalize pS B cl=r at *;obtain⟨B',a',k⟩:=r;simp only at C5 HI HA;go_wp2_with fail
   refine C5.aa.mono ?_;rintro e w8⟨rfl,pH,u8⟩;have k8:K w w8:=u8.k nS λb hb=>Nat.le_of_not_lt λhl=>hb (.inl (.inl hl))
   have Hq:=hi.z u8 (.inr rfl);have fX:=jh.ids u8 λb hb hn=>hn (.inl (.inr hb))
   clear C5 oF hi jh u8 nS q qi jc;have q8:=Hq.cell;have z8:=Hq.frozen;go_upto_region 15 with (fail);exact ajh
  by_cases hk2:C=2
  ·subst hk2;have C5:=ae (Mc ((adN oF a x7 ev _ (RE.aa _ nS) af jo).mono λe w' h=>⟨_,h⟩) (hI.keep (nv B.aK a ev)));exact Ld
  by_cases jA:C=3
  ·subst jA;have C5:=ae (Mc ((ai8 oF a x7).mono λe w' h=>⟨_,h⟩) (hI.keep (ny B.aK a)));exact Ld
  by_cases YT:C=4
  ·subst YT;have C5:=ae (Mc ((axw oF a x7).mono λe w' h=>⟨_,h⟩) (hI.keep (pQ B.aK a)));exact Ld
  by_cases Mq:C=5
  ·subst Mq;obtain⟨A,hnu,hnl⟩:∃A:Nat,IntKind.u64.wrap nn=(A:Int)/\A<18446744073709551616:=⟨(nn%18446744073709551616).toNat,by simp[IntKind.wrap,IntKind.bits,IntKind.signed];omega,af⟩;have C5:=ae (ak9 oF cl Je af A hnl fl _ (Gs.aa _ nS) sq af);have HA:=ae (show df (qZ B cl A fl).2.1 from adb oF.1.tobH _ _);have HI:=ae (show kY (qZ B cl A fl).1 (j+1)from hI.call _ _);generalize qZ B cl A fl=r at *;obtain⟨B',a',k⟩:=r;simp only at C5 HI HA;go_wp2_with fail
   refine C5.aa.mono ?_;rintro e w8⟨rfl,pH,u8⟩;have k8:K w w8:=u8.k nS λb hb=>Nat.le_of_not_lt λhl=>hb (.inl (.inl hl))
   have Hq:=hi.z u8 (.inr rfl);have fX:=jh.ids u8 λb hb hn=>hn (.inl (.inr hb))
   clear C5 oF hi jh u8 nS q qi jc;have q8:=Hq.cell;have z8:=Hq.frozen;go_upto_region 24 with (fail);exact ajh
  by_cases hk7:C=7
  ·subst hk7;have C5:=ae (Mc ((ajN oF hI.fit af).mono λe w' h=>h.1.imp λv e1=>⟨e1,h.2⟩) (hI.work oF.1.tobH));exact Ld
  by_cases YL:C=8
  ·subst YL;have CE:=ae (aa1 m _ w7 (Hh.aa w7 nS) tv);go_wp2_with fail
   refine CE.aa.mono ?_;rintro e w9⟨vb,rfl,rr,k9⟩;have oF:=oF.st k9;have jh:=jh.st k9;have nS:=nS.tr k9;have jc:=jc.below k9 jc.lt;have q:=jc.cell;clear CE;have C5:=ae (Mc ((ajc oF hI.fit af cl _ vb rr (abJ tv)).mono λe w' h=>⟨_,h⟩) (hI.handle oF.1 cl _ af));exact Ld
  go_wp2;go_roundw
  case rel=>exact⟨j+1,B,l,af,af,bO,hI.step,af,yd,oF.less (λ_ h=>.inr h) (λk hk=>.inl hk),jh,nS⟩
  case measure=>simp[intOf];omega
end
abbrev QS(a:av):Array Value:=#[.int .i64 a.1,.int .u64 (a.2.1:Int),.int .u64 (a.2.2:Int)]
theorem an2(la lb:List aq)(v u:Value)(w:World)(h:ar aQ la v w)(k:ar aQ lb u w)(Y:∀s∈la,eD s)(hlen:la.length<=1000000) :
 Calls prog 19 #[v,u] w λe w'=>e=.returned (.bool (decide (la=lb)))/\K w w':=by
 obtain⟨D1,d1,rfl,qj,hd1⟩:=h
 obtain⟨D2,d2,rfl,yh,iY⟩:=k
 have HS:=ae Y
 clear Y
 obtain⟨R,D⟩:∃R,R=decide (la=lb):=⟨_,rfl⟩
 rw[<- D]
 have HI:Hid (R=decide (la=lb)):=ae D
 clear D
 go_enter func19,ntmps19
 by_cases hle:la.length=lb.length
 rotate_left
 ·exact aji
 have BB:((la.length:Int) != (lb.length:Int))=false:=aU
 have Jc:=ae hle
 have kk:=K.rf w
 clear hle
 go_wp2_with fail
 go_loopw [5,6] (fun i _ wr=>∃j:Nat,j<=la.length/\i=.int .i64 (j:Int)/\Hid (la.take j=lb.take j)/\K w wr) (fun i _ _=>la.length-(intOf i).toNat)
 case atStart=>exact⟨0,af,rfl,ae aj,kk⟩
 case round =>
  clear kk;obtain⟨j,hj,rfl,HT,kr⟩:=hrel;by_cases H:j<la.length
  ·have ba:(j:Int)<(la.length:Int):=af;have X:j<lb.length:=Vp;have Ls:(j:Int)<(lb.length:Int):=af;have HB:=ae (NS la lb j H X HT.aa);have Z:=HS.aa _ (bW H);obtain⟨C,t,cs1,rfl,dH,O,T,d⟩:=dM qj j H au;obtain⟨B,A,Q9,rfl,wj,L,U,f⟩:=dM yh j X au;generalize la[j]=x at *;generalize lb[j]=y at *;obtain⟨J,I,rfl,N,M⟩:=O w (K.rf w);obtain⟨F,E,rfl,S,Q⟩:=L w (K.rf w);have SX:∀W,K wr W->W.cell? ⟨C,t+j*8,none⟩=some (.int .i64 x.kind):=λW kW=>T W (kr.tr kW)
   have p1:∀W,K wr W->∀i,i<8->W.cell? ⟨C,t+j*8+i,none⟩=(aA x J I)[i]?:=λW kW i G=>(d W (kr.tr kW) i G).trans Array.getElem?_toList
   have SY:∀W,K wr W->W.cell? ⟨B,A+j*8,none⟩=some (.int .i64 y.kind):=λW kW=>U W (kr.tr kW)
   have p2:∀W,K wr W->∀i,i<8->W.cell? ⟨B,A+j*8+i,none⟩=(aA y F E)[i]?:=λW kW i G=>(f W (kr.tr kW) i G).trans Array.getElem?_toList
   have CS:=ae λW (kW:K w W)=>apP x y (.agg (aA x J I)) (.agg (aA y F E)) W ⟨_,_,rfl,dB _ _ _ _ N kW,aW M kW⟩ ⟨_,_,rfl,dB _ _ _ _ S kW,aW Q kW⟩ Z
   clear N M S Q;clear dH wj O L T d U f;go_upto_region 6 with (fail);refine sR [ag (.slice (some ⟨C,t,none⟩) la.length d1),
    ag (.int .i64 ((j:Int))),
    ag (.pointer (some ⟨C,t+j*8,none⟩)),
    ag (.agg (aA x J I)),
    ag (.slice (some ⟨B,A,none⟩) lb.length d2),
    ag (.int .i64 ((j:Int))),
    ag (.pointer (some ⟨B,A+j*8,none⟩)),
    ag (.agg (aA y F E)),
    ag (.bool (decide (x=y))),
    ag (.bool (decide (x=y)))]
    [([],[]),([],[]),([0,1],[(18,0),(19,1)]),([2],[(20,2)]),([],[]),([],[]),([4,5],[(22,4),(23,5)]),([6],[(24,6)]),([3,7],[(21,3),(25,7)]),([8],[(26,8)])] 29 rfl ak ak ak ?Gc ?Gd ?_
   case Gc =>
    simp only[aI]
    and_intros
    all_goals first|exact jN _|exact iQ _|exact mz|simp
   case Gd =>
    simp only[mS]
    and_intros
    all_goals try trivial
    all_goals
     intro V W kW hp
     try simp only[aI,aE,aF,ag]at hp
     try simp[aL,aw,List.lookup,hp,aE,aF,aS,execOp,ay,ag,aN,kW,SX,p1,SY,p2,ba,Ls,go_sem]
    refine (CS.aa _ (kr.tr kW)).mono ?_
    rintro e w''⟨rfl,hb⟩
    exact⟨_,rfl,rfl,hb⟩
   intro V W kW hp;have h9:=hp 9 aj;exact ajj
  ·exact ajk
theorem aow(la lb:List av)(v u:Value)(w:World)(h:ar bI la v w)(k:ar bI lb u w)(Z:la.length<=1000000) :
 Calls prog 20 #[v,u] w λe w'=>e=.returned (.bool (decide (la=lb)))/\K w w':=by
 obtain⟨D1,d1,rfl,Q,X⟩:=h
 obtain⟨D2,d2,rfl,N,T⟩:=k
 obtain⟨R,D⟩:∃R,R=decide (la=lb):=⟨_,rfl⟩
 rw[<- D]
 have HI:Hid (R=decide (la=lb)):=ae D
 clear D
 go_enter func20,ntmps20
 by_cases hle:la.length=lb.length
 rotate_left
 ·exact aji
 have BB:((la.length:Int) != (lb.length:Int))=false:=aU
 have Jc:=ae hle
 have kk:=K.rf w
 clear hle
 go_wp2_with fail
 go_loopw [5] (fun i wr=>∃j:Nat,j<=la.length/\i=.int .i64 (j:Int)/\Hid (la.take j=lb.take j)/\K w wr) (fun i _=>la.length-(intOf i).toNat)
 case atStart=>exact⟨0,af,rfl,ae aj,kk⟩
 case round =>
  clear kk;obtain⟨j,hj,rfl,HT,kr⟩:=hrel;by_cases H:j<la.length
  ·have ba:(j:Int)<(la.length:Int):=af;have L:j<lb.length:=Vp;have M:(j:Int)<(lb.length:Int):=af;have HB:=ae (NS la lb j H L HT.aa);obtain⟨C,s,Y,rfl,S,G,I,d⟩:=dM Q j H au;obtain⟨B,A,U,rfl,O,F,J,f⟩:=dM N j L au;generalize la[j]=x at *;generalize lb[j]=y at *;obtain rfl:=G w (K.rf w);obtain rfl:=F w (K.rf w);have SX:∀W,K wr W->W.cell? ⟨C,s+j*3,none⟩=some (.int .i64 x.1):=λW kW=>I W (kr.tr kW)
   have p1:∀W,K wr W->∀i,i<3->W.cell? ⟨C,s+j*3+i,none⟩=(QS x)[i]?:=λW kW i E=>(d W (kr.tr kW) i E).trans Array.getElem?_toList
   have SY:∀W,K wr W->W.cell? ⟨B,A+j*3,none⟩=some (.int .i64 y.1):=λW kW=>J W (kr.tr kW)
   have p2:∀W,K wr W->∀i,i<3->W.cell? ⟨B,A+j*3+i,none⟩=(QS y)[i]?:=λW kW i E=>(f W (kr.tr kW) i E).trans Array.getElem?_toList
   clear S O G F I d J f;go_upto_region 6 with (fail);refine sR [ag (.slice (some ⟨C,s,none⟩) la.length d1),
    ag (.int .i64 ((j:Int))),
    ag (.pointer (some ⟨C,s+j*3,none⟩)),
    ag (.agg (QS x)),
    ag (.slice (some ⟨B,A,none⟩) lb.length d2),
    ag (.int .i64 ((j:Int))),
    ag (.pointer (some ⟨B,A+j*3,none⟩)),
    ag (.agg (QS y)),
    ag (.bool (!decide (x=y)))]
    [([],[]),([],[]),([0,1],[(17,0),(18,1)]),([2],[(19,2)]),([],[]),([],[]),([4,5],[(21,4),(22,5)]),([6],[(23,6)]),([3,7],[(20,3),(24,7)])] 26 rfl ak ak ak ?Gc ?Gd ?_
   case Gc =>
    simp only[aI]
    and_intros
    all_goals first|exact jN _|exact iQ _|exact mz|simp
   case Gd =>
    simp only[mS]
    and_intros
    all_goals try trivial
    all_goals
     intro V W kW hp
     try simp only[aI,aE,aF,ag]at hp
     try simp[aL,aw,List.lookup,hp,aE,aF,aS,execOp,ay,ag,aN,kW,SX,p1,SY,p2,ba,M,go_sem]
    by_cases h1:x.1=y.1
    ·by_cases h2:(x.2.1:Int)=(y.2.1:Int)
     ·by_cases t:(x.2.2:Int)=(y.2.2:Int)
      ·rw[show decide (x=y)=true from decide_eq_true (Prod.ext h1 (Prod.ext (Int.ofNat_inj.1 h2) (Int.ofNat_inj.1 t)))];simp only[h1,h2,t,if_true,Bool.not_true];first|exact⟨trivial,aN _ _⟩|exact⟨rfl,aN _ _⟩
      ·rw[show decide (x=y)=false from decide_eq_false (λe=>t Dv)];simp only[h1,h2,t,if_true,if_false,Bool.not_false];first|exact⟨trivial,aN _ _⟩|exact⟨rfl,aN _ _⟩
     ·rw[show decide (x=y)=false from decide_eq_false (λe=>h2 Dv)];simp only[h1,h2,if_true,if_false,Bool.not_false];first|exact⟨trivial,aN _ _⟩|exact⟨rfl,aN _ _⟩
    ·rw[show decide (x=y)=false from decide_eq_false (λe=>h1 Dv)];simp only[h1,if_false,Bool.not_false];first|exact⟨trivial,aN _ _⟩|exact⟨rfl,aN _ _⟩
   intro V W kW hp;have h9:=hp 8 aj;exact ajj
  ·exact ajk
section
open Go Go.RowKit Go.ChangeShapes Go.WideShapes Go.ChangeAt
theorem an4(v0 v1 v2 v3 v4 v5:Value)(w:World)(r0:Xv w v0)(r1:Xq w v1)(r2:Xq w v2)(r3:ada w v3)(r4:Xv w v4)(r5:ajM w v5) :
 Calls prog 4 #[v0,v1,v2,v3,v4,v5] w λe w'=>e=.returned (.bool true)/\Below w.heap.size w w':=by
 obtain⟨me,rfl,wX⟩:=r0
 obtain⟨par,u,-⟩:=r1
 obtain⟨aZ,hh,-⟩:=r2
 obtain⟨cs,hcs,hfit⟩:=r3
 obtain⟨fr,rfl,iM⟩:=r4
 obtain⟨m,hm,tv⟩:=r5
 obtain⟨u1,u2,u3,u4,u5,u6,rfl,h1,h2,h3,h4,h5,h6⟩:=hm
 have HM:=ae λW (k:K w W)=>(show js m (.agg (fH m u1 u2 u3 u4 u5 u6)) W from ⟨_,_,_,_,_,_,rfl,aW h1 k,aW h2 k,aW h3 k,aW h4 k,aW h5 k,aW h6 k⟩)
 obtain⟨A1,c1,rfl⟩:=az h1
 obtain⟨A2,c2,rfl⟩:=az h2
 obtain⟨A3,c3,rfl⟩:=az h3
 obtain⟨A4,c4,rfl⟩:=az h4
 obtain⟨A5,c5,rfl⟩:=az h5
 obtain⟨A6,c6,rfl⟩:=az h6
 have HP:=ae u
 have HH:=ae hh
 have HC:=ae hcs
 obtain⟨Ap,cp,rfl⟩:=az u
 obtain⟨Ah,ch,rfl⟩:=az hh
 have HF:=ae hfit
 have hx:=ai.new w 41 (fH m (.slice A1 m.bM.length c1) (.slice A2 m.asks.length c2) (.slice A3 m.entries.length c3) (.slice A4 m.cH.length c4) (.slice A5 m.bY.length c5) (.slice A6 m.ends.length c6))
 have k1:=(K.rf w).al (.cells (fH m (.slice A1 m.bM.length c1) (.slice A2 m.asks.length c2) (.slice A3 m.entries.length c3) (.slice A4 m.cH.length c4) (.slice A5 m.bY.length c5) (.slice A6 m.ends.length c6)) 41)
 clear h1 h2 h3 h4 h5 h6 u hh hcs hfit
 go_enter func4,ntmps4
 go_upto_region 1 with (fail)
 generalize w.alloc _=w1 at *
 generalize w.heap.size=gx at hx⊢
 have C1:=ae (ao2 w1)
 go_wp2_with fail
 refine C1.aa.mono ?_
 rintro e w2⟨rfl,k2⟩
 have bw:=k1.tr k2
 have hx2:=hx.below k2 hx.lt
 clear C1 hx k1 k2
 by_cases QR:20<par.length
 ·have hq:(20:Int)<(par.length:Int):=af;clear QR;go_wp2;go_ret;exact⟨rfl,bw⟩
 have hq:¬(20:Int)<(par.length:Int):=af
 by_cases YJ:20<aZ.length
 ·have sE:(20:Int)<(aZ.length:Int):=af;clear QR YJ;go_wp2;go_ret;exact⟨rfl,bw⟩
 have sE:¬(20:Int)<(aZ.length:Int):=af
 have CW:=ae (acm m _ w2 (HM.aa _ bw))
 have q:=hx2.cell
 go_wp2_with fail
 refine CW.aa.mono ?_
 rintro e w3⟨rfl,k3⟩
 have G:=bw.tr k3
 have eI:=hx2.below k3 hx2.lt
 have CR:=ae (aqJ me par aZ cs _ _ v3 w3 (aW HP.aa G) (aW HH.aa G) (aW HC.aa G) HF.aa af af)
 clear CW k3 bw hx2 q
 cases FW m
 ·go_wp2;go_ret;exact⟨rfl,G⟩
 go_wp2_with fail
 refine CR.aa.mono ?_
 intro e w4 hR
 rcases hR with ⟨a,b,rfl,k4⟩|⟨g,gd,B,a,b,rfl,hL,hI,k4⟩
 ·have kF:=G.tr k4;clear CR eI;go_wp2;go_ret;exact⟨rfl,kF⟩
 have oX:=G.tr k4
 have bQ:=eI.below k4 eI.lt
 have C5:=ae (XC hL)
 clear CR
 go_wp2_with fail
 refine C5.aa.mono ?_
 rintro e H⟨vl,vp,va,rfl,T,k5⟩
 obtain⟨s1,s2,Z⟩:=T.now
 obtain⟨Al,cl,rfl⟩:=az s1
 obtain⟨Aq,cq,rfl⟩:=az s2
 obtain⟨Aa,ca,rfl⟩:=az Z
 have X:=ai.new H 52 (bS B.st (.slice Al B.st.list.length cl) (.slice Aq B.st.prom.length cq) (.slice Aa B.st.ab.length ca))
 have C:K H (H.alloc (.cells (bS B.st (.slice Al B.st.list.length cl) (.slice Aq B.st.prom.length cq) (.slice Aa B.st.ab.length ca)) 52)):=(K.rf H).al _
 have AK:=oX.tr (k5.tr C)
 have gH:=(bQ.below k5 bQ.lt).alloc (.cells (bS B.st (.slice Al B.st.list.length cl) (.slice Aq B.st.prom.length cq) (.slice Aa B.st.ab.length ca)) 52)
 have CE:=ae λW (k:K w W)=>aa1 m _ W (HM.aa _ k) tv
 clear C5 s1 s2 Z eI bQ
 go_upto_region 10 with (fail)
 generalize H.alloc _=w6 at *
 have q:=gH.cell
 go_wp2_with fail
 refine (CE.aa w6 AK).mono ?_
 rintro e w7⟨vb,rfl,rr,S⟩
 have hz:=And.intro k4.size (And.intro k5.size (And.intro C.size S.size))
 have tg:=X.lt
 have iW:=G.size
 have oF:dE (λ_=>False) (λk=>k<w3.heap.size∨(w4.heap.size<=k/\k<w7.heap.size)) g gd B w7:=hL.more (k5.tr (C.tr S)) (λ_ h=>.inl h) λk hk=>hk
 have qC:=X.below S X.lt
 have gA:=hI.told
 have C8:=ae (ajc oF hI.fit af fr _ vb rr (abJ tv))
 have SZ:=hI.handle hL.1 fr (xH m) af
 have ha1:=acf hI.inv fr (xH m)
 have u7:ah (λk=>k<w4.heap.size) H w7:=ah.bg (C.tr S) _
 have nS:=AK.tr S
 clear CE gH hL C S k5 k4 oX G AK X rr q gA
 generalize jM B fr (xH m)=r at *
 obtain⟨B1,r1⟩:=r
 simp only at ha1 SZ C8
 go_wp2_with fail
 refine C8.aa.mono ?_
 rintro e w8⟨rfl,pH,u8⟩
 have gA:=SZ.told
 have C9:=ae (ajN pH SZ.fit af)
 have ha2:=UC ha1.2
 have hg:=ha1.1.tr ha2.1
 have hiv:=ha2.2
 clear C8 oF pH ha1 ha2 SZ gA
 generalize ic B1=t at *
 go_wp2_with fail
 refine C9.aa.mono ?_
 rintro e w9⟨⟨v9,rfl⟩,rL,u9⟩
 have hZ:∀k,k<H.heap.size->¬(k<w3.heap.size∨(w4.heap.size<=k/\k<w7.heap.size))->k<w4.heap.size:=af
 obtain⟨s1,s2,Z⟩:=T w9 ((u7.iA u8 hZ).iA u9 hZ)
 have hs9:=(qC.z u8 (.inr af)).z u9 (.inr af)
 have G9:=u9.k (u8.k nS λk hk=>af) λk hk=>af
 have JO:=ae (XC rL)
 have hG:=rL.1.dk
 clear C9 T u7 u8 u9 qC rL hZ nS
 go_wp2_with fail
 refine JO.aa.mono ?_
 rintro e F⟨vl,vp,va,rfl,T,oC⟩
 obtain⟨t1,t2,t3⟩:=T.now
 obtain⟨R,L,rfl,-,hdl⟩:=id t1
 obtain⟨N,Q,rfl⟩:=az t2
 obtain⟨J,M,rfl,O,hda⟩:=id t3
 have O:wL bI t.st.ab J F:=O
 have hu:=ai.new F 52 (bS t.st (.slice R t.st.list.length L) (.slice N t.st.prom.length Q) (.slice J t.st.ab.length M))
 have C:K F (F.alloc (.cells (bS t.st (.slice R t.st.list.length L) (.slice N t.st.prom.length Q) (.slice J t.st.ab.length M)) 52)):=(K.rf F).al _
 have YK:=(hs9.below oC hs9.lt).alloc (.cells (bS t.st (.slice R t.st.list.length L) (.slice N t.st.prom.length Q) (.slice J t.st.ab.length M)) 52)
 have NK:=G9.tr (oC.tr C)
 have kB:=oC.tr C
 have hT:=Fm (⟨_,_,_,rfl,t1,t2,t3⟩:jr t.st (.agg (bS t.st (.slice R t.st.list.length L) (.slice N t.st.prom.length Q) (.slice J t.st.ab.length M))) F) C
 obtain⟨g1,g2,g3,g4,g5,g6,g7⟩:=ava hg hiv
 have G3:=ae g3
 have G6:=ae g6
 clear g3 g6
 have CA:=ae λW (k:K (F.alloc (.cells (bS t.st (.slice R t.st.list.length L) (.slice N t.st.prom.length Q) (.slice J t.st.ab.length M)) 52)) W)=>an2 (t.st.list.take B.st.list.length) B.st.list _ _ W (Ue (aW (aW t1 C) k) _ g1) (aW (aW s1 kB) k) (λs X=>tK (hG.inv.wV _ (lE X)).1) ajl
 have I:=ae λW (k:K (F.alloc (.cells (bS t.st (.slice R t.st.list.length L) (.slice N t.st.prom.length Q) (.slice J t.st.ab.length M)) 52)) W)=>aow (t.st.ab.take B.st.ab.length) B.st.ab _ _ W (Ue (aW (aW t3 C) k) _ g2) (aW (aW Z kB) k) ajl
 rw[g4]at CA
 rw[g5]at I
 have O:=DE O C
 have CA:=ae CA
 have I:=ae I
 have hal:=hG.len
 clear JO T t1 t2 t3 s1 s2 Z hs9 G9 oC kB hG g4 g5
 go_upto_region 14 with (fail)
 generalize F.alloc _=yJ at *
 generalize F.heap.size=gu at hu⊢
 generalize H.heap.size=gs at *
 have E:=YK.cell
 have A:=hu.cell
 have U:¬(t.st.list.length:Int)<(B.st.list.length:Int):=af
 have Y:¬(t.st.ab.length:Int)<(B.st.ab.length:Int):=af
 have i3:(t.st.life:Int)=(B.st.life:Int):=by rw[G3.aa]
 go_upto_region 16 with (fail)
 clear E A U Y i3
 have E:=YK.cells
 have A:=hu.cells
 have U:(B.st.list.length:Int)<=(L:Int):=af
 have Y:(B.st.ab.length:Int)<=(M:Int):=af
 refine eM 10 [([],[]),([0],[(89,0)]),([],[]),([2],[(91,2)]),([3],[(92,3)]),([1,4],[(90,1),(93,4)]),([],[]),([6],[(95,6)]),([5,7],[(94,5),(96,7)]),([8],[(97,8)])] 131 rfl ak ak ak ak au ?_
 simp only[dR,dN,ew,dP]
 iterate 8 (apply aV.is;intro V W y u;(try simp only[aI,aJ,aM,aE,aF,ag]at u);simp[aL,aw,List.lookup,u,aS,execOp,ay,ag,aN,y,E,A,U,go_sem];rfl)
 refine aV.is (.bool (decide (B.st.list=B.st.list))) (λV W y u=>?_) ?_
 ·(try simp only[aI,aJ,aM,aE,aF,ag]at u)
  simp[aL,aw,List.lookup,u,aS,execOp,ay,ag,E,A,U,go_sem];refine (CA.aa W y).mono ?_;exact sW
 (apply aV.is;intro V W y u;(try simp only[aI,aJ,aM,aE,aF,ag]at u);simp[aL,aw,List.lookup,u,aS,execOp,ay,ag,aN,y,E,A,U,go_sem];rfl)
 intro V W y D
 simp only[aJ,aM,eA,ag,Nat.reduceAdd]at D
 refine bu.nil ?_
 simp only[bF,Act.put,cO,cM,cL,Nat.reduceAdd,D]
 generalize W=SV at *
 have gP:=y
 clear y D CA
 go_upto_region 17 with (fail)
 have E:=λW (k:K SV W)=>E W (gP.tr k)
 have A:=λW (k:K SV W)=>A W (gP.tr k)
 have I:=ae λW (k:K SV W)=>I.aa W (gP.tr k)
 refine eM 10 [([],[]),([0],[(98,0)]),([],[]),([2],[(100,2)]),([3],[(101,3)]),([1,4],[(99,1),(102,4)]),([],[]),([6],[(104,6)]),([5,7],[(103,5),(105,7)]),([8],[(106,8)])] 131 rfl ak ak ak ak au ?_
 simp only[dR,dN,ew,dP]
 iterate 8 (apply aV.is;intro V W y u;(try simp only[aI,aJ,aM,aE,aF,ag]at u);simp[aL,aw,List.lookup,u,aS,execOp,ay,ag,aN,y,E,A,Y,go_sem];rfl)
 refine aV.is (.bool (decide (B.st.ab=B.st.ab))) (λV W y u=>?_) ?_
 ·(try simp only[aI,aJ,aM,aE,aF,ag]at u)
  simp[aL,aw,List.lookup,u,aS,execOp,ay,ag,E,A,Y,go_sem];refine (I.aa W y).mono ?_;exact sW
 (apply aV.is;intro V W y u;(try simp only[aI,aJ,aM,aE,aF,ag]at u);simp[aL,aw,List.lookup,u,aS,execOp,ay,ag,aN,y,E,A,Y,go_sem];rfl)
 intro V W y D
 simp only[aJ,aM,eA,ag,Nat.reduceAdd]at D
 refine bu.nil ?_
 simp only[bF,Act.put,cO,cM,cL,Nat.reduceAdd,D]
 generalize W=qL at *
 have je:=gP.tr y
 have kk:=K.rf qL
 have G:=NK.tr je
 have d1:decide (B.st.list=B.st.list)=true:=aj
 have i3:(t.st.prom.length:Int)<=6:=af
 have A:=λW (k:K qL W)=>hu.cells W (je.tr k)
 have HT:=ae λW (k:K qL W)=>Fm hT (je.tr k)
 have HE:=ae (DE O je)
 clear y D I hT E YK hu U Y gP O NK
 go_wp2_with fail
 go_loopw [23] (fun i W=>∃j:Nat,j<=t.st.ab.length/\i=.int .i64 (j:Int)/\K qL W) (fun i _=>t.st.ab.length-(intOf i).toNat)
 case atStart=>exact⟨0,af,rfl,kk⟩
 case round =>
  clear kk;obtain⟨j,hj,rfl,kr⟩:=hrel;have A:=λW (k:K wr W)=>A W (kr.tr k)
  by_cases hlt:j<t.st.ab.length;rotate_left
  ·have ba:¬(j:Int)<(t.st.ab.length:Int):=af;have kF:=G.tr kr;have q:=A wr (K.rf _);go_wp2;go_ret;exact⟨rfl,kF⟩
  have ba:(j:Int)<(t.st.ab.length:Int):=af;obtain⟨b1,o1,cs1,rfl,hcl,hrl,d0,d⟩:=dM HE.aa j hlt au;have kK:=G6.aa _ (bW hlt);generalize t.st.ab[j]=x at *;obtain rfl:=hrl qL (K.rf _);have d:∀W,K wr W->∀i,i<3->W.cell? ⟨b1,o1+j*3+i,none⟩=(bZ x)[i]?:=λW k i hi=>(d W (kr.tr k) i hi).trans Array.getElem?_toList
  have d0:∀W,K wr W->W.cell? ⟨b1,o1+j*3,none⟩=some (.int .i64 x.1):=λW k=>d0 W (kr.tr k)
  have CH:=ae λW (k:K wr W)=>AW t.st x _ W (HT.aa W (kr.tr k)) af
  rw[kK]at CH;have q:=A wr (K.rf _);clear hcl hrl;go_upto_region 21 with (fail);clear q;refine eM 7 [([],[]),([],[]),([1],[(115,1)]),([],[]),([2,3],[(116,2),(117,3)]),([4],[(118,4)]),([0,5],[(114,0),(119,5)])] 131 rfl ak ak ak ak au ?_;simp only[dR,dN,ew,dP];iterate 6 (apply aV.is;intro V W y u;(try simp only[aI,aJ,aM,aE,aF,ag]at u);simp[aL,aw,List.lookup,u,aS,execOp,ay,ag,aN,y,A,d,d0,ba,go_sem];rfl)
  refine aV.is (.bool false) (λV W y u=>?_) ?_
  ·(try simp only[aI,aJ,aM,aE,aF,ag]at u)
   simp[aL,aw,List.lookup,u,aS,execOp,ay,ag,A,d,d0,ba,go_sem];refine (CH.aa W y).mono ?_;exact sW
  intro V W y D;simp only[aJ,aM,eA,ag,Nat.reduceAdd]at D;refine bu.nil ?_;simp only[bF,Act.put,cO,cM,cL,Nat.reduceAdd,D];have yj:=kr.tr y;clear D y CH A d d0;go_wp2;go_roundw
  case rel=>exact⟨j+1,af,bO,yj⟩
  case measure=>simp[intOf];omega
end
section
open Go Go.RowKit Go.ChangeShapes Go.WideShapes Go.ChangeAt
section
variable {H:Type} {enc:TypeId×Value->H} {w:World} {base:Nat} {r:Reach} {b0:Nat} {spare:Nat->Bool} {held:Bool} {v:Value} {d:DataW H} {p:List MemPlace}
theorem abK(y:Value.okWide prog w r b0 22 v)(h:DataW.Trod enc prog w base spare held 22 v d p):Xq w v:=by
 obtain⟨A,n,c,css,rfl,t,i,C,j,s⟩:=aoh underlying22 1 ak (λcs=>∃n:Int,cs=[.int .i64 n]/\bU n) (λ_ _ _ _ u=>Dj u) y h;obtain⟨l,h6,h7,h8⟩:=NQ (λn:Int=>[Value.int .i64 n]) bU css λcs B=>(j cs B).2
 have h9:=s au;subst t;rw[<- h6]at h9 i⊢;exact⟨l,⟨A,c,rfl,⟨l.map zo,J8 _ _,by rw[h7]at h9;exact h9⟩,i⟩,h8⟩
end
end
