/-
  The overlay's lookers (layer 21): is, client, Up, home, homeOf. Conditions: none.
-/
import Derived.Test.YtfndfpdhlbmboaaGreatMa27
import Derived.Test.YtfndfpdhlbmboaaGreatMz
set_option maxRecDepth 100000
set_option linter.constructorNameAsVariable false
set_option maxHeartbeats 16000000
set_option linter.unusedVariables false
set_option linter.unusedSimpArgs false
namespace Go.Proofs.YtfndfpdhlbmboaaGreat
open Go Go.RowKit _root_.Go.Proofs.Tryz
section
variable {S:Nat->Prop} {W:World} {H:mf} {own:Nat->Nat} {O:bH}
theorem Ko(h:bu H own O W S)(j:S 2) n :
 Calls prog 44 #[.pointer (some ⟨H.gw,0,none⟩),.int .i64 n] W λe w'=>e=.returned (.bool (ku O n))/\w'=W:=by
 have q:=(h.eW j).blk.cell
 obtain⟨A,c,e,-⟩:=h.fx.now.1
 rw[e]at q
 have HI:Hid (ku O n=(decide (0<=n)&&decide (n<(O.par.length:Int)))):=ae rfl
 generalize ku O n=R at *
 clear h e j
 go_enter func44,ntmps44
 by_cases h0:0<=n
 ·by_cases h1:n<(O.par.length:Int)
  ·exact aiz
  ·exact aiA
 ·exact aiB
theorem Ty(h:bu H own O W S)(j:S 2) n :
 Calls prog 68 #[.pointer (some ⟨H.gw,0,none⟩),.int .i64 n] W λe w'=>e=.returned (.bool (kH O n))/\w'=W:=by
 have q:=(h.eW j).blk.cell
 obtain⟨A,c,e,-⟩:=h.fx.now.2.1
 rw[e]at q
 have HI:Hid (kH O n=(decide (0<=n)&&decide (n<(O.ai.length:Int)))):=ae rfl
 generalize kH O n=R at *
 clear h e j
 go_enter func68,ntmps68
 by_cases h0:0<=n
 ·by_cases h1:n<(O.ai.length:Int)
  ·exact aiz
  ·exact aiA
 ·exact aiB
theorem ael(j:nc O){m}(hm:m<O.ai.length):mU O m=O.ai[m]/\fT O.par O.ai[m]=true:=by refine⟨by unfold mU;simp[hm],?_⟩;have:=j.hm;simp only[pW,dE,uO]at this;exact this.2 _ (bS hm)
theorem bu.look(h:bu H own O W S)(y:S 2)(t:∀n,S (2*n+4))(j:nc O) m:(di H.ak m).isSome=(cX O m).isSome/\∃v,(di H.ak m).getD (.pointer none)=.pointer v:=by
 cases hu:cX O m with
 | none=>rw[h.down y t j.ln hu];exact⟨rfl,_,rfl⟩
 | some B =>
  have hm:0<=m:=by
   unfold cX ku fT at hu;split at hu
   ·next hi=>simp at hi;exact hi.1
   ·cases hu
  obtain⟨n,rfl⟩:=Int.eq_ofNat_of_zero_le hm;obtain⟨gd,g,-,u,-⟩:=h.up (t n) j.ln hu;rw[u];exact⟨rfl,_,rfl⟩
theorem bu.q(h:bu H own O W S)(j:S 2):∀W',K W W'->∀m,(Instr.lookup 78 (.map (some H.gb)) (.int .i64 m) true).run prog W'=.ok (.tuple #[(di H.ak m).getD (.pointer none),.bool (di H.ak m).isSome]) W'/\(Instr.lookup 78 (.map (some H.gb)) (.int .i64 m) false).run prog W'=.ok ((di H.ak m).getD (.pointer none)) W':=λW' k m =>
 Df (DX (P:=prog) (kt:=3) underlying3) underlying78 (z:=.pointer none) ef ((h.eW j).map.st k) m
theorem OT(h:bu H own O W S)(j:S 2)(t:∀n,S (2*n+4))(u:nc O) n :
 Calls prog 13 #[.pointer (some ⟨H.gw,0,none⟩),.int .i64 n] W λe w'=>e=.returned (.bool (cX O n).isSome)/\w'=W:=by
 have C:=ae (Ko h j n)
 have q:=(h.eW j).blk.cell
 have B:=(h.q j W (K.rf W) n).1
 obtain⟨y,v,A⟩:=h.look j t u n
 rw[y,A]at B
 have D:Hid (ku O n=false->(cX O n).isSome=false):=ae λe=>by unfold cX;rw[e];rfl
 generalize (cX O n).isSome=R at *
 clear h j t u y A
 go_enter func13,ntmps13
 go_wp2_with fail
 apply bF C.aa
 rintro w' rfl
 cases hi:ku O n
 ·have HR:=ae (D.aa hi);exact Li
 ·go_wp2;go_ret;exact⟨rfl,rfl⟩
def lV(H:mf)(O:bH)(c:Int):Value×Int:=if kH O c then (if (cX O (mU O c)).isSome then ((di H.ak (mU O c)).getD (.pointer none),0)else (.pointer none,210))else (.pointer none,1)
theorem Oz(h:bu H own O W S)(t:S 2)(B:∀n,S (2*n+4))(y:nc O) c :
 Calls prog 48 #[.pointer (some ⟨H.gw,0,none⟩),.int .i64 c] W λe w'=>e=.returned (.tuple #[(lV H O c).1,.int .i64 (lV H O c).2])/\K W w':=by
 have u:=ae (Ty h t c)
 have q:=(h.eW t).blk.cells
 have C:=h.q t
 obtain⟨A,cc,e,D,-⟩:=h.fx.now.2.1
 rw[e]at q
 have hk:=h.look t B y (mU O c)
 have j:Hid (lV H O c=if kH O c then (if (cX O (mU O c)).isSome then ((di H.ak (mU O c)).getD (.pointer none),0)else (.pointer none,210))else (.pointer none,1)):=ae rfl
 generalize lV H O c=R at *
 have M:=K.rf W
 cases hc:kH O c
 ·have HR:Hid (R=(.pointer none,1)):=ae (by rw[j.aa,hc];rfl);rw[hc]at u;clear h t B y e D j hk C q;go_enter func48,ntmps48;go_wp2_with fail
  apply bF u.aa;rintro w' rfl;go_wp2;go_ret2;exact⟨fE,M⟩
 ·rw[hc]at u j;unfold kH at hc;simp only[dE,decide_eq_true_eq]at hc;obtain⟨m,rfl⟩:=Int.eq_ofNat_of_zero_le hc.1;have hm:m<O.ai.length:=af;have L:=hc.2;obtain⟨b,N,rfl,G⟩:=ints_at D af;have J:=λW k=>G W k m hm
  rw[(ael y hm).1]at hk j;generalize O.ai[m]=x at *;obtain⟨I,v,E⟩:=hk;have F:=λW k=>(C W k x).1
  rw[I,E]at F;rw[E]at j;generalize (cX O x).isSome=Q at *;have HR:Hid (R=if Q then (.pointer v,0)else (.pointer none,210)):=ae j.aa;clear h t B y e D j C G hm hc I E;go_enter func48,ntmps48;go_wp2_with fail
  apply bF u.aa;rintro w' rfl;go_wp2_with fail
  have qs:=And.intro q (And.intro F (And.intro J L));refine dD 16 [([],[]),([0],[(13,0)]),([1],[(14,1)]),([2],[(15,2)]),([],[]),([4],[(17,4)]),([5],[(18,5)]),([6],[(19,6)]),([],[]),([7,8],[(20,7),(21,8)]),([9],[(22,9)]),([3,10],[(16,3),(23,10)]),([11],[(24,11)]),([12],[(12,12)]),([12],[(12,12)]),([13],[(25,13)]),([0,1,2,3,4,5,6,7,8,9,10,11,12,13,14,15],[(26,14)])] 30 ?_;iterate 16 refine au.i ?_
  intro V T kW hA;simp only[aO,aQ,cz,aJ,Nat.reduceAdd]at hA;refine aH.p ?_;refine aH.h ?_;cases Q
  ·go_wp2;go_ret2;exact⟨fE,kW⟩
  ·go_wp2;go_ret2;exact⟨fE,kW⟩
def zZ(H:mf)(O:bH)(c:Int)(a:aR):Value×Int:=if (lV H O c).2=0/\a.1≠mU O c then (.pointer none,1)else lV H O c
theorem abh(h:bu H own O W S)(E:S 2)(L:∀n,S (2*n+4))(G:nc O) c a :
 Calls prog 52 #[.pointer (some ⟨H.gw,0,none⟩),.int .i64 c,bU a] W λe w'=>e=.returned (.tuple #[(zZ H O c a).1,.int .i64 (zZ H O c a).2])/\K W w':=by
 have y:=ae λW' (k:K W W')=>Oz (h.st k) E L G c
 have q:=(h.eW E).blk.cells
 obtain⟨A,cc,e,Q,-⟩:=h.fx.now.2.1
 rw[e]at q
 obtain⟨j,J,I⟩:=a
 have F:Hid (zZ H O c (j,J,I)=if (lV H O c).2=0/\j≠mU O c then (.pointer none,1)else lV H O c):=ae rfl
 generalize zZ H O c (j,J,I)=R at *
 dsimp only[bU]
 by_cases h0:(lV H O c).2=0
 ·have t:kH O c=true:=by
   unfold lV at h0;cases t:kH O c
   ·rw[t]at h0;simp at h0
   ·rfl
  unfold kH at t;simp only[dE,decide_eq_true_eq]at t;obtain⟨m,rfl⟩:=Int.eq_ofNat_of_zero_le t.1;have hm:m<O.ai.length:=af;have Z:=t.2;obtain⟨b,off,rfl,X⟩:=ints_at Q af;have C:=λW k=>X W k m hm
  rw[(ael G hm).1]at F;generalize O.ai[m]=x at *;obtain⟨v,B⟩:∃v,(lV H O m).1=.pointer v:=by
   unfold lV;obtain⟨v,e⟩:=(h.look E L G (mU O m)).2;split
   ·split
    ·exact⟨_,e⟩
    ·exact⟨_,rfl⟩
   ·exact⟨_,rfl⟩
  have HR:Hid (R=if j=x then (.pointer v,0)else (.pointer none,1)):=ae (by
   rw[F.aa,h0];by_cases C:j=x
   ·simp[C];exact Prod.ext B h0
   ·simp[C])
  rw[B,h0]at y;clear h E L G e Q F X hm t h0 B;go_enter func52,ntmps52;have N:=ah.new W 26 #[.int .i64 j,.int .u64 (J:Int),.int .u64 (I:Int)];have u:=N.aS;go_wp2_with fail
  apply oX (y.aa _ u) u;intro T Y D;have qb:=(N.av Y).cells;replace q:=λW' (k:K T W')=>q W' (D.tr k)
  replace C:=λW' (k:K T W')=>C W' (D.tr k)
  clear y N u;go_wp2_with fail
  have qs:=And.intro q (And.intro qb (And.intro C Z));refine dD 9 [([],[]),([0],[(19,0)]),([],[]),([2],[(21,2)]),([3],[(22,3)]),([4],[(23,4)]),([],[]),([5,6],[(24,5),(25,6)]),([7],[(26,7)]),([1,8],[(20,1),(27,8)])] 30 ?_;iterate 9 refine au.i ?_
  intro V W2 kW hA;simp only[aO,aQ,cz,aJ,Nat.reduceAdd]at hA;refine aH.p ?_;refine aH.h ?_;have U:=D.tr kW;by_cases M:j=x
  ·rw[if_pos M]at HR;subst M;go_wp2;go_ret2;exact⟨fE,U⟩
  ·rw[if_neg M]at HR;have aEs:(j != x)=true:=by simpa using M
   go_wp2;go_ret2;exact⟨fE,U⟩
 ·have HR:Hid (R=lV H O c):=ae (by rw[F.aa,if_neg λe=>h0 e.1]);have hne:((lV H O c).2 != 0)=true:=Ia;have B:(lV H O c).1=.pointer none:=by
   unfold lV at h0⊢;split <;> try split
   all_goals simp_all
  generalize lV H O c=r at *;obtain⟨v,d⟩:=r;simp only at hne y B;subst B;clear h E L G e Q F q h0;go_enter func52,ntmps52;have u:=K.new W (.cells #[.int .i64 j,.int .u64 (J:Int),.int .u64 (I:Int)] 26);go_wp2_with fail
  apply oX (y.aa _ u) u;intro T Y D;clear y u;go_wp2;go_ret2;exact⟨fE,D⟩
end
theorem aqV{B}(t:bD B)(u:kN B):∀x∈ye B,x.2.length<=1000000000:=by
 have key:∀(k:Int) (m:fw),pT m->∀x∈wV k m,x.2.length<=1000000000:=λk m hm x j=>by
  grind [wV,avL,ly]
 intro x j
 grind [ye,tH,tI,ach,abL]
def zk(m:Int)(p ai:List Int)(B:bj):Prop:=B.me=m/\B.par=p/\B.ai=ai
section
variable {m:Int} {p ai:List Int} {B:bj}
theorem zk.note B r(h:zk m p ai B):zk m p ai (cY B r).1:=by
 unfold cY;split
 ·split <;> exact h
 ·exact h
theorem zk.handle(h:zk m p ai B)(u:bD B) t b:zk m p ai (il B t b).1:=by
 unfold il;split
 ·split
  ·exact h
  ·next x hx =>
   split
   ·have j:=Kn (O5 (k:=t) u (OY hx).2 (Pe hx));exact⟨j.me.trans h.1,j.par.trans h.2.1,j.ai.trans h.2.2⟩
   ·split
    ·exact adI zk.note (λ_ _ h=>h) (λ_ _ h=>h) h x
    ·exact h
 ·exact h
end
structure Mi(par ai:List Int)(n:Nat)(x:JV)(k:Nat):Prop where
 down:x.up=none->∃s,ic x.dk s/\s.life<=k+1/\(∀a∈s.ab,bT s.list a=false)/\s.prom.length<=6
 up:∀B,x.up=some B->x.dk=B.dk/\fP B/\j8 B k/\B.st.life<=k+1/\zk n par ai B
structure bO(par ai:List Int)(O:bH)(k:Nat):Prop where
 fV:nc O
 tQ:O.par=par
 I6:O.ai=ai
 gF:∀(n:Nat) x,O.gF[n]?=some x->Mi par ai n x k
 key:O.dX.map (·.1)=(IC par).map (·.1)
 few:∀q∈O.dX,q.2.length<=8
 gl:∀l∈O.got,l.length<=k
structure zL(B B':bj)(k:Nat):Prop where
 aAr:fP B'
 run:j8 B' k
 life:B'.st.life=B.st.life
 me:∀ {m p ai},zk m p ai B->zk m p ai B'
theorem j8.mono{B n k}(h:j8 B n)(hk:n<=k):j8 B k:=⟨h.inv,h.fit,by have:=h.told;omega,by have:=h.calls;omega⟩
theorem DF{O m B}(h:cX O m=some B):∃n:Nat,m=(n:Int)/\n<O.par.length/\∃x,O.gF[n]?=some x/\x.up=some B:=by
 grind [cX,ku,fT]
theorem Lr{d s}(h:ic d s):JW d=s:=by unfold JW;rw[h.run];rfl
theorem avV B c j:(jg B c j).1.st=B.st/\(jg B c j).1.me=B.me/\(jg B c j).1.par=B.par/\(jg B c j).1.ai=B.ai:=by
 grind [jg]
theorem avW B r:(fo B r).1.st=B.st/\(fo B r).1.me=B.me/\(fo B r).1.par=B.par/\(fo B r).1.ai=B.ai:=by
 grind [fo]
section
variable {B B':bj} {k j:Nat} {par ai:List Int} {O:bH} {n:Nat} {x:JV} {m:Int}
theorem zL.call{c j}(C:fP (jg B c j).1)(u:j8 B k):zL B (jg B c j).1 (k+1):=by obtain⟨t,y,D,A⟩:=avV B c j;exact⟨C,u.call c j,by rw[t],λh=>⟨y.trans h.1,D.trans h.2.1,A.trans h.2.2⟩⟩
theorem zL.keep{r}(A:fP (fo B r).1)(t:j8 B k):zL B (fo B r).1 (k+1):=by obtain⟨j,u,C,y⟩:=avW B r;exact⟨A,t.keep r,by rw[j],λh=>⟨u.trans h.1,C.trans h.2.1,y.trans h.2.2⟩⟩
theorem zL.work(t:fP B)(u:j8 B k):zL B (gZ B) (k+1):=by have j:=Kn t.tobD;exact⟨t.work,u.work t.tobD,j.life,λh=>⟨j.me.trans h.1,j.par.trans h.2.1,j.ai.trans h.2.2⟩⟩
theorem zL.handle(u:fP B)(t:j8 B k) j b(hk:k<=50000):zL B (il B j b).1 (k+1) :=
 ⟨(Uc t.fit u j b (by have:=t.told;omega)).1,t.handle u j b hk,(acU t.inv j b).1.life,λh=>h.handle u.tobD j b⟩
theorem Mi.mono(h:Mi par ai n x k)(hk:k<=j):Mi par ai n x j :=
 ⟨λe=>(h.down e).imp λs h=>⟨h.1,by have:=h.2.1;omega,h.2.2⟩,λB e=>by obtain⟨t,u,A,C,y⟩:=h.up B e;exact⟨t,u,A.mono hk,by omega,y⟩⟩
theorem bO.mono(h:bO par ai O k)(hk:k<=j):bO par ai O j:=⟨h.fV,h.tQ,h.I6,λn x e=>(h.gF n x e).mono hk,h.key,h.few,λl t=>bn (h.gl l t) hk⟩
theorem bO.up(h:bO par ai O k)(u:cX O m=some B):fP B/\j8 B k/\B.st.life<=k+1/\zk m par ai B:=by obtain⟨n,rfl,-,x,j,t⟩:=DF u;exact ((h.gF n x j).up B t).2
theorem bO.set(h:bO par ai O k) n(hk:k<=j)(u:Mi par ai n x j):bO par ai (ot O n x) j:=by
 refine⟨⟨h.fV.tr,h.fV.hm,?_,h.fV.lc,h.fV.lg⟩,h.tQ,h.I6,λi y e=>?_,h.key,h.few,λl t=>bn (h.gl l t) hk⟩
 ·show (O.gF.set _ x).length=_;rw[List.length_set];exact h.fV.ln
 ·unfold ot at e;simp only[Int.toNat_natCast,List.getElem?_set]at e;split at e
  ·grind
  ·exact (h.gF i y e).mono hk
theorem bO.put(h:bO par ai O k)(D:cX O m=some B)(hk:k<=j)(t:zL B B' j):bO par ai (sN O m B') j:=by
 obtain⟨n,rfl,-,x,u,y⟩:=DF D;have A:=(h.gF n x u).up B y;exact h.set n hk ⟨λe=>by simp at e,λC e=>by
  simp at e;subst e;exact⟨rfl,t.aAr,t.run,by have:=t.life;omega,t.me A.2.2.2.2⟩⟩
theorem bO.call{α}(h:bO par ai O k) c z(f:bj->bj×α×Int)(t:∀B,fP B->j8 B k->zL B (f B).1 (k+1)):bO par ai (uZ O c z f).1 (k+1):=by
 unfold uZ;split
 ·split
  ·exact h.mono (Nat.le_succ k)
  ·next B hu =>
   have j:=h.up hu;exact h.put hu (Nat.le_succ k) (t B j.1 j.2.1)
 ·exact h.mono (Nat.le_succ k)
theorem bO.begin(h:bO par ai O k)(hk:k<=50000){c}(t:cJ c):bO par ai (uJ O c).1 (k+1) :=
 h.call c _ _ λB j hr=>.call (j.begin aiC t) hr
theorem bO.sub(h:bO par ai O k)(hk:k<=50000){c}(A:cJ c){s}(y:s<18446744073709551616){f}(u:∀t∈f,jh t):bO par ai (yD O c s f).1 (k+1) :=
 h.call c _ _ λB j hr=>.call (j.ask aiC pD A y u) hr
theorem bO.keep(h:bO par ai O k) c a f(t:∀B,fP B->fP (fo B (f B.aB)).1):bO par ai (pM O c a f).1 (k+1):=by
 unfold pM wH;split
 ·exact h.mono (Nat.le_succ k)
 ·exact h.call c _ _ λB j u=>.keep (t B j) u
theorem Xg{L k l}(h:nu L k=some l):(k,l)∈L:=by
 grind [nu,Option.map_eq_some_iff,List.mem_of_find?_eq_some]
theorem UU L k l:(jK L k l).map (·.1)=L.map (·.1):=by
 grind [jK,List.map_map,List.map_congr_left]
theorem UW{L k l}(h:∀q∈L,q.2.length<=8)(j:l.length<=8):∀q∈jK L k l,q.2.length<=8:=by
 grind [jK]
theorem aua{L}(h:∀q∈L,q.2.length<=8) k b:(yg L k b).map (·.1)=L.map (·.1)/\∀q∈yg L k b,q.2.length<=8:=by
 unfold yg;split
 ·split
  ·next l e hl=>exact⟨UU _ _ _,UW h aG⟩
  ·grind
 ·grind
theorem adK n:∀(l:List (Int×List UInt8)) {L:List tg},(∀q∈L,q.2.length<=8)->(l.foldl (λL m=>yg L (n,m.1) m.2) L).map (·.1)=L.map (·.1)/\∀q∈l.foldl (λL m=>yg L (n,m.1) m.2) L,q.2.length<=8
 | [],_,h=>⟨rfl,h⟩
 | x :: l,L,h=>by have j:=aua h (n,x.1) x.2;have t:=adK n l j.2;exact⟨t.1.trans j.1,t.2⟩
theorem bO.dX(h:bO par ai O k){L}(t:L.map (·.1)=O.dX.map (·.1))(j:∀q∈L,q.2.length<=8):bO par ai { O with dX:=L } k :=
 ⟨⟨h.fV.tr,h.fV.hm,h.fV.ln,h.fV.lc,h.fV.lg⟩,h.tQ,h.I6,h.gF,t.trans h.key,j,h.gl⟩
theorem bO.tick(h:bO par ai O k) n:bO par ai (tJ O n).1 (k+1):=by
 unfold tJ;split
 ·split
  ·exact h.mono (Nat.le_succ k)
  ·next B hu =>
   have t:=h.up hu;have u:=h.put hu (Nat.le_succ k) (.work t.1 t.2.1);have j:=adK n (ye (gZ B)) h.few;exact u.dX j.1 j.2
 ·exact h.mono (Nat.le_succ k)
theorem bO.aiD(h:bO par ai O k)(hk:k<=50000) a b:bO par ai (rF O a b).1 (k+1):=by
 unfold rF;split
 ·exact h.mono (Nat.le_succ k)
 ·exact h.mono (Nat.le_succ k)
 ·next m l hm =>
  have u:=h.few _ (Xg hm);simp only[eQ]at u;have j:bO par ai { O with dX:=jK O.dX (a,b) l } k:=h.dX (UU _ _ _) (UW h.few af);have e:cX { O with dX:=jK O.dX (a,b) l } b=cX O b:=rfl;simp only[e];split
  ·exact j.mono (Nat.le_succ k)
  ·next B hu =>
   have t:=h.up hu;exact j.put hu (Nat.le_succ k) (.handle t.1 t.2.1 a m hk)
theorem bO.drain a b:∀(j:Nat) {O:bH} {k:Nat},bO par ai O k->k+j<=50000->bO par ai (FD a b j O) (k+j)
 | 0,_,_,h,_=>h
 | j+1,_,k,h,hk=>by have:=bO.drain a b j (h.aiD af a b) af;rw[show k+(j+1)=k+1+j by omega];exact this
theorem bO.long(h:bO par ai O k) a b:nY O a b<=8:=by
 unfold nY
 cases e:nu O.dX (a,b)with
 | none=>simp
 | some l=>exact h.few _ (Xg e)
theorem bO.ajq n:∀(l:List Nat) {O:bH} {k:Nat},bO par ai O k->k+8*l.length<=50000->bO par ai (l.foldl (λO (t:Nat)=>if t=n then O else FD n t (nY O n t) O) O) (k+8*l.length)
 | [],_,_,h,_=>h
 | t :: l,O,k,h,hk=>by
  simp only[eQ,List.foldl_cons]at hk⊢;rw[show k+8*(l.length+1)=k+8+8*l.length by omega];refine bO.ajq n l ?_ af;split
  ·exact h.mono af
  ·have:=h.long n t;exact (h.drain n t _ af).mono af
theorem bO.turn(h:bO par ai O k)(hp:par.length<=6)(hk:k+49<=50000) n:bO par ai (yh O n) (k+49):=by
 have j:=h.tick n;have e:=h.tQ;unfold yh;split
 ·have t:=bO.ajq n (List.range O.par.length) j aG;exact t.mono aG
 ·exact h.mono af
theorem bO.turns(hp:par.length<=6):∀(l:List Nat) {O:bH} {k:Nat},bO par ai O k->k+49*l.length<=50000->bO par ai (l.foldl yh O) (k+49*l.length)
 | [],_,_,h,_=>h
 | t :: l,O,k,h,hk=>by simp only[eQ,List.foldl_cons]at hk⊢;rw[show k+49*(l.length+1)=k+49+49*l.length by omega];exact bO.turns hp l (h.turn hp af t) af
theorem bO.round(h:bO par ai O k)(hp:par.length<=6)(hk:k+588<=50000):bO par ai (wU O) (k+588):=by have e:=h.tQ;have j:=bO.turns hp ((List.range O.par.length).reverse++List.range O.par.length) h aG;exact j.mono aG
theorem bO.XM(h:bO par ai O k) n:bO par ai (zE O n).1 k:=by
 unfold zE;split
 ·split
  ·exact h
  ·next B hu =>
   obtain⟨t,j,u,y⟩:=h.up hu;obtain⟨i,rfl,-⟩:=DF hu;exact h.set i (aC k) ⟨λ_=>⟨B.st,t.dk,u,j.inv.ab,j.inv.prom⟩,λC e=>aG⟩
 ·exact h
theorem j8.open_{me p q d s}(j:∀a∈s.ab,bT s.list a=false)(t:s.prom.length<=6):j8 (uY me p q d (cZ s)) k:=⟨⟨j,t⟩,⟨wS,wS,wS,wS⟩,wS,wS⟩
theorem bO.down(h:bO par ai O k)(t:ku O m=true)(j:cX O m=none):∃n:Nat,m=(n:Int)/\n<par.length/\∃d s,O.gF[n]?=some ⟨none,d⟩/\ic d s/\s.life<=k+1/\(∀a∈s.ab,bT s.list a=false)/\s.prom.length<=6:=by
 unfold cX at j;rw[if_pos t]at j;unfold ku fT at t;simp only[dE,decide_eq_true_eq]at t;obtain⟨n,rfl⟩:=Int.eq_ofNat_of_zero_le t.1;have u:n<O.gF.length:=by have:=h.fV.ln;omega
 rw[Int.toNat_natCast,List.getElem?_eq_getElem u]at j;have y:=(h.gF n _ (List.getElem?_eq_getElem u)).down j;obtain⟨s,A⟩:=y;refine⟨n,rfl,by rw[<- h.tQ];omega,O.gF[n].dk,s,?_,A⟩;rw[List.getElem?_eq_getElem u];exact congrArg some (by cases hx:O.gF[n];rw[hx]at j;simp at j;simp[j])
theorem bO.Xh(h:bO par ai O k) n(hk:k<=50000):bO par ai (zu O n).1 (k+1):=by
 unfold zu;split
 ·next hi =>
  split
  ·exact h.mono (Nat.le_succ k)
  ·next hu =>
   have A:cX O n=none:=Pm;obtain⟨i,rfl,B,d,s,t,j,D,u,y⟩:=h.down hi A;unfold tK;simp only[Int.toNat_natCast,t,Option.map_some,Option.getD_some,Lr j];split
   ·next hr =>
    rw[h.tQ,h.I6];refine h.set i (Nat.le_succ k) ⟨λe=>by simp at e,λC e=>?_⟩;simp at e;subst e;refine⟨rfl,bD.open_ (h.tQ▸h.fV.tr) ?_ (h.tQ▸h.I6▸h.fV.hm) (j.life hr),j8.open_ u y,?_,rfl,rfl,rfl⟩
    ·unfold fT;simp;omega
    ·show (s.life+1)%18446744073709551616<=_;omega
   ·exact h.mono (Nat.le_succ k)
 ·exact h.mono (Nat.le_succ k)
theorem bO.Rn(h:bO par ai O k) c:bO par ai (pN O c).1 (k+1):=by
 have hm:=h.mono (Nat.le_succ k);unfold pN;split
 ·split
  ·exact hm
  ·dsimp only;split
   ·refine⟨⟨h.fV.tr,h.fV.hm,h.fV.ln,?_,?_⟩,h.tQ,h.I6,hm.gF,h.key,h.few,λl j=>?_⟩
    ·simp[h.fV.lc]
    ·dsimp only;split
     ·exact h.fV.lg
     ·simp[h.fV.lg]
    ·dsimp only at j;split at j
     ·exact hm.gl l j
     ·obtain⟨i,t,rfl⟩:=List.getElem_of_mem j;rw[List.getElem_modify];have h9:=h.gl _ (bS (show i<O.got.length by grind));split
      ·grind
      ·omega
   ·exact hm
 ·exact hm
theorem aso p:∀q∈IC p,q.2.length<=8:=by
 grind [IC]
theorem bO.new(j:gQ par=true)(t:pW par ai=true){room}(u:iO (dF (cZ dw))<=room)(y:room<=1048576):bO par ai (tO par ai room) 0:=by
 refine⟨⟨j,t,by simp[tO],by simp[tO],by simp[tO]⟩,rfl,rfl,λn x e=>?_,rfl,aso par,λl A=>by grind [tO]⟩;have hn:n<par.length:=by
  grind [gQ,pW,iO,dF,cZ,dw,tO]
 simp[tO,hn]at e;subst e;refine⟨λe=>aG,λC e=>?_⟩;simp at e;subst e;exact⟨rfl,bD.open_ j (by grind [fT]) t ((ic.new y).life u),j8.open_ xV xV,by simp[uY,cZ,dw],rfl,rfl,rfl⟩
end
theorem abv es v w(h:aq cG es v w)(M:es.length<=1000000)(y:∀e∈es,e.length<=1000000) :
 Calls prog 51 #[v] w λe w'=>∃v',e=.returned v'/\aV w.heap.size w.heap.size 51 cG es v' w'/\K w w':=by
 obtain⟨D,d,rfl,G,C⟩:=h
 have E:=ae y
 have t:=K.rf w
 clear y C
 go_enter func51,ntmps51
 go_wp2_with fail
 go_loopw [3,5,8] (fun o _ i W=>∃j:Nat,j<=es.length/\i=.int .i64 (j:Int)/\aV w.heap.size w.heap.size 51 cG (es.take j) o W/\K w W) (fun _ _ i _=>es.length-(intOf i).toNat)
 case atStart=>exact⟨0,af,rfl,Fu,t⟩
 case round =>
  clear t;obtain⟨j,L,rfl,hO,kr⟩:=hrel;by_cases hlt:j<es.length
  ·have H:(j:Int)<(es.length:Int):=af;obtain⟨A,B,cs,rfl,aN,hcl,⟨F,rfl,iy⟩,hcell⟩:=Iy G j hlt ay;have I:wr.cell? ⟨A,B+j,none⟩=some F:=Pz;have HT:Hid (es.take (j+1)=es.take j++[es[j]]):=ae Im;have J:=E.aa _ (bS hlt);exact ag7
  ·have H:¬(j:Int)<(es.length:Int):=af;exact agS
section
variable {S:Nat->Prop} {W W2:World} {H:mf} {own:Nat->Nat} {O:bH} {par ai:List Int} {k:Nat}
theorem bu.akC(h:bu H own O W S)(u:S 2)(hs:nc O){m}(hm:m<O.ai.length):∃b j c,H.vc=.slice (some ⟨b,j,none⟩) O.cur.length c/\∀W',K W W'->W'.cell? ⟨b,j+m,none⟩=some (.int .i64 ((O.cur[m]?).getD 0)):=by obtain⟨A,c,e,B,-⟩:=(K2 (M:=λ_=>False) (h.eW u).cur λ_ _=>id).now;have t:m<O.cur.length:=Xi;obtain⟨b,j,rfl,y⟩:=ints_at B af;exact⟨b,j,c,e,λW' k=>by rw[y W' k m t];simp[t]⟩
theorem Ud{c}(j:kH O c=true):∃m:Nat,c=(m:Int)/\m<O.ai.length:=by unfold kH at j;simp only[dE,decide_eq_true_eq]at j;obtain⟨m,rfl⟩:=Int.eq_ofNat_of_zero_le j.1;exact⟨m,rfl,af⟩
def Iw(O:bH)(c:Int):Int:=if kH O c then (O.cur[c.toNat]?).getD 0 else 0
theorem aoG(h:bu H own O W S)(j:S 2)(hs:nc O) c :
 Calls prog 25 #[.pointer (some ⟨H.gw,0,none⟩),.int .i64 c] W λe w'=>e=.returned (.int .i64 (Iw O c))/\w'=W:=by
 have C1:=ae (Ty h j c)
 have q:=(h.eW j).blk.cell
 have HR:Hid (Iw O c=if kH O c then (O.cur[c.toNat]?).getD 0 else 0):=ae rfl
 generalize Iw O c=R at *
 cases hc:kH O c
 ·rw[hc]at C1 HR;clear h j hs hc;exact aiE
 ·rw[hc]at C1 HR;obtain⟨m,rfl,hm⟩:=Ud hc;obtain⟨b,u,cc,e,t⟩:=h.akC j hs hm;have y:=t W (K.rf W);have A:(m:Int)<(O.cur.length:Int):=Xi;rw[e]at q;simp only[if_true,Int.toNat_natCast]at HR;generalize (O.cur[m]?).getD 0=x at *;clear h j hs hc t e;exact aiE
end
section
variable {S:Nat->Prop} {W W1:World} {H:mf} {own:Nat->Nat} {O:bH}
theorem aA.YG{α T Y base e}{l:List α}{v}(h:aA Y base e T l v W)(u:0<l.length):∃b cap,v=.slice (some ⟨b,0,none⟩) l.length cap:=by
 obtain⟨css,j,-⟩:=h;rcases j.2 with ⟨-,t⟩|⟨g,cap,cur,e,-⟩
 ·omega
 ·exact⟨g,cap,e⟩
theorem bu.akD(h:bu H own O W S)(G:S 2){m}(hm:m<O.cur.length) x :
 ∃b cap cur,H.vc=.slice (some ⟨b,0,none⟩) O.cur.length cap/\own b=2/\ah W b 3 cur/\bu H own { O with cur:=O.cur.set m x } (W.setCell ⟨b,m,none⟩ (.int .i64 x)) S:=by
 obtain⟨D,C,J,A,B,⟨F,L,E,N⟩,Q,T⟩:=h.eW G
 obtain⟨b,cap,e⟩:=A.YG af
 obtain⟨_,_,cur,hb⟩:=A.own (b:=b) Bu
 have R:=E b Bu
 have u:ag (λk=>k=b) W (W.setCell ⟨b,m,none⟩ (.int .i64 x)):=ag.bL (X:=λk=>k=b) rfl m _
 have t:bu H own O (W.setCell ⟨b,m,none⟩ (.int .i64 x)) λj=>S j/\j≠2:=h.to u (λk e=>aG) (λ_ h=>h.1) (λ_ _=>rfl) λk hk e=>Xf
 refine⟨b,cap,cur,e,R,hb,t.lo,t.fx,λ_=>⟨D.aX u λe=>by subst e;exact absurd (D.gM hb) (by decide),C.aX u λe=>(e▸C).cells hb,J,?_,B.to u (λ_ _=>trivial) (λk hk e=>?_) λ_ _ _=>.inl trivial,⟨F,L,E,N⟩,Q,T⟩,λM=>t.dX ⟨M,af⟩,λn y hn=>t.brk n y ⟨hn,af⟩,λc l I=>t.got c l ⟨I,af⟩⟩
 ·rw[e]at A⊢;have:=A.YC hm (y:=x) (cs:=[.int .i64 x]) rfl (λ_ _=>rfl);simpa [dV,show cR.size=1 from rfl]using this
 ·obtain⟨_,_,U,hb2⟩:=B.own hk;subst e;exact BC
theorem bu.aAs(h:bu H own O W S)(h2:S 2){c}(hS:S (2*c+5)){l}(hl:O.got[c]?=some l){v v'}(hv:H.vs[c]?=some v){x}
 (Y:ag (λk=>v.ownBlock=some k) W W1) (T:aA (λk=>own k≠0) 0 37 (zQ cG) (l++[x]) v' W1) (hat:∀b,v'.ownBlock=some b->v.ownBlock=some b∨W.heap.size<=b) :
 ∃b cap cur,H.vg=.slice (some ⟨b,0,none⟩) O.got.length cap/\own b=2/\ah W1 b 59 cur/\∃B,bu { H with vs:=H.vs.set c v' } B { O with got:=O.got.set c (l++[x]) } (W1.setCell ⟨b,c,none⟩ v') S/\∀k,k<W.heap.size->B k=own k:=by
 obtain⟨N,J,a3,Q,I,⟨b1,b2,Z,M⟩,a7,a8⟩:=h.eW h2
 have hcl:=(List.getElem?_eq_some_iff.1 hl).1
 obtain⟨v0,E,js,G⟩:=h.got c l hS hl
 rw[hv]at E
 injection E with E
 subst E
 obtain⟨b,cap,e⟩:=I.YG (W:=W) af
 rw[a7]at e
 obtain⟨_,bR,cur,hb⟩:=I.own (b:=b) Bu
 have ob:=M b Bu
 have aN:=hb.aX Y λe1=>aG
 have L:ag (λk=>k=b) W1 (W1.setCell ⟨b,c,none⟩ v'):=ag.bL (X:=λk=>k=b) rfl c _
 have hz2:=L.size
 have u:ag (λk=>v.ownBlock=some k∨k=b) W (W1.setCell ⟨b,c,none⟩ v'):=(Y.more λk e=>.inl e).tr (L.more λk e=>.inr e)
 have hX:∀k,v.ownBlock=some k∨k=b->own k=2*c+5∨own k=2:=λk hk=>hk.imp (G k) λe=>aG
 obtain⟨B,nI⟩:∃B:Nat->Nat,B=λk=>if W.heap.size<=k then (if v'.ownBlock=some k then 2*c+5 else 0)else own k:=⟨_,rfl⟩
 have C:∀k,k<W.heap.size->B k=own k:=λk hk=>aG
 have iQ:∀k,W.heap.size<=k->B k≠0->v'.ownBlock=some k/\B k=2*c+5:=λk hk hn=>by
  grind
 have aDV:∀k,W.heap.size<=k->v'.ownBlock=some k->B k=2*c+5:=λk hk t=>by
  grind
 clear nI
 have D:bu H B O (W1.setCell ⟨b,c,none⟩ v') λj=>S j/\j≠2/\j≠2*c+5:=h.to u (λk hk=>by have:=hX k hk;constructor <;> omega) (λ_ h=>h.1) C λk hk hn=>by obtain⟨U,g2⟩:=iQ k hk hn;have:=(T.blk k U).2;exact⟨af,af⟩
 have aAt:∀k,v'.ownBlock=some k->k≠b:=λk hk t=>by
  grind
 have aAu:∀k,v'.ownBlock=some k->B k=2*c+5:=λk hk=>by
  grind
 refine⟨b,cap,cur,e,ob,aN,B,⟨D.lo,D.fx,λ_=>⟨N.aX u λt=>?_,J.aX u λt=>?_,a3,Q.to u (λ_ _=>trivial) (λk hk t=>?_) λ_ _ _=>.inl trivial,?_,⟨(C _ N.lt).trans b1,(C _ J.lt).trans b2,λk hk=>(C k (Q.blk k hk).2).trans (Z k hk),λk hk=>(C k (I.blk k hk).2).trans (M k hk)⟩,aG,a8⟩,λh3=>D.dX ⟨h3,af,af⟩,λn y hn=>D.brk n y ⟨hn,af,af⟩,λc2 l2 hc F=>?_⟩,C⟩
 ·rcases t with t|t
  ·grind
  ·subst t;exact absurd (N.gM hb) ay
 ·rcases t with t|t
  ·have:=G _ t;omega
  ·exact (t▸J).cells hb
 ·rcases t with t|t
  ·have:=G _ t;have:=Z k hk;omega
  ·obtain⟨_,_,QZ,hb2⟩:=Q.own hk;subst t;exact BC
 ·have a6:=I.to Y (λ_ _=>trivial) (λk hk t=>by have:=G _ t;have:=M k hk;omega) (Y':=λ_=>True) λ_ _ _=>.inl trivial
  have V:=e;rw[<- a7]at V;rw[V]at a6;show aA _ 0 _ xO (H.vs.set c v') H.vg _;rw[V];obtain⟨A,cc,rfl⟩:=T.slice;have:=a6.YC (j:=c) af (y:=.slice A (l++[x]).length cc) (cs:=[.slice A (l++[x]).length cc]) rfl (λ_ _=>⟨rfl,rfl⟩);simpa [dV,show xO.size=1 from rfl]using this
 ·by_cases R:c=c2
  ·subst R;simp only[List.getElem?_set_self hcl,Option.some.injEq]at F;subst F;exact⟨v',by rw[List.getElem?_set_self (by omega)],T.to L (λk t=>by subst t;omega) aAt λk hk hn=>by
    by_cases h9:k<W.heap.size
    ·exact .inl (C k h9▸hn)
    ·exact .inr (iQ k af hn).1,aAu⟩
  ·rw[List.getElem?_set_ne R]at F;obtain⟨v2,U,g2⟩:=D.got c2 l2 ⟨hc,af,af⟩ F;exact⟨v2,by rw[List.getElem?_set_ne R];exact U,g2⟩
end
section
variable {W W2:World} {H:mf} {own:Nat->Nat} {O:bH}
theorem bu.YH(h:bu H own O W dJ)(u:nc O) c :
 (∃d:Int,(d != 0)=true/\lV H O c=(.pointer none,d)/\(∀ {α:Type} (z:α) f,uZ O c z f=(O,z,d))/\(kH O c&&(cX O (mU O c)).isSome)=false) ∨
 ∃n B gd g,n<O.gF.length/\H.ds[n]?=some gd/\di H.ak (n:Int)=some (.pointer (some ⟨g,0,none⟩))/\cX O (n:Int)=some B/\lV H O c=(.pointer (some ⟨g,0,none⟩),0)/\mU O c=(n:Int)/\kH O c=true /\
  (∀j,K W j->dm (λk=>own k≠0/\own k≠2*n+4) (λk=>own k≠2*n+4/\k<j.heap.size) g gd B j)/\∀ {α:Type} (z:α) f,uZ O c z f=(sN O n (f B).1,(f B).2):=by
 unfold lV uZ
 cases kH O c
 ·exact .inl ⟨1,rfl,rfl,λ_ _=>rfl,rfl⟩
 ·simp only[if_true];cases hu:cX O (mU O c)with
  | none=>exact .inl ⟨210,rfl,rfl,λ_ _=>rfl,rfl⟩
  | some B =>
   have y:=hu;unfold cX ku fT at y;split at y
   ·next hi =>
    simp only[dE,decide_eq_true_eq]at hi;obtain⟨n,hn⟩:=Int.eq_ofNat_of_zero_le hi.1;rw[hn]at hu⊢;obtain⟨gd,g,A,t,-⟩:=h.up (pB n) u.ln hu;rw[t];refine .inr ⟨n,B,gd,g,by have:=u.ln;omega,A,t,hu,rfl,rfl,trivial,λj F=>?_,λ_ _=>rfl⟩;obtain⟨I,G,C,D,E⟩:=(h.st F).up (pB n) u.ln hu;simp only[A,t,Option.some.injEq,Value.pointer.injEq,Addr.mk.injEq,true_and,and_true]at C D;subst C D;exact E
   ·cases y
theorem bu.via{α D}{args:Value->Array Value}{ret:α×Int->Value}(h:bu H own O W dJ)(I:nc O) c z f
 (F:∀m B,cX O m=some B->∀X Z g gd j,K W j->dm X Z g gd B j->Calls prog D (args (.pointer (some ⟨g,0,none⟩))) j λe w'=>e=.returned (ret (f B).2)/\dm X Z g gd (f B).1 w'/\ag (λk=>¬Z k) j w') :
 (∃d:Int,(d != 0)=true/\lV H O c=(.pointer none,d)/\uZ O c z f=(O,z,d)/\(kH O c&&(cX O (mU O c)).isSome)=false) ∨
 ∃g E r,lV H O c=(.pointer (some ⟨g,0,none⟩),0)/\uZ O c z f=(E,r)/\(kH O c&&(cX O (mU O c)).isSome)=true/\∀j,K W j->Calls prog D (args (.pointer (some ⟨g,0,none⟩))) j λe w'=>e=.returned (ret r)/\dh H own E W w':=by
 rcases h.YH I c with ⟨d,y,A,C,t⟩|⟨n,B,gd,g,y,A,C,t,G,h6,h7,h8,h9⟩
 ·exact .inl ⟨d,y,A,C z f,t⟩
 ·exact .inr ⟨g,_,_,G,h9 z f,by rw[h7,h6,t];rfl,λj u=>(F _ _ t _ _ _ _ j u (h8 j u)).mono λe w' ⟨J,ph,vM⟩=>⟨J,dh.k u ((h.st u).akB y A C ph vM)⟩⟩
theorem dh.keep{y t cs W1 j}(h:dh H (iR own 1 W W1) y W1 W2)(hg:W.heap.size<=j)(hb:ah W1 j t cs):ah W2 j t cs:=by obtain⟨_,_,_,_,u,_⟩:=h;exact hb.aX u λe=>by unfold iR at e;rw[if_pos hg,if_pos hb.lt]at e;omega
theorem dh.id3{j z}(h:dh H (iR own 1 W (W.alloc (.cells z 26))) j (W.alloc (.cells z 26)) W2) x y u(hz:z.size=3) :
 dh H own j W (((W2.setCell ⟨W.heap.size,0,none⟩ x).setCell ⟨W.heap.size,1,none⟩ y).setCell ⟨W.heap.size,2,none⟩ u)/\∀i,(((W2.setCell ⟨W.heap.size,0,none⟩ x).setCell ⟨W.heap.size,1,none⟩ y).setCell ⟨W.heap.size,2,none⟩ u).cell? ⟨W.heap.size,i,none⟩=#[x,y,u][i]?:=by
 have hb:=ah.new W 26 z
 refine⟨h.EG hb.aS (aC _) hb.lt (ag.sets (X:=λk=>k=W.heap.size) rfl [x,y,u] 0 W2),?_⟩
 have:=(((h.keep (aC _) hb).aM 0 x).aM 1 y).aM 2 u
 obtain⟨l⟩:=z
 match l,hz with
 | [a,b,c],_=>exact this.cell
theorem ao9(h:bu H own O W dJ)(Y:nc O) c(hc:cJ c)(hn:∀n B,cX O n=some B->B.calls+1<4611686018427387904) :
 Calls prog 14 #[.pointer (some ⟨H.gw,0,none⟩),.int .i64 c] W λe w'=>e=.returned (.tuple #[bU (uJ O c).2.1,.int .i64 (uJ O c).2.2])/\dh H own (uJ O c).1 W w':=by
 have G:=ah.new W 26 #[.int .i64 0,.int .u64 0,.int .u64 0]
 have C:=h.EG G.aS
 have u:=ae (Oz C p2 pB Y c)
 have D:=ae λ(N:bH) (L:World) (T:dh H _ N _ L)=>And.intro (T.keep (aC _) G) (@dh.id3 W L H own N _ T)
 have HV:=C.via (ret:=λr=>.tuple #[bU r.1,.int .i64 r.2]) (args:=λv=>#[v,.int .i64 c]) Y c (0,0,0) (λB=>wT B c) λn B hu X Z g gd L j hL=>ayg hL c hc (hn n B hu)
 have F:Hid (uJ O c=uZ O c (0,0,0) λB=>wT B c):=ae rfl
 generalize uJ O c=R at *
 rcases HV with ⟨d,hne,A,E,-⟩|⟨g,N,r,A,E,-,S⟩
 ·have HR:Hid (R=(O,(0,0,0),d)):=ae (F.aa.trans E);have Q:=ae λy (j:K _ y)=>D.aa _ _ (C.now j)
  rw[A]at u;clear h C A E F D G;go_enter func14,ntmps14;go_wp2_with fail
  apply bF u.aa;intro y j;have t:=(Q.aa y j).1;have J:=ae ((Q.aa y j).2 (.int .i64 0) (.int .u64 0) (.int .u64 0) rfl);have qr:=t.cell;have zr:=t.frozen;clear u Q t j;go_wp2;obtain⟨hF,e9⟩:=J.aa;refine bodyPost_ret (v:=.tuple #[bU (0,0,0),.int .i64 d]) Xj rfl ?_;exact Qw
 ·obtain⟨I,ec⟩:=r;have HR:=ae (F.aa.trans E);have U:=ae S;rw[A]at u;clear h C A E F G S;go_enter func14,ntmps14;go_wp2_with fail
  apply bF u.aa;intro y j;have V:=ae (U.aa y j);clear u U j;go_wp2_with fail
  apply bF V.aa;intro w3 M;have t:=(D.aa _ _ M).1;have J:=ae ((D.aa _ _ M).2 (.int .i64 I.1) (.int .u64 (I.2.1:Int)) (.int .u64 (I.2.2:Int)) rfl);have qr:=t.cell;have zr:=t.frozen;clear V D t M;go_wp2;obtain⟨hF,e9⟩:=J.aa;refine bodyPost_ret (v:=.tuple #[bU I,.int .i64 ec]) Xj rfl ?_;exact Qw
theorem aqW(h:bu H own O W dJ)(hs:nc O) c(hc:cJ c)(n:Nat)(hn':n<18446744073709551616) f vf(hf:fu f vf W)(hfit:∀t∈f,jh t)(cL:f.length<=1000000)(hn:∀n B,cX O n=some B->B.calls+1<4611686018427387904) :
 Calls prog 32 #[.pointer (some ⟨H.gw,0,none⟩),.int .i64 c,.int .u64 (n:Int),vf] W λe w'=>e=.returned (.tuple #[bU (yD O c n f).2.1,.int .i64 (yD O c n f).2.2])/\dh H own (yD O c n f).1 W w':=by
 have I:=ah.new W 26 #[.int .i64 0,.int .u64 0,.int .u64 0]
 have D:=h.EG I.aS
 have y:=ae (Oz D p2 pB hs c)
 have E:=ae λ(Q:bH) (M:World) (U:dh H _ Q _ M)=>And.intro (U.keep (aC _) I) (@dh.id3 W M H own Q _ U)
 have HV:=D.via (ret:=λr=>.tuple #[bU r.1,.int .i64 r.2]) (args:=λv=>#[v,.int .i64 c,.int .u64 (n:Int),vf]) hs c (0,0,0) (λB=>yw B c n f) λm B hu X Z g gd M j hL=>aAq hL c hc (hn m B hu) n hn' f vf (eH f vf _ _ hf ((K.new W (.cells #[.int .i64 0,.int .u64 0,.int .u64 0] 26)).tr j)) hfit cL
 have G:Hid (yD O c n f=uZ O c (0,0,0) λB=>yw B c n f):=ae rfl
 generalize yD O c n f=R at *
 rcases HV with ⟨d,hne,C,F,-⟩|⟨g,Q,r,C,F,-,T⟩
 ·have HR:Hid (R=(O,(0,0,0),d)):=ae (G.aa.trans F);have S:=ae λA (j:K _ A)=>E.aa _ _ (D.now j)
  rw[C]at y;clear h D C F G E I;go_enter func32,ntmps32;go_wp2_with fail
  apply bF y.aa;intro A j;have u:=(S.aa A j).1;have L:=ae ((S.aa A j).2 (.int .i64 0) (.int .u64 0) (.int .u64 0) rfl);have qr:=u.cell;have zr:=u.frozen;clear y S u j;go_wp2;obtain⟨hF,e9⟩:=L.aa;refine bodyPost_ret (v:=.tuple #[bU (0,0,0),.int .i64 d]) Xk rfl ?_;exact Qw
 ·obtain⟨J,ec⟩:=r;have HR:=ae (G.aa.trans F);have V:=ae T;rw[C]at y;clear h D C F G I T;go_enter func32,ntmps32;go_wp2_with fail
  apply bF y.aa;intro A j;have Y:=ae (V.aa A j);clear y V j;go_wp2_with fail
  apply bF Y.aa;intro w3 N;have u:=(E.aa _ _ N).1;have L:=ae ((E.aa _ _ N).2 (.int .i64 J.1) (.int .u64 (J.2.1:Int)) (.int .u64 (J.2.2:Int)) rfl);have qr:=u.cell;have zr:=u.frozen;clear Y E u N;go_wp2;obtain⟨hF,e9⟩:=L.aa;refine bodyPost_ret (v:=.tuple #[bU J,.int .i64 ec]) Xk rfl ?_;exact Qw
end
theorem acn c:∀(l:List aK) (s:List lA) (n:Nat),(∀x∈l,eB x)->(mS c l s n).1.length<=1000000/\∀e∈(mS c l s n).1,e.length<=1000000
 | [],_,_,_=>⟨by simp[mS],by simp[mS]⟩
 | x :: r,s,n,h=>by
  unfold mS;split
  ·exact acn c r _ _ λy hy=>h y Fw
  ·have t:=h x aj;have u:∀e∈oP s c x,e∈x.es:=λe j=>by
    unfold oP at j;split at j
    ·exact (List.mem_filter.1 j).1
    ·simp at j
   have A:(oP s c x).length<=x.es.length:=by
    unfold oP;split
    ·exact ll _ _
    ·simp
   exact⟨bn A t.2.1,λe j=>t.2.2 e (u e j)⟩
theorem aqX{B}(u:bD B) c j:(oW B c j).1.length<=1000000/\∀e∈(oW B c j).1,e.length<=1000000:=by
 unfold oW;split
 ·split
  ·exact acn c _ _ _ λx t=>u.DD.1 x (List.mem_of_mem_drop t)
  ·simp
 ·simp
theorem ayj:(prog.info? 37).map (λi=>(i.zero,i.size,i.bytes))=some (some (.slice none 0 0),1,24):=by kernel_rfl
theorem TEE:fK prog 59 37 (.slice none 0 0) 1 24:=⟨underlying59,ayj,rfl,ay⟩
section
variable {S:Nat->Prop} {W W2:World} {H:mf} {own:Nat->Nat} {O:bH} {par ai:List Int} {k:Nat}
theorem bu.aAv(h:bu H own O W dJ)(D:nc O) c :
 (∃d:Int,(d != 0)=true/\lV H O c=(.pointer none,d)/\pN O c=(O,[],d)) ∨
 ∃(m:Nat) (B:bj) (gd g n:Nat),c=(m:Int)/\m<O.ai.length/\cX O (n:Int)=some B/\lV H O c=(.pointer (some ⟨g,0,none⟩),0)/\(∀u,K W u->dm (λk=>own k≠0/\own k≠2*n+4) (λk=>own k≠2*n+4/\k<u.heap.size) g gd B u) /\
  pN O c=(if (oW B c ((O.cur[m]?).getD 0)).2.2=0 then ({ O with cur:=O.cur.set m (oW B c ((O.cur[m]?).getD 0)).2.1,got:=if (oW B c ((O.cur[m]?).getD 0)).1=[]then O.got else O.got.modify m λg=>g++[(oW B c ((O.cur[m]?).getD 0)).1] },(oW B c ((O.cur[m]?).getD 0)).1,0)else (O,[],(oW B c ((O.cur[m]?).getD 0)).2.2)):=by
 rcases h.YH D c with ⟨d,y,A,C,t⟩|⟨n,B,gd,g,y,A,C,t,j,h6,h7,h8,h9⟩
 ·refine .inl ⟨d,y,A,?_⟩;have j:=C (α:=List (List cT)) [] λB=>(B,[],0)
  unfold uZ at j;unfold pN;cases hc:kH O c
  ·simp[hc]at j⊢;exact j
  ·cases hu:cX O (mU O c)with
   | none=>simp[hc,hu]at j⊢;exact j
   | some B=>rw[hc,hu]at t;simp at t
 ·obtain⟨m,rfl,hm⟩:=Ud h7;refine .inr ⟨m,B,gd,g,n,rfl,hm,t,j,h8,?_⟩;unfold pN;rw[if_pos h7,h6];simp only[t,Int.toNat_natCast]
theorem bu.akE(h:bu H own O W S)(G:S 2){m}(hm:m<O.got.length):∃b cap v,H.vg=.slice (some ⟨b,0,none⟩) O.got.length cap/\own b=2/\H.vs[m]?=some v/\v.oneCell'=true/\∀W',ag (λk=>own k≠2) W W'->W'.cell? ⟨b,0+m,none⟩=some v:=by
 obtain⟨V,M,Y,X,B,⟨U,N,Q,y⟩,J,T⟩:=h.eW G;obtain⟨b,cap,e⟩:=B.YG (W:=W) af;have F:=y b Bu;have t:m<H.vs.length:=af;have key:∀W',ag (λk=>own k≠2) W W'->W'.cell? ⟨b,0+m,none⟩=some H.vs[m]/\H.vs[m].oneCell'=true:=λW' u=>by have L:=(B.to u (λ_ _=>trivial) (λk hk e=>e (y k hk)) (Y':=λ_=>True) λ_ _ _=>.inl trivial).aq;obtain⟨A,c,C,I,-⟩:=L;rw[e]at C;injection C with e1 e2 e3;subst e1;obtain⟨R,Z,cs,j,-,D,E,-⟩:=ed I m t ay;injection j with j;injection j with j e5;subst j e5;obtain⟨rfl,h9⟩:=D W' (K.rf W');have:=E W' (K.rf W');simp only[show xO.size=1 from rfl,Nat.mul_one]at this;exact⟨this,h9⟩
 exact⟨b,cap,H.vs[m],by rw[e,J],F,List.getElem?_eq_getElem t,(key W (ag.rf _ _)).2,λW' u=>(key W' u).1⟩
theorem apQ(h:bu H own O W dJ)(hI:bO par ai O k)(hk:k<=40000) c :
 Calls prog 15 #[.pointer (some ⟨H.gw,0,none⟩),.int .i64 c] W λe w'=>∃v,e=.returned (.tuple #[v,.int .i64 (pN O c).2.2])/\aq cG (pN O c).2.1 v w'/\dh H own (pN O c).1 W w':=by
 have hs:=hI.fV
 have T:=ae (Oz h p2 pB hs c)
 rcases h.aAv hs c with ⟨d,hne,I,hp⟩|⟨m,B,gd,g,n,rfl,hm,hu,I,hL,hp⟩
 ·have HR:=ae hp;have HK:=ae λD (y:K W D)=>h.now y
  rw[I]at T;generalize pN O c=R at *;clear h hI hp I hs;go_enter func15,ntmps15;go_wp2_with fail
  apply bF T.aa;intro D y;have HF:=ae (HK.aa D y);have HE:=ae (aA.nil (λ_=>True) 0 51 cG D).aq;clear T y HK;exact Xl
 obtain⟨hG,Bh,-⟩:=hI.up hu
 have iz:=aqX hG.tobD (m:Int) ((O.cur[m]?).getD 0)
 have sf:=ae iz
 have HP:=ae hp
 rw[I]at T
 have HH:=ae λD (y:K W D)=>h.st y
 have HLv:=ae hL
 have R9:=ae hI.gl
 have hmc:m<O.cur.length:=Xi
 have EX:m<O.got.length:=by have:=hs.lg;omega
 have uv:(m:Int)<O.cur.length:=af
 have HVB:Hid ((∀v,H.vs[m]?=some v->∀b,v.ownBlock=some b->b<W.heap.size)/\∀b,H.vg.ownBlock=some b->b<W.heap.size):=ae ⟨λv I b hb=>by
  obtain⟨v0,L,h2,-⟩:=h.got m O.got[m] (show dJ (2*m+5) by unfold dJ;omega) (List.getElem?_eq_getElem EX);rw[I]at L;injection L with L;subst L;exact (h2.blk b hb).2,λb hb=>((h.eW p2).got.blk b hb).2⟩
 obtain⟨U,aEt,aEu,ec,oc,hbc,-⟩:=h.akD p2 hmc 0
 have AF:∀W',K W W'->W'.cell? ⟨U,m,none⟩=some (.int .i64 ((O.cur[m]?).getD 0)):=by obtain⟨b9,o9,c9,j,h9⟩:=h.akC p2 hs hm;rw[ec]at j;injection j with j;injection j with j;injection j with e1 e2;subst e1 e2;exact λW' k=>by simpa using h9 W' k
 generalize pN O (m:Int)=R at *
 generalize hx:(O.cur[m]?).getD 0=x at *
 have q:=(h.eW p2).blk.cells
 rw[ec]at q
 clear hI hp I hs hG Bh hu iz hL
 go_enter func15,ntmps15
 go_wp2_with fail
 apply bF T.aa
 intro D y
 have C3:=ae (ay2 (HLv.aa D y) (m:Int) x)
 clear T HLv
 go_wp2_with fail
 refine C3.aa.mono ?_
 rintro e C⟨v3,rfl,bE,k3⟩
 obtain⟨A3,c3,rfl,-⟩:=bE.slice
 generalize oW B (m:Int) x=r at *
 obtain⟨t,G,code⟩:=r
 have F:=y.tr k3
 have h3:=HH.aa C F
 by_cases hc:code=0
 ·subst hc;have HR:Hid (R=({ O with cur:=O.cur.set m G,got:=if t=[]then O.got else O.got.modify m λg=>g++[t] },t,0)):=ae WJ;obtain⟨b9,aEv,aEw,j,ob9,aZ,E⟩:=h3.akD p2 hmc G;rw[ec]at j;injection j with j;injection j with j;injection j with j;subst j;have q3:=q C F;have qc3:=AF C F;have z3:=aZ.frozen;have Y:=ae E;have HO3:=ae bE;have bR:=bz hbc.lt y.size;have u4:ag (λk=>k=U) C (C.setCell ⟨U,m,none⟩ (.int .i64 G)):=ag.bL (X:=λk=>k=U) rfl m _;have Z:=ae (show ag (λk=>2<=own k) W (C.setCell ⟨U,m,none⟩ (.int .i64 G))from (ag.aT F _).tr (u4.more λk e=>by rw[e,oc];exact aC 2));have Cq:=ae (bE.up (w':=C.setCell ⟨U,m,none⟩ (.int .i64 G)) (aC _) (aI.set bR m _));have Gw:=ae (show W.heap.size<=D.heap.size from y.size);clear C3 q AF y k3 F h3 E bE aZ h hbc HH HP u4;go_upto_region 8 with (fail);generalize C.setCell _ _=M at *;by_cases he:t=[]
  ·subst he;have HF:=ae (show dh H own { O with cur:=O.cur.set m G } W M from ⟨H,own,Y.aa,rfl,Z.aa,λ_ _=>rfl⟩);have h9:¬(0:Int)<0:=af;clear Z Y q3 qc3 z3;go_wp2;go_ret2;exact⟨_,fE,by rw[HR.aa];exact Cq.aa.aq,FA⟩
  ·have hep:(0:Int)<(t.length:Int):=by have:=List.length_pos_iff.2 he;omega
   have E:=Y.aa;obtain⟨bg,aEx,v,eg,og,J1,h1c,NP⟩:=E.akE p2 EX;obtain⟨l,hl⟩:∃l,O.got[m]?=some l:=⟨_,List.getElem?_eq_getElem EX⟩;obtain⟨v',hv',hO,Te⟩:=E.got m l (show dJ (2*m+5) by unfold dJ;omega) hl;rw[J1]at hv';injection hv' with hv';subst hv';have wy:=bn (R9.aa l (List.mem_of_getElem? hl)) hk;have hrow:=hO.blk;have hq:∀W,qU v M W->∀i,W.cell? ⟨H.gw,i,none⟩=#[H.vp,H.vh,H.vn,H.vd,.map (some H.gb),H.vc,H.vg][i]?:=λW u=>((E.eW p2).blk.aX u λe=>by have:=Te _ e;have:=(E.eW p2).own.1;omega).cell
   have rW:∀W,qU v M W->W.cell? ⟨bg,m,none⟩=some v:=λW u=>by simpa using NP W (u.more λk e=>by have:=Te k e;omega)
   rw[eg]at hq;have YI:(m:Int)<O.got.length:=af;have S5:=ae λW (u:qU v M W)=>abv t _ W ((Cq.aa.up (aC _) (u.qZ λk L h2 _ e=>aiF)).aq) sf.aa.1 sf.aa.2
   clear q3 qc3 z3 E NP HO3;go_wp2_with fail
   have qs:=And.intro hq (And.intro rW YI);refine E4 16 15 l v t 59 TEE [([],[]),([0],[(46,0)]),([1],[(47,1)]),([2],[(48,2)]),([],[]),([],[]),([5],[(51,5)]),([6],[(52,6)]),([7],[(53,7)]),([],[]),([8,9],[(54,8),(55,9)]),([10],[(56,10)]),([],[]),([12],[(58,12)]),([13],[(59,13)]),([11,14],[(57,11),(60,14)]),([0,1,2,3,4,5,6,7,8,9,10,11,12,13,14,15],[(49,3),(50,4)]),([0,1,2,3,4,5,6,7,8,9,10,11,12,13,14,15,16],[(62,16),(61,15)])] 64 hO (eV _) af ?_;iterate 13 refine au.i ?_
   refine au.c (λu W=>∃A c,u=.slice A t.length c/\Fx (λk=>k<M.heap.size) (λW=>aq cG t u W) W) (λ_ _ _ ⟨A,c,e,h⟩ k=>⟨A,c,e,h.up (ag.eM (X:=λb=>v.ownBlock=some b) k λ_ h=>h) λb hb=>(hrow b hb).2⟩) (λW u=>(S5.aa W u).mono λe w5 ⟨v5,e1,Q,k5⟩=>⟨v5,e1,(by
    obtain⟨A,c,e5,-⟩:=Q.slice;exact⟨A,c,e5,Q.Jv λk hk=>bz hk u.size⟩),k5⟩) ?_
   refine au.FV (S:=zQ cG) (N:=λk=>own k≠0∨v.ownBlock=some k) M.heap.size TEE t (λ_ h=>h.size) (λb hb=>⟨.inr hb,(hrow b hb).2⟩) (λV W J hp=>?_) ?_
   ·simp only[cd,aO,aQ,bW,bY,aJ]at hp;obtain⟨⟨A,c,e,hF⟩,-⟩:=hp;show tT _ _ _ (V 13) _;refine⟨Bu,λW' u=>⟨V 13,Bu,hF W' (u.more λk hk=>hk.elim (Y.aa.lo k) λhk=>(hrow k hk).2)⟩⟩
   refine au.s ?_;clear qs;refine⟨λ_ _=>trivial,λV W J hp=>?_,λV W J bq si hA=>?_⟩
   ·exact Ii
   simp only[aO,aQ,cz,aJ,Nat.reduceAdd]at hA;obtain⟨A9,c9,qA⟩:=bq.slice;obtain⟨b9,zb,cr9,j,o9,aZ,aAw,Q,lY⟩:=Y.aa.aAs p2 (show dJ (2*m+5) by unfold dJ;omega) hl J1 J bq si;rw[eg]at j;injection j with j;injection j with j;injection j with j;subst j;have hq9:=rW W J;have qA:V 15=.slice A9 (l.length+1) c9:=by simpa using qA
   have hA:=And.intro hA qA;have qs:=And.intro hq9 (And.intro aZ.frozen (And.intro EX YI));refine aH.p ?_;refine aH.s ?_;refine aH.h ?_;rw[qA]at Q;have hsz:bg<D.heap.size:=by have:=HVB.aa.2 bg (by rw[eg];rfl);have:=Gw.aa;omega
   have HE:=ae ((Cq.aa.up (aC _) (J.qZ λk L h2 _ e=>aiF)).up (aC _) (aI.set hsz m (.slice A9 (l.length+1) c9))).aq;have eG:(if t=[]then O.got else O.got.modify m λg=>g++[t])=O.got.set m (l++[t]):=by
    rw[if_neg he];refine List.ext_getElem? λi=>?_
    rw[List.getElem?_modify,List.getElem?_set];by_cases hi:m=i
    ·subst hi;simp[EX];exact (List.getElem?_eq_some_iff.1 hl).2
    ·simp[hi]
   rw[eG]at HR;have HF:=ae (show dh H own { O with cur:=O.cur.set m G,got:=O.got.set m (l++[t]) } _ (W.setCell ⟨bg,m,none⟩ (.slice A9 (l.length+1) c9))from ⟨_,aAw,Q,rfl,(Z.aa.tr (J.more λk e=>by have:=Te k e;omega)).tr (ag.bL (X:=λk=>2<=own k) (by rw[og];exact aC 2) m _),λk hk=>lY k (bz hk Z.aa.size)⟩);clear hA qs hq9 aZ Q lY bq si J hq rW hO Te hrow qA S5 Cq Z Y HVB R9 hsz;generalize W.setCell _ _=W9 at *;exact Xl
 ·have hne:(code != 0)=true:=Il;have HR:Hid (R=(O,[],code)):=ae (by rw[HP.aa];exact if_neg hc);have HF:=ae (show dh H own O W C from dh.k F (h3.now (K.rf C)));have HE:=ae (aA.nil (λ_=>True) 0 51 cG C).aq;clear C3 q AF y k3 F h3 bE h hbc HH HP;exact Xl
end
def Ad(O:bH)(c:Int):List (List (List cT)):=if kH O c then (O.got[c.toNat]?).getD []else []
section
variable {S:Nat->Prop} {W W2:World} {H:mf} {own:Nat->Nat} {O:bH} {par ai:List Int} {k:Nat}
theorem aqY(h:bu H own O W dJ)(G:bO par ai O k)(hk:k<=40000)(Y:∀l∈O.got,∀b∈l,b.length<=1000000/\∀e∈b,e.length<=1000000) c :
 Calls prog 26 #[.pointer (some ⟨H.gw,0,none⟩),.int .i64 c] W λe w'=>∃v,e=.returned v/\aq (zQ cG) (Ad O c) v w'/\K W w':=by
 have B:=ae (Ty h p2 c)
 have q:=(h.eW p2).blk.cells
 cases hc:kH O c
 ·have HR:Hid (Ad O c=[]):=ae (by unfold Ad;rw[hc];rfl);rw[hc]at B;generalize Ad O c=R at *;clear h G hc q Y;go_enter func26,ntmps26;go_wp2_with fail
  apply bF B.aa;rintro w' rfl;have HE:=ae (aA.nil (λ_=>True) 0 37 (zQ cG) w').aq;have kk:=K.rf w';go_wp2;go_ret;exact⟨_,rfl,by rw[HR.aa];exact HE.aa,kk⟩
 rw[hc]at B
 obtain⟨m,rfl,hm⟩:=Ud hc
 have EX:m<O.got.length:=by have:=G.fV.lg;omega
 obtain⟨l,F⟩:∃l,O.got[m]?=some l:=⟨_,List.getElem?_eq_getElem EX⟩
 have HR:Hid (Ad O (m:Int)=l):=ae (by unfold Ad;rw[if_pos hc];simp[F])
 have wy:=bn (G.gl l (List.mem_of_getElem? F)) hk
 have SX:=ae (Y l (List.mem_of_getElem? F))
 obtain⟨b,cap,v,eg,og,J1,h1c,NP⟩:=h.akE p2 EX
 obtain⟨v',E,t,-⟩:=h.got m l (show dJ (2*m+5) by unfold dJ;omega) F
 rw[J1]at E
 injection E with E
 subst E
 obtain⟨A,ca,rfl,lC,-⟩:=t.aq
 have rW:=NP W (ag.rf _ _)
 rw[mi]at rW
 rw[eg]at q
 have q0:=q W (K.rf W)
 have YI:(m:Int)<(O.got.length:Int):=af
 have Jo:=ae lC
 generalize Ad O (m:Int)=R at *
 clear h G hc Y t NP J1 h1c og q lC
 go_enter func26,ntmps26
 go_wp2_with fail
 apply bF B.aa
 rintro w' rfl
 clear B
 have KK:=ae (K.rf w')
 have sY:=ae (aA.nil (λk=>k<w'.heap.size) w'.heap.size 37 (zQ cG) w')
 go_wp2_with fail
 go_loopw [5,7,20] (fun o _ i W=>∃j:Nat,j<=l.length/\i=.int .i64 (j:Int)/\Hid (aA (fun k=>k<w'.heap.size) w'.heap.size 37 (zQ cG) (l.take j) o W)/\Hid (K w' W)) (fun _ _ i _=>l.length-(intOf i).toNat)
 case atStart=>exact⟨0,eV _,rfl,by simpa using sY,KK⟩
 case round =>
  clear KK sY q0 rW;obtain⟨j,hj,rfl,L,C⟩:=hrel;by_cases hlt:j<l.length
  ·have aP:(j:Int)<(l.length:Int):=af;have HT:Hid (l.take (j+1)=l.take j++[l[j]]):=ae Im;have V:=SX.aa _ (bS hlt);obtain⟨b1,off,cs0,rfl,-,hrl,D,-⟩:=ed Jo.aa j hlt ay;have gV:(l.take j).length<=40000:=aY;have D:=D wr C.aa;obtain⟨ve,rfl,U⟩:=hrl wr C.aa;generalize l[j]=y at *;simp only[show (zQ cG).size=1 from rfl,Nat.mul_one]at D;have C2:=ae (abv y ve wr U V.1 V.2);obtain⟨Ae,ce,rfl⟩:=aw U;have D:wr.cell? ⟨b1,off+j,none⟩=some (.slice Ae y.length ce):=D;have J:=L.aa;have hsz:=C.aa.size;clear hrl U V;go_wp2_with fail
   refine C2.aa.mono ?_;rintro e w3⟨v3,rfl,Z,Q⟩;obtain⟨A3,c3,rfl,-⟩:=Z.slice;have hub:=J.blk;have hr:=ew.new (S:=zQ cG) (e:=37) (N:=λk=>k<w'.heap.size∨u5.ownBlock=some k) (v:=.slice A3 y.length c3) (x:=y) (w:=w3) (λW u=>⟨_,rfl,Z.Jv (M:=λk=>k<w'.heap.size∨u5.ownBlock=some k) (λk hk=>hk.elim (λh=>af) λh=>(hub k h).2) W u⟩) 0 (eV _);have T:=K.new w3 (.cells #[.slice A3 y.length c3] 37);have cB:=(J.st Q).st T;have I:=(C.aa.tr Q).tr T;have ir:=I.size;clear C2 Z J hub T Q L hsz;go_wp2_with (at_builtin;refine jt rfl _ _ 59 rfl _ 1 24 TEE rfl rfl cB _ rfl y ?p1 ?p2 ?p3 ?_)
   case p1=>exact hr
   case p2=>omega
   case p3=>exact ir
   intro v9 w9 X bB cQ aZ;rw[<- HT.aa]at X;have xy:=ae X;have HK9:=ae (I.trans aZ);clear X bB cQ aZ cB hr I;go_wp2;exact⟨⟨j+1,af,bJ,xy,HK9⟩,Ix⟩
  ·have aP:¬(j:Int)<(l.length:Int):=af;have t:=L.aa;rw[fM af]at t;have HF:=ae t.aq;have Zl:=C.aa;clear t;go_wp2;go_ret;exact⟨_,rfl,FA,Zl⟩
end
def tA:List dt:=[(⟨#[112]⟩,8,0,0,⟨#[]⟩)]
def eA:List cT:=[(⟨#[112]⟩,1,5,⟨#[]⟩)]
def aw0:bH:=tO [-1,0] [1] 10000
def NQ:bH×aR×Int:=yD aw0 0 1 tA
def NR:bH×aR×Int:=uJ NQ.1 0
def NS:bH×Unit×Int:=pM NR.1 0 (1,1,2) λl=>iY l (1,1,2) eA
def NT:bH×Unit×Int:=pM NS.1 0 (1,1,2) λl=>jG l (1,1,2)
def aw5:bH:=wU NT.1
def aw6:bH:=wU aw5
def aw7:bH:=wU aw6
def CZ:bH×List (List cT)×Int:=pN aw7 0
def NU:bH×Int:=zE CZ.1 1
def NW:bH×aR×Int:=uJ NU.1 0
def NX:bH×Int:=zu NW.1 1
def qF:bH×List (List cT)×Int:=pN NX.1 0
theorem Xm:(decide (NQ.2=((1,1,1),0)/\NR.2=((1,1,2),0)/\NS.2.2=0/\NT.2.2=0/\CZ.2.1.length=1/\CZ.2.2=0/\Dx CZ.1 0 (1,1,2)=(3,0)/\NU.2=0) &&
 decide (NW.2=((0,0,0),210)/\NX.2=0/\qF.2.1.length=0/\qF.2.2=0/\Iw qF.1 0=2/\(Ad qF.1 0).length=1/\(oR qF.1 0).list.length=2/\IJ qF.1 1=0/\(cX qF.1 1).isSome=true) &&
 qF.1.got.all (λl=>l.all λb=>decide (b.length<=1000)&&b.all λe=>decide (e.length<=1000)))=true:=by decide +kernel
theorem ayk:∀l∈qF.1.got,∀b∈l,b.length<=1000000/\∀e∈b,e.length<=1000000:=λl t b hb=>by have h:=Xm;rw[dE]at h;have h9:=(List.all_eq_true.1 ((List.all_eq_true.1 h.2) l t)) b hb;rw[dE]at h9;exact⟨bn (of_decide_eq_true h9.1) ay,λe j=>bn (of_decide_eq_true ((List.all_eq_true.1 h9.2) e j)) ay⟩
theorem Ee:NQ.2=((1,1,1),0)/\NR.2=((1,1,2),0)/\NS.2.2=0/\NT.2.2=0/\CZ.2.1.length=1/\CZ.2.2=0/\Dx CZ.1 0 (1,1,2)=(3,0)/\NU.2=0:=by
 have h:=Xm
 grind
theorem B6:NW.2=((0,0,0),210)/\NX.2=0/\qF.2.1.length=0/\qF.2.2=0/\Iw qF.1 0=2/\(Ad qF.1 0).length=1/\(oR qF.1 0).list.length=2/\IJ qF.1 1=0/\(cX qF.1 1).isSome=true:=by
 have h:=Xm
 grind
