/-
  A broker of the overlay comes up (layer 21): open, Restart. Conditions: none.
-/
import Derived.Test.YtfndfpdhlbmboaaGreatMd28
import Derived.Test.YtfndfpdhlbmboaaGreatMdz
set_option maxRecDepth 100000
set_option linter.constructorNameAsVariable false
set_option maxHeartbeats 16000000
set_option linter.unusedVariables false
set_option linter.unusedSimpArgs false
namespace Go.Proofs.YtfndfpdhlbmboaaGreat
open Go Go.RowKit _root_.Go.Proofs.Tryz
theorem awy{Z gd W d s}(h:sw Z gd d W)(B:gS d s)(E:s.life+1<18446744073709551616) p ah me t j(N:Fx (λk=>¬Z k) (λW=>aq cQ p t W) W)(M:Fx (λk=>¬Z k) (λW=>aq cQ ah j W) W)
 (G:fk p=true) (hm:fA p me=true) (C:jt p ah=true) (L:¬ir (cM (bP s))<=d.room) :
 Calls prog 86 #[.int .i64 me,t,j,.pointer (some ⟨gd,0,none⟩)] W λe w'=>e=.returned (.tuple #[.pointer none,.int .i64 90])/\sw Z gd d w'/\ag (λk=>¬Z k) W w':=by
 obtain⟨vh,I,hz⟩:=h
 have A:∀k,lP gd vh k->¬Z k:=λk hk u=>(hz k u).1 hk
 refine (acs gd vh d s p ah me t j W I B B.Y9 E (N.less A) (M.less A) G hm C).mono ?_
 intro e w' hp
 unfold D8 at hp
 rw[if_neg L]at hp
 obtain⟨D,H,F,y⟩:=hp
 exact⟨H,⟨D,F,λk hk=>⟨λJ=>(y.new k J).elim (hz k hk).1 λh=>aA,bz (hz k hk).2 y.up.size⟩⟩,y.up.more λk hk u=>(hz k u).1 hk⟩
theorem auJ{O}{i:Nat}{x}(h:O.eX[i]?=some x):jU O i x=O:=by obtain⟨j,rfl⟩:=List.getElem?_eq_some_iff.1 h;simp[jU]
def Gz(H:mM)(own:Nat->Nat)(O:bF)(W:World)(i gd:Nat)(B:aZ)(d:pC)(R:bF×Int)(p:Option Addr)(j:Int)(W':World):Prop :=
 ag (λk=>¬(own k≠2*i+4/\k<W.heap.size)) W W'/\(j=0/\(∃g,p=some ⟨g,0,none⟩/\dE (λk=>own k≠0/\own k≠2*i+4) (λk=>own k≠2*i+4/\k<W.heap.size) g gd B W')/\R=(iw O i B,0) ∨
  (j==0)=false/\p=none/\sw (λk=>own k≠2*i+4/\k<W.heap.size) gd d W'/\R=(O,j))
def xF(O:bF)(n:Int):bF×Int:=if jt O.par O.ah then qL O n else (O,1)
def Za:Value->Value
 | .tuple a=>a.getD 0 undef
 | _=>undef
def Zb:Value->Value
 | .tuple a=>a.getD 1 undef
 | _=>undef
section
variable {S:Nat->Prop} {W W':World} {H:mM} {own:Nat->Nat} {O:bF} {par ah:List Int} {k:Nat}
theorem bu.opn(h:bu H own O W S)(Z:∀n,S (2*n+4))(ht:fk O.par=true)(gU:O.eX.length=O.par.length)(Y:O.ah.length<=1000000){i:Nat}{d s}(A:O.eX[i]?=some ⟨none,d⟩)(D:gS d s)(F:s.life+1<18446744073709551616) :
 ∃gd B,H.ds[i]?=some gd/\dh H.ak (i:Int)=none/\∀W1,K W W1->Calls prog 86 #[.int .i64 i,H.vp,H.vh,.pointer (some ⟨gd,0,none⟩)] W1 λe w'=>∃p J,e=.returned (.tuple #[.pointer p,.int .i64 J])/\Gz H own O W i gd B d (xF O i) p J w':=by
 obtain⟨gd,N,-,M⟩:=h.brk i _ (Z i) A
 obtain⟨Q,E⟩:=M rfl
 have hi:=(List.getElem?_eq_some_iff.1 A).1
 refine⟨gd,oV i O.par O.ah ⟨cM (bP s),d.room⟩ (bP s),N,Q,λW1 t=>?_⟩
 have y:qL O i=if ir (cM (bP s))<=d.room then (iw O i (oV i O.par O.ah ⟨cM (bP s),d.room⟩ (bP s)),0)else (O,90):=by
  grind [qL,Int.toNat_natCast,Gb]
 have V:∀k,k<W.heap.size->¬(own k≠2*i+4/\k<W.heap.size)->own k≠0:=λk hk e=>af
 have f:=(h.fx.to (ag.rf (λ_=>False) W) (λ_ h=>h.elim) V).k t
 have hm:fA O.par (i:Int)=true:=by unfold fA;simp;omega
 have L:=ag.aT t λk=>¬(own k≠2*i+4/\k<W.heap.size)
 by_cases j:jt O.par O.ah=true
 case neg =>
  have j:jt O.par O.ah=false:=by simpa using j
  have A:xF O i=(O,1):=by unfold xF;rw[j];rfl
  have G:=f W1 (ag.rf _ _);refine (avY O.par O.ah i H.vp H.vh _ W1 G.1 G.2.1 Ws Y (.inr ⟨gd,rfl⟩) (.inr (.inr (.inr j)))).mono ?_;rintro e w'⟨rfl,I⟩;rw[A,ht];exact⟨none,1,rfl,ag.aT (t.tr I) _,.inr ⟨rfl,rfl,E.st (t.tr I),rfl⟩⟩
 have U:xF O i=qL O i:=by unfold xF;rw[j];rfl
 rw[U]
 by_cases C:ir (cM (bP s))<=d.room
 ·rw[if_pos C]at y;refine (azv (X:=λk=>own k≠0/\own k≠2*i+4) (E.st t) D D.Y9 F O.par O.ah i H.vp H.vh (λW u=>(f W u).1) (λW u=>(f W u).2.1) ht hm j C λk hk=>⟨hk.2,h.lo k hk.1⟩).mono ?_;rintro e w'⟨g,rfl,T,u,-⟩;exact⟨_,_,rfl,L.tr u,.inl ⟨rfl,⟨g,rfl,T⟩,y⟩⟩
 ·rw[if_neg C]at y;refine (awy (E.st t) D F O.par O.ah i H.vp H.vh (λW u=>(f W u).1) (λW u=>(f W u).2.1) ht hm j C).mono ?_;rintro e w'⟨rfl,R,u⟩;exact⟨_,_,rfl,L.tr u,.inr ⟨rfl,rfl,R,y⟩⟩
theorem Gz.st{i gd B d R p y W1 u}(h:Gz H own O W i gd B d R p y W1)(k:K W1 u):Gz H own O W i gd B d R p y u :=
 ⟨h.1.tr (ag.aT k _),h.2.imp (λ⟨e,⟨g,t,A⟩,j⟩=>⟨e,⟨g,t,A.st k⟩,j⟩) λ⟨e,t,C,j⟩=>⟨e,t,C.st k,j⟩⟩
theorem bu.came(h:bu H own O W S)(t:S 2)(L:O.eX.length=O.par.length){i gd g:Nat}{d B W1}(D:O.eX[i]?=some ⟨none,d⟩)(N:H.ds[i]?=some gd)(A:dh H.ak (i:Int)=none)
 (u:ag (λk=>¬(own k≠2*i+4/\k<W.heap.size)) W W1) (T:dE (λk=>own k≠0/\own k≠2*i+4) (λk=>own k≠2*i+4/\k<W.heap.size) g gd B W1) :
 ∃j,(Instr.mapUpdate 78 (.map (some H.gb)) (.int .i64 i) (.pointer (some ⟨g,0,none⟩))).run prog W1=.ok () j/\∃J E,bu J E (iw O i B) j S/\J.gw=H.gw/\ag (λk=>2<=own k) W j/\(∀k,k<W.heap.size->E k=own k)/\∀k,E k=3->own k=3:=by
 have U:=(List.getElem?_eq_some_iff.1 D).1
 have I:ag (λk=>own k=2*i+4) W W1:=⟨u.os,u.tape,u.output,u.size,λk G t=>u.block k G λD=>D ⟨t,G⟩⟩
 have F:=aiW h af I λ_ h=>h
 have C:=h.fo t
 obtain⟨j,R,hm,hg⟩:=FK (Es (P:=prog) (kt:=3) underlying3) underlying78 (F.fo ⟨t,af⟩).map (i:Int) (.pointer (some ⟨g,0,none⟩))
 rw[awx A]at hm
 have y:ag (λk=>k=H.gb) W1 j:=ag.eU hg λk e=>XM
 have V:=C.own.2.1
 have hz:=u.size
 have Z:=y.size
 have M:=C.map.lt
 refine⟨j,R,_,_,F.map (n:=i) t U L hm ?_ (λm X=>?_) y ⟨gd,N,λB' e=>?_,λe=>DV⟩,rfl,(I.more λk e=>af).gF (y.more (Y:=λk=>2<=own k) λk e=>by rw[e,V];exact aD 2) λk hk e=>e,λk hk=>F6,λk hk=>by
  unfold jf at hk;split at hk
  ·split at hk <;> omega
  ·exact hk⟩
 ·rw[List.map_append];exact List.nodup_append.2 ⟨C.kn,aj,λa Q b hb e=>ado A (by simp at hb;rw[<- hb,<- e];exact Q)⟩
 ·rw[Ve];cases dh H.ak m <;> simp
  intro e;exact absurd e.symm X
 ·injection e with e;subst e;refine⟨g,by rw[Ve,A];simp,T.to y (λk e=>by subst e;exact⟨⟨by omega,by omega⟩,by omega,M⟩) (λk hk=>?_) λk hk=>?_⟩
  ·have:=PJ h.lo ⟨hk.2,.inr hk.1⟩;exact .inl ⟨this.2.2▸hk.1,this.1⟩
  ·by_cases h9:k<W1.heap.size
   ·have:=PJ h.lo ⟨hk.1,.inl h9⟩;exact .inl ⟨this.1,this.2.1⟩
   ·exact .inr ⟨af,hk.2⟩
theorem abV(h:bu H own O W S)(J:S 2)(hS:∀n,S (2*n+4))(ht:fk O.par=true)(gU:O.eX.length=O.par.length)(TJ:O.ah.length<=1000000){i:Nat}{d s}(y:O.eX[i]?=some ⟨none,d⟩)(hG:gS d s)(hl:s.life+1<18446744073709551616) :
 Calls prog 42 #[.pointer (some ⟨H.gw,0,none⟩),.int .i64 i] W λe w'=>e=.returned (.int .i64 (xF O i).2)/\∃I C,bu I C (xF O i).1 w' S/\I.gw=H.gw/\ag (λk=>2<=own k) W w'/\(∀k,k<W.heap.size->C k=own k)/\∀k,C k=3->own k=3:=by
 obtain⟨gd,B,N,hlk,hC⟩:=h.opn hS ht gU TJ y hG hl
 have HC:=ae hC
 have HW:=ae λg W1 u Z=>h.came J gU (g:=g) (W1:=W1) (B:=B) y N hlk u Z
 have hi:=(List.getElem?_eq_some_iff.1 y).1
 have HD:=ae λW1 u (A:sw _ gd d W1)=>auJ y▸h.akX (W':=W1) hi N hlk A u
 have ez:=(h.fo J).own.1
 have hb:=(h.fo J).blk
 obtain⟨b,off,c,Dy,hnl,Fm⟩:=h.Jn N
 have N0:(i:Int)<H.ds.length:=af
 have GP:=λW1 (u:ag (λk=>¬(own k≠2*i+4/\k<W.heap.size)) W W1)=>Fm W1 ⟨u.os,u.tape,u.output,u.size,λk G J=>u.block k G λy=>y ⟨af,G⟩⟩
 have D:∀W1,ag (λk=>¬(own k≠2*i+4/\k<W.heap.size)) W W1->∀j,W1.cell? ⟨H.gw,j,none⟩=#[H.vp,H.vh,H.vn,H.vd,.map (some H.gb),H.vc,H.vg][j]?:=λW1 u=>(hb.aW u λe=>e ⟨af,hb.lt⟩).cell
 rw[Dy]at D
 generalize xF O (i:Int)=R at *
 have Dp:=ae λp code W1 (h:Gz H own O W i gd B d R p code W1)=>h.1
 obtain⟨Y,hY⟩:∃Y,Y=λk=>¬(own k≠2*i+4/\k<W.heap.size):=⟨_,rfl⟩
 rw[<- hY]at D GP Dp
 have q:=D W (ag.rf _ _)
 clear hY
 clear h y hG hl hS hC N hlk hi ht gU TJ hb Fm
 go_enter func42,ntmps42
 go_upto_region 1 with (fail)
 have qs:=And.intro D (And.intro GP N0)
 refine T6 21 [16] (ag Y W) (λ_ _=>True) (λk vs W1=>if k=0 then K W W1 else ∃p code,vs=[.tuple #[.pointer p,.int .i64 code]]/\Gz H own O W i gd B d R p code W1)
  [([],[]),([],[]),([1],[(9,1)]),([2],[(10,2)]),([3],[(11,3)]),([],[]),([5],[(13,5)]),([6],[(14,6)]),([7],[(15,7)]),([],[]),([9],[(17,9)]),([10],[(18,10)]),([11],[(19,11)]),([],[]),([12,13],[(20,12),(21,13)]),([14],[(22,14)]),([0,4,8,15],[(8,0),(12,4),(16,8),(23,15)]),([16],[(24,16)]),([17],[(7,17)]),([17],[(7,17)]),([18],[(25,18)]),([0,1,2,3,4,5,6,7,8,9,10,11,12,13,14,15,16,17,18,19,20],[(26,19)])] 36 [] [(17,16,id),(18,17,Za),(19,17,Zb),(20,18,id)]
  (λ_ _ h k=>h.tr (ag.aT k _)) (λ_ _ _=>trivial) (λk vs W1 W2 h kW=>by
   split at h
   ·next h0=>rw[if_pos h0];exact h.tr kW
   ·next h0 =>
    rw[if_neg h0];obtain⟨p,code,e,E⟩:=h;exact⟨p,code,e,E.st kW⟩) (ag.rf _ _) (λ_=>K.rf W) ?_
 iterate 16 refine au.i ?_
 refine au.kn (λv=>∃p code,v=.tuple #[.pointer p,.int .i64 code]) ?_
 refine au.op (λv _=>∃p code,v=.tuple #[.pointer p,.int .i64 code]) (λ_ _ _ h _=>h) (λV W1 kW hp=>?_) ?_
 ·exact XN
 refine au.op (λv _=>∃p,v=.pointer p) (λ_ _ _ h _=>h) (λV W1 kW hp=>?_) ?_
 ·exact XN
 refine au.op (λv _=>∃c:Int,v=.int .i64 c) (λ_ _ _ h _=>h) (λV W1 kW hp=>?_) ?_
 ·exact XN
 refine au.op (λv _=>∃p,v=.pointer p) (λ_ _ _ h _=>h) (λV W1 kW hp=>?_) ?_
 ·simp only[cF,aO,aR,bW,bY,aJ]at hp;obtain⟨⟨p,e⟩,-⟩:=hp;exact ai2
 clear qs
 refine⟨⟨⟨_,_,rfl,rfl,rfl,λV W1 L A hp=>?_⟩,trivial⟩,λk hk=>(by simp at hk),λz hz=>?_,λV W1 L A _ hE hA=>?_⟩
 ·simp only[cF,aO,aR,bW,bY,aJ]at hp;obtain⟨U,M,X,ru,-⟩:=hp;have A:K W W1:=by simpa using A
  simp[aF,List.lookup,U,M,X,ru,kI,execOp,aG,go_sem];refine (HC.aa W1 A).mono ?_;rintro e w'⟨p,code,rfl,E⟩;exact⟨_,rfl,Dp.aa _ _ _ E,⟨p,code,rfl,E⟩,p,code,rfl⟩
 ·simp at hz;rcases hz with rfl|rfl|rfl|rfl;all_goals refine⟨_,_,rfl,rfl,rfl,aj,λV W1 L hp=>⟨W1,?_⟩⟩
  all_goals simp only[cF,aO,aR,bW,bY,aJ]at hp
  ·simp[aF,List.lookup,execOp,aG,go_sem]
  ·obtain⟨⟨p,code,e⟩,-⟩:=hp;simp[aF,List.lookup,e,execOp,aG,go_sem,Za]
  ·obtain⟨⟨p,code,e⟩,-⟩:=hp;simp[aF,List.lookup,e,execOp,aG,go_sem,Zb]
  ·simp[aF,List.lookup,execOp,aG,go_sem]
 simp only[aO,aR,cC,aJ,Nat.reduceAdd]at hA
 obtain⟨U,e1,e2,e3,M,e5,e6,e7,X,e9,fO,p9,Dj,zH,E3,ru,-⟩:=hA
 simp only[cF,id]at hE
 obtain⟨T,F,TK,TL,-⟩:=hE
 obtain⟨p,code,Q,E⟩:∃p code,V 16=.tuple #[.pointer p,.int .i64 code]/\Gz H own O W i gd B d R p code W1:=by simpa using A
 rw[T,Q]at F TK
 rw[F]at TL
 rw[Q]at T
 simp only[Za,Zb]at F TK TL
 have hA:=And.intro U (And.intro e1 (And.intro e2 (And.intro e3 (And.intro M (And.intro e5 (And.intro e6 (And.intro e7 (And.intro X (And.intro e9 (And.intro fO (And.intro p9 (And.intro Dj (And.intro zH (And.intro E3 (And.intro ru (And.intro Q (And.intro T (And.intro F (And.intro TK TL)))))))))))))))))))
 have qs:=trivial
 refine aH.p ?_
 refine aH.h ?_
 have q1:=D W1 L
 clear U e1 e2 e3 M e5 e6 e7 X e9 fO p9 Dj zH E3 ru Q T F TK TL hA qs A D GP L HC Dp q
 obtain⟨t,⟨rfl,⟨g,rfl,Z⟩,rfl⟩|⟨Sh,rfl,Hy,rfl⟩⟩:=E
 ·obtain⟨W2,hrun,hF⟩:=HW.aa g W1 t Z;have HF:=ae hF;clear t Z HW HD hF;exact QU
 ·have HF:=ae (show ∃I C,bu I C O W1 S/\I.gw=H.gw/\ag (λk=>2<=own k) W W1/\(∀k,k<W.heap.size->C k=own k)/\∀k,C k=3->own k=3 from
   ⟨H,_,HD.aa W1 t Hy,rfl,⟨t.os,t.tape,t.output,t.size,λk G J=>t.block k G λy=>y ⟨af,G⟩⟩,λk hk=>F6,λk hk=>by
    unfold jf at hk;split at hk
    ·split at hk <;> omega
    ·exact hk⟩)
  clear t Hy HW HD;exact QU
theorem aqg(h:bu H own O W S)(C:S 2)(A:∀n,S (2*n+4))(j:pU O){i:Nat}{d s}(B:O.eX[i]?=some ⟨none,d⟩)(y:gS d s)(D:s.life+1<18446744073709551616) :
 Calls prog 42 #[.pointer (some ⟨H.gw,0,none⟩),.int .i64 i] W λe w'=>e=.returned (.int .i64 (qL O i).2)/\∃u t,bu u t (qL O i).1 w' S/\u.gw=H.gw/\ag (λk=>2<=own k) W w'/\(∀k,k<W.heap.size->t k=own k)/\∀k,t k=3->own k=3:=by
 have:=abV h C A j.tr j.ln (by have:=FN j.hm;omega) B y D
 rwa [show xF O i=qL O i by unfold xF;rw[j.hm];rfl]at this
theorem aoM(h:bu H own O W dF)(u:bQ par ah O k)(hk:k<=40000) n :
 Calls prog 20 #[.pointer (some ⟨H.gw,0,none⟩),.int .i64 n] W λe w'=>e=.returned (.int .i64 (lR O n).2)/\dB H own (lR O n).1 W w':=by
 have C1:=ae (KV h p2 n)
 have C2:=ae (Pk h p2 pB u.gH n)
 have HR:Hid (lR O n=if gX O n then (if (cL O n).isSome then (O,(210:Int))else qL O n)else (O,1)):=ae rfl
 have HN:=ae (h.now (K.rf W))
 have y:Hid (gX O n=true->cL O n=none->Calls prog 42 #[.pointer (some ⟨H.gw,0,none⟩),.int .i64 n] W λe w'=>e=.returned (.int .i64 (qL O n).2)/\dB H own (qL O n).1 W w'):=ae λj t=>by obtain⟨i,rfl,-,d,s,E,G,I,-⟩:=u.down j t;exact (aqg h p2 pB u.gH E G af).mono λe w' ⟨D,F,o',a,b,c,d,_⟩=>⟨D,F,o',a,b,c,d⟩
 generalize lR O n=R at *
 cases j:gX O n
 ·rw[j]at C1 HR;clear h u j C2 y;go_enter func20,ntmps20;exact QT
 rw[j]at C1 HR
 cases t:cL O n with
 | none =>
  have A:=ae (y.aa j t);rw[t]at HR C2;generalize qL O n=L at *;clear h u j t y;go_enter func20,ntmps20;go_wp2_with fail
  apply aM C1.aa;rintro w' rfl;go_wp2_with fail
  apply aM C2.aa;rintro w' rfl;go_wp2_with fail
  apply aM A.aa;intro J C;have HF:=ae C;clear A C;exact Lx
 | some B => rw[t]at HR C2;clear h u j t y;go_enter func20,ntmps20;exact ai1
end
section
open Go Go.RowKit Go.Conc
def AA(par:List Int)(n:Nat):List pI:=(List.range n).tail.flatMap λ(k:Nat)=>let p:=(par[k]?).getD 0;[(((k:Int),p),[]),((p,(k:Int)),[])]
theorem art par k(hk:1<=k):AA par (k+1)=AA par k++[(((k:Int),(par[k]?).getD 0),[])]++[(((par[k]?).getD 0,(k:Int)),[])]:=by unfold AA;rw[List.range_succ,List.tail_append_of_ne_nil aA,List.flatMap_append];simp
theorem adp par n:∀p∈AA par n,p.2=[]:=by
 grind [AA]
theorem yp.mem{M C B A ak L W}(h:yp M C B A ak L W){p}(hp:p∈ak):∃q∈L,p.1=q.1/\∃c<W.heap.size,p.2=.chan (some c):=by
 obtain⟨i,j,rfl⟩:=List.getElem_of_mem hp;have t:i<L.length:=by rw[<- h.len];exact j
 obtain⟨y,c,vs,e,-,u,-⟩:=h.ls i j t;exact⟨_,bZ t,y,c,u.lt,e⟩
theorem yp.add{M C D t c ak L W W1 k}(h:yp M C D t ak L W)(Y:∀p∈L,p.2=[])(N:K W W1)(hg:D≠t)(U:qu c [] W1)(hw:W.heap.size<=c)(hk:∀p∈L,p.1≠k):
 ∃W',(Instr.mapUpdate 147 (.map (some t)) (rU k) (.chan (some c))).run prog W1=.ok () W'/\ag (λk=>k=t) W1 W'/\∃ak,∀(M' E:Nat->Prop),(∀k,C k∨k=c->E k)->(∀k,E k->M' k)->¬M' D/\¬M' t->yp M' E D t ak (L++[(k,[])]) W':=by
 have F:∀p∈ak,p.1≠k:=λp hp=>by
  obtain⟨q,hq,e,-⟩:=h.mem hp
  grind
 obtain⟨W',V,G,r3⟩:=FK akV underlying147 (h.map.st N) k (.chan (some c))
 have u:=ag.eU r3 (X:=λk=>k=t) λk e=>aA
 have O:=(ag.aT N (λk=>k=t)).tr u
 have hcm:c≠t:=λe=>by have:=h.map.lt;omega
 unfold sG at G
 rw[Vt F]at G
 refine⟨W',V,u,ak++[(k,.chan (some c))],λM' E Q hM hn=>?_⟩
 ·refine⟨h.blk.aW O hg,G,by simp[h.len],λi I H=>?_,?_,λi j I S e=>?_,hn,hM⟩
  ·by_cases y:i<ak.length
   ·have A:i<L.length:=by rw[<- h.len];exact y
    simp only[List.getElem_append_left y,List.getElem_append_left A];obtain⟨g1,c2,vs,e,R,Z,J,q4⟩:=h.ls i y A;rw[Y _ (bZ A)]at J⊢;exact⟨g1,c2,vs,e,Q _ (.inl R),Z.aW O λe=>h.ne.2 (h.sub _ (e▸R)),J,λi _ H=>aA⟩
   ·obtain rfl:i=ak.length:=aA;simp only[List.getElem_concat_length,h.len];exact⟨aj,c,[],aj,Q _ (.inr rfl),U.aW u hcm,rfl,λi _ H=>by simp at H⟩
  ·rw[List.map_append];refine List.nodup_append.2 ⟨h.nd,aj,λa T b hb=>?_⟩;obtain⟨p,hp,rfl⟩:=List.mem_map.1 T;obtain⟨q,-,-,c',hc',e⟩:=h.mem hp;simp at hb;subst hb;rw[e];intro B;injection B with B;injection B with B;omega
  ·by_cases y:i<ak.length <;> by_cases A:j<ak.length
   ·simp only[List.getElem_append_left y,List.getElem_append_left A]at e;exact h.kn i j y A e
   ·obtain rfl:j=ak.length:=by simp at S;omega
    simp only[List.getElem_append_left y,List.getElem_concat_length]at e;exact absurd e (F _ (bZ y))
   ·obtain rfl:i=ak.length:=by simp at I;omega
    simp only[List.getElem_append_left A,List.getElem_concat_length]at e;exact absurd e.symm (F _ (bZ A))
   ·simp at I S;omega
theorem asT{par n}(h:fk par=true)(hn:n<=par.length){p}(hp:p∈AA par n):∃(i:Nat) (q:Int),i<n/\par[i]?=some q/\0<=q/\q<(i:Int)/\(p.1=((i:Int),q)∨p.1=(q,(i:Int))):=by
 grind [fk,AA]
theorem asU par v w(h:aq cQ par v w)(U:fk par=true) :
 Calls prog 43 #[v] w λe w'=>∃x,e=.returned x/\(∃gn,x=.tuple #[.pointer (some ⟨gn,0,none⟩),.int .i64 0]/\∃C,tg (λk=>k<w.heap.size∨C k) C gn (Cg par) w'/\∀k,C k->w.heap.size<=k/\k<w'.heap.size)/\K w w':=by
 have hp:=sA U
 have C1:=ae (KD par v w h af)
 obtain⟨A,c,rfl,hl,-⟩:=h
 obtain⟨b,off,rfl,hcell⟩:=ints_at hl af
 have oY:xE par=0:=if_pos U
 rw[oY]at C1
 have HT:=ae U
 clear oY hl
 have kk:=K.rf w
 go_enter func43,ntmps43
 go_wp2_with fail
 apply cG C1.aa kk
 intro t y k0
 have kH:=λW=>KE (P:=prog) underlying147 W
 go_upto_region 5 with (fail)
 have xO:yp (λk=>k<w.heap.size∨(w.heap.size<=k/\k<t.heap.size+2/\k≠t.heap.size/\k≠t.heap.size+1)) (λk=>w.heap.size<=k/\k<t.heap.size+2/\k≠t.heap.size/\k≠t.heap.size+1) (t.heap.size+1) t.heap.size [] (AA par 1) ((t.alloc (.map #[] 0)).alloc (.cells #[.map (some t.heap.size)] 149)) :=
  ⟨by simpa using ai.new (t.alloc (.map #[] 0)) 149 #[.map (some t.heap.size)],(eC.new t).st ((K.rf _).al _),rfl,λi hi=>Lf,aj,λi _ hi=>Lf,by have:=y.size;constructor <;> omega,λk h=>.inr h⟩
 have M:=(k0.al (.map #[] 0)).al (.cells #[.map (some t.heap.size)] 149)
 have hz:((t.alloc (.map #[] 0)).alloc (.cells #[.map (some t.heap.size)] 149)).heap.size=t.heap.size+2:=aj
 have hz1:=y.size
 clear y k0 kk C1 kH
 generalize ((t.alloc (.map #[] 0)).alloc (.cells #[.map (some t.heap.size)] 149))=w2 at *
 rw[<- hz]at xO
 generalize Zz:t.heap.size=u at *
 have N:=ae (And.intro hz (And.intro hz1 Zz))
 have Q:=ae (And.intro xO M)
 clear hz hz1 Zz xO M
 go_wp2_with fail
 go_loopw [6] (fun i W=>∃j:Nat,1<=j/\j<=par.length/\i=.int .i64 j/\Hid ((∃ak,yp (fun k=>k<w.heap.size∨(w.heap.size<=k/\k<W.heap.size/\k≠u/\k≠u+1)) (fun k=>w.heap.size<=k/\k<W.heap.size/\k≠u/\k≠u+1) (u+1) u ak (AA par j) W)/\K w W/\u+2<=W.heap.size)) (fun i _=>par.length-(intOf i).toNat)
 case atStart=>exact⟨1,af,af,rfl,ae ⟨⟨_,Q.aa.1⟩,Q.aa.2,by have:=N.aa;omega⟩⟩
 case round =>
  clear Q;obtain⟨j,M5,hj,rfl,HJ⟩:=hrel;by_cases hlt:j<par.length
  ·have L:(j:Int)<par.length:=af;obtain⟨⟨ak,E⟩,F,rX⟩:=HJ.aa;have S:=λW (k:K w W)=>hcell W k j hlt
   have q:=E.blk.cells;have HK:=ae (show ∀p∈AA par j,p.1≠((j:Int),par[j])/\p.1≠(par[j],(j:Int))from λp hp=>by
    obtain⟨i,x,O,-,h3,h4,h5⟩:=asT HT.aa af hp;rcases h5 with e|e <;> rw[e] <;> constructor <;> intro e2 <;> injection e2 <;> omega)
   have HS:=ae (art par j M5);have EU:=ae ((zX.1 HT.aa).2.2.2 j hlt M5);rw[List.getElem?_eq_getElem hlt,Option.getD_some]at HS;generalize par[j]=x at *;have HN:=ae E;have HC:=ae S;have hq:=λW (k:K wr W)=>S W (F.tr k)
   clear E hcell S;go_wp2_with fail
   have qs:=And.intro q (And.intro hq (And.intro L L));refine dV 11 ?_;iterate 10 refine au.i ?_
   refine au.op (λv W=>∃c,v=.chan (some c)/\wr.heap.size<=c/\qu c [] W) (λv W W' ⟨c,e,O,h2⟩ k=>⟨c,e,O,h2.aW (ag.aT k λ_=>False) id⟩) (λV W kW hp=>?_) ?_
   ·exact ai3
   intro V W kW hA;simp only[aO,aR,cC,aJ,Nat.reduceAdd]at hA;obtain⟨f0,f1,R,I,f4,T,f6,Z,Y,H,⟨c1,J,hc1,dq⟩,-⟩:=hA;have hz:=kW.size;have hzz:=N.aa;have hz0:=F.size;have jX:=dq.lt;obtain⟨W1,X,u1,aFg,D⟩:=HN.aa.add (adp par j) kW af dq hc1 λp hp=>(HK.aa p hp).1
   have hz1:=u1.size;replace D:=D (λk=>k<w.heap.size∨(w.heap.size<=k/\k<W1.heap.size/\k≠u/\k≠u+1)) (λk=>w.heap.size<=k/\k<W1.heap.size/\k≠u/\k≠u+1) ai4 (λ_ h=>.inr h) ai5;simp only[rU]at X;refine aH.s (w':=W1) ?_ (by simp[aF,List.lookup,bj,I,H,J,execOp,aG,X,go_sem]);refine aH.e ?_;have y:=u1.k (F.tr kW) λk e=>e▸by have:=N.aa;omega
   have lI:=λB (k:K W1 B)=>HC.aa B (y.tr k)
   have q1:=D.blk.cells;have Dg:=ae D;clear qs q hq f0 f1 R I f4 T f6 Z Y H J dq X D HN;go_wp2_with fail
   have qs:=And.intro q1 (And.intro lI (And.intro L L));refine dV 11 ?_;iterate 10 refine au.i ?_
   refine au.op (λv W=>∃c,v=.chan (some c)/\W1.heap.size<=c/\qu c [] W) (λv W W' ⟨c,e,O,h2⟩ k=>⟨c,e,O,h2.aW (ag.aT k λ_=>False) id⟩) (λV W kW hp=>?_) ?_
   ·exact ai3
   intro V W kW hA;simp only[aO,aR,cC,aJ,Nat.reduceAdd]at hA;obtain⟨f0,f1,R,I,f4,T,f6,Z,Y,H,⟨c2,J,ik,kJ⟩,-⟩:=hA;have zE:=kW.size;have ew:=kJ.lt;obtain⟨B,r2,u2,aFh,G⟩:=Dg.aa.add (λp hp=>by
    rcases List.mem_append.1 hp with h|h
    ·exact adp par j p h
    ·simp at h;rw[h]) kW af kJ ik λp hp=>by
    rcases List.mem_append.1 hp with h|h
    ·exact (HK.aa p h).2
    ·simp at h;rw[h];have:=EU.aa;intro e;injection e;omega
   have hz2:=u2.size;replace G:=G (λk=>k<w.heap.size∨(w.heap.size<=k/\k<B.heap.size/\k≠u/\k≠u+1)) (λk=>w.heap.size<=k/\k<B.heap.size/\k≠u/\k≠u+1) ai4 (λ_ h=>.inr h) ai5;simp only[rU]at r2;refine aH.s (w':=B) ?_ (by simp[aF,List.lookup,bj,I,H,J,execOp,aG,r2,go_sem]);refine aH.e ?_;have M:=u2.k (y.tr kW) λk e=>e▸by have:=N.aa;omega
   rw[<- HS.aa]at G;have EY:=ae G;clear qs q1 lI f0 f1 R I f4 T f6 Z Y H J kJ r2 G Dg;go_wp2;go_roundw
   case rel=>exact⟨j+1,af,af,bI,ae ⟨⟨_,EY.aa⟩,M,af⟩⟩
   case measure=>simp[intOf];omega
  ·have L:¬(j:Int)<par.length:=af;obtain rfl:j=par.length:=af;go_wp2;go_ret2;obtain⟨⟨ak,E⟩,F,-⟩:=HJ.aa;exact⟨_,rfl,⟨_,rfl,_,⟨_,_,E⟩,λk h=>⟨h.1,h.2.1⟩⟩,F⟩
end
theorem aeO{α T j e z bytes}(t:fY prog j e z 1 bytes)(n:Nat)(hn:n<=1000000)(x:α)(hz:z.cells=#[z])(u:T.size=1)(F:∀w,T.rel x [z] w)(hb:bytes<=1000) W :
 (Instr.makeSlice j (.int .i64 n) (.int .i64 n)).run prog W=.ok (.slice (some ⟨W.heap.size,0,none⟩) n n) (W.alloc (.cells (madeCells #[z] n) e))/\aB (λ_=>True) W.heap.size e T (List.replicate n x) (.slice (some ⟨W.heap.size,0,none⟩) n n) (W.alloc (.cells (madeCells #[z] n) e)):=by
 obtain⟨i,D,y,A,B⟩:=t.fit
 have h9:(i.bytes:Int)*(n:Int)<=281474976710656:=by have:=Nat.mul_le_mul hb hn;rw[B,<- Int.natCast_mul];omega
 have h:=run_make (P:=prog) W j e i z t.und D y .i64 .i64 (n:Int) (n:Int) af af h9 af
 rw[A,hz]at h
 refine⟨aA,List.replicate n [z],?_,aj,λw' _=>⟨aj,λi u E=>aA⟩⟩
 have C:(List.replicate n [z]).flatten=List.replicate n z:=aj
 rw[C,u,List.length_replicate]
 exact OO (xs:=List.replicate n z) (rest:=[]) (aD _) (by rw[List.append_nil,<- toList_madeCells_one];exact ai.new W e _) aj aj BW
structure EE(w:World)(par ah:List Int)(room gw gb:Nat)(vp vh vc vg:Value)(ds:List Nat)(vd:Value)(W:World):Prop where
 blk:ai W gw 83 #[vp,vh,.pointer none,vd,.map (some gb),vc,vg]
 map:eC encI W gb []
 p:aB (λ_=>True) w.heap.size 3 cQ par vp W
 h:aB (λ_=>True) w.heap.size 3 cQ ah vh W
 c:aB (λ_=>True) w.heap.size 3 cQ (List.replicate ah.length 0) vc W
 g:aB (λ_=>True) w.heap.size 59 yq (List.replicate ah.length (.slice none 0 0)) vg W
 d:aB (λ_=>True) w.heap.size 84 yq (ds.map λg=>.pointer (some ⟨g,0,none⟩)) vd W
 ap:∀b,vc.ownBlock=some b->vp.ownBlock≠some b/\vh.ownBlock≠some b
 dk:∀(i:Nat) (hi:i<ds.length),gN ds[i] (.slice none 0 0) [] 0 room W/\w.heap.size<=ds[i]
 nd:ds.Nodup
 lo:w.heap.size<=gw/\w.heap.size<=gb
 k:K w W
theorem EE.push{w W W1 t par ah room gw gb vp vh vc vg vd v' ds}(h:EE w par ah room gw gb vp vh vc vg ds vd W)(H:K W W1)(R:gN W.heap.size (.slice none 0 0) [] 0 room W1)
 (E:aB (λ_=>True) w.heap.size 84 yq ((ds.map λg=>.pointer (some ⟨g,0,none⟩))++[.pointer (some ⟨W.heap.size,0,none⟩)]) v' t) (hg:W1.grownBy t vd.ownBlock) :
 ai t gw 83 #[vp,vh,.pointer none,vd,.map (some gb),vc,vg]/\EE w par ah room gw gb vp vh vc vg (ds++[W.heap.size]) v' (t.setCell ⟨gw,3,none⟩ v'):=by
 obtain⟨X,hX⟩:∃X:Nat->Prop,X=λk=>vd.ownBlock=some k∨k=gw:=⟨_,rfl⟩
 have Q:=h.blk.ay H
 have C:=Q.grown hg λe=>by obtain⟨_,_,_,hb⟩:=h.d.own e.symm;exact QV
 have u:ag X W (t.setCell ⟨gw,3,none⟩ v'):=((ag.aT H _).tr (ag.eU hg λk e=>by rw[hX];exact .inl e)).tr (ag.bM ai6 3 v')
 have F:∀b e cs,ai W b e cs->e≠84->e≠83->¬X b:=λb e cs hb B D j=>by
  rw[hX]at j;rcases j with j|rfl
  ·obtain⟨_,_,_,M⟩:=h.d.own j;exact B (hb.ie M)
  ·exact D (hb.ie h.blk)
 have G:∀k,X k->w.heap.size<=k/\k<W.heap.size:=λk hk=>by
  rw[hX]at hk;rcases hk with hk|rfl
  ·exact h.d.blk k hk
  ·exact⟨h.lo.1,h.blk.lt⟩
 have y:∀ {β:Type} {S:ei β} {e:TypeId} {l:List β} {v:Value},aB (λ_=>True) w.heap.size e S l v W->e≠84->e≠83->aB (λ_=>True) w.heap.size e S l v (t.setCell ⟨gw,3,none⟩ v'):=λh9 B D =>
  h9.to u (λ_ _=>trivial) (λk hk j=>by
   obtain⟨_,_,_,hb⟩:=h9.own hk;exact F k _ _ hb B D j) λ_ _ _=>.inl trivial
 refine⟨C,by simpa using C.aQ 3 v',h.map.aW u λj=>?_,y h.p ax ax,y h.h ax ax,y h.c ax ax,y h.g ax ax,?_,h.ap,λi A=>?_,?_,h.lo,u.k h.k λk hk=>(G k hk).1⟩
 ·rw[hX]at j;rcases j with j|j
  ·obtain⟨_,_,_,hb⟩:=h.d.own j;exact h.map.cells hb
  ·have I:=h.blk;rw[<- j]at I;exact h.map.cells I
 ·rw[List.map_append];exact E.to (ag.bM (X:=λk=>k=gw) rfl 3 v') (λ_ _=>trivial) (λk hk e=>by
   obtain⟨_,_,_,hb⟩:=E.own hk;exact absurd (hb.ie (e▸C)) ax) λ_ _ _=>.inl trivial
 ·rw[dx]at A;by_cases h9:i<ds.length
  ·rw[List.getElem_append_left h9];obtain⟨J,O⟩:=h.dk i h9;refine⟨J.aW u λk hk=>?_,O⟩;rcases hk with rfl|hk
   ·exact F _ _ _ J.blk ax ax
   ·cases hk
  ·have e:i=ds.length:=by simp at A;omega
   subst e;rw[List.getElem_append_right (aD _)];simp only[Nat.sub_self,List.getElem_cons_zero];have L:ag X W1 (t.setCell ⟨gw,3,none⟩ v'):=(ag.eU hg λk e=>by rw[hX];exact .inl e).tr (ag.bM ai6 3 v');refine⟨R.aW L λk hk j=>?_,h.k.size⟩;rcases hk with rfl|hk
   ·exact Nat.lt_irrefl _ (G _ j).2
   ·cases hk
 ·rw[List.nodup_append];refine⟨h.nd,aj,λa N b hb e=>?_⟩;simp at hb;obtain⟨i,A,rfl⟩:=List.mem_iff_getElem.1 N;have:=(h.dk i A).1.blk.lt;omega
def nN(par ah:List Int)(room j:Nat):bF :=
 ⟨par,ah,[],(List.range par.length).map λ(n:Nat)=>if n<j then ⟨some (oV n par ah ⟨cM (bP bU),room⟩ (bP bU)),⟨cM (bP bU),room⟩⟩else ⟨none,⟨[],room⟩⟩,ah.map λ_=>0,ah.map λ_=>[]⟩
theorem awz par ah room:{ nN par ah room par.length with cz:=Cg par }=jV par ah room:=by simp[nN,jV]
theorem XO{par ah room j}(t:j<par.length):(nN par ah room j).eX[j]?=some ⟨none,⟨[],room⟩⟩:=by simp[nN,t]
theorem auK{par ah room j}(y:j<par.length)(A:ir (cM (bP bU))<=room)(u:room<=1048576):qL (nN par ah room j) j=(nN par ah room (j+1),0):=by
 have e:=Gb (gS.new u);unfold qL;simp only[Int.toNat_natCast,XO y,Option.map_some,Option.getD_some,e,if_pos A];refine Prod.ext ?_ rfl;unfold iw jU nN;simp only[bF.mk.injEq,true_and,and_true,Int.toNat_natCast];refine List.ext_getElem aj λi B C=>?_
 simp only[List.length_set,List.length_map,List.length_range]at B;rw[List.getElem_set];simp only[List.getElem_map,List.getElem_range];by_cases t:j=i
 ·subst t;simp[oV]
 ·rw[if_neg t];by_cases h9:i<j
  ·rw[if_pos h9,if_pos af]
  ·rw[if_neg h9,if_neg af]
def yP(i:Nat):Prop:=2<=i/\i≠3
theorem EE.ov{w W par ah room gw gb vp vh vc vg vd ds}(h:EE w par ah room gw gb vp vh vc vg ds vd W)(H:ds.length=par.length) :
 ∃own,bu ⟨gw,gb,vp,vh,.pointer none,vd,vc,vg,List.replicate ah.length (.slice none 0 0),ds,[]⟩ own (nN par ah room 0) W yP/\(∀k,k<w.heap.size->own k=0)/\∀k,own k≠3:=by
 obtain⟨E,C⟩:∃E:Nat->Prop,E=λk=>k=gw∨k=gb∨vc.ownBlock=some k∨vg.ownBlock=some k:=⟨_,rfl⟩
 classical
 obtain⟨own,T⟩:∃own:Nat->Nat,own=λk=>if E k then 2 else match (List.range ds.length).find? λi=>decide (ds[i]?=some k)with|some i=>2*i+4|none=>0:=⟨_,rfl⟩
 have F:∀k,E k->own k=2:=λk hk=>aA
 have J:∀(i gd:Nat),ds[i]?=some gd->∃cs,ai W gd 145 cs:=λi gd y=>by obtain⟨A,rfl⟩:=List.getElem?_eq_some_iff.1 y;exact⟨_,(h.dk i A).1.blk⟩
 have U:∀k,E k->∀cs,¬ai W k 145 cs:=λk hk cs hb=>by
  rw[C]at hk;rcases hk with rfl|rfl|hk|hk
  ·exact QV
  ·exact h.map.cells hb
  ·obtain⟨_,_,_,hb2⟩:=h.c.own hk;exact Ce
  ·obtain⟨_,_,_,hb2⟩:=h.g.own hk;exact Ce
 have X:∀(i gd:Nat),ds[i]?=some gd->own gd=2*i+4:=λi gd y=>by
  obtain⟨cs,hb⟩:=J i gd y
  rw[T]
  simp only
  rw[if_neg λe=>U gd e cs hb]
  obtain⟨hil,V⟩:=List.getElem?_eq_some_iff.1 y
  cases hf:(List.range ds.length).find? λi=>decide (ds[i]?=some gd)with
  | none =>
   grind
  | some j => have A:=List.find?_some hf;simp only[decide_eq_true_eq]at A;obtain⟨hjl,Q⟩:=List.getElem?_eq_some_iff.1 A;have:i=j:=(List.getElem_inj h.nd).1 (V.trans Q.symm);rw[this]
 have G:∀k,own k≠0->E k∨∃i,ds[i]?=some k/\own k=2*i+4:=λk hk=>by
  grind
 have N:∀k,own k≠0->w.heap.size<=k/\k<W.heap.size:=λk hk=>by
  rcases G k hk with t|⟨i,y,-⟩
  ·rw[C]at t;rcases t with rfl|rfl|t|t
   ·exact⟨h.lo.1,h.blk.lt⟩
   ·exact⟨h.lo.2,h.map.lt⟩
   ·exact h.c.blk k t
   ·exact h.g.blk k t
  ·obtain⟨A,rfl⟩:=List.getElem?_eq_some_iff.1 y;exact⟨(h.dk i A).2,(h.dk i A).1.blk.lt⟩
 have O:∀b cs,ai W b 3 cs->vc.ownBlock≠some b->¬own b≠0:=λb cs hb hne hk=>by
  rcases G b hk with t|⟨i,y,-⟩
  ·rw[C]at t;rcases t with rfl|rfl|t|t
   ·exact QV
   ·exact h.map.cells hb
   ·exact hne t
   ·obtain⟨_,_,_,hb2⟩:=h.g.own t;exact Ce
  ·obtain⟨_,hb2⟩:=J i b y;exact Ce
 have S:∀b,vd.ownBlock=some b->¬own b≠0:=λb Y hk=>by
  obtain⟨_,_,_,hb⟩:=h.d.own Y;rcases G b hk with t|⟨i,y,-⟩
  ·rw[C]at t;rcases t with rfl|rfl|t|t
   ·exact QV
   ·exact h.map.cells hb
   ·obtain⟨_,_,_,hb2⟩:=h.c.own t;exact Ce
   ·obtain⟨_,_,_,hb2⟩:=h.g.own t;exact Ce
  ·obtain⟨_,hb2⟩:=J i b y;exact Ce
 have R:=Lt (M:=λk=>own k≠0) h.p λb hb=>by obtain⟨_,_,cs,hb2⟩:=h.p.own hb;exact O b cs hb2 λe=>(h.ap b e).1 hb
 have Z:=Lt (M:=λk=>own k≠0) h.h λb hb=>by obtain⟨_,_,cs,hb2⟩:=h.h.own hb;exact O b cs hb2 λe=>(h.ap b e).2 hb
 refine⟨own,⟨λk hk=>(N k hk).2,λW' u=>⟨R W' u,Z W' u,(h.d.to u (λ_ _=>trivial) S (Y':=λ_=>True) λ_ _ _=>.inl trivial).aq⟩,λ_=>⟨h.blk,h.map,λ_ _=>rfl,?_,h.g.low (eV _),⟨F _ (by rw[C];exact .inl rfl),F _ (by rw[C];exact .inr (.inl rfl)),λk hk=>F k (by rw[C];exact .inr (.inr (.inl hk))),λk hk=>F k (by rw[C];exact .inr (.inr (.inr hk)))⟩,by simp[nN],aj⟩,λe=>absurd rfl e.2,λn x _ D=>?_,λc l _ H=>?_⟩,λk hk=>?_,λk=>?_⟩
 ·show aB _ 0 _ cQ (ah.map λ_=>0) vc W;rw[List.map_const'];exact h.c.low (eV _)
 ·have hn:n<par.length:=by have:=(List.getElem?_eq_some_iff.1 D).1;simpa [nN]using this
  simp[nN,hn]at D;subst D;obtain⟨gd,I⟩:∃gd,ds[n]?=some gd:=⟨_,List.getElem?_eq_getElem af⟩;refine⟨gd,I,λB e=>DV,λ_=>⟨rfl,.slice none 0 0,?_,λk hk=>⟨λD=>?_,hk.2⟩⟩⟩
  ·obtain⟨A,rfl⟩:=List.getElem?_eq_some_iff.1 I;exact (h.dk n A).1
  ·rcases D with rfl|D
   ·exact hk.1 (X n _ I)
   ·cases D
 ·have L:=(List.getElem?_eq_some_iff.1 H).1;simp only[nN,List.length_map]at L;simp[nN,L]at H;subst H;exact⟨.slice none 0 0,by simp[List.getElem?_replicate,L],aB.nil _ _ _ _ _,λk hk=>by cases hk⟩
 ·by_cases e:own k=0
  ·exact e
  ·have:=N k e;omega
 ·intro e;rcases G k af with t|⟨i,-,y⟩
  ·have:=F k t;omega
  ·omega
theorem bu.azx{W W1 H own O C y L}(h:bu H own O W yP)(R:∀k,own k≠3)(F:K W W1)(U:tg (λk=>k<W.heap.size∨C k) C y L W1)(E:∀k,C k->W.heap.size<=k/\k<W1.heap.size) :
 ∃t,bu { H with vn:=.pointer (some ⟨y,0,none⟩) } t { O with cz:=L } (W1.setCell ⟨H.gw,2,none⟩ (.pointer (some ⟨y,0,none⟩))) dF/\∀k,k<W.heap.size->t k=own k:=by
 classical
 obtain⟨t,M⟩:∃t:Nat->Nat,t=λk=>if C k then 3 else own k:=⟨_,rfl⟩
 have S:=h.lo
 have I:∀k,C k->t k=3:=λk hk=>by rw[M];exact if_pos hk
 have D:∀k,¬C k->t k=own k:=λk hk=>by rw[M];exact if_neg hk
 have A:∀k,k<W.heap.size->t k=own k:=λk hk=>D k λj=>by have:=E k j;omega
 have Q:∀k,t k=3↔C k:=λk=>⟨λe=>by
  by_cases j:C k
  ·exact j
  ·rw[D k j]at e;exact absurd e (R k),I k⟩
 have J:∀k,t k≠0->k<W.heap.size∨C k:=λk e=>by
  by_cases j:C k
  ·exact .inr j
  ·rw[D k j]at e;exact .inl (S k e)
 have hz:=F.size
 have u:ag (λk=>k=H.gw) W (W1.setCell ⟨H.gw,2,none⟩ (.pointer (some ⟨y,0,none⟩))):=(ag.aT F _).tr (ag.bM (X:=λk=>k=H.gw) rfl 2 _)
 have Y:(W1.setCell ⟨H.gw,2,none⟩ (.pointer (some ⟨y,0,none⟩))).heap.size=W1.heap.size:=VS
 have j:=h.fo (show yP 2 by unfold yP;omega)
 have N:=j.own.1
 have G:=j.blk.lt
 have B:bu H t O _ (λi=>4<=i):=h.to u (λk e=>by subst e;rw[N];decide) (λi Z=>XP) A λk hk e=>by
  rcases J k e with h9|h9
  ·omega
  ·rw[I k h9];have:=E k h9;exact⟨af,ax⟩
 refine⟨t,⟨B.lo,B.fx,λ_=>⟨?_,j.map.aW u λe=>?_,j.oob,j.cur.to u (λ_ _=>trivial) (λk hk e=>?_) λ_ _ _=>.inl trivial,j.got.to u (λ_ _=>trivial) (λk hk e=>?_) λ_ _ _=>.inl trivial,⟨(A _ G).trans N,(A _ j.map.lt).trans j.own.2.1,λk hk=>(A k (j.cur.blk k hk).2).trans (j.own.2.2.1 k hk),λk hk=>(A k (j.got.blk k hk).2).trans (j.own.2.2.2 k hk)⟩,j.len,j.kn⟩,λ_=>⟨y,rfl,?_⟩,λn x _ V=>B.brk n x af V,λc l _ T=>B.got c l af T⟩,A⟩
 ·simpa using (j.blk.below F G).aQ 2 (.pointer (some ⟨y,0,none⟩))
 ·have hb:=j.blk;rw[<- e]at hb;exact j.map.cells hb
 ·obtain⟨_,_,_,hb⟩:=j.cur.own hk;exact absurd (hb.ie (e▸j.blk)) ax
 ·obtain⟨_,_,_,hb⟩:=j.got.own hk;exact absurd (hb.ie (e▸j.blk)) ax
 ·rw[show (λk=>t k=3)=C from funext λk=>propext (Q k)];exact U.to (ag.bM (X:=λk=>k=H.gw) rfl 2 _) (λk e=>.inl (e▸G)) (λk hk e=>by have:=E k hk;omega) (λk _ e=>J k e) λk hk=>by rw[I k hk];decide
theorem ayO:(prog.info? 59).map (λi=>(i.zero,i.size,i.bytes))=some (some (.slice none 0 0),1,24):=by rfl
theorem TGG:fY prog 79 59 (.slice none 0 0) 1 24:=⟨underlying79,ayO,rfl,ax⟩
theorem ayP:(prog.info? 84).map (λi=>(i.zero,i.size,i.bytes))=some (some (.pointer none),1,8):=by rfl
theorem TDk:fY prog 81 84 (.pointer none) 1 8:=⟨underlying81,ayP,rfl,ax⟩
theorem aeP{Y base e l v w}(h:aB Y base e cQ l v w):aB (λ_=>True) base e cQ l v w:=by obtain⟨css,j,t,u⟩:=h;have y:=OS (u w (ag.rf _ _));exact⟨css,j,t,λw' _=>by grind [FG]⟩
def pW(par ah:List Int)(room:Nat):Int:=if fk par then if jt par ah then if ir (cM (bP bU))<=room then 0 else 90 else 1 else 120
def wJ(par ah:List Int)(room:Nat)(w:World)(e:Ending)(w':World):Prop:=if pW par ah room=0 then ∃H own,e=.returned (.tuple #[.pointer (some ⟨H.gw,0,none⟩),.int .i64 0])/\bu H own (jV par ah room) w' dF/\(∀k,k<w.heap.size->own k=0)/\K w w'
 else e=.returned (.tuple #[.pointer none,.int .i64 (pW par ah room)])/\K w w'
theorem wJ.ok{par ah room w e w'} H own(h:pW par ah room=0/\e=.returned (.tuple #[.pointer (some ⟨H.gw,0,none⟩),.int .i64 0])/\bu H own (jV par ah room) w' dF/\(∀k,k<w.heap.size->own k=0)/\K w w'):wJ par ah room w e w':=by unfold wJ;rw[if_pos h.1];exact⟨H,own,h.2⟩
theorem wJ.no{par ah room w e w'}(h:∃c:Int,(c==0)=false/\pW par ah room=c/\e=.returned (.tuple #[.pointer none,.int .i64 c])/\K w w'):wJ par ah room w e w':=by obtain⟨c,hc,j,h⟩:=h;unfold wJ;rw[j,if_neg DY];exact h
theorem auL{par ah:List Int}{room j:Nat}(B:fk par=true)(A:j<par.length)(y:room<=1048576) :xF (nN par ah room j) j=(if pW par ah room=0 then nN par ah room (j+1)else nN par ah room j,pW par ah room):=by
 have e:=Gb (gS.new y);have C:qL (nN par ah room j) j=if ir (cM (bP bU))<=room then (iw (nN par ah room j) j (oV j par ah ⟨cM (bP bU),room⟩ (bP bU)),0)else (nN par ah room j,90):=by unfold qL;simp only[Int.toNat_natCast,XO A,Option.map_some,Option.getD_some,e];rfl
 unfold xF pW;rw[if_pos B];show (if jt par ah=true then _ else _)=_;by_cases t:jt par ah=true
 ·rw[if_pos t,if_pos t];by_cases u:ir (cM (bP bU))<=room
  ·rw[if_pos u,if_pos rfl,auK A u y]
  ·rw[if_neg u,C,if_neg u];rfl
 ·rw[if_neg t,if_neg t];rfl
theorem acf par ah(room:Nat) v1 v2 w(y:aq cQ par v1 w)(t:aq cQ ah v2 w)(dq:par.length<=1000000)(kJ:ah.length<=1000000)(bA:room<=1048576) :
 Calls prog 10 #[v1,v2,.int .i64 room] w (wJ par ah room w):=by
 have zC:=ae λe w' H own h=>wJ.ok (par:=par) (ah:=ah) (room:=room) (w:=w) (e:=e) (w':=w') H own h
 have Bt:=ae λe w' h=>wJ.no (par:=par) (ah:=ah) (room:=room) (w:=w) (e:=e) (w':=w') h
 generalize wJ par ah room w=PP at *
 have C1:=ae (KD par v1 w y dq)
 by_cases E:fk par=true
 case neg =>
  have oY:xE par=120:=if_neg E;have HF:=ae λw' k=>Bt.aa _ w' ⟨(120:Int),ax,by unfold pW;rw[if_neg E],rfl,k⟩
  rw[oY]at C1;have hs1:=av y;have fG:=av t;obtain⟨A1,c1,rfl⟩:=hs1;obtain⟨A2,c2,rfl⟩:=fG;clear y t E oY zC Bt;go_enter func10,ntmps10;go_wp2_with fail
  apply aM C1.aa;intro M k1;go_wp2;exact HF.aa _ k1
 have hpl:=(sA E).2
 have oY:xE par=0:=if_pos E
 rw[oY]at C1
 have H1:=ae y
 have H2:=ae t
 obtain⟨A1,c1,rfl⟩:=av y
 obtain⟨A2,c2,rfl⟩:=av t
 have HS:=ae (And.intro E bA)
 have kH:=λW=>aeO (T:=cQ) De ah.length af 0 rfl rfl (λ_=>rfl) af W
 have hm2:=λW=>aeO (T:=yq) TGG ah.length af (.slice none 0 0) rfl rfl (λ_=>⟨rfl,rfl⟩) af W
 have HM1:=ae kH
 have HM2:=ae hm2
 have TM:=λW=>(kH W).1
 have TN:=λW=>(hm2 W).1
 have kk:=K.rf w
 clear y t oY E kH hm2
 go_enter func10,ntmps10
 go_wp2_with fail
 apply cG C1.aa kk
 intro M k1 Fq
 have JR:=ae λW (k:K M W)=>bo H1.aa (Fq.tr k)
 have vC:=ae λW (k:K M W)=>bo H2.aa (Fq.tr k)
 clear C1
 go_wp2_with fail
 have qs:=And.intro TM TN
 refine abD 11 [1,3,4,7,10] [([],[]),([0],[(21,0)]),([],[]),([2],[(23,2)]),([],[]),([],[]),([5],[(26,5)]),([6],[(27,6)]),([],[]),([8],[(29,8)]),([9],[(30,9)]),([1,3,4,7,10],[(22,1),(24,3),(25,4),(28,7),(31,10)]),([11],[(32,11)]),([0,1,2,3,4,5,6,7,8,9,10,11,12],[(33,12)])] 82 ?_
 refine au.i ?_
 refine au.ints M.heap.size par De af (λ_ k=>k.size) (λV W kW hp=>?_) ?_
 ·exact agW
 refine au.i ?_
 refine au.ints M.heap.size ah De af (λ_ k=>k.size) (λV W kW hp=>?_) ?_
 ·exact agX
 refine au.op (λv W=>∃b,v=.map (some b)/\M.heap.size<=b/\eC encI W b []) (λ_ _ _ ⟨b,e,y,t⟩ k=>⟨b,e,y,t.st k⟩) (λV W kW hp=>?_) ?_
 ·simp[bR,execOp,aG,KE underlying78,cW];exact Wt
 iterate 2 refine au.i ?_
 refine au.op (λv W=>(∃b,v=.slice (some ⟨b,0,none⟩) ah.length ah.length)/\aB (λ_=>True) M.heap.size 3 cQ (List.replicate ah.length 0) v W) (λ_ _ _ ⟨e,t⟩ k=>⟨e,t.st k⟩) (λV W kW hp=>?_) ?_
 ·simp only[cF,aO,aR,bW,bY,aJ]at hp;simp[bR,aF,List.lookup,hp,execOp,aG,TM,cW,go_sem];exact⟨(HM1.aa W).2.low kW.size,(K.rf W).al _⟩
 iterate 2 refine au.i ?_
 refine au.op (λv W=>(∃b,v=.slice (some ⟨b,0,none⟩) ah.length ah.length)/\aB (λ_=>True) M.heap.size 59 yq (List.replicate ah.length (.slice none 0 0)) v W) (λ_ _ _ ⟨e,t⟩ k=>⟨e,t.st k⟩) (λV W kW hp=>?_) ?_
 ·simp only[cF,aO,aR,bW,bY,aJ]at hp;simp[bR,aF,List.lookup,hp,execOp,aG,TN,cW,go_sem];exact⟨(HM2.aa W).2.low kW.size,(K.rf W).al _⟩
 clear qs
 refine⟨λk hk=>?_,λV W kW hne hA=>?_⟩
 ·simp at hk;rcases hk with rfl|rfl|rfl|rfl|rfl
  ·refine⟨_,_,rfl,rfl,rfl,λV W kW hp=>?_⟩;simp only[cF,aO,aR,bW,bY,aJ]at hp;obtain⟨v,w',y,t,-⟩:=Vq par De (ty:=23) (s:=.const (.slice none 0 0)) (u:=.tmp 21) (ρ:=aF [(21,0)] _ V) (w:=W) af rfl ai7;exact⟨v,w',y,t⟩
  ·refine⟨_,_,rfl,rfl,rfl,λV W kW hp=>?_⟩;simp only[cF,aO,aR,bW,bY,aJ]at hp;obtain⟨v,w',y,t,-⟩:=Vq ah De (ty:=23) (s:=.const (.slice none 0 0)) (u:=.tmp 23) (ρ:=aF [(23,2)] _ V) (w:=W) af rfl ai8;exact⟨v,w',y,t⟩
  ·exact Wu
  ·refine⟨_,_,rfl,rfl,rfl,λV W kW hp=>⟨.slice (some ⟨W.heap.size,0,none⟩) ah.length ah.length,W.alloc (.cells (madeCells #[.int .i64 0] ah.length) 3),?_,λb hb=>?_⟩⟩
   ·simp only[cF,aO,aR,bW,bY,aJ]at hp;simp[aF,List.lookup,hp,execOp,aG,TM,go_sem]
   ·injection hb with hb;subst hb;simp
  ·refine⟨_,_,rfl,rfl,rfl,λV W kW hp=>⟨.slice (some ⟨W.heap.size,0,none⟩) ah.length ah.length,W.alloc (.cells (madeCells #[.slice none 0 0] ah.length) 59),?_,λb hb=>?_⟩⟩
   ·simp only[cF,aO,aR,bW,bY,aJ]at hp;simp[aF,List.lookup,hp,execOp,aG,TN,go_sem]
   ·injection hb with hb;subst hb;simp
 simp only[aO,aR,cC,aJ,Nat.reduceAdd]at hA
 obtain⟨e0,dU,e2,bH,⟨b4,e4,gM,wP⟩,e5,e6,⟨⟨b7,e7⟩,j9⟩,e8,e9,⟨⟨b10,fO⟩,nM⟩,-⟩:=hA
 obtain⟨A5,c5,Z⟩:=dU.slice
 obtain⟨A6,c6,e3⟩:=bH.slice
 rw[Z]at dU
 rw[e3]at bH
 rw[e7]at j9
 rw[fO]at nM
 have hap:∀b,some b7=some b->(Value.slice A5 par.length c5).ownBlock≠some b/\(Value.slice A6 ah.length c6).ownBlock≠some b:=λb hb=>by
  injection hb with hb;subst hb;constructor
  ·intro e;exact hne 7 aj 1 aj ax rfl rfl b7 Wv (by rw[Z];exact e)
  ·intro e;exact hne 7 aj 3 aj ax rfl rfl b7 Wv (by rw[e3];exact e)
 apply aH.pure
 rfl
 simp[aF,List.lookup,bj,Z,e3,e4,e7,fO,execOp,aG,go_sem]
 rfl
 refine aH.val (.pointer (some ⟨W.heap.size,0,none⟩)) (W.alloc (.cells #[.slice A5 par.length c5,.slice A6 ah.length c6,.pointer none,.slice none 0 0,.map (some b4),.slice (some ⟨b7,0,none⟩) ah.length ah.length,.slice (some ⟨b10,0,none⟩) ah.length ah.length] 83)) rfl agY ?_
 apply aH.pure
 rfl
 simp[aF,List.lookup,bj,execOp,aG,go_sem]
 rfl
 refine aH.nil ?_
 simp only[fZ,Act.put,sC,rI,rH,Nat.reduceAdd,bj,e0,Z,e2,e3,e4,e5,e6,e7,e8,e9,fO]
 have hbk:=ai.new W 83 #[.slice A5 par.length c5,.slice A6 ah.length c6,.pointer none,.slice none 0 0,.map (some b4),.slice (some ⟨b7,0,none⟩) ah.length ah.length,.slice (some ⟨b10,0,none⟩) ah.length ah.length]
 have Q:=hbk.aU
 generalize hWa:W.alloc _=Wa at *
 generalize D:W.heap.size=gw at *
 generalize hvp:Value.slice A5 par.length c5=vp at *
 generalize hvh:Value.slice A6 ah.length c6=vh at *
 generalize lq:Value.slice (some ⟨b7,0,none⟩) ah.length ah.length=vc at *
 generalize wZ:Value.slice (some ⟨b10,0,none⟩) ah.length ah.length=vg at *
 have hz1:=Fq.size
 have zE:=kW.size
 have L:Hid (EE w par ah room gw b4 vp vh vc vg [] (.slice none 0 0) Wa):=ae ⟨hbk,wP.st Q,((aeP dU).st Q).low hz1,((aeP bH).st Q).low hz1,(j9.st Q).low hz1,(nM.st Q).low hz1,aB.nil _ _ _ _ _,by rw[<- lq];exact hap,λi hi=>Lf,List.nodup_nil,⟨af,af⟩,(Fq.tr kW).tr Q⟩
 clear hbk Q wP dU bH j9 nM hap e0 Z e2 e3 e4 e5 e6 e7 e8 e9 fO gM hne TM TN
 clear k1 Fq kW kk hz1 zE
 go_wp2_with fail
 clear D hWa hvp hvh lq wZ
 go_loopw [36] (fun i W=>∃j:Nat,j<=par.length/\i=.int .i64 j/\Hid (∃ds vd,EE w par ah room gw b4 vp vh vc vg ds vd W/\ds.length=j)) (fun i _=>par.length-(intOf i).toNat)
 case atStart=>exact⟨0,eV _,rfl,ae ⟨_,_,L.aa,rfl⟩⟩
 case round =>
  clear L;obtain⟨j,hj,rfl,J⟩:=hrel;by_cases hlt:j<par.length
  ·have aP:(j:Int)<par.length:=af;obtain⟨ds,vd,G,Y⟩:=J.aa;have HD:=ae Y;have L:=ae G;clear J Y G;go_wp2_with fail
   apply aM (agE room wr bA);rintro w2⟨hDk,k2⟩;have q:=(L.aa.blk.ay k2).cell;have HDk:=ae hDk;generalize hgd:wr.heap.size=gd at *;have kA:=K.new w2 (.cells #[.pointer (some ⟨gd,0,none⟩)] 84);have B:=(L.aa.d.st k2).st kA;have kW:=(L.aa.k.tr k2).tr kA;have hz2:=kW.size;have hrw:=eD.new (S:=yq) (e:=84) (N:=λk=>True∨vd.ownBlock=some k) (v:=.pointer (some ⟨gd,0,none⟩)) (x:=.pointer (some ⟨gd,0,none⟩)) (w:=w2) (λW u=>⟨rfl,rfl⟩) 0 (eV _);have HG:=ae (And.intro hgd (k2.tr kA));have Y:(ds.map λg=>Value.pointer (some ⟨g,0,none⟩)).length<16:=by rw[List.length_map,HD.aa];omega
   clear hDk hgd k2 kA;go_wp2_with (at_builtin;refine jN rfl _ _ 81 rfl _ 1 8 TDk rfl rfl B _ rfl (.pointer (some ⟨gd,0,none⟩)) ?p1 ?p2 ?p3 ?_)
   case p1=>exact hrw
   case p2=>omega
   case p3=>exact hz2
   intro v9 w9 bq bC cY aY;obtain⟨Zc,hN9⟩:ai w9 gw 83 #[vp,vh,.pointer none,vd,.map (some b4),vc,vg]/\EE w par ah room gw b4 vp vh vc vg (ds++[gd]) v9 (w9.setCell ⟨gw,3,none⟩ v9):=by obtain⟨rfl,kg⟩:=HG.aa;exact L.aa.push kg (HDk.aa.st ((K.rf w2).al _)) bq bC
   have HN9:=ae (And.intro hN9 (show (ds++[gd]).length=j+1 by rw[dx,HD.aa];rfl));obtain⟨A9,n9,c9,e9⟩:∃A n c,v9=.slice A n c:=by obtain⟨A,c,e⟩:=bq.slice;exact⟨_,_,_,e⟩
   subst e9;clear q B kW hz2 hrw Y bq bC cY aY hN9 HDk L HG HD;have q:=Zc.cell;have z:=Zc.frozen;clear Zc;go_wp2;go_roundw
   case rel=>exact⟨j+1,af,bI,ae ⟨_,_,HN9.aa.1,HN9.aa.2⟩⟩
   case measure=>simp[intOf];omega
  ·have aP:¬(j:Int)<par.length:=af;have he:j=par.length:=af;obtain⟨ds,vd,G,Y⟩:=J.aa;obtain⟨own,ho⟩:=G.ov (Y.trans he);have HO:=ae (And.intro ho G.k);clear J G Y ho he;go_wp2_with fail
   go_loopw [59] (fun i W=>∃j:Nat,j<=par.length/\i=.int .i64 j/\Hid (∃H own,bu H own (nN par ah room j) W yP/\H.gw=gw/\(∀k,k<w.heap.size->own k=0)/\(∀k,own k≠3)/\K w W/\(j=0∨pW par ah room=0))) (fun i _=>par.length-(intOf i).toNat)
   case atStart=>exact⟨0,eV _,rfl,ae ⟨_,_,HO.aa.1.1,rfl,HO.aa.1.2.1,HO.aa.1.2.2,HO.aa.2,.inl rfl⟩⟩
   case round =>
    clear HO;obtain⟨j,hj,rfl,J⟩:=hrel;by_cases hlt:j<par.length
    ·have aP:(j:Int)<par.length:=af;obtain⟨H,own,B,D,O,R,I,hz⟩:=J.aa;obtain⟨E,bA⟩:=HS.aa;have C:=abV B XP (λn=>XP) E (by simp[nN]) kJ (XO hlt) (gS.new bA) ax;rw[auL E hlt bA,D]at C;have U:=ae C;have F:=ae (And.intro O (And.intro R I));have HZ:Hid (pW par ah room=pW par ah room):=ae rfl;generalize hx:pW par ah room=nx at U HZ;have nv:=ae hx;clear J B D O R I E C hz hx;go_wp2_with fail
     refine U.aa.mono ?_;rintro e w3⟨rfl,H',bN,y,t,h3,h4,h5⟩;have HK:Hid (K w w3):=ae (h3.k F.aa.2.2 λk hk=>by
      obtain⟨a,b,c⟩:=F.aa;by_cases h9:k<w.heap.size
      ·have:=a k h9;omega
      ·omega)
     by_cases hc:nx=0
     ·subst hc;have HE:=ae (show ∃H own,bu H own (nN par ah room (j+1)) w3 yP/\H.gw=gw/\(∀k,k<w.heap.size->own k=0)/\(∀k,own k≠3)/\K w w3/\(j+1=0∨pW par ah room=0)from ⟨H',bN,by rw[if_pos rfl]at y;exact y,t,λk hk=>by
       obtain⟨a,b,c⟩:=F.aa;have:=c.size;rw[h4 k af];exact a k hk,λk hk=>F.aa.2.1 k (h5 k hk),HK.aa,.inr nv.aa⟩)
      clear U F HZ nv y t h3 h4 h5 HK;go_wp2;go_roundw
      case rel=>exact⟨j+1,af,bI,ae axV⟩
      case measure=>simp[intOf];omega
     ·have Sh:(nx==0)=false:=DY;have HF:=ae (Bt.aa _ w3 ⟨nx,Sh,nv.aa,rfl,HK.aa⟩);clear U F HZ nv y t h3 h4 h5 HK hc;go_wp2;exact HF.aa
    ·have aP:¬(j:Int)<par.length:=af;have he:j=par.length:=af;obtain⟨H,own,B,D,O,R,I,hz⟩:=J.aa;have HZ:=ae (hz.resolve_left (by have:=(sA HS.aa.1).1;omega));rw[he]at B;have C:=asU par (.slice A1 par.length c1) wr (bo H1.aa I) HS.aa.1;have hb:=(B.fo (show yP 2 by unfold yP;omega)).blk;rw[D]at hb;have U:=ae C;have F:=ae (And.intro B (And.intro D (And.intro O (And.intro R I))));have HB:=ae hb;have HEQ:=ae (awz par ah room);clear J B D O R I C he hb hz;go_wp2_with fail
     apply bS U.aa;rintro x w4⟨⟨gn,rfl,C,G,hC⟩,k4⟩;have hb4:=HB.aa.ay k4;have q:=hb4.cell;have z:=hb4.frozen;have HF:Hid (∃H own,H.gw=gw/\bu H own (jV par ah room) (w4.setCell ⟨gw,2,none⟩ (.pointer (some ⟨gn,0,none⟩))) dF/\(∀k,k<w.heap.size->own k=0)/\K w (w4.setCell ⟨gw,2,none⟩ (.pointer (some ⟨gn,0,none⟩)))):=ae (by
      obtain⟨B,D,O,R,I⟩:=F.aa;obtain⟨bN,y,t⟩:=B.azx R k4 G hC;have hz:=I.size;have nu:=HB.aa.lt;refine⟨_,bN,?_,by rw[<- HEQ.aa,<- D];exact y,λk hk=>(t k af).trans (O k hk),(ag.bM (X:=λk=>k=gw) rfl 2 _).k (I.tr k4) λk e=>?_⟩
      ·exact D
      ·by_cases h9:k<w.heap.size
       ·have pZ:=O k h9;have wL:=(B.fo (show yP 2 by unfold yP;omega)).own.1;rw[D,<- e]at wL;omega
       ·omega)
     clear U F HB HEQ G hC k4 hb4;go_wp2;obtain⟨H,own,Z,e2,e3,e4⟩:=HF.aa;exact zC.aa _ _ H own ⟨HZ.aa,by rw[Z];rfl,e2,e3,e4⟩
theorem aru par ah room t j w(C:aq cQ par t w)(B:aq cQ ah j w)(ht:fk par=true)(u:jt par ah=true)(A:ir (cM (bP bU))<=room)(y:room<=1048576) :
 Calls prog 10 #[t,j,.int .i64 room] w λe w'=>∃H own,e=.returned (.tuple #[.pointer (some ⟨H.gw,0,none⟩),.int .i64 0])/\bu H own (jV par ah room) w' dF/\(∀k,k<w.heap.size->own k=0)/\K w w':=by
 refine (acf par ah room t j w C B Ws (by have:=FN u;omega) y).mono ?_
 intro e w' h
 unfold wJ pW at h
 rw[if_pos ht,if_pos u,if_pos A,if_pos rfl]at h
 exact h
theorem abW es v w(h:aq cO es v w)(N:es.length<=1000000)(y:∀e∈es,e.length<=1000000) :
 Calls prog 51 #[v] w λe w'=>∃v',e=.returned v'/\aX w.heap.size w.heap.size 51 cO es v' w'/\K w w':=by
 obtain⟨D,d,rfl,B,H⟩:=h
 have A:=ae y
 have t:=K.rf w
 clear y H
 go_enter func51,ntmps51
 go_wp2_with fail
 go_loopw [3,5,8] (fun o _ i W=>∃j:Nat,j<=es.length/\i=.int .i64 j/\aX w.heap.size w.heap.size 51 cO (es.take j) o W/\K w W) (fun _ _ i _=>es.length-(intOf i).toNat)
 case atStart=>exact⟨0,af,rfl,FX,t⟩
 case round =>
  clear t;obtain⟨j,I,rfl,hO,kr⟩:=hrel;by_cases hlt:j<es.length
  ·have E:(j:Int)<es.length:=af;obtain⟨G,F,cs,rfl,M,hcl,⟨C,rfl,iN⟩,hcell⟩:=I7 B j hlt ax;have L:wr.cell? ⟨G,F+j,none⟩=some C:=VX;have HT:Hid (es.take (j+1)=es.take j++[es[j]]):=ae I0;have J:=A.aa _ (bZ hlt);exact ahr
  ·have E:¬(j:Int)<es.length:=af;exact ahb
section
variable {S:Nat->Prop} {W W2:World} {H:mM} {own:Nat->Nat} {O:bF} {par ah:List Int} {k:Nat}
theorem bu.akZ(h:bu H own O W S)(t:S 2)(hs:pU O){m}(hm:m<O.ah.length):∃b j c,H.vc=.slice (some ⟨b,j,none⟩) O.cur.length c/\∀W',K W W'->W'.cell? ⟨b,j+m,none⟩=some (.int .i64 ((O.cur[m]?).getD 0)):=by
 obtain⟨A,c,e,u,-⟩:=(Lt (M:=λ_=>False) (h.fo t).cur λ_ _=>id).now
 have B:m<O.cur.length:=XQ
 obtain⟨b,j,rfl,y⟩:=ints_at u af
 grind
theorem UN{c}(j:jP O c=true):∃m:Nat,c=(m:Int)/\m<O.ah.length:=by
 unfold jP at j
 simp only[dC,decide_eq_true_eq]at j
 obtain⟨m,rfl⟩:=Int.eq_ofNat_of_zero_le j.1
 grind
def I5(O:bF)(c:Int):Int:=if jP O c then (O.cur[c.toNat]?).getD 0 else 0
theorem ao4(h:bu H own O W S)(j:S 2)(hs:pU O) c :
 Calls prog 25 #[.pointer (some ⟨H.gw,0,none⟩),.int .i64 c] W λe w'=>e=.returned (.int .i64 (I5 O c))/\w'=W:=by
 have C1:=ae (Ud h j c)
 have q:=(h.fo j).blk.cell
 have HR:Hid (I5 O c=if jP O c then (O.cur[c.toNat]?).getD 0 else 0):=ae rfl
 generalize I5 O c=R at *
 cases hc:jP O c
 ·rw[hc]at C1 HR;clear h j hs hc;exact ai9
 ·rw[hc]at C1 HR;obtain⟨m,rfl,hm⟩:=UN hc;obtain⟨b,A,cc,e,t⟩:=h.akZ j hs hm;have y:=t W (K.rf W);have u:(m:Int)<O.cur.length:=XQ;rw[e]at q;simp only[if_true,Int.toNat_natCast]at HR;generalize (O.cur[m]?).getD 0=x at *;clear h j hs hc t e;exact ai9
end
