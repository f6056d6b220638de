/-
  The overlay's brokers go down and come up (layer 21): Crash, open, Restart. Conditions: none.
-/
import Derived.Test.YtfndfpdhlbmboaaGreatMa28
import Derived.Test.YtfndfpdhlbmboaaGreatMz
set_option maxRecDepth 100000
set_option linter.constructorNameAsVariable false
set_option maxHeartbeats 16000000
set_option linter.unusedVariables false
set_option linter.unusedSimpArgs false
namespace Go.Proofs.YtfndfpdhlbmboaaGreat
open Go Go.RowKit _root_.Go.Proofs.Tryz
section
variable {α:Type} [DecidableEq α] {ak:List (α×Value)} {k m:α} {v:Value}
theorem Uy(k:α):∀(r:List (α×Value)) (i:Nat),fR k r (i+1)=(fR k r i).map λq=>(q.1+1,q.2)
 | [],_=>rfl
 | p :: r,i=>by
  simp only[fR];split
  ·rfl
  ·exact Uy k r _
theorem Bk p:di (p :: ak) k=if p.1=k then some p.2 else di ak k:=by
 unfold di;simp only[fR];split
 ·rfl
 ·rw[Uy];cases fR k ak 0 <;> rfl
theorem acV:∀ {ak:List (α×Value)},di ak k=none->k∉ak.map (·.1)
 | [],_=>aj
 | p :: r,h=>by
  rw[Bk]at h;split at h
  ·cases h
  ·next hp =>
   simp only[jU,List.mem_cons,not_or];exact⟨λe=>hp e.symm,acV h⟩
theorem adL:∀ {ak:List (α×Value)},k∉ak.map (·.1)->di ak k=none
 | [],_=>rfl
 | p :: r,h=>by simp only[jU,List.mem_cons,not_or]at h;rw[Bk,if_neg λe=>h.1 e.symm];exact adL h.2
theorem avX(h:di ak k=none) v:rM ak k v=ak++[(k,v)]:=by
 unfold rM
 unfold di at h
 cases e:fR k ak 0 with
 | none=>rfl
 | some q=>rw[e]at h;cases h
theorem Uz:∀ {ak:List (α×Value)},di (ak++[(k,v)]) m=if (di ak m).isSome then di ak m else if k=m then some v else none
 | []=>Bk _
 | p :: r=>by rw[aQ,Bk,Bk,Uz];by_cases hp:p.1=m <;> simp[hp]
theorem aub p:BU (p :: ak) k=if p.1=k then ak else p :: BU ak k:=by
 grind [BU,fR,Uy]
theorem adM k:∀ {ak:List (α×Value)},(ak.map (·.1)).Nodup->di (BU ak k) k=none/\(∀m,m≠k->di (BU ak k) m=di ak m)/\((BU ak k).map (·.1)).Sublist (ak.map (·.1))
 | [],_=>⟨rfl,λ_ _=>rfl,.slnil⟩
 | p :: r,h=>by
  simp only[jU,List.nodup_cons]at h;obtain⟨j,u,t⟩:=adM k h.2;rw[aub];by_cases hp:p.1=k
  ·subst hp;rw[if_pos rfl];exact⟨adL h.1,λm hm=>by rw[Bk,if_neg λe=>hm e.symm],List.sublist_cons_self _ _⟩
  ·rw[if_neg hp];exact⟨by rw[Bk,if_neg hp,j],λm hm=>by rw[Bk,Bk,u m hm],t.cons_cons _⟩
end
section
variable {S:Nat->Prop} {W W2:World} {H:mf} {own:Nat->Nat} {O:bH} {par ai:List Int} {k:Nat}
theorem bu.IV(h:bu H own O W S){n gd}(B:H.ds[n]?=some gd):∃b j c,H.vd=.slice (some ⟨b,j,none⟩) H.ds.length c/\n<H.ds.length/\∀W',ag (λk=>own k≠0) W W'->W'.cell? ⟨b,j+n,none⟩=some (.pointer (some ⟨gd,0,none⟩)):=by
 obtain⟨hn,hg⟩:=List.getElem?_eq_some_iff.1 B
 have key:∀W',ag (λk=>own k≠0) W W'->∃b j c,H.vd=.slice (some ⟨b,j,none⟩) H.ds.length c/\W'.cell? ⟨b,j+n,none⟩=some (.pointer (some ⟨gd,0,none⟩)):=λW' u=>by
  obtain⟨A,c,e,C,-⟩:=(h.fx W' u).2.2
  obtain⟨b,j,cs,rfl,-,t,y,-⟩:=ed C n aG ay
  obtain⟨rfl,-⟩:=t W' (K.rf W')
  have:=y W' (K.rf W')
  simp only[show xO.size=1 from rfl,Nat.mul_one]at this
  grind
 obtain⟨b,j,c,e,-⟩:=key W (ag.rf _ _)
 grind
theorem auc O n x y:ot (ot O n x) n y=ot O n y:=by simp[ot]
theorem apa(h:bu H own O W dJ)(D:bO par ai O k) n keep(hk:cJ keep) :
 Calls prog 11 #[.pointer (some ⟨H.gw,0,none⟩),.int .i64 n,.int .i64 keep] W λe w'=>e=.returned (.int .i64 (zE O n).2)/\dh H own (zE O n).1 W w':=by
 have C1:=ae (Ko h p2 n)
 have C2:=ae (OT h p2 pB D.fV n)
 have HR:Hid (zE O n=if ku O n then (match cX O n with|none=>(O,(210:Int))|some B=>(ot O n ⟨none,B.dk⟩,0))else (O,1)):=ae rfl
 have HN:=ae (h.now (K.rf W))
 generalize zE O n=R at *
 cases hi:ku O n
 ·rw[hi]at C1 HR;go_enter func11,ntmps11;exact Qx
 rw[hi]at C1 HR
 cases hu:cX O n with
 | none => rw[hu]at HR C2;go_enter func11,ntmps11;exact aiG
 | some B =>
  rw[hu]at HR C2;obtain⟨i,rfl,hlt,x,hx1,hx2⟩:=DF hu;obtain⟨gd,g,y,e2,S⟩:=h.up (pB i) D.fV.ln hu;have hn:i<O.gF.length:=aG;obtain⟨W1,Q,M,V⟩:=auR (DX (P:=prog) (kt:=3) underlying3) underlying78 (h.eW p2).map (i:Int) 0 #[78,3] rfl;obtain⟨E,Z,N⟩:=adM (i:Int) (h.eW p2).kn;have u:ag (λk=>k=H.gb) W W1:=ag.eM V λk e=>aG
  have Y:=(h.eW p2).own.2.1;have J:=S.dk.to u (Z':=λk=>own k≠2*i+4/\k<W1.heap.size) (λk e=>⟨by rw[e,Y];omega,e▸(h.eW p2).map.lt⟩) λk hk=>by omega
  have A:bu { H with ak:=BU H.ak (i:Int) } own (ot O i ⟨none,B.dk⟩) W1 dJ :=
   (h.less λ_ h=>h.1).map p2 hn D.fV.ln M ((h.eW p2).kn.sublist N) Z u ⟨gd,y,λB e=>Dr,λ_=>⟨E,J⟩⟩
  obtain⟨b,off,c,G,T,I⟩:=bu.IV A (n:=i) (gd:=gd) y;have q:=(h.eW p2).blk.cell;have X:=(A.eW p2).blk.cell;have I:=I W1 (ag.rf _ _);simp only at G T;have NA:(i:Int)<(H.ds.length:Int):=af;rw[G]at q X;simp only[encI]at Q;have U:=ae (ayi J keep hk);have L:=ae λt (C:rE _ gd B.dk t) j=>A.akA (n:=i) (O:=ot O i ⟨none,B.dk⟩) (by show i<(O.gF.set _ _).length;rw[List.length_set];exact hn) y E C j
  go_enter func11,ntmps11;go_wp2_with fail
  apply bF C1.aa;rintro w' rfl;go_wp2_with fail
  apply bF C2.aa;rintro w' rfl;go_wp2_with fail
  apply bF U.aa;rintro t⟨C,j⟩;have F:=L.aa t C j;rw[auc]at F;have hs1:=u.size;have HF:=ae (show dh H own (ot O i ⟨none,B.dk⟩) w' t from ⟨_,_,F,rfl,(u.more λk e=>aG).gg j λk hk e=>af,λk hk=>FC⟩);exact K6
end
theorem avY{Z gd W d s}(h:rE Z gd d W)(B:ic d s)(J:s.life+1<18446744073709551616) p ai me u y(C:Fx (λk=>¬Z k) (λW=>aq cR p u W) W)(D:Fx (λk=>¬Z k) (λW=>aq cR ai y W) W)
 (H:gQ p=true) (hm:fT p me=true) (N:pW p ai=true) (E:¬iO (dF (cZ s))<=d.room) :
 Calls prog 86 #[.int .i64 me,u,y,.pointer (some ⟨gd,0,none⟩)] W λe w'=>e=.returned (.tuple #[.pointer none,.int .i64 90])/\rE Z gd d w'/\ag (λk=>¬Z k) W w':=by
 obtain⟨vh,F,hz⟩:=h
 have A:∀k,kY gd vh k->¬Z k:=λk hk j=>(hz k j).1 hk
 refine (abZ gd vh d s p ai me u y W F B B.YF J (C.less A) (D.less A) H hm N).mono ?_
 intro e w' hp
 unfold DC at hp
 rw[if_neg E]at hp
 obtain⟨L,I,M,t⟩:=hp
 exact⟨I,⟨L,M,λk hk=>⟨λG=>(t.new k G).elim (hz k hk).1 λh=>by have:=(hz k hk).2;omega,bz (hz k hk).2 t.up.size⟩⟩,t.up.more λk hk j=>(hz k j).1 hk⟩
theorem aud{O}{i:Nat}{x}(h:O.gF[i]?=some x):ot O i x=O:=by obtain⟨j,rfl⟩:=List.getElem?_eq_some_iff.1 h;unfold ot;rw[Int.toNat_natCast,List.set_getElem_self]
def F9(H:mf)(own:Nat->Nat)(O:bH)(W:World)(i gd:Nat)(B:bj)(d:oK)(R:bH×Int)(p:Option Addr)(j:Int)(W':World):Prop :=
 ag (λk=>¬(own k≠2*i+4/\k<W.heap.size)) W W'/\(j=0/\(∃g,p=some ⟨g,0,none⟩/\dm (λk=>own k≠0/\own k≠2*i+4) (λk=>own k≠2*i+4/\k<W.heap.size) g gd B W')/\R=(sN O i B,0) ∨
  j=90/\p=none/\rE (λk=>own k≠2*i+4/\k<W.heap.size) gd d W'/\R=(O,90))
def YJ:Value->Value
 | .tuple a=>a.getD 0 undef
 | _=>undef
def YK:Value->Value
 | .tuple a=>a.getD 1 undef
 | _=>undef
section
variable {S:Nat->Prop} {W W':World} {H:mf} {own:Nat->Nat} {O:bH} {par ai:List Int} {k:Nat}
theorem bu.opn(h:bu H own O W S)(J:∀n,S (2*n+4))(j:nc O){i:Nat}{d s}(D:O.gF[i]?=some ⟨none,d⟩)(y:ic d s)(I:s.life+1<18446744073709551616) :
 ∃gd B,H.ds[i]?=some gd/\di H.ak (i:Int)=none/\∀W1,K W W1->Calls prog 86 #[.int .i64 i,H.vp,H.vh,.pointer (some ⟨gd,0,none⟩)] W1 λe w'=>∃p E,e=.returned (.tuple #[.pointer p,.int .i64 E])/\F9 H own O W i gd B d (tK O i) p E w':=by
 obtain⟨gd,N,-,R⟩:=h.brk i _ (J i) D
 obtain⟨Q,G⟩:=R rfl
 have U:=(List.getElem?_eq_some_iff.1 D).1
 refine⟨gd,uY i O.par O.ai ⟨dF (cZ s),d.room⟩ (cZ s),N,Q,λW1 C=>?_⟩
 have A:tK O i=if iO (dF (cZ s))<=d.room then (sN O i (uY i O.par O.ai ⟨dF (cZ s),d.room⟩ (cZ s)),0)else (O,90):=by unfold tK;simp only[Int.toNat_natCast,D,Option.map_some,Option.getD_some,Lr y]
 have L:∀k,k<W.heap.size->¬(own k≠2*i+4/\k<W.heap.size)->own k≠0:=λk hk e=>af
 have f:=(h.fx.to (ag.rf (λ_=>False) W) (λ_ h=>h.elim) L).k C
 have hm:fT O.par (i:Int)=true:=by unfold fT;have:=j.ln;simp;omega
 have F:=ag.aT C λk=>¬(own k≠2*i+4/\k<W.heap.size)
 by_cases t:iO (dF (cZ s))<=d.room
 ·rw[if_pos t]at A;refine (ay3 (X:=λk=>own k≠0/\own k≠2*i+4) (G.st C) y y.YF I O.par O.ai i H.vp H.vh (λW u=>(f W u).1) (λW u=>(f W u).2.1) j.tr hm j.hm t λk hk=>⟨hk.2,h.lo k hk.1⟩).mono ?_;rintro e w'⟨g,rfl,M,u,-⟩;exact⟨_,_,rfl,F.tr u,.inl ⟨rfl,⟨g,rfl,M⟩,A⟩⟩
 ·rw[if_neg t]at A;refine (avY (G.st C) y I O.par O.ai i H.vp H.vh (λW u=>(f W u).1) (λW u=>(f W u).2.1) j.tr hm j.hm t).mono ?_;rintro e w'⟨rfl,T,u⟩;exact⟨_,_,rfl,F.tr u,.inr ⟨rfl,rfl,T,A⟩⟩
theorem F9.st{i gd B d R p u W1 y}(h:F9 H own O W i gd B d R p u W1)(k:K W1 y):F9 H own O W i gd B d R p u y :=
 ⟨h.1.tr (ag.aT k _),h.2.imp (λ⟨e,⟨g,j,A⟩,t⟩=>⟨e,⟨g,j,A.st k⟩,t⟩) λ⟨e,j,C,t⟩=>⟨e,j,C.st k,t⟩⟩
theorem bu.came(h:bu H own O W S)(t:S 2)(V:nc O){i gd g:Nat}{d B W1}(y:O.gF[i]?=some ⟨none,d⟩)(N:H.ds[i]?=some gd)(D:di H.ak (i:Int)=none)
 (u:ag (λk=>¬(own k≠2*i+4/\k<W.heap.size)) W W1) (Q:dm (λk=>own k≠0/\own k≠2*i+4) (λk=>own k≠2*i+4/\k<W.heap.size) g gd B W1) :
 ∃j,(Instr.mapUpdate 78 (.map (some H.gb)) (.int .i64 i) (.pointer (some ⟨g,0,none⟩))).run prog W1=.ok () j/\∃G A,bu G A (sN O i B) j S/\G.gw=H.gw/\ag (λk=>2<=own k) W j/\(∀k,k<W.heap.size->A k=own k)/\∀k,A k=3->own k=3:=by
 have R:=(List.getElem?_eq_some_iff.1 y).1
 have F:ag (λk=>own k=2*i+4) W W1:=⟨u.os,u.tape,u.output,u.size,λk I t=>u.block k I λy=>y ⟨t,I⟩⟩
 have J:=aix h af F λ_ h=>h
 have C:=h.eW t
 obtain⟨j,L,hm,hg⟩:=Fh (DX (P:=prog) (kt:=3) underlying3) underlying78 (J.eW ⟨t,af⟩).map (i:Int) (.pointer (some ⟨g,0,none⟩))
 rw[avX D]at hm
 have E:ag (λk=>k=H.gb) W1 j:=ag.eM hg λk e=>Xn
 have U:=C.own.2.1
 have X:=C.map.lt
 refine⟨j,L,_,_,J.map (n:=i) t R V.ln hm ?_ (λm T=>?_) E ⟨gd,N,λB' e=>?_,λe=>Dr⟩,rfl,(F.more λk e=>af).gg (E.more (Y:=λk=>2<=own k) λk e=>by rw[e,U];exact aC 2) λk hk e=>e,λk hk=>FC,λk hk=>by
  unfold iR at hk;split at hk
  ·split at hk <;> omega
  ·exact hk⟩
 ·rw[List.map_append];exact List.nodup_append.2 ⟨C.kn,aj,λa M b hb e=>acV D (by simp at hb;rw[<- hb,<- e];exact M)⟩
 ·rw[Uz];cases di H.ak m <;> simp
  intro e;exact absurd e.symm T
 ·injection e with e;subst e;refine⟨g,by rw[Uz,D];simp,Q.to E (λk e=>by subst e;exact⟨⟨by omega,by omega⟩,by omega,X⟩) (λk hk=>?_) λk hk=>?_⟩
  ·have:=Pk h.lo ⟨hk.2,.inr hk.1⟩;exact .inl ⟨this.2.2▸hk.1,this.1⟩
  ·by_cases h9:k<W1.heap.size
   ·have:=Pk h.lo ⟨hk.1,.inl h9⟩;exact .inl ⟨this.1,this.2.1⟩
   ·exact .inr ⟨af,hk.2⟩
theorem abO(h:bu H own O W S)(I:S 2)(hS:∀n,S (2*n+4))(hs:nc O){i:Nat}{d s}(t:O.gF[i]?=some ⟨none,d⟩)(hG:ic d s)(hl:s.life+1<18446744073709551616) :
 Calls prog 42 #[.pointer (some ⟨H.gw,0,none⟩),.int .i64 i] W λe w'=>e=.returned (.int .i64 (tK O i).2)/\∃E C,bu E C (tK O i).1 w' S/\E.gw=H.gw/\ag (λk=>2<=own k) W w'/\(∀k,k<W.heap.size->C k=own k)/\∀k,C k=3->own k=3:=by
 obtain⟨gd,B,N,hlk,hC⟩:=h.opn hS hs t hG hl
 have HC:=ae hC
 have HW:=ae λg W1 u Q=>h.came I hs (g:=g) (W1:=W1) (B:=B) t N hlk u Q
 have hi:=(List.getElem?_eq_some_iff.1 t).1
 have HD:=ae λW1 u (A:rE _ gd d W1)=>aud t▸h.akA (W':=W1) hi N hlk A u
 have cP:=(h.eW I).own.1
 have hb:=(h.eW I).blk
 obtain⟨b,off,c,Da,hnl,EY⟩:=h.IV N
 have NA:(i:Int)<(H.ds.length:Int):=af
 have Gl:=λW1 (u:ag (λk=>¬(own k≠2*i+4/\k<W.heap.size)) W W1)=>EY W1 ⟨u.os,u.tape,u.output,u.size,λk G I=>u.block k G λt=>t ⟨af,G⟩⟩
 have F:∀W1,ag (λk=>¬(own k≠2*i+4/\k<W.heap.size)) W W1->∀j,W1.cell? ⟨H.gw,j,none⟩=#[H.vp,H.vh,H.vn,H.vd,.map (some H.gb),H.vc,H.vg][j]?:=λW1 u=>(hb.aX u λe=>e ⟨af,hb.lt⟩).cell
 rw[Da]at F
 generalize tK O (i:Int)=R at *
 have Cy:=ae λp code W1 (h:F9 H own O W i gd B d R p code W1)=>h.1
 obtain⟨Y,hY⟩:∃Y,Y=λk=>¬(own k≠2*i+4/\k<W.heap.size):=⟨_,rfl⟩
 rw[<- hY]at F Gl Cy
 clear hY
 clear h t hG hl hS hC N hlk hi hs hb EY
 go_enter func42,ntmps42
 go_upto_region 1 with (fail)
 have qs:=And.intro F (And.intro Gl NA)
 refine Tt 21 [16] (ag Y W) (λ_ _=>True) (λk vs W1=>if k=0 then K W W1 else ∃p code,vs=[.tuple #[.pointer p,.int .i64 code]]/\F9 H own O W i gd B d R p code W1)
  [([],[]),([],[]),([1],[(9,1)]),([2],[(10,2)]),([3],[(11,3)]),([],[]),([5],[(13,5)]),([6],[(14,6)]),([7],[(15,7)]),([],[]),([9],[(17,9)]),([10],[(18,10)]),([11],[(19,11)]),([],[]),([12,13],[(20,12),(21,13)]),([14],[(22,14)]),([0,4,8,15],[(8,0),(12,4),(16,8),(23,15)]),([16],[(24,16)]),([17],[(7,17)]),([17],[(7,17)]),([18],[(25,18)]),([0,1,2,3,4,5,6,7,8,9,10,11,12,13,14,15,16,17,18,19,20],[(26,19)])] 36 [] [(17,16,id),(18,17,YJ),(19,17,YK),(20,18,id)]
  (λ_ _ h k=>h.tr (ag.aT k _)) (λ_ _ _=>trivial) (λk vs W1 W2 h kW=>by
   split at h
   ·next h0=>rw[if_pos h0];exact h.tr kW
   ·next h0 =>
    rw[if_neg h0];obtain⟨p,code,e,D⟩:=h;exact⟨p,code,e,D.st kW⟩) (ag.rf _ _) (λ_=>K.rf W) ?_
 iterate 16 refine au.i ?_
 refine au.kn (λv=>∃p code,v=.tuple #[.pointer p,.int .i64 code]) ?_
 refine au.op (λv _=>∃p code,v=.tuple #[.pointer p,.int .i64 code]) (λ_ _ _ h _=>h) (λV W1 kW hp=>?_) ?_
 ·exact Xo
 refine au.op (λv _=>∃p,v=.pointer p) (λ_ _ _ h _=>h) (λV W1 kW hp=>?_) ?_
 ·exact Xo
 refine au.op (λv _=>∃c:Int,v=.int .i64 c) (λ_ _ _ h _=>h) (λV W1 kW hp=>?_) ?_
 ·exact Xo
 refine au.op (λv _=>∃p,v=.pointer p) (λ_ _ _ h _=>h) (λV W1 kW hp=>?_) ?_
 ·simp only[cd,aO,aQ,bW,bY,aJ]at hp;obtain⟨⟨p,e⟩,-⟩:=hp;exact aiH
 clear qs
 refine⟨⟨⟨_,_,rfl,rfl,rfl,λV W1 Z A hp=>?_⟩,trivial⟩,λk hk=>(by simp at hk),λz hz=>?_,λV W1 Z A _ hE hA=>?_⟩
 ·simp only[cd,aO,aQ,bW,bY,aJ]at hp;obtain⟨M,e4,T,qA,-⟩:=hp;have A:K W W1:=by simpa using A
  simp[aE,List.lookup,M,e4,T,qA,jM,execOp,aF,go_sem];refine (HC.aa W1 A).mono ?_;rintro e w'⟨p,code,rfl,D⟩;exact⟨_,rfl,Cy.aa _ _ _ D,⟨p,code,rfl,D⟩,p,code,rfl⟩
 ·simp at hz;rcases hz with rfl|rfl|rfl|rfl;all_goals refine⟨_,_,rfl,rfl,rfl,aj,λV W1 Z hp=>⟨W1,?_⟩⟩
  all_goals simp only[cd,aO,aQ,bW,bY,aJ]at hp
  ·simp[aE,List.lookup,execOp,aF,go_sem]
  ·obtain⟨⟨p,code,e⟩,-⟩:=hp;simp[aE,List.lookup,e,execOp,aF,go_sem,YJ]
  ·obtain⟨⟨p,code,e⟩,-⟩:=hp;simp[aE,List.lookup,e,execOp,aF,go_sem,YK]
  ·simp[aE,List.lookup,execOp,aF,go_sem]
 simp only[aO,aQ,cz,aJ,Nat.reduceAdd]at hA
 obtain⟨M,e1,e2,e3,e4,e5,e6,e7,T,e9,fD,pr,Cs,y7,ED,qA,-⟩:=hA
 simp only[cd,id]at hE
 obtain⟨X,J,U,L,-⟩:=hE
 obtain⟨p,code,EH,D⟩:∃p code,V 16=.tuple #[.pointer p,.int .i64 code]/\F9 H own O W i gd B d R p code W1:=by simpa using A
 rw[X,EH]at J U
 rw[J]at L
 rw[EH]at X
 simp only[YJ,YK]at J U L
 have hA:=And.intro M (And.intro e1 (And.intro e2 (And.intro e3 (And.intro e4 (And.intro e5 (And.intro e6 (And.intro e7 (And.intro T (And.intro e9 (And.intro fD (And.intro pr (And.intro Cs (And.intro y7 (And.intro ED (And.intro qA (And.intro EH (And.intro X (And.intro J (And.intro U L)))))))))))))))))))
 have qs:=trivial
 refine aH.p ?_
 refine aH.h ?_
 have q1:=F W1 Z
 clear M e1 e2 e3 e4 e5 e6 e7 T e9 fD pr Cs y7 ED qA EH X J U L hA qs A F Gl Z HC Cy
 obtain⟨y,⟨rfl,⟨g,rfl,Q⟩,rfl⟩|⟨rfl,rfl,G1,rfl⟩⟩:=D
 ·obtain⟨W2,hrun,hF⟩:=HW.aa g W1 y Q;have HF:=ae hF;clear y Q HW HD hF;exact Qy
 ·have HF:=ae (show ∃E C,bu E C O W1 S/\E.gw=H.gw/\ag (λk=>2<=own k) W W1/\(∀k,k<W.heap.size->C k=own k)/\∀k,C k=3->own k=3 from
   ⟨H,_,HD.aa W1 y G1,rfl,⟨y.os,y.tape,y.output,y.size,λk G I=>y.block k G λt=>t ⟨af,G⟩⟩,λk hk=>FC,λk hk=>by
    unfold iR at hk;split at hk
    ·split at hk <;> omega
    ·exact hk⟩)
  clear y G1 HW HD;exact Qy
theorem aon(h:bu H own O W dJ)(u:bO par ai O k)(hk:k<=40000) n :
 Calls prog 20 #[.pointer (some ⟨H.gw,0,none⟩),.int .i64 n] W λe w'=>e=.returned (.int .i64 (zu O n).2)/\dh H own (zu O n).1 W w':=by
 have C1:=ae (Ko h p2 n)
 have C2:=ae (OT h p2 pB u.fV n)
 have HR:Hid (zu O n=if ku O n then (if (cX O n).isSome then (O,(210:Int))else tK O n)else (O,1)):=ae rfl
 have HN:=ae (h.now (K.rf W))
 have y:Hid (ku O n=true->cX O n=none->Calls prog 42 #[.pointer (some ⟨H.gw,0,none⟩),.int .i64 n] W λe w'=>e=.returned (.int .i64 (tK O n).2)/\dh H own (tK O n).1 W w'):=ae λj t=>by obtain⟨i,rfl,-,d,s,F,E,J,-⟩:=u.down j t;exact (abO h p2 pB u.fV F E af).mono λe w' ⟨G,D,o',a,b,c,d,_⟩=>⟨G,D,o',a,b,c,d⟩
 generalize zu O n=R at *
 cases j:ku O n
 ·rw[j]at C1 HR;clear h u j C2 y;go_enter func20,ntmps20;exact Qx
 rw[j]at C1 HR
 cases t:cX O n with
 | none =>
  have A:=ae (y.aa j t);rw[t]at HR C2;generalize tK O n=I at *;clear h u j t y;go_enter func20,ntmps20;go_wp2_with fail
  apply bF C1.aa;rintro w' rfl;go_wp2_with fail
  apply bF C2.aa;rintro w' rfl;go_wp2_with fail
  apply bF A.aa;intro L C;have HF:=ae C;clear A C;exact K6
 | some B => rw[t]at HR C2;clear h u j t y;go_enter func20,ntmps20;exact aiG
end
section
open Go Go.RowKit Go.Conc
def zG(par:List Int)(n:Nat):List tg:=(List.range n).tail.flatMap λ(k:Nat)=>let p:=(par[k]?).getD 0;[(((k:Int),p),[]),((p,(k:Int)),[])]
theorem aqZ par k(hk:1<=k):zG par (k+1)=zG par k++[(((k:Int),(par[k]?).getD 0),[])]++[(((par[k]?).getD 0,(k:Int)),[])]:=by unfold zG;rw[List.range_succ,List.tail_append_of_ne_nil aG,List.flatMap_append];simp
theorem acW par n:∀p∈zG par n,p.2=[]:=by
 grind [zG]
theorem xL.mem{M C B A ak L W}(h:xL M C B A ak L W){p}(hp:p∈ak):∃q∈L,p.1=q.1/\∃c<W.heap.size,p.2=.chan (some c):=by
 obtain⟨i,t,rfl⟩:=List.getElem_of_mem hp;have j:i<L.length:=by rw[<- h.len];exact t
 obtain⟨y,c,vs,e,-,u,-⟩:=h.ls i t j;exact⟨_,bS j,y,c,u.lt,e⟩
theorem xL.add{M C D t c ak L W W1 k}(h:xL M C D t ak L W)(Z:∀p∈L,p.2=[])(J:K W W1)(hg:D≠t)(hc:pn c [] W1)(hw:W.heap.size<=c)(hk:∀p∈L,p.1≠k):
 ∃W',(Instr.mapUpdate 147 (.map (some t)) (qQ k) (.chan (some c))).run prog W1=.ok () W'/\ag (λk=>k=t) W1 W'/\∃ak,∀(M' B:Nat->Prop),(∀k,C k∨k=c->B k)->(∀k,B k->M' k)->¬M' D/\¬M' t->xL M' B D t ak (L++[(k,[])]) W':=by
 have F:∀p∈ak,p.1≠k:=λp hp=>by
  obtain⟨q,hq,e,-⟩:=h.mem hp
  grind
 obtain⟨W',Y,I,r3⟩:=Fh ajN underlying147 (h.map.st J) k (.chan (some c))
 have u:=ag.eM r3 (X:=λk=>k=t) λk e=>aG
 have S:=(ag.aT J (λk=>k=t)).tr u
 have T:c≠t:=λe=>by have:=h.map.lt;omega
 unfold rM at I
 rw[UO F]at I
 refine⟨W',Y,u,ak++[(k,.chan (some c))],λM' B N hM hn=>?_⟩
 ·refine⟨h.blk.aX S hg,I,by simp[h.len],λi G H=>?_,?_,λi j G O e=>?_,hn,hM⟩
  ·by_cases y:i<ak.length
   ·have A:i<L.length:=by rw[<- h.len];exact y
    simp only[List.getElem_append_left y,List.getElem_append_left A];obtain⟨g1,c2,vs,e,Q,U,R,q4⟩:=h.ls i y A;rw[Z _ (bS A)]at R⊢;exact⟨g1,c2,vs,e,N _ (.inl Q),U.aX S λe=>h.ne.2 (h.sub _ (e▸Q)),R,λi _ H=>aG⟩
   ·obtain rfl:i=ak.length:=aG;simp only[List.getElem_concat_length,h.len];exact⟨aj,c,[],aj,N _ (.inr rfl),hc.aX u T,rfl,λi _ H=>by simp at H⟩
  ·rw[List.map_append];refine List.nodup_append.2 ⟨h.nd,aj,λa V b hb=>?_⟩;obtain⟨p,hp,rfl⟩:=List.mem_map.1 V;obtain⟨q,-,-,c',hc',e⟩:=h.mem hp;simp at hb;subst hb;rw[e];intro E;injection E with E;injection E with E;omega
  ·by_cases y:i<ak.length <;> by_cases A:j<ak.length
   ·simp only[List.getElem_append_left y,List.getElem_append_left A]at e;exact h.kn i j y A e
   ·obtain rfl:j=ak.length:=by simp at O;omega
    simp only[List.getElem_append_left y,List.getElem_concat_length]at e;exact absurd e (F _ (bS y))
   ·obtain rfl:i=ak.length:=by simp at G;omega
    simp only[List.getElem_append_left A,List.getElem_concat_length]at e;exact absurd e.symm (F _ (bS A))
   ·simp at G O;omega
theorem asp{par n}(h:gQ par=true)(hn:n<=par.length){p}(hp:p∈zG par n):∃(i:Nat) (q:Int),i<n/\par[i]?=some q/\0<=q/\q<(i:Int)/\(p.1=((i:Int),q)∨p.1=(q,(i:Int))):=by
 grind [gQ,zG]
theorem asq par v w(h:aq cR par v w)(ht:gQ par=true) :
 Calls prog 43 #[v] w λe w'=>∃x,e=.returned x/\(∃gn,x=.tuple #[.pointer (some ⟨gn,0,none⟩),.int .i64 0]/\∃C,sy (λk=>k<w.heap.size∨C k) C gn (IC par) w'/\∀k,C k->w.heap.size<=k/\k<w'.heap.size)/\K w w':=by
 have hp:=sD ht
 have Q:=ae (J9 par v w h af)
 obtain⟨A,c,rfl,hl,-⟩:=h
 obtain⟨b,off,rfl,hcell⟩:=ints_at hl af
 have qR:yd par=0:=if_pos ht
 rw[qR]at Q
 have HT:=ae ht
 clear qR hl
 have kk:=K.rf w
 go_enter func43,ntmps43
 go_wp2_with fail
 apply oX Q.aa kk
 intro t B k0
 have jL:=λW=>Ka (P:=prog) underlying147 W
 go_upto_region 5 with (fail)
 have xf:xL (λk=>k<w.heap.size∨(w.heap.size<=k/\k<t.heap.size+2/\k≠t.heap.size/\k≠t.heap.size+1)) (λk=>w.heap.size<=k/\k<t.heap.size+2/\k≠t.heap.size/\k≠t.heap.size+1) (t.heap.size+1) t.heap.size [] (zG par 1) ((t.alloc (.map #[] 0)).alloc (.cells #[.map (some t.heap.size)] 149)) :=
  ⟨by simpa using ah.new (t.alloc (.map #[] 0)) 149 #[.map (some t.heap.size)],(ei.new t).st ((K.rf _).al _),rfl,λi hi=>KJ,aj,λi _ hi=>KJ,by have:=B.size;constructor <;> omega,λk h=>.inr h⟩
 have M:=(k0.al (.map #[] 0)).al (.cells #[.map (some t.heap.size)] 149)
 have hz:((t.alloc (.map #[] 0)).alloc (.cells #[.map (some t.heap.size)] 149)).heap.size=t.heap.size+2:=aj
 have S:=B.size
 clear B k0 kk Q jL
 generalize ((t.alloc (.map #[] 0)).alloc (.cells #[.map (some t.heap.size)] 149))=w2 at *
 rw[<- hz]at xf
 generalize Y5:t.heap.size=u at *
 have O:=ae (And.intro hz (And.intro S Y5))
 have Z:=ae (And.intro xf M)
 clear hz S Y5 xf M
 go_wp2_with fail
 go_loopw [6] (fun i W=>∃j:Nat,1<=j/\j<=par.length/\i=.int .i64 (j:Int)/\Hid ((∃ak,xL (fun k=>k<w.heap.size∨(w.heap.size<=k/\k<W.heap.size/\k≠u/\k≠u+1)) (fun k=>w.heap.size<=k/\k<W.heap.size/\k≠u/\k≠u+1) (u+1) u ak (zG par j) W)/\K w W/\u+2<=W.heap.size)) (fun i _=>par.length-(intOf i).toNat)
 case atStart=>exact⟨1,af,af,rfl,ae ⟨⟨_,Z.aa.1⟩,Z.aa.2,by have:=O.aa;omega⟩⟩
 case round =>
  clear Z;obtain⟨j,MI,hj,rfl,HJ⟩:=hrel;by_cases hlt:j<par.length
  ·have I:(j:Int)<(par.length:Int):=af;obtain⟨⟨ak,J⟩,H,sP⟩:=HJ.aa;have B7:=λW (k:K w W)=>hcell W k j hlt
   have q:=J.blk.cells;have HK:=ae (show ∀p∈zG par j,p.1≠((j:Int),par[j])/\p.1≠(par[j],(j:Int))from λp hp=>by
    obtain⟨i,x,N,-,h3,h4,h5⟩:=asp HT.aa af hp;rcases h5 with e|e <;> rw[e] <;> constructor <;> intro e2 <;> injection e2 <;> omega)
   have HS:=ae (aqZ par j MI);have Es:=ae ((Fj.1 HT.aa).2.2.2 j hlt MI);rw[List.getElem?_eq_getElem hlt,Option.getD_some]at HS;generalize par[j]=x at *;have HN:=ae J;have HC:=ae B7;have hq:=λW (k:K wr W)=>B7 W (H.tr k)
   clear J hcell B7;go_wp2_with fail
   have qs:=And.intro q (And.intro hq (And.intro I I));refine dD 11 (([],[]) :: ([0],[(21,0)]) :: ([1],[(22,1)]) :: ([2],[(23,2)]) :: ([],[]) :: ([],[]) :: ([],[]) :: ([5,6],[(26,5),(27,6)]) :: ([7],[(28,7)]) :: ([4,8],[(25,4),(29,8)]) :: ([],[]) :: ([0,1,2,3,4,5,6,7,8,9,10],[(24,3),(30,9),(31,10)]) :: []) 44 ?_;iterate 10 refine au.i ?_
   refine au.op (λv W=>∃c,v=.chan (some c)/\wr.heap.size<=c/\pn c [] W) (λv W W' ⟨c,e,N,h2⟩ k=>⟨c,e,N,h2.aX (ag.aT k λ_=>False) id⟩) (λV W kW hp=>?_) ?_
   ·exact aiI
   intro V W kW hA;simp only[aO,aQ,cz,aJ,Nat.reduceAdd]at hA;obtain⟨f0,X,f2,E,f4,R,T,f7,f8,F,⟨c1,D,hc1,U⟩,-⟩:=hA;have hz:=kW.size;have hzz:=O.aa;have hz0:=H.size;have kO:=U.lt;obtain⟨W1,Y,u1,aEy,G⟩:=HN.aa.add (acW par j) kW af U hc1 λp hp=>(HK.aa p hp).1
   have S:=u1.size;replace G:=G (λk=>k<w.heap.size∨(w.heap.size<=k/\k<W1.heap.size/\k≠u/\k≠u+1)) (λk=>w.heap.size<=k/\k<W1.heap.size/\k≠u/\k≠u+1) aiJ (λ_ h=>.inr h) aiK;simp only[qQ]at Y;refine aH.s (w':=W1) ?_ (by simp[aE,List.lookup,ba,E,F,D,execOp,aF,Y,go_sem]);refine aH.e ?_;have B:=u1.k (H.tr kW) λk e=>e▸by have:=O.aa;omega
   have nG:=λy (k:K W1 y)=>HC.aa y (B.tr k)
   have q1:=G.blk.cells;have EC:=ae G;clear qs q hq f0 X f2 E f4 R T f7 f8 F D U Y G HN;go_wp2_with fail
   have qs:=And.intro q1 (And.intro nG (And.intro I I));refine dD 11 (([],[]) :: ([0],[(32,0)]) :: ([1],[(33,1)]) :: ([2],[(34,2)]) :: ([],[]) :: ([],[]) :: ([4,5],[(36,4),(37,5)]) :: ([6],[(38,6)]) :: ([],[]) :: ([7,8],[(39,7),(40,8)]) :: ([],[]) :: ([0,1,2,3,4,5,6,7,8,9,10],[(35,3),(41,9),(42,10)]) :: []) 44 ?_;iterate 10 refine au.i ?_
   refine au.op (λv W=>∃c,v=.chan (some c)/\W1.heap.size<=c/\pn c [] W) (λv W W' ⟨c,e,N,h2⟩ k=>⟨c,e,N,h2.aX (ag.aT k λ_=>False) id⟩) (λV W kW hp=>?_) ?_
   ·exact aiI
   intro V W kW hA;simp only[aO,aQ,cz,aJ,Nat.reduceAdd]at hA;obtain⟨f0,X,f2,E,f4,R,T,f7,f8,F,⟨c2,D,gS,lD⟩,-⟩:=hA;have eE:=lD.lt;obtain⟨y,r2,u2,aEz,L⟩:=EC.aa.add (λp hp=>by
    rcases List.mem_append.1 hp with h|h
    ·exact acW par j p h
    ·simp at h;rw[h]) kW af lD gS λp hp=>by
    rcases List.mem_append.1 hp with h|h
    ·exact (HK.aa p h).2
    ·simp at h;rw[h];have:=Es.aa;intro e;injection e;omega
   have hz2:=u2.size;replace L:=L (λk=>k<w.heap.size∨(w.heap.size<=k/\k<y.heap.size/\k≠u/\k≠u+1)) (λk=>w.heap.size<=k/\k<y.heap.size/\k≠u/\k≠u+1) aiJ (λ_ h=>.inr h) aiK;simp only[qQ]at r2;refine aH.s (w':=y) ?_ (by simp[aE,List.lookup,ba,E,F,D,execOp,aF,r2,go_sem]);refine aH.e ?_;have M:=u2.k (B.tr kW) λk e=>e▸by have:=O.aa;omega
   rw[<- HS.aa]at L;have Ew:=ae L;clear qs q1 nG f0 X f2 E f4 R T f7 f8 F D lD r2 L EC;go_wp2;go_roundw
   case rel=>exact⟨j+1,af,af,bJ,ae ⟨⟨_,Ew.aa⟩,M,af⟩⟩
   case measure=>simp[intOf];omega
  ·have I:¬(j:Int)<(par.length:Int):=af;obtain rfl:j=par.length:=af;go_wp2;go_ret2;obtain⟨⟨ak,J⟩,H,-⟩:=HJ.aa;exact⟨_,rfl,⟨_,rfl,_,⟨_,_,J⟩,λk h=>⟨h.1,h.2.1⟩⟩,H⟩
end
theorem aem{α T j e z bytes}(u:fK prog j e z 1 bytes)(n:Nat)(hn:n<=1000000)(x:α)(hz:z.cells=#[z])(t:T.size=1)(E:∀w,T.rel x [z] w)(hb:bytes<=1000) W :
 (Instr.makeSlice j (.int .i64 (n:Int)) (.int .i64 (n:Int))).run prog W=.ok (.slice (some ⟨W.heap.size,0,none⟩) n n) (W.alloc (.cells (madeCells #[z] n) e))/\aA (λ_=>True) W.heap.size e T (List.replicate n x) (.slice (some ⟨W.heap.size,0,none⟩) n n) (W.alloc (.cells (madeCells #[z] n) e)):=by
 obtain⟨i,B,D,A,C⟩:=u.fit
 have h9:(i.bytes:Int)*(n:Int)<=281474976710656:=by have:=Nat.mul_le_mul hb hn;rw[C,<- Int.natCast_mul];omega
 have h:=run_make (P:=prog) W j e i z u.und B D .i64 .i64 (n:Int) (n:Int) af af h9 af
 rw[A,hz]at h
 refine⟨aG,List.replicate n [z],?_,aj,λw' _=>⟨aj,λi t F=>aG⟩⟩
 have y:(List.replicate n [z]).flatten=List.replicate n z:=aj
 rw[y,t,List.length_replicate]
 exact Oo (xs:=List.replicate n z) (rest:=[]) (aC _) (by rw[List.append_nil,<- toList_madeCells_one];exact ah.new W e _) aj aj Bn
structure Ef(w:World)(par ai:List Int)(room gw gb:Nat)(vp vh vc vg:Value)(ds:List Nat)(vd:Value)(W:World):Prop where
 blk:ah W gw 83 #[vp,vh,.pointer none,vd,.map (some gb),vc,vg]
 map:ei encI W gb []
 p:aA (λ_=>True) w.heap.size 3 cR par vp W
 h:aA (λ_=>True) w.heap.size 3 cR ai vh W
 c:aA (λ_=>True) w.heap.size 3 cR (List.replicate ai.length 0) vc W
 g:aA (λ_=>True) w.heap.size 59 xO (List.replicate ai.length (.slice none 0 0)) vg W
 d:aA (λ_=>True) w.heap.size 84 xO (ds.map λg=>.pointer (some ⟨g,0,none⟩)) vd W
 ap:∀b,vc.ownBlock=some b->vp.ownBlock≠some b/\vh.ownBlock≠some b
 dk:∀(i:Nat) (hi:i<ds.length),gB ds[i] (.slice none 0 0) [] 0 room W/\w.heap.size<=ds[i]
 nd:ds.Nodup
 lo:w.heap.size<=gw/\w.heap.size<=gb
 k:K w W
theorem Ef.push{w W W1 t par ai room gw gb vp vh vc vg vd v' ds}(h:Ef w par ai room gw gb vp vh vc vg ds vd W)(I:K W W1)(Q:gB W.heap.size (.slice none 0 0) [] 0 room W1)
 (H:aA (λ_=>True) w.heap.size 84 xO ((ds.map λg=>.pointer (some ⟨g,0,none⟩))++[.pointer (some ⟨W.heap.size,0,none⟩)]) v' t) (hg:W1.grownBy t vd.ownBlock) :
 ah t gw 83 #[vp,vh,.pointer none,vd,.map (some gb),vc,vg]/\Ef w par ai room gw gb vp vh vc vg (ds++[W.heap.size]) v' (t.setCell ⟨gw,3,none⟩ v'):=by
 obtain⟨X,hX⟩:∃X:Nat->Prop,X=λk=>vd.ownBlock=some k∨k=gw:=⟨_,rfl⟩
 have M:=h.blk.av I
 have B:=M.grown hg λe=>by obtain⟨_,_,_,hb⟩:=h.d.own e.symm;exact Qz
 have u:ag X W (t.setCell ⟨gw,3,none⟩ v'):=((ag.aT I _).tr (ag.eM hg λk e=>by rw[hX];exact .inl e)).tr (ag.bL aiL 3 v')
 have F:∀b e cs,ah W b e cs->e≠84->e≠83->¬X b:=λb e cs hb C D j=>by
  rw[hX]at j;rcases j with j|rfl
  ·obtain⟨_,_,_,R⟩:=h.d.own j;exact C (hb.gM R)
  ·exact D (hb.gM h.blk)
 have E:∀k,X k->w.heap.size<=k/\k<W.heap.size:=λk hk=>by
  rw[hX]at hk;rcases hk with hk|rfl
  ·exact h.d.blk k hk
  ·exact⟨h.lo.1,h.blk.lt⟩
 have y:∀ {β:Type} {S:dW β} {e:TypeId} {l:List β} {v:Value},aA (λ_=>True) w.heap.size e S l v W->e≠84->e≠83->aA (λ_=>True) w.heap.size e S l v (t.setCell ⟨gw,3,none⟩ v'):=λh9 C D =>
  h9.to u (λ_ _=>trivial) (λk hk j=>by
   obtain⟨_,_,_,hb⟩:=h9.own hk;exact F k _ _ hb C D j) λ_ _ _=>.inl trivial
 refine⟨B,by simpa using B.aM 3 v',h.map.aX u λj=>?_,y h.p ay ay,y h.h ay ay,y h.c ay ay,y h.g ay ay,?_,h.ap,λi A=>?_,?_,h.lo,u.k h.k λk hk=>(E k hk).1⟩
 ·rw[hX]at j;rcases j with j|j
  ·obtain⟨_,_,_,hb⟩:=h.d.own j;exact h.map.cells hb
  ·have J:=h.blk;rw[<- j]at J;exact h.map.cells J
 ·rw[List.map_append];exact H.to (ag.bL (X:=λk=>k=gw) rfl 3 v') (λ_ _=>trivial) (λk hk e=>by
   obtain⟨_,_,_,hb⟩:=H.own hk;exact absurd (hb.gM (e▸B)) ay) λ_ _ _=>.inl trivial
 ·rw[cF]at A;by_cases h9:i<ds.length
  ·rw[List.getElem_append_left h9];obtain⟨G,O⟩:=h.dk i h9;refine⟨G.aX u λk hk=>?_,O⟩;rcases hk with rfl|hk
   ·exact F _ _ _ G.blk ay ay
   ·cases hk
  ·have e:i=ds.length:=by simp at A;omega
   subst e;rw[List.getElem_append_right (aC _)];simp only[Nat.sub_self,List.getElem_cons_zero];have L:ag X W1 (t.setCell ⟨gw,3,none⟩ v'):=(ag.eM hg λk e=>by rw[hX];exact .inl e).tr (ag.bL aiL 3 v');refine⟨Q.aX L λk hk j=>?_,h.k.size⟩;rcases hk with rfl|hk
   ·exact Nat.lt_irrefl _ (E _ j).2
   ·cases hk
 ·rw[List.nodup_append];refine⟨h.nd,aj,λa N b hb e=>?_⟩;simp at hb;obtain⟨i,A,rfl⟩:=List.mem_iff_getElem.1 N;have:=(h.dk i A).1.blk.lt;omega
def pc(par ai:List Int)(room j:Nat):bH :=
 ⟨par,ai,[],(List.range par.length).map λ(n:Nat)=>if n<j then ⟨some (uY n par ai ⟨dF (cZ dw),room⟩ (cZ dw)),⟨dF (cZ dw),room⟩⟩else ⟨none,⟨[],room⟩⟩,ai.map λ_=>0,ai.map λ_=>[]⟩
theorem avZ par ai room:{ pc par ai room par.length with dX:=IC par }=tO par ai room:=by simp[pc,tO]
theorem av0{par ai} room j(t:gQ par=true)(u:pW par ai=true):nc (pc par ai room j):=⟨t,u,by simp[pc],by simp[pc],by simp[pc]⟩
theorem aiM{par ai room j}(t:j<par.length):(pc par ai room j).gF[j]?=some ⟨none,⟨[],room⟩⟩:=by simp[pc,t]
theorem aue{par ai room j}(B:j<par.length)(y:iO (dF (cZ dw))<=room)(A:room<=1048576):tK (pc par ai room j) j=(pc par ai room (j+1),0):=by
 have e:=Lr (ic.new A);unfold tK;simp only[Int.toNat_natCast,aiM B,Option.map_some,Option.getD_some,e,if_pos y];refine Prod.ext ?_ rfl;unfold sN ot pc;simp only[bH.mk.injEq,true_and,and_true,Int.toNat_natCast];refine List.ext_getElem aj λi u C=>?_
 simp only[List.length_set,List.length_map,List.length_range]at u;rw[List.getElem_set];simp only[List.getElem_map,List.getElem_range];by_cases t:j=i
 ·subst t;simp[uY]
 ·rw[if_neg t];by_cases h9:i<j
  ·rw[if_pos h9,if_pos af]
  ·rw[if_neg h9,if_neg af]
def yj(i:Nat):Prop:=2<=i/\i≠3
theorem Ef.ov{w W par ai room gw gb vp vh vc vg vd ds}(h:Ef w par ai room gw gb vp vh vc vg ds vd W)(H:ds.length=par.length) :
 ∃own,bu ⟨gw,gb,vp,vh,.pointer none,vd,vc,vg,List.replicate ai.length (.slice none 0 0),ds,[]⟩ own (pc par ai room 0) W yj/\(∀k,k<w.heap.size->own k=0)/\∀k,own k≠3:=by
 obtain⟨E,C⟩:∃E:Nat->Prop,E=λk=>k=gw∨k=gb∨vc.ownBlock=some k∨vg.ownBlock=some k:=⟨_,rfl⟩
 classical
 obtain⟨own,ho⟩:∃own:Nat->Nat,own=λk=>if E k then 2 else match (List.range ds.length).find? λi=>decide (ds[i]?=some k)with|some i=>2*i+4|none=>0:=⟨_,rfl⟩
 have F:∀k,E k->own k=2:=λk hk=>aG
 have L:∀(i gd:Nat),ds[i]?=some gd->∃cs,ah W gd 145 cs:=λi gd y=>by obtain⟨A,rfl⟩:=List.getElem?_eq_some_iff.1 y;exact⟨_,(h.dk i A).1.blk⟩
 have U:∀k,E k->∀cs,¬ah W k 145 cs:=λk hk cs hb=>by
  rw[C]at hk;rcases hk with rfl|rfl|hk|hk
  ·exact Qz
  ·exact h.map.cells hb
  ·obtain⟨_,_,_,hb2⟩:=h.c.own hk;exact BC
  ·obtain⟨_,_,_,hb2⟩:=h.g.own hk;exact BC
 have T:∀(i gd:Nat),ds[i]?=some gd->own gd=2*i+4:=λi gd y=>by
  obtain⟨cs,hb⟩:=L i gd y
  rw[ho]
  simp only
  rw[if_neg λe=>U gd e cs hb]
  obtain⟨hil,Z⟩:=List.getElem?_eq_some_iff.1 y
  cases hf:(List.range ds.length).find? λi=>decide (ds[i]?=some gd)with
  | none =>
   grind
  | some j => have A:=List.find?_some hf;simp only[decide_eq_true_eq]at A;obtain⟨hjl,R⟩:=List.getElem?_eq_some_iff.1 A;have:i=j:=(List.getElem_inj h.nd).1 (Z.trans R.symm);rw[this]
 have G:∀k,own k≠0->E k∨∃i,ds[i]?=some k/\own k=2*i+4:=λk hk=>by
  grind
 have N:∀k,own k≠0->w.heap.size<=k/\k<W.heap.size:=λk hk=>by
  rcases G k hk with t|⟨i,y,-⟩
  ·rw[C]at t;rcases t with rfl|rfl|t|t
   ·exact⟨h.lo.1,h.blk.lt⟩
   ·exact⟨h.lo.2,h.map.lt⟩
   ·exact h.c.blk k t
   ·exact h.g.blk k t
  ·obtain⟨A,rfl⟩:=List.getElem?_eq_some_iff.1 y;exact⟨(h.dk i A).2,(h.dk i A).1.blk.lt⟩
 have O:∀b cs,ah W b 3 cs->vc.ownBlock≠some b->¬own b≠0:=λb cs hb Y hk=>by
  rcases G b hk with t|⟨i,y,-⟩
  ·rw[C]at t;rcases t with rfl|rfl|t|t
   ·exact Qz
   ·exact h.map.cells hb
   ·exact Y t
   ·obtain⟨_,_,_,hb2⟩:=h.g.own t;exact BC
  ·obtain⟨_,hb2⟩:=L i b y;exact BC
 have X:∀b,vd.ownBlock=some b->¬own b≠0:=λb Q hk=>by
  obtain⟨_,_,_,hb⟩:=h.d.own Q;rcases G b hk with t|⟨i,y,-⟩
  ·rw[C]at t;rcases t with rfl|rfl|t|t
   ·exact Qz
   ·exact h.map.cells hb
   ·obtain⟨_,_,_,hb2⟩:=h.c.own t;exact BC
   ·obtain⟨_,_,_,hb2⟩:=h.g.own t;exact BC
  ·obtain⟨_,hb2⟩:=L i b y;exact BC
 have S:=K2 (M:=λk=>own k≠0) h.p λb hb=>by obtain⟨_,_,cs,hb2⟩:=h.p.own hb;exact O b cs hb2 λe=>(h.ap b e).1 hb
 have V:=K2 (M:=λk=>own k≠0) h.h λb hb=>by obtain⟨_,_,cs,hb2⟩:=h.h.own hb;exact O b cs hb2 λe=>(h.ap b e).2 hb
 refine⟨own,⟨λk hk=>(N k hk).2,λW' u=>⟨S W' u,V W' u,(h.d.to u (λ_ _=>trivial) X (Y':=λ_=>True) λ_ _ _=>.inl trivial).aq⟩,λ_=>⟨h.blk,h.map,λ_ _=>rfl,?_,h.g.low (eV _),⟨F _ (by rw[C];exact .inl rfl),F _ (by rw[C];exact .inr (.inl rfl)),λk hk=>F k (by rw[C];exact .inr (.inr (.inl hk))),λk hk=>F k (by rw[C];exact .inr (.inr (.inr hk)))⟩,by simp[pc],aj⟩,λe=>absurd rfl e.2,λn x _ D=>?_,λc l _ H=>?_⟩,λk hk=>?_,λk=>?_⟩
 ·show aA _ 0 _ cR (ai.map λ_=>0) vc W;rw[List.map_const'];exact h.c.low (eV _)
 ·have hn:n<par.length:=by have:=(List.getElem?_eq_some_iff.1 D).1;simpa [pc]using this
  simp[pc,hn]at D;subst D;obtain⟨gd,J⟩:∃gd,ds[n]?=some gd:=⟨_,List.getElem?_eq_getElem af⟩;refine⟨gd,J,λB e=>Dr,λ_=>⟨rfl,.slice none 0 0,?_,λk hk=>⟨λD=>?_,hk.2⟩⟩⟩
  ·obtain⟨A,rfl⟩:=List.getElem?_eq_some_iff.1 J;exact (h.dk n A).1
  ·rcases D with rfl|D
   ·exact hk.1 (T n _ J)
   ·cases D
 ·have I:=(List.getElem?_eq_some_iff.1 H).1;simp only[pc,List.length_map]at I;simp[pc,I]at H;subst H;exact⟨.slice none 0 0,by simp[List.getElem?_replicate,I],aA.nil _ _ _ _ _,λk hk=>by cases hk⟩
 ·by_cases e:own k=0
  ·exact e
  ·have:=N k e;omega
 ·intro e;rcases G k af with t|⟨i,-,y⟩
  ·have:=F k t;omega
  ·omega
theorem bu.ay5{W W1 H own O C y L}(h:bu H own O W yj)(T:∀k,own k≠3)(M:K W W1)(S:sy (λk=>k<W.heap.size∨C k) C y L W1)(G:∀k,C k->W.heap.size<=k/\k<W1.heap.size) :
 ∃t,bu { H with vn:=.pointer (some ⟨y,0,none⟩) } t { O with dX:=L } (W1.setCell ⟨H.gw,2,none⟩ (.pointer (some ⟨y,0,none⟩))) dJ/\∀k,k<W.heap.size->t k=own k:=by
 classical
 obtain⟨t,N⟩:∃t:Nat->Nat,t=λk=>if C k then 3 else own k:=⟨_,rfl⟩
 have Q:=h.lo
 have E:∀k,C k->t k=3:=λk hk=>by rw[N];exact if_pos hk
 have F:∀k,¬C k->t k=own k:=λk hk=>by rw[N];exact if_neg hk
 have A:∀k,k<W.heap.size->t k=own k:=λk hk=>F k λj=>by have:=G k j;omega
 have V:∀k,t k=3↔C k:=λk=>⟨λe=>by
  by_cases j:C k
  ·exact j
  ·rw[F k j]at e;exact absurd e (T k),E k⟩
 have I:∀k,t k≠0->k<W.heap.size∨C k:=λk e=>by
  by_cases j:C k
  ·exact .inr j
  ·rw[F k j]at e;exact .inl (Q k e)
 have u:ag (λk=>k=H.gw) W (W1.setCell ⟨H.gw,2,none⟩ (.pointer (some ⟨y,0,none⟩))):=(ag.aT M _).tr (ag.bL (X:=λk=>k=H.gw) rfl 2 _)
 have Z:(W1.setCell ⟨H.gw,2,none⟩ (.pointer (some ⟨y,0,none⟩))).heap.size=W1.heap.size:=Px
 have j:=h.eW (show yj 2 by unfold yj;omega)
 have J:=j.own.1
 have D:=j.blk.lt
 have B:bu H t O _ (λi=>4<=i):=h.to u (λk e=>by subst e;rw[J];decide) (λi Y=>Xp) A λk hk e=>by
  rcases I k e with h9|h9
  ·omega
  ·rw[E k h9];have:=G k h9;exact⟨af,ay⟩
 refine⟨t,⟨B.lo,B.fx,λ_=>⟨?_,j.map.aX u λe=>?_,j.out,j.cur.to u (λ_ _=>trivial) (λk hk e=>?_) λ_ _ _=>.inl trivial,j.got.to u (λ_ _=>trivial) (λk hk e=>?_) λ_ _ _=>.inl trivial,⟨(A _ D).trans J,(A _ j.map.lt).trans j.own.2.1,λk hk=>(A k (j.cur.blk k hk).2).trans (j.own.2.2.1 k hk),λk hk=>(A k (j.got.blk k hk).2).trans (j.own.2.2.2 k hk)⟩,j.len,j.kn⟩,λ_=>⟨y,rfl,?_⟩,λn x _ R=>B.brk n x af R,λc l _ U=>B.got c l af U⟩,A⟩
 ·simpa using (j.blk.below M D).aM 2 (.pointer (some ⟨y,0,none⟩))
 ·have hb:=j.blk;rw[<- e]at hb;exact j.map.cells hb
 ·obtain⟨_,_,_,hb⟩:=j.cur.own hk;exact absurd (hb.gM (e▸j.blk)) ay
 ·obtain⟨_,_,_,hb⟩:=j.got.own hk;exact absurd (hb.gM (e▸j.blk)) ay
 ·rw[show (λk=>t k=3)=C from funext λk=>propext (V k)];exact S.to (ag.bL (X:=λk=>k=H.gw) rfl 2 _) (λk e=>.inl (e▸D)) (λk hk e=>by have:=G k hk;omega) (λk _ e=>I k e) λk hk=>by rw[E k hk];decide
theorem ayl:(prog.info? 59).map (λi=>(i.zero,i.size,i.bytes))=some (some (.slice none 0 0),1,24):=by kernel_rfl
theorem TGG:fK prog 79 59 (.slice none 0 0) 1 24:=⟨underlying79,ayl,rfl,ay⟩
theorem aym:(prog.info? 84).map (λi=>(i.zero,i.size,i.bytes))=some (some (.pointer none),1,8):=by kernel_rfl
theorem TDk:fK prog 81 84 (.pointer none) 1 8:=⟨underlying81,aym,rfl,ay⟩
theorem aen{Y base e l v w}(h:aA Y base e cR l v w):aA (λ_=>True) base e cR l v w:=by obtain⟨css,u,j,t⟩:=h;have hcs:=Ou (t w (ag.rf _ _));exact⟨css,u,j,λw' _=>agB⟩
theorem aq0 par ai room v1 v2 w(y:aq cR par v1 w)(t:aq cR ai v2 w)(M:gQ par=true)(hh:pW par ai=true)(hr:iO (dF (cZ dw))<=room)(aW:room<=1048576) :
 Calls prog 10 #[v1,v2,.int .i64 room] w λe w'=>∃H own,e=.returned (.tuple #[.pointer (some ⟨H.gw,0,none⟩),.int .i64 0])/\bu H own (tO par ai room) w' dJ/\(∀k,k<w.heap.size->own k=0)/\K w w':=by
 have hpl:=(sD M).2
 have ZK:=Pg hh
 have C1:=ae (J9 par v1 w y af)
 have qR:yd par=0:=if_pos M
 rw[qR]at C1
 have H1:=ae y
 have H2:=ae t
 obtain⟨A1,c1,rfl⟩:=aw y
 obtain⟨A2,c2,rfl⟩:=aw t
 have HS:=ae (And.intro M (And.intro hh (And.intro hr aW)))
 have jL:=λW=>aem (T:=cR) Co ai.length af 0 rfl rfl (λ_=>rfl) af W
 have hm2:=λW=>aem (T:=xO) TGG ai.length af (.slice none 0 0) rfl rfl (λ_=>⟨rfl,rfl⟩) af W
 have HM1:=ae jL
 have HM2:=ae hm2
 have Th:=λW=>(jL W).1
 have Ti:=λW=>(hm2 W).1
 have kk:=K.rf w
 clear y t qR M hh hr jL hm2
 go_enter func10,ntmps10
 go_wp2_with fail
 apply oX C1.aa kk
 intro O k1 E1
 have Jp:=ae λW (k:K O W)=>bo H1.aa (E1.tr k)
 have ua:=ae λW (k:K O W)=>bo H2.aa (E1.tr k)
 clear C1
 go_wp2_with fail
 have qs:=And.intro Th Ti
 refine abc 11 [1,3,4,7,10] [([],[]),([0],[(21,0)]),([],[]),([2],[(23,2)]),([],[]),([],[]),([5],[(26,5)]),([6],[(27,6)]),([],[]),([8],[(29,8)]),([9],[(30,9)]),([1,3,4,7,10],[(22,1),(24,3),(25,4),(28,7),(31,10)]),([11],[(32,11)]),([0,1,2,3,4,5,6,7,8,9,10,11,12],[(33,12)])] 82 ?_
 refine au.i ?_
 refine au.ints O.heap.size par Co af (λ_ k=>k.size) (λV W kW hp=>?_) ?_
 ·exact agC
 refine au.i ?_
 refine au.ints O.heap.size ai Co af (λ_ k=>k.size) (λV W kW hp=>?_) ?_
 ·exact agD
 refine au.op (λv W=>∃b,v=.map (some b)/\O.heap.size<=b/\ei encI W b []) (λ_ _ _ ⟨b,e,y,t⟩ k=>⟨b,e,y,t.st k⟩) (λV W kW hp=>?_) ?_
 ·simp[bP,execOp,aF,Ka underlying78,cN];exact VU
 iterate 2 refine au.i ?_
 refine au.op (λv W=>(∃b,v=.slice (some ⟨b,0,none⟩) ai.length ai.length)/\aA (λ_=>True) O.heap.size 3 cR (List.replicate ai.length 0) v W) (λ_ _ _ ⟨e,t⟩ k=>⟨e,t.st k⟩) (λV W kW hp=>?_) ?_
 ·simp only[cd,aO,aQ,bW,bY,aJ]at hp;simp[bP,aE,List.lookup,hp,execOp,aF,Th,cN,go_sem];exact⟨(HM1.aa W).2.low kW.size,(K.rf W).al _⟩
 iterate 2 refine au.i ?_
 refine au.op (λv W=>(∃b,v=.slice (some ⟨b,0,none⟩) ai.length ai.length)/\aA (λ_=>True) O.heap.size 59 xO (List.replicate ai.length (.slice none 0 0)) v W) (λ_ _ _ ⟨e,t⟩ k=>⟨e,t.st k⟩) (λV W kW hp=>?_) ?_
 ·simp only[cd,aO,aQ,bW,bY,aJ]at hp;simp[bP,aE,List.lookup,hp,execOp,aF,Ti,cN,go_sem];exact⟨(HM2.aa W).2.low kW.size,(K.rf W).al _⟩
 clear qs
 refine⟨λk hk=>?_,λV W kW hne hA=>?_⟩
 ·simp at hk;rcases hk with rfl|rfl|rfl|rfl|rfl
  ·refine⟨_,_,rfl,rfl,rfl,λV W kW hp=>?_⟩;simp only[cd,aO,aQ,bW,bY,aJ]at hp;obtain⟨v,w',y,t,-⟩:=UL par Co (ty:=23) (s:=.const (.slice none 0 0)) (u:=.tmp 21) (ρ:=aE [(21,0)] _ V) (w:=W) af rfl aiN;exact⟨v,w',y,t⟩
  ·refine⟨_,_,rfl,rfl,rfl,λV W kW hp=>?_⟩;simp only[cd,aO,aQ,bW,bY,aJ]at hp;obtain⟨v,w',y,t,-⟩:=UL ai Co (ty:=23) (s:=.const (.slice none 0 0)) (u:=.tmp 23) (ρ:=aE [(23,2)] _ V) (w:=W) af rfl aiO;exact⟨v,w',y,t⟩
  ·exact VV
  ·refine⟨_,_,rfl,rfl,rfl,λV W kW hp=>⟨.slice (some ⟨W.heap.size,0,none⟩) ai.length ai.length,W.alloc (.cells (madeCells #[.int .i64 0] ai.length) 3),?_,λb hb=>?_⟩⟩
   ·simp only[cd,aO,aQ,bW,bY,aJ]at hp;simp[aE,List.lookup,hp,execOp,aF,Th,go_sem]
   ·injection hb with hb;subst hb;simp
  ·refine⟨_,_,rfl,rfl,rfl,λV W kW hp=>⟨.slice (some ⟨W.heap.size,0,none⟩) ai.length ai.length,W.alloc (.cells (madeCells #[.slice none 0 0] ai.length) 59),?_,λb hb=>?_⟩⟩
   ·simp only[cd,aO,aQ,bW,bY,aJ]at hp;simp[aE,List.lookup,hp,execOp,aF,Ti,go_sem]
   ·injection hb with hb;subst hb;simp
 simp only[aO,aQ,cz,aJ,Nat.reduceAdd]at hA
 obtain⟨e0,dM,e2,bE,⟨b4,e4,ir,vR⟩,e5,e6,⟨⟨b7,e7⟩,jC⟩,e8,e9,⟨⟨b10,fD⟩,mZ⟩,-⟩:=hA
 obtain⟨A5,c5,R⟩:=dM.slice
 obtain⟨A6,c6,Y⟩:=bE.slice
 rw[R]at dM
 rw[Y]at bE
 rw[e7]at jC
 rw[fD]at mZ
 have hap:∀b,some b7=some b->(Value.slice A5 par.length c5).ownBlock≠some b/\(Value.slice A6 ai.length c6).ownBlock≠some b:=λb hb=>by
  injection hb with hb;subst hb;constructor
  ·intro e;exact hne 7 aj 1 aj ay rfl rfl b7 VW (by rw[R];exact e)
  ·intro e;exact hne 7 aj 3 aj ay rfl rfl b7 VW (by rw[Y];exact e)
 apply aH.pure
 rfl
 simp[aE,List.lookup,ba,R,Y,e4,e7,fD,execOp,aF,go_sem]
 rfl
 refine aH.val (.pointer (some ⟨W.heap.size,0,none⟩)) (W.alloc (.cells #[.slice A5 par.length c5,.slice A6 ai.length c6,.pointer none,.slice none 0 0,.map (some b4),.slice (some ⟨b7,0,none⟩) ai.length ai.length,.slice (some ⟨b10,0,none⟩) ai.length ai.length] 83)) rfl agE ?_
 apply aH.pure
 rfl
 simp[aE,List.lookup,ba,execOp,aF,go_sem]
 rfl
 refine aH.nil ?_
 simp only[fX,Act.put,rJ,qM,qL,Nat.reduceAdd,ba,e0,R,e2,Y,e4,e5,e6,e7,e8,e9,fD]
 have hbk:=ah.new W 83 #[.slice A5 par.length c5,.slice A6 ai.length c6,.pointer none,.slice none 0 0,.map (some b4),.slice (some ⟨b7,0,none⟩) ai.length ai.length,.slice (some ⟨b10,0,none⟩) ai.length ai.length]
 have Z:=hbk.aS
 generalize hWa:W.alloc _=Wa at *
 generalize D:W.heap.size=gw at *
 generalize hvp:Value.slice A5 par.length c5=vp at *
 generalize hvh:Value.slice A6 ai.length c6=vh at *
 generalize kQ:Value.slice (some ⟨b7,0,none⟩) ai.length ai.length=vc at *
 generalize wi:Value.slice (some ⟨b10,0,none⟩) ai.length ai.length=vg at *
 have hz1:=E1.size
 have Cx:=kW.size
 have J:Hid (Ef w par ai room gw b4 vp vh vc vg [] (.slice none 0 0) Wa):=ae ⟨hbk,vR.st Z,((aen dM).st Z).low hz1,((aen bE).st Z).low hz1,(jC.st Z).low hz1,(mZ.st Z).low hz1,aA.nil _ _ _ _ _,by rw[<- kQ];exact hap,λi hi=>KJ,List.nodup_nil,⟨af,af⟩,(E1.tr kW).tr Z⟩
 clear hbk Z vR dM bE jC mZ hap e0 R e2 Y e4 e5 e6 e7 e8 e9 fD ir hne Th Ti
 clear k1 E1 kW kk hz1 Cx
 go_wp2_with fail
 clear D hWa hvp hvh kQ wi
 go_loopw [36] (fun i W=>∃j:Nat,j<=par.length/\i=.int .i64 j/\Hid (∃ds vd,Ef w par ai room gw b4 vp vh vc vg ds vd W/\ds.length=j)) (fun i _=>par.length-(intOf i).toNat)
 case atStart=>exact⟨0,eV _,rfl,ae ⟨_,_,J.aa,rfl⟩⟩
 case round =>
  clear J;obtain⟨j,hj,rfl,F⟩:=hrel;by_cases hlt:j<par.length
  ·have aP:(j:Int)<par.length:=af;obtain⟨ds,vd,G,U⟩:=F.aa;have HD:=ae U;have J:=ae G;clear F U G;go_wp2_with fail
   refine (agj room wr aW).mono ?_;rintro e w2⟨rfl,hDk,k2⟩;have q:=(J.aa.blk.av k2).cell;have HDk:=ae hDk;generalize hgd:wr.heap.size=gd at *;have kA:=K.new w2 (.cells #[.pointer (some ⟨gd,0,none⟩)] 84);have B:=(J.aa.d.st k2).st kA;have kW:=(J.aa.k.tr k2).tr kA;have hz2:=kW.size;have hrw:=ew.new (S:=xO) (e:=84) (N:=λk=>True∨vd.ownBlock=some k) (v:=.pointer (some ⟨gd,0,none⟩)) (x:=.pointer (some ⟨gd,0,none⟩)) (w:=w2) (λW u=>⟨rfl,rfl⟩) 0 (eV _);have HG:=ae (And.intro hgd (k2.tr kA));have U:(ds.map λg=>Value.pointer (some ⟨g,0,none⟩)).length<16:=by rw[List.length_map,HD.aa];omega
   clear hDk hgd k2 kA;go_wp2_with (at_builtin;refine jt rfl _ _ 81 rfl _ 1 8 TDk rfl rfl B _ rfl (.pointer (some ⟨gd,0,none⟩)) ?p1 ?p2 ?p3 ?_)
   case p1=>exact hrw
   case p2=>omega
   case p3=>exact hz2
   intro v9 w9 bq bB cQ aZ;obtain⟨YL,hN9⟩:ah w9 gw 83 #[vp,vh,.pointer none,vd,.map (some b4),vc,vg]/\Ef w par ai room gw b4 vp vh vc vg (ds++[gd]) v9 (w9.setCell ⟨gw,3,none⟩ v9):=by obtain⟨rfl,kg⟩:=HG.aa;exact J.aa.push kg (HDk.aa.st ((K.rf w2).al _)) bq bB
   have HN9:=ae (And.intro hN9 (show (ds++[gd]).length=j+1 by rw[cF,HD.aa];rfl));obtain⟨A9,n9,c9,e9⟩:∃A n c,v9=.slice A n c:=by obtain⟨A,c,e⟩:=bq.slice;exact⟨_,_,_,e⟩
   subst e9;clear q B kW hz2 hrw U bq bB cQ aZ hN9 HDk J HG HD;have q:=YL.cell;have z:=YL.frozen;clear YL;go_wp2;go_roundw
   case rel=>exact⟨j+1,af,bJ,ae ⟨_,_,HN9.aa.1,HN9.aa.2⟩⟩
   case measure=>simp[intOf];omega
  ·have aP:¬(j:Int)<par.length:=af;have he:j=par.length:=af;obtain⟨ds,vd,G,U⟩:=F.aa;obtain⟨own,ho⟩:=G.ov (U.trans he);have HO:=ae (And.intro ho G.k);clear F G U ho he;go_wp2_with fail
   go_loopw [59] (fun i W=>∃j:Nat,j<=par.length/\i=.int .i64 j/\Hid (∃H own,bu H own (pc par ai room j) W yj/\H.gw=gw/\(∀k,k<w.heap.size->own k=0)/\(∀k,own k≠3)/\K w W)) (fun i _=>par.length-(intOf i).toNat)
   case atStart=>exact⟨0,eV _,rfl,ae ⟨_,_,HO.aa.1.1,rfl,HO.aa.1.2.1,HO.aa.1.2.2,HO.aa.2⟩⟩
   case round =>
    clear HO;obtain⟨j,hj,rfl,F⟩:=hrel;by_cases hlt:j<par.length
    ·have aP:(j:Int)<par.length:=af;obtain⟨H,own,B,D,I,Q,E⟩:=F.aa;obtain⟨M,hh,hr,aW⟩:=HS.aa;have C:=abO B Xp (λn=>Xp) (av0 room j M hh) (aiM hlt) (ic.new aW) ay;rw[aue hlt hr aW,D]at C;have HC:=ae C;have L:=ae (And.intro I (And.intro Q E));clear F B D I Q E M hh hr C;go_wp2_with fail
     refine HC.aa.mono ?_;rintro e w3⟨rfl,H',bN,y,t,h3,h4,h5⟩;have HE:=ae (show ∃H own,bu H own (pc par ai room (j+1)) w3 yj/\H.gw=gw/\(∀k,k<w.heap.size->own k=0)/\(∀k,own k≠3)/\K w w3 from ⟨H',bN,y,t,λk hk=>by
      obtain⟨a,b,c⟩:=L.aa;have:=c.size;rw[h4 k af];exact a k hk,λk hk=>L.aa.2.1 k (h5 k hk),h3.k L.aa.2.2 λk hk=>by
      obtain⟨a,b,c⟩:=L.aa;by_cases h9:k<w.heap.size
      ·have:=a k h9;omega
      ·omega⟩)
     clear HC L y t h3 h4 h5;go_wp2;go_roundw
     case rel=>exact⟨j+1,af,bJ,HE⟩
     case measure=>simp[intOf];omega
    ·have aP:¬(j:Int)<par.length:=af;have he:j=par.length:=af;obtain⟨H,own,B,D,I,Q,E⟩:=F.aa;rw[he]at B;have C:=asq par (.slice A1 par.length c1) wr (bo H1.aa E) HS.aa.1;have hb:=(B.eW (show yj 2 by unfold yj;omega)).blk;rw[D]at hb;have HC:=ae C;have L:=ae (And.intro B (And.intro D (And.intro I (And.intro Q E))));have HB:=ae hb;have HEQ:=ae (avZ par ai room);clear F B D I Q E C he hb;go_wp2_with fail
     refine HC.aa.mono ?_;rintro e w4⟨x,rfl,⟨gn,rfl,C,G,hC⟩,k4⟩;have hb4:=HB.aa.av k4;have q:=hb4.cell;have z:=hb4.frozen;have HF:Hid (∃H own,H.gw=gw/\bu H own (tO par ai room) (w4.setCell ⟨gw,2,none⟩ (.pointer (some ⟨gn,0,none⟩))) dJ/\(∀k,k<w.heap.size->own k=0)/\K w (w4.setCell ⟨gw,2,none⟩ (.pointer (some ⟨gn,0,none⟩)))):=ae (by
      obtain⟨B,D,I,Q,E⟩:=L.aa;obtain⟨bN,y,t⟩:=B.ay5 Q k4 G hC;have hz:=E.size;refine⟨_,bN,?_,by rw[<- HEQ.aa,<- D];exact y,λk hk=>(t k af).trans (I k hk),(ag.bL (X:=λk=>k=gw) rfl 2 _).k (E.tr k4) λk e=>?_⟩
      ·exact D
      ·by_cases h9:k<w.heap.size
       ·have ph:=I k h9;have vM:=(B.eW (show yj 2 by unfold yj;omega)).own.1;rw[D,<- e]at vM;omega
       ·omega)
     clear HC L HB HEQ G hC k4 hb4;go_wp2;go_ret2;obtain⟨H,own,R,e2,Y,e4⟩:=HF.aa;exact⟨H,own,by rw[R];rfl,e2,Y,e4⟩
