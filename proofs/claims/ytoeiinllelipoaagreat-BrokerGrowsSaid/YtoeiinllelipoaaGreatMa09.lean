/-
  The walk of fold.copied (layer 16): a state in memory of its own. Conditions: lists of at most a million.
-/
import Derived.Test.YtoeiinllelipoaaGreatMa08
import Derived.Test.YtoeiinllelipoaaGreatMz
set_option maxRecDepth 100000
set_option maxHeartbeats 16000000
set_option linter.unusedVariables false
set_option linter.unusedSimpArgs false
namespace Go.Proofs.YtoeiinllelipoaaGreat
open Go Go.RowKit Tryz
theorem ah.k{X:Nat->Prop}{a w w':World}(u:ah X w w')(h:K a w)(s:∀k,X k->a.heap.size<=k):K a w' :=
 ⟨u.os.trans h.os,u.tape.trans h.tape,u.output.trans h.output,bq h.size u.size,λi j=>(u.block i (bB j h.size) (λe=>by have:=s i e;omega)).trans (h.block i j)⟩
theorem acF{l:List av}{A:Option Addr}{w:World}(h:wL bI l A w):Reads w w.heap.size 3 A l.length (l.flatMap dL):=by
 obtain⟨css,j,s⟩:=h;have:css=l.map dL:=by
  refine List.ext_getElem (by simpa using j.1) λi t h2=>?_
  rw[List.getElem_map];exact j.2 i qN t
 rw[this,Uq]at s;exact s
theorem Pb(l:List av):∀u∈l.flatMap dL,u.oneCell'=true:=by intro u i;obtain⟨a,-,h⟩:=List.mem_flatMap.1 i;simp at h;rcases h with rfl|rfl|rfl <;> rfl
structure pw(base:Nat)(s:bA)(vl vp va:Value)(c1 c2:List (List Value))(W:World):Prop where
 l:W.ownsRow base 102 8 vl s.list.length c1.flatten
 p:W.ownsRow base 102 8 vp s.prom.length c2.flatten
 a:W.ownsRow base 46 3 va s.ab.length (s.ab.flatMap dL)
 ne:∀b,vl.ownBlock=some b->vp.ownBlock≠some b
 zj:c1.length=s.list.length
 zk:c2.length=s.prom.length
 el:∀W',ah (λk=>k<base∨vl.ownBlock=some k∨vp.ownBlock=some k∨va.ownBlock=some k) W W'->Each aQ s.list c1 W'/\Each aQ s.prom c2 W'
theorem gT.r{base g:Nat}{s:bA}{vl vp va:Value}{c1 c2:List (List Value)}{W:World}(h:gT base g s vl vp va c1 c2 W):pw base s vl vp va c1 c2 W :=
 ⟨h.l,h.p,h.a,h.ne,h.zj,h.zk,λi u=>h.el i (u.more λk e=>by
  rcases e with e|e|e|e
  ·exact .inl e
  ·exact .inr (.inr (.inl e))
  ·exact Vv
  ·exact .inr (.inr (.inr (.inr e))))⟩
theorem pw.low{base:Nat}{s:bA}{vl vp va:Value}{c1 c2:List (List Value)}{W i:World}(h:pw base s vl vp va c1 c2 W)(u:ah (λk=>k<base) W i):pw base s vl vp va c1 c2 i:=by
 have t:=λb e=>(h.l.lt b e).1
 have B:=λb e=>(h.p.lt b e).1
 have y:=λb e=>(h.a.lt b e).1
 exact⟨eE h.l u λb e=>by have:=t b e;omega,eE h.p u λb e=>by have:=B b e;omega,eE h.a u λb e=>by have:=y b e;omega,h.ne,h.zj,h.zk,λA j=>h.el A ((u.more λk e=>.inl e).tr j)⟩
theorem pw.v{base:Nat}{s:bA}{vl vp va:Value}{c1 c2:List (List Value)}{W:World}(h:pw base s vl vp va c1 c2 W)(hb:base<=W.heap.size) :
 gT base W.heap.size s vl vp va c1 c2 (W.alloc (.cells (bS s vl vp va) 52)):=by
 have k:K W (W.alloc (.cells (bS s vl vp va) 52)):=(K.rf W).al _
 refine⟨ai.new _ _ _,hb,fZ h.l k,fZ h.p k,fZ h.a k,h.ne,h.zj,h.zk,λy j=>h.el y ⟨j.os.trans k.os,j.tape.trans k.tape,j.output.trans k.output,bq k.size j.size,λi u t=>(j.block i (bB u k.size) λe=>?_).trans (k.block i u)⟩⟩
 rcases e with e|e|e
 ·exact t (.inl e)
 ·omega
 ·exact t (.inr e)
abbrev jG:Array Value:=#[.int .u64 0,.slice none 0 0,.slice none 0 0,.slice none 0 0]
theorem gT.empty{base g n:Nat}{l:List av}{va:Value}{W:World}(hb:ai W g 52 (bS ⟨n,[],[],l⟩ (.slice none 0 0) (.slice none 0 0) va))(hg:base<=g)(i:W.ownsRow base 46 3 va l.length (l.flatMap dL)) :
 gT base g ⟨n,[],[],l⟩ (.slice none 0 0) (.slice none 0 0) va [] [] W :=
 ⟨hb,hg,iF _ _ _ _,iF _ _ _ _,i,λb h=>Dw,rfl,rfl,λ_ _=>⟨Each.nil _ _,Each.nil _ _⟩⟩
def X7(base:Nat)(v:Value)(W:World):Prop:=∃b,v=.pointer (some ⟨b,0,none⟩)/\base<=b/\ai W b 52 jG
theorem afA(base:Nat):∀v w w',X7 base v w->Below w.heap.size w w'->X7 base v w':=by exact afB
def FM(base:Nat)(l:List av)(v:Value)(W:World):Prop:=W.ownsRow base 46 3 v l.length (l.flatMap dL)
theorem afC(base:Nat)(l:List av):∀v w w',FM base l v w->Below w.heap.size w w'->FM base l v w':=λ_ _ _ h k=>fZ h k
def X8(base n:Nat)(l:List av)(v:Value)(W:World):Prop:=∃va,v=.agg #[.int .u64 (n:Int),.slice none 0 0,.slice none 0 0,va]/\FM base l va W
theorem avT(base n:Nat)(l:List av):∀v w w',X8 base n l v w->Below w.heap.size w w'->X8 base n l v w':=by rintro v w w'⟨va,e,h⟩ k;exact⟨va,e,afC _ _ _ _ _ h k⟩
theorem abU{base:Nat}{l:List av}{v:Value}{W:World}(h:FM base l v W):∃A c,v=.slice A l.length c:=by
 rcases h.2 with ⟨h,i⟩|⟨g,cap,j,h,_⟩
 ·exact⟨_,_,by rw[h,i]⟩
 ·exact⟨_,_,h⟩
theorem gT.slices{base g:Nat}{s:bA}{vl vp va:Value}{c1 c2:List (List Value)}{W:World}(h:gT base g s vl vp va c1 c2 W):(∃A c,vl=.slice A s.list.length c)/\(∃A c,vp=.slice A s.prom.length c)/\∃A c,va=.slice A s.ab.length c:=by obtain⟨i,t,j,e,h1,h2,h3⟩:=h.jr;exact VD
theorem apS{P:Program}{ρ:Operand->Value}{w:World}(s x:Operand)(T ty t:TypeId)(g o:Nat)(j cells:Array Value)(hs:ρ s=.pointer (some ⟨g,o,none⟩))(hx:ρ x=.agg cells)(hb:ai w g t j)
 (hi:(P.info? T).map (·.size)=some cells.size) (hl:o+cells.size<=j.size) (y:∀u∈cells.toList,u.oneCell'=true) :
 ∃w',(execOp ρ (ay (.store T s x) ty)).run P w=.ok .skip w'/\ai w' g t (j.toList.take o++cells.toList++j.toList.drop (o+cells.size)).toArray/\w.grownBy w' (some g):=by
 have hst:=run_storeCells_at P g o t cells.toList 0 j w hb Iy y
 simp only[Nat.add_zero,Array.length_toList]at hst
 refine⟨_,?_,setRow_heap w g j _ t _ hb,⟨rfl,rfl,rfl,aj,λk hk A=>setRow_other w g k _ (λe=>A Fb)⟩⟩
 cases hq:P.info? T with
 | none=>simp[hq]at hi
 | some i => exact VE
theorem apa(s:bA)(v:Value)(w:World)(h:jr s v w)(gY:∀x∈s.list,eD x)(hsp:∀x∈s.prom,eD x)(hz:s.list.length<=900000/\s.prom.length<=900000/\s.ab.length<=900000) :
 Calls prog 230 #[v] w λe w'=>∃B vl vp va c1 c2,e=.returned (.agg (bS s vl vp va))/\w.heap.size<=B/\B<=w'.heap.size/\pw B s vl vp va c1 c2 w'/\K w w':=by
 obtain⟨vl,vp,va,rfl,hl,hp,ha⟩:=h
 obtain⟨Al,cl,rfl,hl,-⟩:=hl
 obtain⟨Ap,cp,rfl,hp,-⟩:=hp
 obtain⟨Z,Y,rfl,ha,-⟩:=ha
 have dC:=(ai.new w 52 (bS s (.slice Al s.list.length cl) (.slice Ap s.prom.length cp) (.slice Z s.ab.length Y))).alloc (.cells jG 52)
 have U:=ai.new (w.alloc (.cells (bS s (.slice Al s.list.length cl) (.slice Ap s.prom.length cp) (.slice Z s.ab.length Y)) 52)) 52 jG
 have N:K w ((w.alloc (.cells (bS s (.slice Al s.list.length cl) (.slice Ap s.prom.length cp) (.slice Z s.ab.length Y)) 52)).alloc (.cells jG 52)):=((K.rf w).al _).al _
 rw[World.size_alloc]at U
 have gY:=ae gY
 have hsp:=ae hsp
 have HA:=ae (acF ha)
 have HL:=ae hl
 have HP:=ae hp
 clear ha hl hp
 go_enter func230,ntmps230
 go_upto_region 1 with (fail)
 generalize World.alloc (World.alloc w _) _=w0 at *
 generalize im:w.heap.size=E at dC U⊢
 obtain⟨base,hbase⟩:∃b,b=w0.heap.size:=⟨_,rfl⟩
 have aDd:E+1<base:=by rw[hbase];exact U.lt
 obtain⟨C,hC⟩:∃C:World->Prop,C=λW=>K w0 W:=⟨_,rfl⟩
 have hg:∀W W',C W->Below W.heap.size W W'->C W':=by subst hC;intro W W' h hb;exact h.tr hb
 have hc0:C w0:=by rw[hC];exact K.rf _
 obtain⟨F,hF⟩:∃F:(Nat->Bool)->(Nat->Value)->World->Prop,F=λ_ V W=>K w0 W/\∃g va,V 6=.pointer (some ⟨g,0,none⟩)/\gT base g ⟨s.life,[],[],s.ab⟩ (.slice none 0 0) (.slice none 0 0) va [] [] W:=⟨_,rfl⟩
 refine aaO 4 7 [0,1,2,3,4,5,6] [] C (λ_=>True) (λ_=>True) (λW W'=>K W W') F [ag (.pointer (some ⟨E,0,none⟩)),
  ag (.int .u64 (s.life:Int)),
  ag (.pointer (some ⟨E,3,none⟩)),
  ag (.slice Z s.ab.length Y),
  FM base s.ab,
  X8 base s.life s.ab,
  X7 base,
  xK]
  [([],[]),([0],[(8,0)]),([],[]),([2],[(10,2)]),([3],[(11,3)]),([1,4],[(9,1),(12,4)]),([],[]),([6,5],[(3,6),(13,5)])] 45 rfl ak ak ak au au au ak ak hg (λ_ _ h _=>h) (λ_ _ h _=>h) tS trivial ?st1 ?ayL ?Gg ?_
 case st1 =>
  simp only[aI]
  and_intros
  all_goals first|exact jN _|exact mz|exact afC _ _|exact avT _ _ _|exact afA _|simp
 case ayL =>
  simp only[List.zipIdx_cons,List.zipIdx_nil,aI,fP,Nat.reduceAdd]
  and_intros
  all_goals first|exact .inl rfl|exact .inr (λ_ _ _ h _=>h)|exact .inr (afA _)|simp
 case Gg =>
  simp only[Fv,nZ,List.contains_cons,List.contains_nil,Nat.reduceBEq,Bool.or_false,Bool.or_true,Bool.false_eq_true,if_true,if_false,Nat.reduceEqDiff,Nat.reduceAdd,and_true,true_and]
  and_intros
  all_goals try trivial
  all_goals
   first
   | (intro V w' hc hp
      rw[hC]at hc
      have q:=(dC.below hc dC.lt).cell
      try simp only[aI,aE,aF,ag]at hp
      try (simp[aL,aw,List.lookup,hp,aE,aF,aS,execOp,ay,ag,undef,aN,q,go_sem];done))
   | skip
  ·intro hp2;simp only[aI,aE,aF,ag]at hp2;obtain⟨h3,-⟩:=hp2;have ng:=HA.aa.below (N.tr hc) (aG _);obtain⟨v',O,hrun,h2,G,-,-⟩:=Bb (P:=prog) w' base 32 32 46 _ 3 24 uJ (.slice none 0 0) 0 [] (iF _ _ _ _) _ Z s.ab.length Y _ ng (Pb _) af afD;have k':K w' O:=⟨G.os,G.tape,G.output,G.size,λi hi=>G.block i hi afE⟩;generalize hA:aw [(11,3)] _ V=A;have ex:A (.tmp 11)=.slice Z s.ab.length Y:=by rw[<- hA];exact h3
   have en:A (.const (.slice none 0 0))=.slice none 0 0:=Fc;have dQ:(execOp A (ay (.call { callee:=.builtin .append,args:=#[.const (.slice none 0 0),.tmp 11],argTypes:=#[32,32] }) 32)).run prog w'=.ok (.value v') O:=by simp only[execOp,ay,resolve,invoke,builtin,Sem.run_bind,Sem.run_pure,Result.andThen_ok,List.map_toArray,j9,List.map_nil,ex,en,hrun]
   rw[dQ];exact⟨show FM base s.ab v' O by simpa [FM]using h2,by rw[hC];exact hc.tr k',trivial,k'⟩
  ·obtain⟨h1,G,-⟩:=hp;obtain⟨A4,c4,e4⟩:=abU G;simp[h1,e4,aL,aw,List.lookup,aE,aF,aS,execOp,ay,undef,aN,go_sem];exact⟨_,rfl,by rw[<- e4];exact G⟩
  ·simp[aL,aE,aF,aS,execOp,ay,go_sem];exact⟨⟨w'.heap.size,rfl,afD,ai.new _ _ _⟩,(K.rf w').al _⟩
  ·intro L V w' hal hc _ hp;have f5:=hp 5 (hal 5 aj);have f6:=hp 6 (hal 6 aj);simp only[aE,aF]at f5 f6;obtain⟨va9,e5,fq⟩:=f5;obtain⟨b,e6,lM,hblk⟩:=f6;rw[hC]at hc;obtain⟨A9,c9,rfl⟩:=abU fq;generalize hA:aw [(3,6),(13,5)] _ V=A;have es:A (.tmp 3)=.pointer (some ⟨b,0,none⟩):=by rw[<- hA];exact e6
   have ex:A (.tmp 13)=.agg #[.int .u64 (s.life:Int),.slice none 0 0,.slice none 0 0,.slice A9 s.ab.length c9]:=by rw[<- hA];exact e5
   obtain⟨O,hrun,hb2,cQ⟩:=apS (P:=prog) (ρ:=A) (.tmp 3) (.tmp 13) 52 0 52 b 0 jG _ es ex hblk ak aj afF;rw[hrun];have u9:ah (λk=>k=b) w' O:=ah.fM cQ (λk e=>KV);show F _ _ O;rw[hF];exact⟨u9.k hc (λk e=>by rw[e,<- hbase];exact lM),b,_,by simp[bj,e6],gT.empty hb2 lM (eE fq u9 λb' e e'=>by obtain⟨cur,h1⟩:=gg fq e;rw[e']at h1;exact absurd (h1.ja hblk) (by decide))⟩
 intro V W mJ
 rw[hF]at mJ
 obtain⟨kk,g,va0,e6,hS0⟩:=mJ
 have Gi:=ae (show sD base g ⟨s.life,[],[],s.ab⟩ W from ⟨_,_,_,_,_,hS0⟩)
 simp only[bF,Act.put,cO,cM,cL,e6]
 clear hF hC hg hc0 e6
 have qp1:=dC.cells
 go_wp2_with fail
 go_loopw [5,17] (fun _ i W=>∃j:Nat,j<=s.list.length/\i=.int .i64 (j:Int)/\Hid (sD base g ⟨s.life,s.list.take j,[],s.ab⟩ W)/\K w0 W) (fun _ i _=>s.list.length-(intOf i).toNat)
 case atStart=>exact⟨0,af,rfl,ae afG,kk⟩
 case round =>
  clear kk Gi;obtain⟨j,hj,rfl,D,kr⟩:=hrel;by_cases hlt:j<s.list.length
  ·have ba:(j:Int)<(s.list.length:Int):=af;obtain⟨b1,off,cs,rfl,hcl,hrl,T,d⟩:=dM HL.aa j hlt au;have HT:Hid (s.list.take (j+1)=s.list.take j++[s.list[j]]):=ae Fe;have hxs:=gY.aa _ (bW hlt);generalize s.list[j]=x at *;obtain⟨vf,ve,rfl,hf,he⟩:=hrl w (K.rf w);have oy:Hid (∀W,K w W->cR x (.agg (aA x vf ve)) W):=ae λW k=>by exact KW
   have pG:=N.tr kr;have T:wr.cell? ⟨b1,off+j*8,none⟩=some (.int .i64 x.kind):=T wr pG;have d:∀i,i<8->wr.cell? ⟨b1,off+j*8+i,none⟩=(aA x vf ve)[i]?:=λi hi=>(d wr pG i hi).trans Array.getElem?_toList
   obtain⟨I,J,rfl⟩:=cB hf;obtain⟨H,M,rfl⟩:=az he;have nM:=ai.new wr 102 (aA x (.slice I x.f.length J) (.slice H x.es.length M));have R:K wr (wr.alloc (.cells (aA x (.slice I x.f.length J) (.slice H x.es.length M)) 102)):=(K.rf wr).al _;clear hrl hcl hf he;go_upto_region 5 with (fail);clear d T;obtain⟨y,hsj⟩:∃y:bA,y=⟨s.life,s.list.take j,[],s.ab⟩:=⟨_,rfl⟩;rw[<- hsj]at D;obtain⟨vl,vp,va,c1,c2,Q⟩:=D.aa;have hne:vl.ownBlock≠some wr.heap.size:=λe=>by have:=(Q.oO e).2.1;omega
   have HS:=ae (Q.st R);generalize wr.alloc _=t at *;generalize wr.heap.size=ge at nM hne⊢;replace kr:=kr.tr R;have wT:=N.tr kr;have ayM:y.list.length<=900000/\y.prom.length<=900000:=by rw[hsj];simp;omega
   have Gf:base<=t.heap.size:=by rw[hbase];exact kr.size
   have Mz:Hid (∀W',ah (λk=>vl.ownBlock=some k) t W'->cR x (.agg (aA x (.slice I x.f.length J) (.slice H x.es.length M))) W'):=ae λW' u=>oy.aa W' (u.k wT (λk e=>by have:=(HS.aa.oO e).1;have:=N.size;omega))
   clear Q D oy R;obtain⟨C,hC⟩:∃C:World->Prop,C=λW=>aH 0 vl.ownBlock t W:=⟨_,rfl⟩
   have hg:∀W W',C W->Below W.heap.size W W'->C W':=by exact KQ
   have hc0:C t:=KR;obtain⟨F,hF⟩:∃F:World->Prop,F=λW=>sD base g ⟨y.life,y.list++[x],y.prom,y.ab⟩ W/\Below base t W/\ah (λk=>vl.ownBlock=some k∨k=g) t W:=⟨_,rfl⟩
   have hrow:∀b,vl.ownBlock=some b->b<t.heap.size:=λb hb=>(HS.aa.oO hb).2.1
   refine Hr 5 7 C (λW=>W.ownsRow base 102 8 vl y.list.length c1.flatten) (λ_=>True) (λW W'=>W.grownBy W' vl.ownBlock) F [ag (.pointer (some ⟨g,1,none⟩)),
    ag (vl),
    ag (.agg (aA x (.slice I x.f.length J) (.slice H x.es.length M))),
    zM aQ t.heap.size x,
    zi aQ t.heap.size 102 x,
    wu aQ base t.heap.size 102 vl.ownBlock y.list.length c1.flatten x,
    ag (.pointer (some ⟨g,1,none⟩)),
    xK]
    [([],[]),([0],[(21,0)]),([],[]),([2],[(23,2)]),([3],[(24,3)]),([1,4],[(22,1),(25,4)]),([],[]),([6,5],[(27,6),(26,5)])] 45 rfl ak ak ak au au au ak hg (λW W' h k=>fZ h k) (λ_ _ h _=>h) tS (fZ HS.aa.l (Below.drew (aN _ _))) ?st5 ?ayN ?ow5 ?_
   case st5 =>
    simp only[aI]
    and_intros
    all_goals first|exact jN _|exact mz|exact Lj _ _|exact KM _ _ _|exact KO _ _ _ _ _ _ _|simp
   case ayN =>
    simp only[List.zipIdx_cons,List.zipIdx_nil,aI,fP,Nat.reduceAdd]
    and_intros
    all_goals first|exact .inl rfl|exact .inr (λ_ _ _ h _=>h)|exact .inr (KL hrow)|exact .inr (Ke hrow)|simp
   case ow5 =>
    simp only[xE,nZ]
    and_intros
    all_goals try trivial
    all_goals
     simp only[Nat.reduceEqDiff,if_false,Nat.reduceAdd]
    all_goals
     first
     | (intro V w' hc hD hp
        simp only[aI,aE,aF,ag]at hp
        rw[hC]at hc)
     | (intro V w' hc hp
        rw[hC]at hc
        have qg:=(HS.aa.blk.iK hc (λe=>(HS.aa.oO e).2.2.1 rfl)).cell
        have qe:=(nM.iK hc (λe=>hne e)).cell
        try simp only[aI,aE,aF,ag]at hp
        try (simp[aL,aw,List.lookup,hp,aE,aF,aS,execOp,ay,ag,undef,aN,qg,qe,go_sem];done))
     | skip
    ·exact afH
    ·exact Pa
    ·obtain⟨h1,G,-⟩:=hp;obtain⟨v',O,hrun,h7,h5,h3⟩:=J5 (P:=prog) (S:=aQ) (ρ:=aw [(22,1),(25,4)] _ V) (.tmp 22) (.tmp 25) 39 39 102 base _ 96 y.list.length c1.flatten rG vl h1 hD t.heap.size afI hrow Du x _ rfl G af;exact KS
    ·obtain⟨h6,h9,-⟩:=hp;have bo:=HS.aa.blk.iK hc (λe=>(HS.aa.oO e).2.2.1 rfl);have z:=bo.frozen;have q:=bo.cell;have tm:=HS.aa.ajW af hc h9;obtain⟨A9,n9,c9,e9⟩:=J1 h9;generalize hA:aw [(27,6),(26,5)] _ V=A;have zP:A (.tmp 27)=.pointer (some ⟨g,1,none⟩):=Iw;have sF:A (.tmp 26)=V 5:=Fc;rw[e9]at sF tm;have qC:(execOp A (ay (.store 39 (.tmp 27) (.tmp 26)) 0)).run prog w'=.ok .skip (w'.setCell ⟨g,1,none⟩ (.slice A9 n9 c9)):=by exact Ix
     rw[qC];show F _;rw[hF];exact⟨tm,(J7 hc af (λb hb=>(HS.aa.oO hb).1)).setCell HS.aa.low _,AZ hc (ah.rf (λ_=>False) _) (λk _ e=>e.elim (λe=>.inr e) (λe=>e.elim (λe=>.inl e.symm) False.elim))⟩
   exact afJ
  ·have ba:¬(j:Int)<(s.list.length:Int):=af;rw[eT af]at D;have Gi:=D;have kk:=kr;clear D kr;clear hj hlt;generalize wr=wa at *;go_wp2_with fail
   clear ba;go_loopw [7,32] (fun _ i W=>∃j:Nat,j<=s.prom.length/\i=.int .i64 (j:Int)/\Hid (sD base g ⟨s.life,s.list,s.prom.take j,s.ab⟩ W)/\K w0 W) (fun _ i _=>s.prom.length-(intOf i).toNat)
   case atStart=>exact⟨0,af,rfl,ae afG,kk⟩
   case round =>
    clear kk Gi;obtain⟨j,hj,rfl,D,kr⟩:=hrel;by_cases hlt:j<s.prom.length
    ·have ba:(j:Int)<(s.prom.length:Int):=af;obtain⟨b1,off,cs,rfl,hcl,hrl,T,d⟩:=dM HP.aa j hlt au;have HT:Hid (s.prom.take (j+1)=s.prom.take j++[s.prom[j]]):=ae Fe;have hxs:=hsp.aa _ (bW hlt);generalize s.prom[j]=x at *;obtain⟨vf,ve,rfl,hf,he⟩:=hrl w (K.rf w);have oy:Hid (∀W,K w W->cR x (.agg (aA x vf ve)) W):=ae λW k=>by exact KW
     have pG:=N.tr kr;have T:wr.cell? ⟨b1,off+j*8,none⟩=some (.int .i64 x.kind):=T wr pG;have d:∀i,i<8->wr.cell? ⟨b1,off+j*8+i,none⟩=(aA x vf ve)[i]?:=λi hi=>(d wr pG i hi).trans Array.getElem?_toList
     obtain⟨I,J,rfl⟩:=cB hf;obtain⟨H,M,rfl⟩:=az he;have nM:=ai.new wr 102 (aA x (.slice I x.f.length J) (.slice H x.es.length M));have R:K wr (wr.alloc (.cells (aA x (.slice I x.f.length J) (.slice H x.es.length M)) 102)):=(K.rf wr).al _;clear hrl hcl hf he;go_upto_region 10 with (fail);clear d T;obtain⟨y,hsj⟩:∃y:bA,y=⟨s.life,s.list,s.prom.take j,s.ab⟩:=⟨_,rfl⟩;rw[<- hsj]at D;obtain⟨vl,vp,va,c1,c2,Q⟩:=D.aa;have hne:vp.ownBlock≠some wr.heap.size:=λe=>by have:=(Q.mY e).2.1;omega
     have HS:=ae (Q.st R);generalize wr.alloc _=t at *;generalize wr.heap.size=ge at nM hne⊢;replace kr:=kr.tr R;have wT:=N.tr kr;have ayM:y.list.length<=900000/\y.prom.length<=900000:=by rw[hsj];simp;omega
     have Gf:base<=t.heap.size:=by rw[hbase];exact kr.size
     have Mz:Hid (∀W',ah (λk=>vp.ownBlock=some k) t W'->cR x (.agg (aA x (.slice I x.f.length J) (.slice H x.es.length M))) W'):=ae λW' u=>oy.aa W' (u.k wT (λk e=>by have:=(HS.aa.mY e).1;have:=N.size;omega))
     clear Q D oy R;obtain⟨C,hC⟩:∃C:World->Prop,C=λW=>aH 0 vp.ownBlock t W:=⟨_,rfl⟩
     have hg:∀W W',C W->Below W.heap.size W W'->C W':=by exact KQ
     have hc0:C t:=KR;obtain⟨F,hF⟩:∃F:World->Prop,F=λW=>sD base g ⟨y.life,y.list,y.prom++[x],y.ab⟩ W/\Below base t W/\ah (λk=>vp.ownBlock=some k∨k=g) t W:=⟨_,rfl⟩
     have hrow:∀b,vp.ownBlock=some b->b<t.heap.size:=λb hb=>(HS.aa.mY hb).2.1
     refine Hr 5 7 C (λW=>W.ownsRow base 102 8 vp y.prom.length c2.flatten) (λ_=>True) (λW W'=>W.grownBy W' vp.ownBlock) F [ag (.pointer (some ⟨g,2,none⟩)),
      ag (vp),
      ag (.agg (aA x (.slice I x.f.length J) (.slice H x.es.length M))),
      zM aQ t.heap.size x,
      zi aQ t.heap.size 102 x,
      wu aQ base t.heap.size 102 vp.ownBlock y.prom.length c2.flatten x,
      ag (.pointer (some ⟨g,2,none⟩)),
      xK]
      [([],[]),([0],[(36,0)]),([],[]),([2],[(38,2)]),([3],[(39,3)]),([1,4],[(37,1),(40,4)]),([],[]),([6,5],[(42,6),(41,5)])] 45 rfl ak ak ak au au au ak hg (λW W' h k=>fZ h k) (λ_ _ h _=>h) tS (fZ HS.aa.p (Below.drew (aN _ _))) ?ayO ?axW ?ayP ?_
     case ayO =>
      simp only[aI]
      and_intros
      all_goals first|exact jN _|exact mz|exact Lj _ _|exact KM _ _ _|exact KO _ _ _ _ _ _ _|simp
     case axW =>
      simp only[List.zipIdx_cons,List.zipIdx_nil,aI,fP,Nat.reduceAdd]
      and_intros
      all_goals first|exact .inl rfl|exact .inr (λ_ _ _ h _=>h)|exact .inr (KL hrow)|exact .inr (Ke hrow)|simp
     case ayP =>
      simp only[xE,nZ]
      and_intros
      all_goals try trivial
      all_goals
       simp only[Nat.reduceEqDiff,if_false,Nat.reduceAdd]
      all_goals
       first
       | (intro V w' hc hD hp
          simp only[aI,aE,aF,ag]at hp
          rw[hC]at hc)
       | (intro V w' hc hp
          rw[hC]at hc
          have qg:=(HS.aa.blk.iK hc (λe=>(HS.aa.mY e).2.2.1 rfl)).cell
          have qe:=(nM.iK hc (λe=>hne e)).cell
          try simp only[aI,aE,aF,ag]at hp
          try (simp[aL,aw,List.lookup,hp,aE,aF,aS,execOp,ay,ag,undef,aN,qg,qe,go_sem];done))
       | skip
      ·exact afH
      ·exact Pa
      ·obtain⟨h1,G,-⟩:=hp;obtain⟨v',O,hrun,h7,h5,h3⟩:=J5 (P:=prog) (S:=aQ) (ρ:=aw [(37,1),(40,4)] _ V) (.tmp 37) (.tmp 40) 39 39 102 base _ 96 y.prom.length c2.flatten rG vp h1 hD t.heap.size afI hrow Du x _ rfl G af;exact KS
      ·obtain⟨h6,h9,-⟩:=hp;have bo:=HS.aa.blk.iK hc (λe=>(HS.aa.mY e).2.2.1 rfl);have z:=bo.frozen;have q:=bo.cell;have tm:=HS.aa.ajX af hc h9;obtain⟨A9,n9,c9,e9⟩:=J1 h9;generalize hA:aw [(42,6),(41,5)] _ V=A;have zP:A (.tmp 42)=.pointer (some ⟨g,2,none⟩):=Iw;have sF:A (.tmp 41)=V 5:=Fc;rw[e9]at sF tm;have qC:(execOp A (ay (.store 39 (.tmp 42) (.tmp 41)) 0)).run prog w'=.ok .skip (w'.setCell ⟨g,2,none⟩ (.slice A9 n9 c9)):=by exact Ix
       rw[qC];show F _;rw[hF];exact⟨tm,(J7 hc af (λb hb=>(HS.aa.mY hb).1)).setCell HS.aa.low _,AZ hc (ah.rf (λ_=>False) _) (λk _ e=>e.elim (λe=>.inr e) (λe=>e.elim (λe=>.inl e.symm) False.elim))⟩
     exact afJ
    ·have ba:¬(j:Int)<(s.prom.length:Int):=af;rw[eT af]at D;have Gi:=D;have kk:=kr;clear D kr;clear hj hlt;obtain⟨vl,vp,va,c1,c2,hS⟩:=Gi.aa;obtain⟨⟨Bl,dl,rfl⟩,⟨Bp,dp,rfl⟩,Ba,da,rfl⟩:=hS.slices;have q:=hS.blk.cell;have dQ:=U.below kk U.lt;have z:=dQ.frozen;have qz:=dQ.cell;have HR:=ae hS.r;have kw:=N.tr kk;have lM:base<=wr.heap.size:=by rw[hbase];exact kk.size
     clear hS Gi kk dC U;go_wp2;have nG:ai (World.setCell (World.setCell (World.setCell (World.setCell wr _ _) _ _) _ _) _ _) (E+1) 52 (bS s (.slice Bl s.list.length dl) (.slice Bp s.prom.length dp) (.slice Ba s.ab.length da)):=(((dQ.aR 0 (.int .u64 (s.life:Int))).aR 1 (.slice Bl s.list.length dl)).aR 2 (.slice Bp s.prom.length dp)).aR 3 (.slice Ba s.ab.length da);have kS:=K.set (K.set (K.set (K.set kw (r:=E+1) af 0 (.int .u64 (s.life:Int))) (r:=E+1) af 1 (.slice Bl s.list.length dl)) (r:=E+1) af 2 (.slice Bp s.prom.length dp)) (r:=E+1) af 3 (.slice Ba s.ab.length da);have uS:=(((ah.r8 (X:=λk=>k<base) (g:=E+1) (i:=0) af wr (.int .u64 (s.life:Int))).tr (ah.r8 (X:=λk=>k<base) (g:=E+1) (i:=1) af _ (.slice Bl s.list.length dl))).tr (ah.r8 (X:=λk=>k<base) (g:=E+1) (i:=2) af _ (.slice Bp s.prom.length dp))).tr (ah.r8 (X:=λk=>k<base) (g:=E+1) (i:=3) af _ (.slice Ba s.ab.length da));clear q z qz dQ;generalize World.setCell (World.setCell (World.setCell (World.setCell wr _ _) _ _) _ _) _ _=W9 at *;have e9:=nG.cell;refine bodyPost_ret (v:=.agg (bS s (.slice Bl s.list.length dl) (.slice Bp s.prom.length dp) (.slice Ba s.ab.length da))) (by simp[results,results230,go_sem,e9]) rfl ?_;exact⟨base,_,_,_,rfl,af,bq lM uS.size,⟨_,_,HR.aa.low uS⟩,kS⟩
theorem pw.jr{base:Nat}{s:bA}{vl vp va:Value}{c1 c2:List (List Value)}{W:World}(h:pw base s vl vp va c1 c2 W):jr s (.agg (bS s vl vp va)) W:=by exact afi
theorem auA(s:bA)(r:Rec)(v u:Value)(w:World)(h:jr s v w)(hr:qh r u w)(hfit:nX r)(akq:eD r.e)(gY:∀x∈s.list,eD x)(hsp:∀x∈s.prom,eD x)(hz:s.list.length<=900000/\s.prom.length<=900000/\s.ab.length<=900000) :
 Calls prog 186 #[v,u] w λe w'=>∃B vl vp va c1 c2,e=.returned (.tuple #[.agg (bS (pX s r).1 vl vp va),.int .i64 (pX s r).2])/\w.heap.size<=B/\pw B (pX s r).1 vl vp va c1 c2 w'/\K w w':=by
 have C1:=ae λW (k:K w W)=>apa s v W (Fm h k) gY hsp hz
 obtain⟨vl,vp,va,rfl,hl,hp,ha⟩:=h
 obtain⟨R,cl,rfl⟩:=az hl
 obtain⟨U,T,rfl⟩:=az hp
 obtain⟨V,S,rfl⟩:=az ha
 have Cg:=ae (λW (k:K w W)=>P6 hr k)
 obtain⟨vf,ve,rfl,hf,he⟩:=hr
 obtain⟨C,N,rfl⟩:=cB hf
 obtain⟨A,Q,rfl⟩:=az he
 have HF:=ae hfit
 generalize ho:pX s r=o
 have HO:=ae ho
 obtain⟨j,e'⟩:=o
 clear ho
 have HM:=ae akq
 clear hf he hl hp ha gY hsp hfit akq
 have dC:=((ai.new w 52 (bS s (.slice R s.list.length cl) (.slice U s.prom.length T) (.slice V s.ab.length S))).alloc (.cells (eH r (.slice C r.e.f.length N) (.slice A r.e.es.length Q)) 190)).alloc (.cells jG 52)
 have Y:=(ai.new (w.alloc (.cells (bS s (.slice R s.list.length cl) (.slice U s.prom.length T) (.slice V s.ab.length S)) 52)) 190 (eH r (.slice C r.e.f.length N) (.slice A r.e.es.length Q))).alloc (.cells jG 52)
 have y:=ai.new ((w.alloc (.cells (bS s (.slice R s.list.length cl) (.slice U s.prom.length T) (.slice V s.ab.length S)) 52)).alloc (.cells (eH r (.slice C r.e.f.length N) (.slice A r.e.es.length Q)) 190)) 52 jG
 have k0:K w (((w.alloc (.cells (bS s (.slice R s.list.length cl) (.slice U s.prom.length T) (.slice V s.ab.length S)) 52)).alloc (.cells (eH r (.slice C r.e.f.length N) (.slice A r.e.es.length Q)) 190)).alloc (.cells jG 52)):=(((K.rf w).al _).al _).al _
 simp only[World.size_alloc]at Y y
 go_enter func186,ntmps186
 go_wp2_with fail
 generalize World.alloc (World.alloc (World.alloc w _) _) _=w0 at *
 generalize im:w.heap.size=t at dC Y y⊢
 refine (C1.aa w0 k0).mono ?_
 rintro e F⟨B,vl1,vp1,va1,c1,c2,rfl,Es,zx,hS,k1⟩
 have hV:=hS.v zx
 obtain⟨⟨Bl,dl,rfl⟩,⟨Bp,dp,rfl⟩,Ba,da,rfl⟩:=hV.slices
 have kA:K F (F.alloc (.cells (bS s (.slice Bl s.list.length dl) (.slice Bp s.prom.length dp) (.slice Ba s.ab.length da)) 52)):=(K.rf F).al _
 have Z:=k1.tr kA
 have q2:=(Y.below Z Y.lt).cell
 have E:=ae hV
 have hg1:=k1.size
 have hgr:=y.lt
 clear hS hV C1 dC
 go_wp2_with fail
 generalize World.alloc F _=w2 at *
 generalize F.heap.size=g at *
 have yp:=k0.tr Z
 have hOn:Rc B g s r (.slice Bl s.list.length dl) (.slice Bp s.prom.length dp) (.slice Ba s.ab.length da) (.agg (eH r (.slice C r.e.f.length N) (.slice A r.e.es.length Q))) c1 c2 w2 :=
  ⟨E.aa,λW' u'=>Cg.aa W' (u'.k yp λk e=>by
   rcases e with e|e|e|e
   ·omega
   ·have:=(E.aa.oO e).1;omega
   ·have:=(E.aa.mY e).1;omega
   ·have:=(E.aa.s7 e).1;omega),by have:=E.aa.blk.lt;omega,hz,HM.aa,HF.aa⟩
 have J:=auz w2 hOn
 rw[HO.aa]at J
 have J:=ae J
 clear q2 hOn
 refine J.aa.mono ?_
 rintro e w3⟨rfl,hS3,bD⟩
 obtain⟨vl,vp,va,c1',rJ,G⟩:=hS3
 simp only at G⊢
 obtain⟨⟨I,M,rfl⟩,⟨L,O,rfl⟩,D,H,rfl⟩:=G.slices
 have q:=G.blk.cell
 have dQ:=(y.below Z y.lt).below bD afK
 have z:=dQ.frozen
 have qz:=dQ.cell
 have HR:=ae G.r
 have Cf:=yp.trans (bD.mono afK)
 have hgb:t+2<B:=af
 clear G y J Z kA k1
 go_wp2
 have nG:ai (World.setCell (World.setCell (World.setCell (World.setCell w3 _ _) _ _) _ _) _ _) (t+2) 52 (bS j (.slice I j.list.length M) (.slice L j.prom.length O) (.slice D j.ab.length H)):=(((dQ.aR 0 (.int .u64 (j.life:Int))).aR 1 (.slice I j.list.length M)).aR 2 (.slice L j.prom.length O)).aR 3 (.slice D j.ab.length H)
 have kS:=K.set (K.set (K.set (K.set Cf (r:=t+2) af 0 (.int .u64 (j.life:Int))) (r:=t+2) af 1 (.slice I j.list.length M)) (r:=t+2) af 2 (.slice L j.prom.length O)) (r:=t+2) af 3 (.slice D j.ab.length H)
 have uS:=(((ah.r8 (X:=λk=>k<B) (g:=t+2) (i:=0) af w3 (.int .u64 (j.life:Int))).tr (ah.r8 (X:=λk=>k<B) (g:=t+2) (i:=1) af _ (.slice I j.list.length M))).tr (ah.r8 (X:=λk=>k<B) (g:=t+2) (i:=2) af _ (.slice L j.prom.length O))).tr (ah.r8 (X:=λk=>k<B) (g:=t+2) (i:=3) af _ (.slice D j.ab.length H))
 clear q z qz dQ
 generalize World.setCell (World.setCell (World.setCell (World.setCell w3 _ _) _ _) _ _) _ _=W9 at *
 have e9:=nG.cell
 refine bodyPost_ret (v:=.tuple #[.agg (bS j (.slice I j.list.length M) (.slice L j.prom.length O) (.slice D j.ab.length H)),.int .i64 e']) (by simp[results,results186,go_sem,e9]) rfl ?_
 exact⟨B,_,_,_,rfl,af,⟨_,_,HR.aa.low uS⟩,kS⟩
theorem auB(n:Int)(l:List UInt8)(wr:Bool):∀a∈(mf n l wr).1,mV a:=by
 simp only[mf]
 cases hd:r7 (aP n l wr).1 with
 | none=>simp
 | some e=>exact (acv hd).2.2
theorem auC(n:Int)(l:List UInt8)(wr:Bool):∀a∈(pq n l wr).1,iH a:=by
 simp only[pq]
 cases hd:pT (aP n l wr).1 with
 | none=>simp
 | some e=>exact (acu hd).2.2
theorem aw6(l:List UInt8)(wr:Bool):(fV l wr).1.2.2.1<18446744073709551616/\(fV l wr).1.2.2.2.1<18446744073709551616/\(fV l wr).1.2.2.2.2.2<18446744073709551616 :=
 ⟨qO _ _,qO _ _,qO _ _⟩
theorem Ur(a:Nat×Nat×Nat×Nat×Nat×Nat)(f:List bc)(es:List (List bh))(h:a.2.2.1<18446744073709551616)(i:a.2.2.2.1<18446744073709551616)(s:a.2.2.2.2.2<18446744073709551616)(u:∀t∈f,iH t)(j:∀e∈es,∀a∈e,mV a) :
 cK { mW a with f:=f,es:=es }:=by
 refine⟨?_,?_,?_,h,i,s,u,j⟩
 ·simp only[mW,bU];omega
 ·simp only[mW,bU];omega
 ·simp only[mW,bU];omega
theorem auD(n:Int)(l:List UInt8)(wr:Bool):cK (pr n l wr).1:=by
 obtain⟨i,s,j⟩:=aw6 l wr;unfold pr;split
 ·exact Ur _ [] _ i s j aj (aep (λe=>∀a∈e,mV a) (auB n) _ _ _)
 ·split
  ·exact Ur _ _ [] i s j (auC n _ _) aj
  ·exact Ur _ [] [] i s j aj aj
theorem asO{b:List UInt8}{x:aq}(h:kN b=some x):cK x:=by
 unfold kN at h;split at h
 ·injection h with h;rw[<- h];exact auD _ _ _
 ·cases h
theorem auE:cK eW:=by simp[cK,eW,bU]
def i6:cF (List UInt8) where
 size:=1
 rel l cs w:=∃v,cs=[v]/\sl l v w
 len:=by rintro _ _ _⟨v,rfl,_⟩;rfl
 one:=by rintro _ _ _⟨v,rfl,A,c,rfl,_⟩ u i;simp at i;subst i;rfl
 st:=by rintro _ _ _ _⟨v,rfl,h⟩ k;exact⟨v,rfl,iQ _ _ _ _ h k⟩
def LA(s:bA)(b:List UInt8):bA×Int:=if OY b=0 then pX s (Vc b)else (s,OY b)
def IX:bA->List (List UInt8)->bA×Int
 | s,[]=>(s,0)
 | s,b :: l=>if (LA s b).2=0 then IX (LA s b).1 l else LA s b
def IY(l:List (List UInt8)):bA×Int:=if (IX iL l).2=0 then IX iL l else (iL,(IX iL l).2)
theorem aw7{l:List bh}(h:fK l=true):l.length<=16:=by unfold fK at h;simp only[cz,decide_eq_true_eq]at h;omega
theorem tK{x:aq}(h:bP x=true):eD x:=by
 unfold bP at h;simp only[cz,decide_eq_true_eq]at h;obtain⟨-,h⟩:=h;split at h
 ·simp only[cz,decide_eq_true_eq,List.isEmpty_iff]at h;obtain⟨⟨⟨-,s⟩,t⟩,j⟩:=h;exact⟨by simp[s],af,λe i=>by have:=aw7 (List.all_eq_true.1 j e i);omega⟩
 ·split at h
  ·simp only[cz,List.isEmpty_iff]at h;exact⟨Dr,by simp[h.2],by simp[h.2]⟩
  ·split at h
   ·simp only[cz,List.isEmpty_iff]at h;exact⟨by have:=(AV h.2).1;omega,Dr,Dr⟩
   ·cases h
theorem aw8(s t:bA)(r:Rec)(h:fh s r=some t):t.list.length<=s.list.length+1/\t.prom.length<=s.prom.length+1/\t.ab.length<=s.ab.length+1:=by
 have i:∀(l:List aq) a,(ia l a).length<=l.length:=λl a=>lV _ _
 have u:=i s.prom (ax r.e)
 have j:=i s.prom (fD r)
 unfold fh wO uD uE uH wP at h
 repeat' split at h
 all_goals first|(cases h;done)|(injection h with h;subst h;refine⟨?_,?_,?_⟩ <;> (try simp only[cT,List.length_singleton]) <;> omega)
def mg(l:List aq):List Rec:=l.zipIdx.map λp=>⟨2,p.2,p.1,0,0,0⟩
def kV(l:List aq):List Rec:=l.map λx=>⟨3,0,x,0,0,0⟩
def oP(l:List av):List Rec:=l.map λa=>⟨4,0,eW,a.1,a.2.1,a.2.2⟩
def wy(n:Nat):List Rec:=if n=0 then []else [⟨1,n,eW,0,0,0⟩]
def eP(s:bA):List Rec:=wy s.life++mg s.list++kV s.prom++oP s.ab
theorem asP(l:List aq)(j:Nat)(h:j<l.length):mg (l.take (j+1))=mg (l.take j)++[⟨2,j,l[j],0,0,0⟩]:=by unfold mg;rw[gE h,List.zipIdx_append,List.map_append];simp[od,Nat.min_eq_left (Nat.le_of_lt h)]
theorem asQ(l:List aq)(j:Nat)(h:j<l.length):kV (l.take (j+1))=kV (l.take j)++[⟨3,0,l[j],0,0,0⟩]:=by unfold kV;exact afL
theorem asR(l:List av)(j:Nat)(h:j<l.length):oP (l.take (j+1))=oP (l.take j)++[⟨4,0,eW,l[j].1,l[j].2.1,l[j].2.2⟩]:=by unfold oP;exact afL
theorem adr(n:Nat):(wy n).length<=1:=by unfold wy;split <;> simp
theorem Kf(l:List aq):(mg l).length=l.length:=by simp[mg]
theorem OC(l:List aq):(kV l).length=l.length:=by simp[kV]
theorem Us(l:List av):(oP l).length=l.length:=by simp[oP]
theorem avU:(prog.info? 190).map (λi=>(i.zero,i.size,i.bytes))=some (some (.agg akn),13,136):=by kernel_rfl
theorem Qn:gJ prog 230 190 (.agg akn) 13 136:=⟨underlying230,avU,rfl,au⟩
theorem ajA:(prog.info? 42).map (λi=>(i.zero,i.size,i.bytes))=some (some (.slice none 0 0),1,24):=by kernel_rfl
theorem Rg:gJ prog 149 42 (.slice none 0 0) 1 24:=⟨underlying149,ajA,rfl,au⟩
theorem ajB{k:Int}{n:Nat}{x:aq}{a:av}{vf i:Value}{W:World}(h:cR x (.agg (aA x vf i)) W):uh.rel ⟨k,n,x,a.1,a.2.1,a.2.2⟩ (eH ⟨k,n,x,a.1,a.2.1,a.2.2⟩ vf i).toList W:=by obtain⟨j,s,e,h1,h2⟩:=h;exact VF
theorem E1{l:List aq}{a:av}:cA l a=true ↔ ∃x∈l,ax x=a:=by simp[cA]
theorem Kg{l:List av}{a:av}:dx l a=true↔a∈l:=by simp[dx]
theorem Ou{l:List aq}{a:av}{x:aq}:x∈ia l a↔x∈l/\ax x≠a:=by simp[ia]
structure p6(s:bA):Prop where
 nl:(s.list.map ax).Nodup
 np:(s.prom.map ax).Nodup
 na:s.ab.Nodup
 lp:∀x∈s.list,∀y∈s.prom,ax x≠ax y
 la:∀x∈s.list,ax x∉s.ab
 pa:∀x∈s.prom,ax x∉s.ab
 wV:∀x∈s.list,bP x=true/\cK x
 yq:∀x∈s.prom,bP x=true/\cK x
 Gk:∀a∈s.ab,pV a.1=true/\df a
 life:s.life<18446744073709551616
theorem p6.zero:p6 iL:=⟨xx,xx,xx,xx,xx,xx,xx,xx,xx,au⟩
theorem p6.drop{s:bA}(h:p6 s)(a:av):p6 ⟨s.life,s.list,ia s.prom a,s.ab⟩:=by
 have hm:∀x∈ia s.prom a,x∈s.prom:=λx i=>(Ou.1 i).1
 refine⟨h.nl,?_,h.na,λx i y j=>h.lp x i y (hm y j),h.la,λx i=>h.pa x (hm x i),h.wV,λx i=>h.yq x (hm x i),h.Gk,h.life⟩;exact (List.Sublist.map ax List.filter_sublist).nodup h.np
theorem J2{α:Type}[DecidableEq α]{l:List α}{a:α}(h:l.Nodup)(s:a∉l):(l++[a]).Nodup:=by rw[List.nodup_append];refine⟨h,aj,λx j y i=>?_⟩;simp at i;subst i;rintro rfl;exact s j
theorem p6.on{s t:bA}{r:Rec}(h:p6 s)(Q:gh r=true)(O:nX r)(e:fh s r=some t):p6 t:=by
 have hk:=AR Q;obtain⟨-,L,G,M,R,N⟩:=O;unfold fh wO uD uE uH wP at e;split at e
 ·split at e
  ·cases e
  ·injection e with e;subst e;exact⟨h.nl,h.np,h.na,h.lp,h.la,h.pa,h.wV,h.yq,h.Gk,L⟩
 ·rename_i U;split at e
  ·rename_i I;have F:bP r.e=true:=by exact afM
   split at e
   ·cases e
   ·split at e
    ·cases e
    ·rename_i C;split at e
     ·cases e
     ·rename_i B;injection e with e;subst e;have hm:∀x∈ia s.prom (ax r.e),x∈s.prom/\ax x≠ax r.e:=λx i=>Ou.1 i
      have E:∀x∈s.list,ax x≠ax r.e:=λx i e=>C (E1.2 ⟨x,i,e⟩)
      have D:ax r.e∉s.ab:=λi=>B (Kg.2 i)
      have u:=h.drop (ax r.e);refine⟨?_,u.np,h.na,?_,?_,u.pa,?_,u.yq,h.Gk,h.life⟩
      ·simp only[List.map_append,j9,List.map_nil];refine J2 h.nl ?_;intro i;obtain⟨x,i,e⟩:=List.mem_map.1 i;exact E x i e
      ·intro x i y j;rcases List.mem_append.1 i with i|i
       ·exact h.lp x i y (hm y j).1
       ·simp at i;subst i;exact λe=>(hm y j).2 e.symm
      ·intro x i;rcases List.mem_append.1 i with i|i
       ·exact h.la x i
       ·simp at i;subst i;exact D
      ·intro x i;rcases List.mem_append.1 i with i|i
       ·exact h.wV x i
       ·simp at i;subst i;exact⟨F,G⟩
  ·rename_i I;split at e
   ·rename_i S;have F:bP r.e=true:=by exact afM
    split at e
    ·cases e
    ·rename_i C;split at e
     ·cases e
     ·rename_i H;split at e
      ·cases e
      ·rename_i B;injection e with e;subst e;have E:∀x∈s.list,ax x≠ax r.e:=λx i e=>C (E1.2 ⟨x,i,e⟩)
       have J:∀x∈s.prom,ax x≠ax r.e:=λx i e=>H (E1.2 ⟨x,i,e⟩)
       have D:ax r.e∉s.ab:=λi=>B (Kg.2 i)
       refine⟨h.nl,?_,h.na,?_,h.la,?_,h.wV,?_,h.Gk,h.life⟩
       ·simp only[List.map_append,j9,List.map_nil];refine J2 h.np ?_;intro i;obtain⟨x,i,e⟩:=List.mem_map.1 i;exact J x i e
       ·intro x i y j;rcases List.mem_append.1 j with j|j
        ·exact h.lp x i y j
        ·simp at j;subst j;exact E x i
       ·intro x i;rcases List.mem_append.1 i with i|i
        ·exact h.pa x i
        ·simp at i;subst i;exact D
       ·intro x i;rcases List.mem_append.1 i with i|i
        ·exact h.yq x i
        ·simp at i;subst i;exact⟨F,G⟩
   ·split at e
    ·rename_i T;have hb:pV r.br=true:=by
      rcases hk with ⟨g,_⟩|⟨g,_⟩|⟨_,g,_⟩
      ·omega
      ·omega
      ·simp[pV,g.1,g.2]
     split at e
     ·cases e
     ·rename_i C;split at e
      ·cases e
      ·rename_i B;injection e with e;subst e;have E:∀x∈s.list,ax x≠fD r:=λx i e=>C (E1.2 ⟨x,i,e⟩)
       have D:fD r∉s.ab:=λi=>B (Kg.2 i)
       have u:=h.drop (fD r);refine⟨h.nl,u.np,J2 h.na D,u.lp,?_,?_,h.wV,u.yq,?_,h.life⟩
       ·intro x i hm;rcases List.mem_append.1 hm with hm|hm
        ·exact h.la x i hm
        ·simp at hm;exact E x i hm
       ·intro x i hm;rcases List.mem_append.1 hm with hm|hm
        ·exact u.pa x i hm
        ·simp at hm;exact (Ou.1 i).2 hm
       ·intro a A;rcases List.mem_append.1 A with A|A
        ·exact h.Gk a A
        ·simp at A;subst A;exact⟨hb,M,R,N⟩
    ·split at e
     ·injection e with e;subst e;exact h.drop _
     ·cases e
def jn:bA->List Rec->Option bA
 | s,[]=>some s
 | s,r :: l=>(fh s r).bind λt=>jn t l
theorem OD(l m:List Rec):∀s,jn s (l++m)=(jn s l).bind λt=>jn t m:=by
 induction l with
 | nil=>intro s;rfl
 | cons r l h =>
  intro s
  simp only[aM,jn]
  cases fh s r with
  | none=>rfl
  | some t=>exact h t
theorem auF(l:List Rec)(h:∀r∈l,gh r=true/\nX r):∀s t,jn s l=some t->IX s (l.map bV)=(t,0):=by
 induction l with
 | nil=>intro s t e;injection e with e;subst e;rfl
 | cons r l A =>
  intro s t e
  obtain⟨i,B⟩:=h r aj
  simp only[jn]at e
  cases ho:fh s r with
  | none=>rw[ho]at e;cases e
  | some u =>
   rw[ho]at e;have j:=aqU r i B;have y:LA s (bV r)=(u,0):=by unfold LA;rw[(abk j).1,(abk j).2,if_pos rfl,Ij i ho];rfl
   simp only[j9,IX,y,if_true];exact A (λx hx=>h x Ds) u t e
theorem axX(n:Nat):jn iL (wy n)=some ⟨n,[],[],[]⟩:=by
 unfold wy;split
 ·rename_i h;subst h;rfl
 ·rename_i h;simp[jn,fh,wO,iL,h]
theorem axY(n:Nat)(l:List aq):∀a:List aq,((a++l).map ax).Nodup->jn ⟨n,a,[],[]⟩ ((l.zipIdx a.length).map λp=>⟨2,p.2,p.1,0,0,0⟩)=some ⟨n,a++l,[],[]⟩:=by
 induction l with
 | nil=>intro a _;simp[jn]
 | cons x l j =>
  intro a h;have i:cA a (ax x)=false:=by exact afN
  have s:fh ⟨n,a,[],[]⟩ ⟨2,a.length,x,0,0,0⟩=some ⟨n,a++[x],[],[]⟩:=by simp[fh,uD,i,dx,ia]
  simp only[List.zipIdx_cons,j9,jn,s,Option.bind_some];have:=j (a++[x]) rT;simpa using this
theorem axZ(n:Nat)(L:List aq)(l:List aq):∀a:List aq,((a++l).map ax).Nodup->(∀x∈L,∀y∈l,ax x≠ax y)->jn ⟨n,L,a,[]⟩ (kV l)=some ⟨n,L,a++l,[]⟩:=by
 induction l with
 | nil=>intro a _ _;simp[jn,kV]
 | cons x l t =>
  intro a h j;have i:cA a (ax x)=false:=by exact afN
  have hy:cA L (ax x)=false:=by rw[Bool.eq_false_iff];intro hh;obtain⟨y,hy,e⟩:=E1.1 hh;exact j y hy x aj e
  have s:fh ⟨n,L,a,[]⟩ ⟨3,0,x,0,0,0⟩=some ⟨n,L,a++[x],[]⟩:=by simp[fh,uE,i,hy,dx]
  simp only[kV,j9,jn,s,Option.bind_some];have:=t (a++[x]) rT (λx i y hy=>j x i y Bd);simpa [kV]using this
theorem auG{l:List aq}{a:av}(h:∀x∈l,ax x≠a):ia l a=l:=by unfold ia;rw[List.filter_eq_self];intro x i;simpa using h x i
theorem ax0(n:Nat)(L P:List aq)(l:List av):∀a:List av,(a++l).Nodup->(∀x∈L,ax x∉l)->(∀x∈P,ax x∉l)->jn ⟨n,L,P,a⟩ (oP l)=some ⟨n,L,P,a++l⟩:=by
 induction l with
 | nil=>intro a _ _ _;simp[jn,oP]
 | cons x l B =>
  intro a h s t;have u:dx a x=false:=by rw[Bool.eq_false_iff];intro j;exact (List.nodup_append.1 h).2.2 x (Kg.1 j) x aj rfl
  have i:cA L x=false:=by rw[Bool.eq_false_iff];intro j;obtain⟨y,i,e⟩:=E1.1 j;exact s y i Fb
  have C:ia P x=P:=auG λy i e=>t y i Fb
  have A:fh ⟨n,L,P,a⟩ ⟨4,0,eW,x.1,x.2.1,x.2.2⟩=some ⟨n,L,P,a++[x]⟩:=by simp[fh,uH,fD,u,i,C]
  simp only[oP,j9,jn,A,Option.bind_some];have:=B (a++[x]) rT (λy i hm=>s y i (by simp[hm])) (λy i hm=>t y i (by simp[hm]));simpa [oP]using this
theorem auH{s:bA}(h:p6 s):jn iL (eP s)=some s:=by unfold eP;rw[OD,OD,OD,axX];simp only[Option.bind_some];have i:=axY s.life s.list [] (by simpa using h.nl);simp only[List.length_nil,aJ]at i;unfold mg;rw[i];simp only[Option.bind_some];rw[axZ s.life s.list s.prom [] (by simpa using h.np) h.lp];simp only[Option.bind_some,aJ];rw[ax0 s.life s.list s.prom s.ab [] (by simpa using h.na) h.la h.pa];rfl
theorem E2:cK eW:=by simp[cK,eW,bU]
theorem VG{s:bA}(h:p6 s)(hz:s.list.length<=1000000):∀r∈eP s,gh r=true/\nX r:=by
 intro r i;have y:bU 0:=pd;unfold eP at i;simp only[xG]at i;rcases i with ((i|i)|i)|i
 ·unfold wy at i;split at i
  ·cases i
  ·simp at i;subst i;exact⟨by simp[gh,wh],pd,h.life,E2,y,aj,aj⟩
 ·unfold mg at i;obtain⟨⟨x,k⟩,u,rfl⟩:=List.mem_map.1 i;have hm:=List.mem_zipIdx u;obtain⟨j,t⟩:=h.wV x (by have:=hm.2.2;rw[this];exact bW _);exact⟨by simp[gh,j,wh],pd,by simp only;omega,t,y,aj,aj⟩
 ·unfold kV at i;obtain⟨x,u,rfl⟩:=List.mem_map.1 i;obtain⟨j,t⟩:=h.yq x u;exact⟨by simp[gh,j,wh],pd,aj,t,y,aj,aj⟩
 ·unfold oP at i;obtain⟨a,C,rfl⟩:=List.mem_map.1 i;obtain⟨j,t,B,A⟩:=h.Gk a C;exact⟨by simp[gh,j],pd,aj,E2,t,B,A⟩
