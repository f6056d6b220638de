/-
  A state of the call's own in memory, and how its lists grow (layer 16). Conditions: none.
-/
import Derived.Test.YtfndfpdhlbmboaaGreatMd07
import Derived.Test.YtfndfpdhlbmboaaGreatMdz
set_option maxRecDepth 100000
set_option linter.constructorNameAsVariable false
set_option maxHeartbeats 16000000
set_option linter.unusedVariables false
set_option linter.unusedSimpArgs false
namespace Go.Proofs.YtfndfpdhlbmboaaGreat
open Go Go.RowKit _root_.Go.Proofs.Tryz
theorem ayo:(prog.info? 126).map (λi=>(i.zero,i.size,i.bytes))=some (some (.agg eQ),8,96):=by rfl
theorem pw:fY prog 43 126 (.agg eQ) 8 96:=⟨underlying43,ayo,rfl,ax⟩
theorem ayp:(prog.info? 26).map (λi=>(i.zero,i.size,i.bytes))=some (some (.agg #[.int .i64 0,.int .u64 0,.int .u64 0]),3,24):=by rfl
theorem wU:fY prog 44 26 (.agg #[.int .i64 0,.int .u64 0,.int .u64 0]) 3 24:=⟨underlying44,ayp,rfl,ax⟩
abbrev cP(s:dA)(vl vp va:Value):Array Value:=#[.int .u64 (s.life:Int),vl,vp,va]
def nQ(s:dA)(v:Value)(w:World):Prop:=∃vl vp va,v=.agg (cP s vl vp va)/\aq aV s.list vl w/\aq aV s.prom vp w/\aq cd s.ab va w
theorem LN{s v w w'}(h:nQ s v w)(k:K w w'):nQ s v w':=by obtain⟨vl,vp,va,e,u,t,j⟩:=h;exact⟨vl,vp,va,e,bo u k,bo t k,bo j k⟩
theorem aer(l:List aS):(l.map fw).flatten=l.flatMap fw:=by rfl
theorem PA l W:Each cd l (l.map fw) W:=⟨aj,λi h j=>by simp[cd]⟩
def mh(M:Nat->Prop)(s:dA)(vl vp va:Value)(w:World):Prop:=Fx M (λW=>aq aV s.list vl W/\aq aV s.prom vp W/\aq cd s.ab va W) w
theorem mh.sl{M s vl vp va w}(h:mh M s vl vp va w):(∃A c,vl=.slice A s.list.length c)/\(∃A c,vp=.slice A s.prom.length c)/\∃A c,va=.slice A s.ab.length c:=⟨av h.now.1,av h.now.2.1,av h.now.2.2⟩
def iM(base g:Nat)(vl vp va:Value)(k:Nat):Prop:=k<base∨k=g∨vl.ownBlock=some k∨vp.ownBlock=some k∨va.ownBlock=some k
structure eM(base g:Nat)(s:dA)(vl vp va:Value)(W:World):Prop where
 blk:ai W g 46 (cP s vl vp va)
 low:base<=g
 l:aB (iM base g vl vp va) base 126 aV s.list vl W
 p:aB (iM base g vl vp va) base 126 aV s.prom vp W
 a:aB (iM base g vl vp va) base 26 cd s.ab va W
 ne:∀b,vl.ownBlock=some b->vp.ownBlock≠some b
def zt(base g:Nat)(s:dA)(W:World):Prop:=∃vl vp va,eM base g s vl vp va W
section
variable {base g:Nat} {s:dA} {vl vp va v':Value} {W W':World}
theorem eM.st(h:eM base g s vl vp va W)(k:K W W'):eM base g s vl vp va W':=⟨h.blk.ay k,h.low,h.l.st k,h.p.st k,h.a.st k,h.ne⟩
theorem eM.lt(h:eM base g s vl vp va W)(hb:base<=W.heap.size) k(hk:iM base g vl vp va k):k<W.heap.size:=by
 have:=h.blk.lt
 have:=h.l.blk
 have:=h.p.blk
 have:=h.a.blk
 unfold iM at hk
 grind
theorem eM.nQ(h:eM base g s vl vp va W):nQ s (.agg (cP s vl vp va)) W:=⟨vl,vp,va,rfl,h.l.aq,h.p.aq,h.a.aq⟩
theorem eM.sep(h:eM base g s vl vp va W) b:(vl.ownBlock=some b->base<=b/\b≠g/\vp.ownBlock≠some b/\va.ownBlock≠some b)/\(vp.ownBlock=some b->base<=b/\b≠g/\vl.ownBlock≠some b/\va.ownBlock≠some b)/\(va.ownBlock=some b->base<=b/\b≠g/\vl.ownBlock≠some b/\vp.ownBlock≠some b):=by
 have u:=λe=>h.l.own (b:=b) e
 have t:=λe=>h.p.own (b:=b) e
 have j:=λe=>h.a.own (b:=b) e
 have y:=h.ne b
 have hb:=h.blk
 have d1:∀ {cur cs},ai W b 126 cur->¬ai W b 26 cs:=λh k=>absurd (h.ie k) ax
 have d2:∀ {cur cs},ai W b 126 cur->¬ai W b 46 cs:=λh k=>absurd (h.ie k) ax
 have d3:∀ {cur cs},ai W b 26 cur->¬ai W b 46 cs:=λh k=>absurd (h.ie k) ax
 grind
theorem eM.xU{y t j X α S e}{l:List α}{v}(h:aB (iM base g vl vp va) base e S l v W)(u:ag X W W')(B:∀k,X k->iM base g vl vp va k)(C:∀k,v.ownBlock=some k->¬X k)
 (E:∀b,y.ownBlock=some b->vl.ownBlock=some b∨W.heap.size<=b∨v.ownBlock=some b) (D:∀b,t.ownBlock=some b->vp.ownBlock=some b∨W.heap.size<=b∨v.ownBlock=some b) (A:∀b,j.ownBlock=some b->va.ownBlock=some b∨W.heap.size<=b∨v.ownBlock=some b):aB (iM base g y t j) base e S l v W' :=
 h.to u B C λk hk F=>by
  unfold iM at *
  have:=E k
  have:=D k
  have:=A k
  grind
theorem eM.Jm(h:eM base g s vl vp va W)(u:rQ vl W W'){l}(A:aB (iM base g vl vp va) base 126 aV l v' W')(y:∀b,v'.ownBlock=some b->vl.ownBlock=some b∨W.heap.size<=b):eM base g ⟨s.life,l,s.prom,s.ab⟩ v' vp va (W'.setCell ⟨g,1,none⟩ v'):=by
 have us:ag (λk=>vl.ownBlock=some k∨k=g) W (W'.setCell ⟨g,1,none⟩ v'):=(u.more λ_ h=>.inl h).tr (ag.bM (X:=λk=>vl.ownBlock=some k∨k=g) (.inr rfl) _ _);have B:=h.sep;have hg:=h.blk.lt;have hp:=h.p.blk;refine⟨(h.blk.aW u λe=>((B g).1 e).2.1 rfl).aQ 1 _,h.low,eM.xU A (ag.bM (X:=λk=>k=g) rfl _ _) (λk e=>.inr (.inl e)) (λk t j=>?_) (λb e=>.inr (.inr e)) (λb e=>.inl e) λb e=>.inl e,eM.xU h.p us (λk e=>?_) (λk t j=>?_) (λb e=>(y b e).imp id .inl) (λb e=>.inl e) λb e=>.inl e,eM.xU h.a us (λk e=>?_) (λk t j=>?_) (λb e=>(y b e).imp id .inl) (λb e=>.inl e) λb e=>.inl e,λb t j=>?_⟩;all_goals unfold iM at *
 all_goals grind
theorem eM.Yz(h:eM base g s vl vp va W)(u:rQ vp W W'){l}(A:aB (iM base g vl vp va) base 126 aV l v' W')(y:∀b,v'.ownBlock=some b->vp.ownBlock=some b∨W.heap.size<=b):eM base g ⟨s.life,s.list,l,s.ab⟩ vl v' va (W'.setCell ⟨g,2,none⟩ v'):=by
 have us:ag (λk=>vp.ownBlock=some k∨k=g) W (W'.setCell ⟨g,2,none⟩ v'):=(u.more λ_ h=>.inl h).tr (ag.bM (X:=λk=>vp.ownBlock=some k∨k=g) (.inr rfl) _ _);have B:=h.sep;have hg:=h.blk.lt;have hp:=h.l.blk;refine⟨(h.blk.aW u λe=>((B g).2.1 e).2.1 rfl).aQ 2 _,h.low,eM.xU h.l us (λk e=>?_) (λk t j=>?_) (λb e=>.inl e) (λb e=>(y b e).imp id .inl) λb e=>.inl e,eM.xU A (ag.bM (X:=λk=>k=g) rfl _ _) (λk e=>.inr (.inl e)) (λk t j=>?_) (λb e=>.inl e) (λb e=>.inr (.inr e)) λb e=>.inl e,eM.xU h.a us (λk e=>?_) (λk t j=>?_) (λb e=>.inl e) (λb e=>(y b e).imp id .inl) λb e=>.inl e,λb t j=>?_⟩;all_goals unfold iM at *
 all_goals grind
theorem eM.azS(h:eM base g s vl vp va W)(u:rQ va W W'){l}(A:aB (iM base g vl vp va) base 26 cd l v' W')(y:∀b,v'.ownBlock=some b->va.ownBlock=some b∨W.heap.size<=b):eM base g ⟨s.life,s.list,s.prom,l⟩ vl vp v' (W'.setCell ⟨g,3,none⟩ v'):=by
 have us:ag (λk=>va.ownBlock=some k∨k=g) W (W'.setCell ⟨g,3,none⟩ v'):=(u.more λ_ h=>.inl h).tr (ag.bM (X:=λk=>va.ownBlock=some k∨k=g) (.inr rfl) _ _);have B:=h.sep;have hg:=h.blk.lt;refine⟨(h.blk.aW u λe=>((B g).2.2 e).2.1 rfl).aQ 3 _,h.low,eM.xU h.l us (λk e=>?_) (λk t j=>?_) (λb e=>.inl e) (λb e=>.inl e) λb e=>(y b e).imp id .inl,eM.xU h.p us (λk e=>?_) (λk t j=>?_) (λb e=>.inl e) (λb e=>.inl e) λb e=>(y b e).imp id .inl,eM.xU A (ag.bM (X:=λk=>k=g) rfl _ _) (λk e=>.inr (.inl e)) (λk t j=>?_) (λb e=>.inl e) (λb e=>.inl e) λb e=>.inr (.inr e),h.ne⟩;all_goals unfold iM at *
 all_goals grind
theorem eM.axb(h:eM base g s vl vp va W) n:eM base g ⟨n,s.list,s.prom,s.ab⟩ vl vp va (W.setCell ⟨g,0,none⟩ (.int .u64 n)):=by have u:ag (λk=>k=g) W (W.setCell ⟨g,0,none⟩ (.int .u64 n)):=ag.bM (X:=λk=>k=g) rfl _ _;have y:=h.sep g;refine⟨h.blk.aQ 0 _,h.low,eM.xU h.l u (λk e=>.inr (.inl e)) (λk t j=>?_) (λb e=>.inl e) (λb e=>.inl e) λb e=>.inl e,eM.xU h.p u (λk e=>.inr (.inl e)) (λk t j=>?_) (λb e=>.inl e) (λb e=>.inl e) λb e=>.inl e,eM.xU h.a u (λk e=>.inr (.inl e)) (λk t j=>?_) (λb e=>.inl e) (λb e=>.inl e) λb e=>.inl e,h.ne⟩;all_goals grind
theorem eM.fx(h:eM base g s vl vp va W):mh (λk=>k<base) s vl vp va W:=λW' u =>
 have t:=h.l.blk
 have hp:=h.p.blk
 have j:=h.a.blk
 ⟨(h.l.to u (λk e=>.inl e) (λk e h=>by have:=t k e;omega) (λ_ _ h=>.inl h)).aq,(h.p.to u (λk e=>.inl e) (λk e h=>by have:=hp k e;omega) (λ_ _ h=>.inl h)).aq,(h.a.to u (λk e=>.inl e) (λk e h=>by have:=j k e;omega) (λ_ _ h=>.inl h)).aq⟩
theorem eM.nil{n l}(hb:ai W g 46 (cP ⟨n,[],[],l⟩ (.slice none 0 0) (.slice none 0 0) va))(hg:base<=g)(j:aB (iM base g (.slice none 0 0) (.slice none 0 0) va) base 26 cd l va W):eM base g ⟨n,[],[],l⟩ (.slice none 0 0) (.slice none 0 0) va W :=
 ⟨hb,hg,aB.nil _ _ _ _ _,aB.nil _ _ _ _ _,j,λb h=>FY⟩
theorem eM.slices(h:eM base g s vl vp va W):(∃A c,vl=.slice A s.list.length c)/\(∃A c,vp=.slice A s.prom.length c)/\∃A c,va=.slice A s.ab.length c:=⟨h.l.slice,h.p.slice,h.a.slice⟩
theorem LO{w cs} s vl vp va(h:ai W g 46 cs)(j:cs.size=4)(k:K w W)(hg:w.heap.size<=g):ai ((((W.setCell ⟨g,0,none⟩ (.int .u64 s.life)).setCell ⟨g,1,none⟩ vl).setCell ⟨g,2,none⟩ vp).setCell ⟨g,3,none⟩ va) g 46 (cP s vl vp va)/\K w ((((W.setCell ⟨g,0,none⟩ (.int .u64 s.life)).setCell ⟨g,1,none⟩ vl).setCell ⟨g,2,none⟩ vp).setCell ⟨g,3,none⟩ va)/\ag (λk=>k=g) W ((((W.setCell ⟨g,0,none⟩ (.int .u64 s.life)).setCell ⟨g,1,none⟩ vl).setCell ⟨g,2,none⟩ vp).setCell ⟨g,3,none⟩ va) :=
 have u:=ag.sets (X:=λk=>k=g) rfl [.int .u64 s.life,vl,vp,va] 0 W
 ⟨FU (us:=[.int .u64 s.life,vl,vp,va]) h j.symm,u.k k λk e=>e▸hg,u⟩
end
theorem yr{α:Type}(p:α->Bool)(l:List α)(j:Nat)(t:j<l.length):(l.take (j+1)).any p=((l.take j).any p||p l[j]):=by rw[gJ t,List.any_append];simp
theorem yw{α:Type} p(l:List α) j(h:(l.take j).any p=true):l.any p=true:=by
 grind
theorem aes l a v w(h:aq aV l v w)(hlen:l.length<=1000000) :
 Calls prog 185 #[v,cN a] w λe w'=>e=.returned (.bool (bV l a))/\K w w':=by
 obtain⟨D,d,rfl,U,-⟩:=h
 have H:Hid (bV l a=l.any λx=>decide (ar x=a)):=ae rfl
 generalize bV l a=R at *
 have y:=ai.new w 26 #[.int .i64 a.1,.int .u64 a.2.1,.int .u64 a.2.2]
 have u:=y.aU
 go_enter func185,ntmps185
 go_upto_region 1 with (fail)
 generalize w.alloc _=M at *
 generalize w.heap.size=g at y⊢
 have Y:=y.cells
 have G:=K.rf M
 clear y
 go_wp2_with fail
 go_loopw [5,8] (fun _ i wr=>∃j:Nat,j<=l.length/\i=.int .i64 j/\Hid ((l.take j).any (fun x=>decide (ar x=a))=false)/\K M wr) (fun _ i _=>l.length-(intOf i).toNat)
 case atStart=>exact⟨0,af,rfl,ae aj,G⟩
 case round =>
  clear G;obtain⟨j,hj,rfl,HT,kr⟩:=hrel;by_cases F:j<l.length
  ·have N:(j:Int)<l.length:=af;obtain⟨E,C,cs1,rfl,S,J,X,dd⟩:=eB U j F ax;have HB:=ae (yr (λx=>decide (ar x=a)) l j F);have Q:=ae (yw (λx=>decide (ar x=a)) l (j+1));generalize l[j]=x at *;obtain⟨Z,Bo,rfl,O,T⟩:=J w (K.rf w);have L:=λW (kW:K wr W)=>Y W (kr.tr kW)
   have p1:∀W,K wr W->W.cell? ⟨E,C+j*8+1,none⟩=some (.int .i64 (ar x).1):=λW kW=>dd W (u.tr (kr.tr kW)) 1 ax
   have p2:∀W,K wr W->W.cell? ⟨E,C+j*8+2,none⟩=some (.int .u64 ((ar x).2.1:Int)):=λW kW=>dd W (u.tr (kr.tr kW)) 2 ax
   have p3:∀W,K wr W->W.cell? ⟨E,C+j*8+3,none⟩=some (.int .u64 ((ar x).2.2:Int)):=λW kW=>dd W (u.tr (kr.tr kW)) 3 ax
   clear S J X dd O T;go_upto_region 4 with (fail);have qs:=And.intro p1 (And.intro p2 (And.intro p3 (And.intro L N)));refine dV 7 ?_;iterate 6 refine au.i ?_
   refine au.is (.bool (decide (ar x=a))) (λV W kW hp=>?_) ?_
   ·simp only[cF,aO,aR,bW,bY,aJ]at hp;simp[bR,aF,List.lookup,hp,cW,execOp,aG,aJ,cT,go_sem];by_cases t:(ar x).1=a.1
    ·by_cases A:(ar x).2.1=a.2.1
     ·by_cases B:(ar x).2.2=a.2.2
      ·rw[show decide (ar x=a)=true from decide_eq_true (Prod.ext t (Prod.ext A B))];simp[t,A,B,cT]
      ·rw[show decide (ar x=a)=false from decide_eq_false (λe=>B IV)];try simp only[t,A,if_true]
       exact Qc
     ·rw[show decide (ar x=a)=false from decide_eq_false (λe=>A IV)];try simp only[t,if_true]
      exact Qc
    ·rw[show decide (ar x=a)=false from decide_eq_false (λe=>t IV)];simp[t,cT]
   intro V W kW hA;simp only[aO,aR,cC,aJ,Nat.reduceAdd]at hA;refine aH.h ?_;have JI:=kr.tr kW;generalize I:decide (ar x=a)=q at *;have HQ:=ae I;clear I hA qs p1 p2 p3 L;cases q
   ·have nh:Hid ((l.take (j+1)).any (λx=>decide (ar x=a))=false):=ae af7;exact V3
   ·have HR:Hid (R=true):=ae (by rw[H.aa];exact Q.aa (by rw[HB.aa];simp));go_wp2;go_ret;exact⟨fW,u.tr JI⟩
  ·have N:¬(j:Int)<l.length:=af;have HR:Hid (R=false):=ae (by
    have t:=HT.aa;rw[gQ af]at t;rw[H.aa,t])
   go_wp2;go_ret;exact⟨fW,u.tr kr⟩
theorem axc{l a k}(hk:k<l.length)(h:l[k]=a):dJ l a=true:=by
 grind [dJ]
theorem avy{l a}(h:∀x∈l,x≠a):dJ l a=false:=by
 grind [dJ]
theorem apK l a v w(h:aq cd l v w)(hlen:l.length<=1000000) :
 Calls prog 237 #[v,cN a] w λe w'=>∃i:Int,e=.returned (.int .i64 i)/\K w w'/\dJ l a=decide (0<=i):=by
 obtain⟨D,d,rfl,X,-⟩:=h
 have U:=ae (@avy l a)
 have R:=ae λk hk=>@axc l a k hk
 have t:=ai.new w 26 #[.int .i64 a.1,.int .u64 a.2.1,.int .u64 a.2.2]
 have y:=t.aU
 go_enter func237,ntmps237
 go_upto_region 1 with (fail)
 generalize w.alloc _=O at *
 generalize w.heap.size=g at t⊢
 have Z:=t.cells
 have G:=K.rf O
 clear t
 go_wp2_with fail
 go_loopw [5,8] (fun _ i wr=>∃j:Nat,j<=l.length/\i=.int .i64 j/\Hid (∀x∈l.take j,x≠a)/\K O wr) (fun _ i _=>l.length-(intOf i).toNat)
 case atStart=>exact⟨0,af,rfl,ae aj,G⟩
 case round =>
  clear G;obtain⟨j,hj,rfl,I,kr⟩:=hrel;by_cases B:j<l.length
  ·have Q:(j:Int)<l.length:=af;obtain⟨F,E,cs1,rfl,T,M,J,dd⟩:=eB X j B ax;have Y:Hid (l[j]≠a->∀x∈l.take (j+1),x≠a):=by
    refine ae λh x t=>?_
    rw[gJ B]at t;rcases List.mem_append.1 t with t|t
    ·exact I.aa x t
    ·grind
   have S:=ae (R.aa j B);generalize l[j]=x at *;obtain rfl:=M w (K.rf w);have N:=λW (kW:K wr W)=>Z W (kr.tr kW)
   have p1:∀W,K wr W->W.cell? ⟨F,E+j*3,none⟩=some (.int .i64 x.1):=λW kW=>J W (y.tr (kr.tr kW))
   have p2:∀W,K wr W->W.cell? ⟨F,E+j*3+1,none⟩=some (.int .u64 x.2.1):=λW kW=>dd W (y.tr (kr.tr kW)) 1 ax
   have p3:∀W,K wr W->W.cell? ⟨F,E+j*3+2,none⟩=some (.int .u64 x.2.2):=λW kW=>dd W (y.tr (kr.tr kW)) 2 ax
   clear T M J dd;go_upto_region 4 with (fail);have qs:=And.intro p1 (And.intro p2 (And.intro p3 (And.intro N Q)));refine dV 6 ?_;iterate 5 refine au.i ?_
   refine au.is (.bool (decide (a=x))) (λV W kW hp=>?_) ?_
   ·simp only[cF,aO,aR,bW,bY,aJ]at hp;simp[bR,aF,List.lookup,hp,cW,execOp,aG,aJ,cT,go_sem];by_cases u:a.1=x.1
    ·by_cases A:a.2.1=x.2.1
     ·by_cases C:a.2.2=x.2.2
      ·rw[show decide (a=x)=true from decide_eq_true (Prod.ext u (Prod.ext A C))];simp[u,A,C,cT]
      ·rw[show decide (a=x)=false from decide_eq_false (λe=>C IV)];try simp only[u,A,if_true]
       exact Qc
     ·rw[show decide (a=x)=false from decide_eq_false (λe=>A IV)];try simp only[u,if_true]
      exact Qc
    ·rw[show decide (a=x)=false from decide_eq_false (λe=>u IV)];simp[u,cT]
   intro V W kW hA;simp only[aO,aR,cC,aJ,Nat.reduceAdd]at hA;refine aH.h ?_;have JI:=kr.tr kW;generalize H:decide (a=x)=q at *;have L:=ae H;clear H hA qs p1 p2 p3 N;cases q
   ·have nh:=ae (Y.aa λe=>by have:=of_decide_eq_false L.aa;exact this e.symm);exact V3
   ·have HR:=ae (S.aa (of_decide_eq_true L.aa).symm);go_wp2;go_ret;exact⟨_,rfl,y.tr JI,fP⟩
  ·have Q:¬(j:Int)<l.length:=af;have HR:=ae (U.aa (by
    have u:=I.aa;rw[gQ af]at u;exact u))
   go_wp2;go_ret;exact⟨_,rfl,y.tr kr,fP⟩
theorem Fw l a v w(h:aq cd l v w)(C:l.length<=1000000) :
 Calls prog 144 #[v,cN a] w λe w'=>e=.returned (.bool (dJ l a))/\K w w':=by
 have j:=h
 obtain⟨D,d,rfl,G,-⟩:=h
 have B:=ai.new w 26 #[.int .i64 a.1,.int .u64 a.2.1,.int .u64 a.2.2]
 have t:=B.aU
 have E:=ae λW (kW:K w W)=>apK l a _ W (bo j kW) C
 clear j G
 go_enter func144,ntmps144
 go_wp2_with fail
 generalize w.alloc _=A at *
 refine (E.aa A t).mono ?_
 rintro e H⟨i,rfl,y,u⟩
 have F:=ae u
 clear u
 go_wp2
 go_ret
 exact⟨by rw[F.aa];rfl,t.tr y⟩
theorem DI s a v w(h:nQ s v w)(B:s.list.length<=1000000) :
 Calls prog 107 #[v,cN a] w λe w'=>e=.returned (.bool (bV s.list a))/\K w w':=by
 obtain⟨vl,vp,va,rfl,t,hp,u⟩:=h
 have C:=ae λW (kW:K w W)=>aes s.list a _ W (bo t kW) B
 have j:=K.lW w (.cells (cP s vl vp va) 46) (.cells #[.int .i64 a.1,.int .u64 a.2.1,.int .u64 a.2.2] 26)
 clear t hp u
 go_enter func107,ntmps107
 go_wp2_with fail
 generalize World.alloc (World.alloc w _) _=A at *
 apply aM (C.aa A j)
 intro D y
 go_wp2
 go_ret
 exact⟨rfl,j.tr y⟩
theorem Ky s a v w(h:nQ s v w)(A:s.prom.length<=1000000) :
 Calls prog 202 #[v,cN a] w λe w'=>e=.returned (.bool (bV s.prom a))/\K w w':=by
 obtain⟨vl,vp,va,rfl,C,hp,t⟩:=h
 have B:=ae λW (kW:K w W)=>aes s.prom a _ W (bo hp kW) A
 have j:=K.lW w (.cells (cP s vl vp va) 46) (.cells #[.int .i64 a.1,.int .u64 a.2.1,.int .u64 a.2.2] 26)
 clear C hp t
 go_enter func202,ntmps202
 go_wp2_with fail
 generalize World.alloc (World.alloc w _) _=y at *
 apply aM (B.aa y j)
 intro D u
 go_wp2
 go_ret
 exact⟨rfl,j.tr u⟩
theorem Io s a v w(h:nQ s v w)(A:s.ab.length<=1000000) :
 Calls prog 186 #[v,cN a] w λe w'=>e=.returned (.bool (dJ s.ab a))/\K w w':=by
 obtain⟨vl,vp,va,rfl,C,hp,j⟩:=h
 have B:=ae λW (kW:K w W)=>Fw s.ab a _ W (bo j kW) A
 have t:=K.lW w (.cells (cP s vl vp va) 46) (.cells #[.int .i64 a.1,.int .u64 a.2.1,.int .u64 a.2.2] 26)
 clear C hp j
 go_enter func186,ntmps186
 go_wp2_with fail
 generalize World.alloc (World.alloc w _) _=y at *
 apply aM (B.aa y t)
 intro D u
 go_wp2
 go_ret
 exact⟨rfl,t.tr u⟩
def ig(a:aS)(x:aK):Bool:=decide (ar x=a)
theorem KZ a x:ig a x=(decide (x.br=a.1)&&decide (x.life=a.2.1)&&decide (x.b6=a.2.2)):=by
 grind [ig,ar]
theorem abN x a v g w(h:dm x v w)(hg:ai w g 26 #[.int .i64 a.1,.int .u64 a.2.1,.int .u64 a.2.2]) :
 Calls prog 279 #[v,.pointer (some ⟨g,0,none⟩)] w λe w'=>e=.returned (.bool (ig a x))/\K w w':=by
 obtain⟨vf,G,rfl,t,j⟩:=h
 obtain⟨A,c,rfl⟩:=cA t
 obtain⟨D,d,rfl⟩:=av j
 clear t j
 have y:=ae (KZ a x)
 have q:=hg.cells
 have F:=λo=>(K.rf w).al o
 obtain⟨B,E,C⟩:=a
 obtain⟨k,b,l,s,cl,u,f,es⟩:=x
 simp only at q y⊢
 generalize ig (B,E,C) ⟨k,b,l,s,cl,u,f,es⟩=R at *
 go_enter func279,ntmps279
 go_wp2
 all_goals
  go_ret
  refine⟨?_,(K.rf w).al _⟩
  rw[y.aa]
  show Ending.returned (.bool _)=Ending.returned (.bool _)
  clear q F
  first|(simp_all;done)|(simp_all;omega)|(congr 2;rw[Bool.eq_iff_iff];simp_all;omega)
theorem aoz A c l a g w(h:zf aV l A w)(S:l.length<=1000000)(hg:ai w g 26 #[.int .i64 a.1,.int .u64 a.2.1,.int .u64 a.2.2]) :
 Calls prog 236 #[.slice A l.length c,.func (Fn.func 279) #[] #[.pointer (some ⟨g,0,none⟩)]] w λe w'=>∃i:Int,e=.returned (.int .i64 i)/\K w w'/\((i=-1/\∀x∈l,ig a x=false)∨∃k:Nat,k<l.length/\i=(k:Int)/\(∀x∈l.take k,ig a x=false)/\∀x,l[k]?=some x->ig a x=true):=by
 have C:=K.rf w
 go_enter func236,ntmps236
 go_wp2_with fail
 go_loopw [5,8] (fun _ i wr=>∃k:Nat,k<=l.length/\i=.int .i64 k/\Hid (∀t∈l.take k,ig a t=false)/\K w wr) (fun _ i _=>l.length-(intOf i).toNat)
 case atStart=>exact⟨0,af,rfl,ae aj,C⟩
 case round =>
  clear C;obtain⟨k,hk,rfl,hall,kr⟩:=hrel;by_cases hlt:k<l.length
  ·have L:(k:Int)<l.length:=af;obtain⟨H,D,cs,rfl,O,B,y,d⟩:=eB h k hlt ax;have J:Hid (ig a l[k]=false->∀t∈l.take (k+1),ig a t=false):=af8;have I:Hid (ig a l[k]=true->∀x,l[k]?=some x->ig a x=true):=ae λh x hx=>by
    grind
   generalize l[k]=t at *;obtain⟨vf,F,rfl,G,E⟩:=B wr kr;have y:∀W,K w W->W.cell? ⟨H,D+k*8,none⟩=some (.int .i64 t.kind):=y;have d:∀W,K w W->∀i,i<8->W.cell? ⟨H,D+k*8+i,none⟩=(aE t vf F)[i]?:=λW j M=>λN=>(d W j M N).trans Array.getElem?_toList
   clear B O;go_wp2_with fail
   apply cG (abN t a _ g wr ⟨vf,F,rfl,G,E⟩ (hg.ay kr)) kr;intro Q R kW;clear d y G E;cases hx:ig a t
   ·have nR:=ae (J.aa hx);exact IW
   ·have u:=ae (I.aa hx);go_wp2;go_ret;exact⟨_,rfl,kW,.inr ⟨k,hlt,rfl,hall.aa,u.aa⟩⟩
  ·have L:¬(k:Int)<l.length:=af;have u:=ae (by
    have:=hall.aa;rw[gQ af]at this;exact this)
   go_wp2;go_ret;exact⟨_,rfl,kr,.inl ⟨rfl,u.aa⟩⟩
def Ek(a:aS)(z:List (aK×List Value)):List (aK×List Value):=z.filter λp=>!ig a p.1
theorem V4{α β:Type}:∀(l:List α) (m:List β),m.length=l.length->(l.zip m).map (·.1)=l
 | [],[],_=>rfl
 | _ :: _,[],h=>xy
 | [],_ :: _,h=>xy
 | x :: l,y :: m,h=>by simp at h;simp[V4 l m h]
theorem af9{α β:Type}:∀(l:List α) (m:List β),m.length=l.length->(l.zip m).map (·.2)=m
 | [],[],_=>rfl
 | _ :: _,[],h=>xy
 | [],_ :: _,h=>xy
 | x :: l,y :: m,h=>by simp at h;simp[af9 l m h]
theorem avz{α S W}:∀(z:List (α×List Value)),(∀p∈z,S.rel p.1 p.2 W)->Each S (z.map (·.1)) (z.map (·.2)) W:=by
 intro z h
 refine⟨aj,λi t j=>?_⟩
 grind
theorem aqt{α S W}{l:List α}{css}(h:Each S l css W):∀p∈l.zip css,S.rel p.1 p.2 W:=by intro p hp;obtain⟨i,j,rfl⟩:=List.mem_iff_getElem.1 hp;simp only[List.getElem_zip];have t:=h.1;rw[List.length_zip]at j;exact h.2 i af af
theorem aet{l css}(j:css.length=l.length) a:(Ek a (l.zip css)).map (·.1)=ja l a:=by unfold Ek ja;rw[show (λp:aK×List Value=>!ig a p.1)=(λx=>!decide (ar x=a)) ∘ (·.1)from rfl,<- List.filter_map,V4 l css j]
theorem aeu:∀(us xs:List Value) (q:Nat),q+us.length<=xs.length->oU xs q us=xs.take q++us++xs.drop (q+us.length)
 | [],xs,q,_=>by simp[oU]
 | u :: us,xs,q,h=>by simp only[fg]at h;rw[oU,aeu us _ (q+1) ba];rw[gJ ba,List.take_set_of_le (aD _),List.drop_set_of_lt af];simp[Nat.add_assoc,Nat.add_comm 1]
theorem apb{P w t e z cur}(B:P.underlying t=some (.slice e))(C:∀w,(zeroValue e).run P w=.ok z w) g o m(hb:ai w g e cur)(F:o+m*z.cells.size<=cur.size)(I:0<m)(J:∀u∈z.cells.toList,u.oneCell'=true)(hz:0<z.cells.size) :
 ∃w' j,(∀ty c,(Builtin.clear_ #[t] ty #[.slice (some ⟨g,o,none⟩) m c]).run P w=.ok (.tuple #[]) w')/\ai w' g e j/\j.size=cur.size/\j.toList.take o=cur.toList.take o/\w.grownBy w' (some g):=by
 have G:(Builtin.zeroCells z.cells m).toList.length=m*z.cells.size:=by simp[Builtin.zeroCells]
 have D:∀u∈(Builtin.zeroCells z.cells m).toList,u.oneCell'=true:=by
  intro u A
  simp only[Builtin.zeroCells,Array.toList_map,List.mem_map]at A
  obtain⟨i,H,rfl⟩:=A
  grind [Nat.mod_lt]
 have y:=run_storeCells_at P g o e (Builtin.zeroCells z.cells m).toList 0 cur w hb af D
 simp only[Nat.add_zero]at y
 refine⟨_,(cur.toList.take o++(Builtin.zeroCells z.cells m).toList++cur.toList.drop (o+(Builtin.zeroCells z.cells m).toList.length)).toArray,λty c=>?_,setRow_heap w g cur _ e _ hb,?_,?_,⟨rfl,rfl,rfl,aj,λk hk E=>setRow_other w g k _ (λe=>E DU)⟩⟩
 ·cases m with
  | zero=>omega
  | succ m=>simp[Builtin.clear_,run_underlying B,C,y]
 all_goals grind
theorem abE{α:Type}{n}:∀(css:List (List α)),(∀cs∈css,cs.length=n)->∀k,(css.take k).flatten=css.flatten.take (k*n)
 | [],_,k=>aj
 | c :: css,h,0=>aj
 | c :: css,h,k+1=>by have hc:=h c aj;have ih:=abE css (λx hx=>h x IQ) k;exact aga
theorem ayq W:(zeroValue 126).run prog W=.ok (.agg eQ) W:=by rfl
theorem ay8{α:Type}(l:List α)(h:l.length=8):∃u c1 c2 c3 c4 c5 j t,l=[u,c1,c2,c3,c4,c5,j,t]:=by
 match l,h with
 | [u,c1,c2,c3,c4,c5,j,t],_=>exact⟨_,_,_,_,_,_,_,_,rfl⟩
structure AF(l:List aK)(css:List (List Value))(a:aS)(j i:Nat)(cur:List (List Value)):Prop where
 len:cur.length=l.length
 lens:∀cs∈cur,cs.length=8
 pre:cur.take i=(Ek a ((l.zip css).take j)).map (·.2)
 post:cur.drop j=css.drop j
 lt:i<j
theorem AF.cut{l css cur a j i}(u:css.length=l.length)(h:AF l css a j i cur)(y:j<l.length)(t:ig a l[j]=true):AF l css a (j+1) i cur:=by
 refine⟨h.len,h.lens,?_,?_,by have:=h.lt;omega⟩
 ·rw[h.pre,gJ aA];simp[Ek,t]
 ·exact agb
theorem AF.at{l css cur a j i}(_:css.length=l.length)(h:AF l css a j i cur)(_:j<l.length)(u:j<cur.length)(t:j<css.length):cur[j]=css[j]:=by
 have:=congrArg (λx=>x[0]?) h.post
 grind
theorem AF.keep{l:List aK}{css cur:List (List Value)}{a:aS}{j i:Nat}(C:css.length=l.length)(h:AF l css a j i cur)(D:j<l.length)(u:ig a l[j]=false)(y:(css[j]'af).length=8):AF l css a (j+1) (i+1) (cur.set i (css[j]'af)):=by
 have E:=h.len;have B:=h.lt;refine⟨aA,λcs t=>?_,?_,?_,af⟩
 ·rcases List.mem_or_eq_of_mem_set t with A|rfl
  ·exact h.lens _ A
  ·exact y
 ·rw[gJ aA,List.take_set_of_le (aD _),h.pre,gJ aA];simp[Ek,u]
 ·rw[List.drop_set_of_lt af];exact agb
theorem aox l a H base v css w(hown:w.ownsRow base 126 8 v l.length css.flatten)(C:css.length=l.length)
 (hE:∀W,ag (λk=>v.ownBlock=some k) w W->Each aV l css W) (hg:ai w H 26 #[.int .i64 a.1,.int .u64 a.2.1,.int .u64 a.2.2]) (hlen:l.length<=1000000) :
 Calls prog 278 #[v,.func (Fn.func 279) #[] #[.pointer (some ⟨H,0,none⟩)]] w λe w'=>∃v' B,e=.returned v'/\w'.ownsRow base 126 8 v' (ja l a).length B.flatten/\B.length=(ja l a).length/\v'.ownBlock=v.ownBlock/\w.grownBy w' v.ownBlock/\∀W,Each aV l css W->Each aV (ja l a) B W:=by
 have Zx:=hE w (ag.rf _ _)
 have azT:=Pa (S:=aV) hown Zx
 obtain⟨A,c,rfl,hl,hc⟩:=azT
 have C1:=ae (aoz A c l a H w hl hlen hg)
 have HN:Hid ((∀x∈l,ig a x=false)->ja l a=l):=ae λh=>by unfold ja;rw[List.filter_eq_self];intro x hx;have:=h x hx;simpa [ig]using this
 have Z:=ae hown
 have HC:=ae hE
 have c8:=ae Zx.lens
 clear hown hE Zx hl
 go_enter func278,ntmps278
 go_wp2_with fail
 refine C1.aa.mono ?_
 rintro e w2⟨i0,rfl,N,hi⟩
 rcases hi with ⟨rfl,U⟩|⟨k,hk,rfl,U,hit⟩
 ·have E:=ae (HN.aa U);clear U;go_wp2;go_ret;refine⟨_,css,rfl,by rw[E.aa];exact qv Z.aa N,by rw[E.aa];exact C,rfl,BN N _,λW h=>by rw[E.aa];exact h⟩
 have pz:Hid (AF l css a (k+1) k css):=ae (by
  refine⟨C,c8.aa,?_,rfl,af⟩;rw[gJ aA];have h1:=hit _ (List.getElem?_eq_getElem hk);have h2:Ek a ((l.zip css).take k)=(l.zip css).take k:=by unfold Ek;rw[List.filter_eq_self];intro p hp;have this:p.1∈((l.zip css).take k).map (·.1):=List.mem_map_of_mem hp;rw[List.map_take,V4 l css C]at this;simp[U p.1 this]
  unfold Ek at h2⊢;rw[List.filter_append,h2];simp[h1];rw[af9 l css C])
 clear U hit HN
 rcases Z.aa.2 with ⟨h0,EJ⟩|⟨g,cap,cur,e0,g1,g2,g3,g4,g5,g6⟩
 ·omega
 obtain⟨rfl,e3⟩:A=some ⟨g,0,none⟩/\cap=c:=aA
 subst e3
 have hg0:w.grownBy w2 (some g):=BN N _
 have bA:=ae (qv Z.aa N)
 have hgg:H≠g:=by rintro rfl;exact absurd ((show ai w H _ cur from g2).ie hg) ax
 have HG:=ae hg
 have hcm:cap<=9223372036854775807:=g4
 have pY:(k:Int)+1<=(l.length:Int):=af
 clear Z N g5 g6 g2 hg g4 C1
 go_wp2_with fail
 go_loopw [5,6,7] (fun i j _ W=>∃(j' i':Nat) (y:List (List Value)),j=.int .i64 j'/\i=.int .i64 i'/\j'<=l.length/\i'<j'/\Hid (AF l css a j' i' y)/\Hid (W.ownsRow base 126 8 (.slice (some ⟨g,0,none⟩) l.length cap) l.length y.flatten)/\w.grownBy W (some g)) (fun _ j _ _=>l.length-(intOf j).toNat)
 case atStart=>exact⟨k+1,k,css,bI,rfl,af,af,pz,bA,hg0⟩
 case round =>
  clear pz bA hg0;obtain⟨j,i,y,rfl,rfl,hj,hij,E,D,kr⟩:=hrel;by_cases T:j<l.length
  ·have aP:(j:Int)<l.length:=af;have zl:(i:Int)<l.length:=af;have hrel:=(HC.aa wr (ag.eU kr (λ_ h=>h))).2 j T af;have c8j:=c8.aa _ (bZ (show j<css.length by omega));have u:=E.aa;have HK:=ae (u.keep C T);have HX:=ae (u.cut C T);have hat:=u.at C T (by rw[u.len];exact T) af;obtain⟨O,hfz⟩:=FF D.aa;have cR:=D.aa.1;have aEN:=u.len;have Y:=u.lens;generalize hx:l[j]=x at *;obtain⟨vf,ve,hcs,hf,he⟩:=hrel;have d:∀i,i<8->wr.cell? ⟨g,j*8+i,none⟩=(aE x vf ve)[i]?:=λi hi=>by rw[O _ af,yx 8 y Y j i af hi,List.getElem?_eq_getElem (show j<y.length by omega),Option.getD_some,hat,hcs];exact Array.getElem?_toList
   have d0:wr.cell? ⟨g,j*8,none⟩=some (.int .i64 x.kind):=d 0 af;have hEv:Hid (∀W,K wr W->dm x (.agg (aE x vf ve)) W):=ae λW k=>⟨_,_,rfl,eO _ _ _ _ hf k,bo he k⟩
   have hgr:=HG.aa.grown kr (λe=>hgg (by injection e));obtain⟨F,I,rfl⟩:=cA hf;obtain⟨L,G,rfl⟩:=av he;have dY:=ai.new wr 126 (aE x (.slice F x.f.length I) (.slice L x.es.length G));have k5:=dY.aU;clear O hf he hat u;go_upto_region 8 with (fail);have HG5:=hgr.ay k5;have lM:=oO kr (BN k5 (some g));have iy:=qv D.aa k5;have hE5:=hEv.aa _ k5;have rX:=(D.aa.lt g rfl).2;clear d d0;generalize wr.alloc _=w5 at *;generalize wr.heap.size=g5 at *;have q5:=dY.cell;go_wp2_with fail
   refine (abN x a _ H w5 hE5 HG5).mono ?_;rintro e R⟨rfl,k6⟩;have Q:=qv iy k6;have ni:=oO lM (BN k6 (some g));have q6:=(dY.ay k6).cell;clear q5 iy;cases hq:ig a x
   ·have GV:=HK.aa hq c8j;have V:=Py (aE x (.slice F x.f.length I) (.slice L x.es.length G)).toList _ (i*8) R Q (by rw[cR];show i*8+8<=_;omega);have e9:=OQ 8 (aE x (.slice F x.f.length I) (.slice L x.es.length G)).toList y Y i 0 af aj;rw[Nat.add_zero]at e9;rw[e9,aeu _ _ _ FQ]at V;have fO:(y[i]'af).take 0++(aE x (.slice F x.f.length I) (.slice L x.es.length G)).toList++(y[i]'af).drop (0+(aE x (.slice F x.f.length I) (.slice L x.es.length G)).toList.length)=css[j]'af:=by simp_all
    rw[fO]at V;have J:ag (λk=>k=g) R (ef R g (i*8) (aE x (.slice F x.f.length I) (.slice L x.es.length G)).toList):=ag.sets (X:=λk=>k=g) (g:=g) rfl _ _ _;have iz:=oO ni ⟨J.os,J.tape,J.output,J.size,λk hk hne=>J.block k hk aA⟩;obtain⟨O,hfz⟩:=FF Q;obtain⟨c0,c1,c2,c3,c4,c5,c6,c7,hci⟩:=ay8 (y[i]'af) (Y _ (bZ _));have d6:∀t,t<8->R.cell? ⟨g,i*8+t,none⟩=#[c0,c1,c2,c3,c4,c5,c6,c7][t]?:=λt ht=>by rw[O _ af,yx 8 y Y i t af ht,List.getElem?_eq_getElem (show i<y.length by omega),Option.getD_some,hci];exact Array.getElem?_toList
    have d60:R.cell? ⟨g,i*8,none⟩=some c0:=d6 0 af;have z6:=λt=>hfz (i*8+t)
    have z60:=hfz (i*8);have JJ:=ae GV;have Zy:=ae V;clear V J O hfz e9 fO hci HK HX GV hcs Q;go_wp2;go_roundw
    case rel =>
     (repeat apply Exists.intro)
     refine⟨?_,rfl⟩
     exact⟨j+1,i+1,_,bI,bI,af,af,JJ,Zy,iz⟩
    case measure=>simp[intOf];omega
   ·have HX3:=ae (HX.aa hq);have Zy:=ae Q;clear HK HX hcs Q;go_wp2;go_roundw
    case rel =>
     (repeat apply Exists.intro)
     refine⟨?_,rfl⟩
     exact⟨j+1,i,_,bI,rfl,af,af,HX3,Zy,ni⟩
    case measure=>simp[intOf];omega
  ·have aP:¬(j:Int)<l.length:=af;obtain rfl:j=l.length:=af;have u:=E.aa;have cR:=D.aa.1;rcases D.aa.2 with ⟨h0,EJ⟩|⟨g',cap',cur,e0,r1,r2,r3,r4,r5,r6⟩
   ·cases h0
   injection e0 with M _ e3;injection M with M;injection M with M;subst M e3;have Sh:(Value.agg eQ).cells.size=8:=rfl;obtain⟨W2,Ro,azU,hb2,fG,ht2,dM⟩:=apb (P:=prog) (w:=wr) (t:=43) (e:=126) underlying43 ayq g (i*8) (l.length-i) r2 aA af ax ax;have iz:=oO kr dM;have xK:=u.pre;rw[gQ (l:=l.zip css) aA]at xK;have pY:(ja l a).length=i:=by rw[<- aet C a,List.length_map,<- List.length_map (f:=λx:aK×List Value=>x.2),<- xK,qI,u.len];omega
   have HF:Hid (∃B,W2.ownsRow base 126 8 (.slice (some ⟨g,0,none⟩) i cap) i B.flatten/\B.length=i/\∀W,Each aV l css W->Each aV (ja l a) B W):=ae (by
    refine⟨y.take i,?_,by rw[qI,u.len];omega,λW hW=>?_⟩
    ·refine⟨?_,.inr ⟨g,cap,Ro,rfl,r1,hb2,af,r4,af,?_⟩⟩
     ·rw[BQ 8 _ (λcs h=>u.lens cs (om h)),qI,u.len];rw[Nat.min_eq_left af]
     ·rw[ht2];have M:=r6;have e2:=abE y u.lens i;grind
    ·rw[xK,<- aet C a];exact avz _ λp hp=>aqt hW p (List.mem_filter.1 hp).1)
   have hil:i<=l.length:=af;have zl:(i:Int)<=l.length:=af;have hic:i<=cap:=af;have hnc:¬cap=i:=af;have aEO:(i:Int)<=cap:=af;clear u xK r5 r6 r2 E D cR hb2 ht2 HC;go_wp2;go_ret;obtain⟨B,f1,f2,f3⟩:=HF.aa;exact⟨_,rfl,B,f1,f2,rfl,iz,f3⟩
theorem Uo s a base g w(h:zt base g s w)(U:s.prom.length<=1000000)(J:base<=w.heap.size) :
 Calls prog 217 #[.pointer (some ⟨g,0,none⟩),cN a] w λe w'=>e=.returned (.tuple #[])/\zt base g ⟨s.life,s.list,ja s.prom a,s.ab⟩ w'/\Below base w w':=by
 obtain⟨vl,vp,va,h⟩:=h
 have C:=ai.new w 26 #[.int .i64 a.1,.int .u64 a.2.1,.int .u64 a.2.2]
 have F:=C.aU
 go_enter func217,ntmps217
 go_upto_region 1 with (fail)
 have y:=h.st F
 generalize w.alloc _=N at *
 generalize w.heap.size=V at C⊢
 have q:=y.blk.cell
 have z:=y.blk.frozen
 obtain⟨css,M,A,j⟩:=y.p
 have X:=ae (aox s.prom a V base vp css N M A (λW u=>j W (u.more λk e=>.inr e)) C U)
 have B:=ae y
 have T:=ae j
 clear h y C M A j
 go_wp2_with fail
 refine X.aa.mono ?_
 rintro e H⟨v',S,rfl,L,A,O,I,j⟩
 have t:rQ vp N H:=ag.eU I λ_ h=>h
 have G:=B.aa.Yz t (v':=v') ⟨S,L,A,λW u=>j W (T.aa W ((t.more λ_ h=>.inr h).gF u λk _ h=>by rwa [O]at h))⟩ λb e=>.inl (O▸e)
 have D:=λb=>(B.aa.sep b).2.1
 have E:=B.aa.blk.aW t λe=>(D g e).2.1 rfl
 have R:Below base w (H.setCell ⟨g,2,none⟩ v'):=((F.mono J).trans (t.low (λk e=>(D k e).1) (bn J F.size))).setCell B.aa.low _
 have q:=E.cell
 have z:=E.frozen
 have Q:=ae G
 obtain⟨A',Y,rfl⟩:=G.p.slice
 clear G L A I j E D t
 go_wp2
 go_end0
 exact⟨rfl,⟨_,_,_,Q.aa⟩,R⟩
def YA(g:Nat)(vl vp va:Value)(k:Nat):Prop:=k=g∨vl.ownBlock=some k∨vp.ownBlock=some k∨va.ownBlock=some k
structure p7(base g gs gr:Nat)(s:dA)(r:Rec)(vl vp va vf ve:Value)(w:World):Prop where
 st:eM base g s vl vp va w
 bs:ai w gs 201 #[.pointer (some ⟨g,0,none⟩)]
 br:ai w gr 197 (eY r vf ve)
 en:Fx (YA g vl vp va) (λW=>dm r.e (.agg (aE r.e vf ve)) W) w
 low:base<=w.heap.size
 sz:s.list.length<=900000/\s.prom.length<=900000/\s.ab.length<=900000
 sm:eJ r.e
def D6(base g:Nat)(s:dA)(o:Option dA)(w:World)(e:Ending)(w':World):Prop:=e=.returned (.bool o.isSome)/\zt base g (o.getD s) w'/\Below base w w'
section
variable {base g gs gr:Nat} {s:dA} {r:Rec} {vl vp va vf ve:Value} {w w' W:World} {o:Option dA} {t:dA}
theorem p7.k(h:p7 base g gs gr s r vl vp va vf ve w)(k:K w W):p7 base g gs gr s r vl vp va vf ve W :=
 ⟨h.st.st k,h.bs.ay k,h.br.ay k,h.en.k k,bn h.low k.size,h.sz,h.sm⟩
theorem p7.up{X}(h:p7 base g gs gr s r vl vp va vf ve w)(j:¬X g/\¬X gs/\¬X gr):∀W,ag X w W->(∀i,W.cell? ⟨g,i,none⟩=(cP s vl vp va)[i]?)/\(∀i,W.cell? ⟨gs,i,none⟩=#[Value.pointer (some ⟨g,0,none⟩)][i]?)/\∀i,W.cell? ⟨gr,i,none⟩=(eY r vf ve)[i]? :=
 λ_ u=>⟨(h.st.blk.aW u j.1).cell,(h.bs.aW u j.2.1).cell,(h.br.aW u j.2.2).cell⟩
theorem p7.q(h:p7 base g gs gr s r vl vp va vf ve w) W(k:K w W):(∀i,W.cell? ⟨g,i,none⟩=(cP s vl vp va)[i]?)/\(∀i,W.cell? ⟨gs,i,none⟩=#[Value.pointer (some ⟨g,0,none⟩)][i]?)/\∀i,W.cell? ⟨gr,i,none⟩=(eY r vf ve)[i]? :=
 h.up (X:=λ_=>False) ⟨id,id,id⟩ W (ag.aT k _)
theorem zu.no(e:o=none)(h:eM base g s vl vp va w')(b:Below base w w'):D6 base g s o w (.returned (.bool false)) w':=by subst e;exact⟨rfl,⟨_,_,_,h⟩,b⟩
theorem zu.yes(e:o=some t)(h:zt base g t w')(b:Below base w w'):D6 base g s o w (.returned (.bool true)) w':=by subst e;exact⟨rfl,h,b⟩
end
theorem atw{base g u gr s r vl vp va vf B} w(h:p7 base g u gr s r vl vp va vf B w) :
 Calls prog 214 #[.pointer (some ⟨gr,0,none⟩),.pointer (some ⟨u,0,none⟩)] w λe w'=>D6 base g s (zo s r) w e w':=by
 have A:Hid (zo s r=if r.n<=s.life then none else some ⟨r.n,s.list,s.prom,s.ab⟩):=ae rfl
 generalize zo s r=R at *
 have qs:=h.q
 have H:=ae h
 clear h
 go_enter func214,ntmps214
 go_upto_region 1 with (fail)
 refine dV 7 ?_
 iterate 7 refine au.i ?_
 intro V W kW hA
 simp only[aO,aR,cC,aJ,Nat.reduceAdd]at hA
 refine aH.h ?_
 have t:=ae (H.aa.k kW)
 have y:=kW.mono H.aa.low
 obtain⟨C,D,E⟩:=qs W kW
 have z:=t.aa.st.blk.frozen
 clear qs hA
 by_cases j:r.n<=s.life
 ·rw[decide_eq_true j];go_wp2;go_ret;exact zu.no (by rw[A.aa,if_pos j]) t.aa.st y
 ·rw[decide_eq_false j];go_wp2;go_ret;exact zu.yes (by rw[A.aa,if_neg j]) ⟨_,_,_,t.aa.st.axb r.n⟩ (y.setCell H.aa.st.low _)
theorem atx{base g t gr s r vl vp va vf F} w(h:p7 base g t gr s r vl vp va vf F w) :
 Calls prog 220 #[.pointer (some ⟨t,0,none⟩),.pointer (some ⟨gr,0,none⟩)] w λe w'=>D6 base g s (zq s r) w e w':=by
 have C:Hid (zq s r=if bV s.prom (iP r)then some ⟨s.life,s.list,ja s.prom (iP r),s.ab⟩else none):=ae rfl
 generalize zq s r=R at *
 have qs:=And.intro h.q (show iP r=(r.br,r.life,r.b6)from rfl)
 have H:=ae h
 have A:=ae λW (kW:K w W)=>Ky s (iP r) _ W (h.st.st kW).nQ V5
 clear h
 go_enter func220,ntmps220
 go_upto_region 1 with (fail)
 generalize bV s.prom (iP r)=B at *
 refine dV 7 ?_
 iterate 5 refine au.i ?_
 refine au.v A.aa ?_
 refine au.i ?_
 intro V W kW hA
 simp only[aO,aR,cC,aJ,Nat.reduceAdd]at hA
 refine aH.h ?_
 have j:=ae (H.aa.k kW)
 have u:=kW.mono H.aa.low
 have E:=ae (Uo s (iP r) base g W ⟨_,_,_,j.aa.st⟩ (by have:=H.aa.sz;omega) j.aa.low)
 obtain⟨G,J,L⟩:=qs.1 W kW
 clear qs hA A
 cases B
 ·go_wp2;go_ret;exact zu.no C.aa j.aa.st u
 ·go_wp2_with fail
  apply aM E.aa;rintro I⟨y,hb⟩;have D:=ae y;clear y;go_wp2;go_ret;exact zu.yes C.aa D.aa (u.trans hb)
section
variable {base g gs gr:Nat} {s:dA} {r:Rec} {vl vp va vf ve:Value} {w W:World}
theorem p7.ns(h:p7 base g gs gr s r vl vp va vf ve w){v}(t:v=vl∨v=vp∨v=va):¬v.ownBlock=some g/\¬v.ownBlock=some gs/\¬v.ownBlock=some gr:=by
 have key:∀ {b e cs},ai w b e cs->v.ownBlock=some b->e=126∨e=26:=λhb j=>by
  rcases t with rfl|rfl|rfl
  ·exact .inl ((h.st.l.own j).2.2.elim λ_ k=>hb.ie k)
  ·exact .inl ((h.st.p.own j).2.2.elim λ_ k=>hb.ie k)
  ·exact .inr ((h.st.a.own j).2.2.elim λ_ k=>hb.ie k)
 exact⟨λe=>absurd (key h.st.blk e) ax,λe=>absurd (key h.bs e) ax,λe=>absurd (key h.br e) ax⟩
theorem p7.far(h:p7 base g gs gr s r vl vp va vf ve w){v}(A:v=vl∨v=vp∨v=va)(u:rQ v w W) i x{b e cs}(hb:ai w b e cs)(j:e≠126/\e≠26/\e≠46):ai (W.setCell ⟨g,i,none⟩ x) b e cs:=by
 have B:¬v.ownBlock=some b:=λt=>by
  rcases A with rfl|rfl|rfl
  ·exact j.1 ((h.st.l.own t).2.2.elim λ_ k=>hb.ie k)
  ·exact j.1 ((h.st.p.own t).2.2.elim λ_ k=>hb.ie k)
  ·exact j.2.1 ((h.st.a.own t).2.2.elim λ_ k=>hb.ie k)
 exact (hb.aW u B).far (λy=>j.2.2 (hb.ie (by rw[y];exact h.st.blk))) x
theorem p7.YB(h:p7 base g gs gr s r vl vp va vf ve w){v}(j:v=vl∨v=vp∨v=va)(u:rQ v w W) i x:Below base w (W.setCell ⟨g,i,none⟩ x) :=
 (u.low (λk e=>by have:=h.st.sep k;rcases j with rfl|rfl|rfl <;> grind) h.low).setCell h.st.low _
end
theorem aty{base g F gr s r vl vp va vf ve} w(h:p7 base g F gr s r vl vp va vf ve w) :
 Calls prog 219 #[.pointer (some ⟨F,0,none⟩),.pointer (some ⟨gr,0,none⟩)] w λe w'=>D6 base g s (xT s r) w e w':=by
 have Q:Hid (xT s r=if bV s.list (iP r)then none else if dJ s.ab (iP r)then none else some ⟨s.life,s.list,ja s.prom (iP r),s.ab++[iP r]⟩):=ae rfl
 generalize xT s r=R at *
 have qs:=And.intro h.q (show iP r=(r.br,r.life,r.b6)from rfl)
 have H:=ae h
 have O:=ae λW (kW:K w W)=>DI s (iP r) _ W (h.st.st kW).nQ V5
 have I:=ae λW (kW:K w W)=>Io s (iP r) _ W (h.st.st kW).nQ V5
 generalize bV s.list (iP r)=u at *
 generalize dJ s.ab (iP r)=E at *
 clear h
 go_enter func219,ntmps219
 go_upto_region 1 with (fail)
 rcases (show (u=true∨u=false/\E=true)∨u=false/\E=false by grind)with (rfl|⟨rfl,rfl⟩)|⟨rfl,rfl⟩
 all_goals
  refine dV 14 ?_
  iterate 14 first|refine au.i ?_|refine au.v O.aa ?_|refine au.v I.aa ?_
  intro V W kW hA
  simp only[aO,aR,cC,aJ,Nat.reduceAdd]at hA
  refine aH.h ?_
  have HW:=ae (H.aa.k kW)
  have G:=kW.mono H.aa.low
  obtain⟨U,L,D⟩:=qs.1 W kW
  clear hA O I qs
 iterate 2
  (go_wp2
   go_ret
   exact zu.no Q.aa HW.aa.st G)
 generalize W=w1 at *
 go_upto_region 3 with (fail)
 clear U L D
 have ns:=HW.aa.ns (.inr (.inr rfl))
 have qs:=And.intro (HW.aa.up (X:=λk=>va.ownBlock=some k) ns) (show iP r=(r.br,r.life,r.b6)from rfl)
 refine Fy 11 8 s.ab va (iP r) 44 wU [([],[]),([],[]),([1],[(18,1)]),([2],[(19,2)]),([3],[(20,3)]),([],[]),([5],[(22,5)]),([6],[(23,6)]),([4,7],[(21,4),(24,7)]),([0],[(17,0)]),([9],[(26,9)]),([10,8],[(27,10),(25,8)])] 32 HW.aa.st.a HW.aa.low (by have:=HW.aa.sz;omega) ?_
 iterate 7 refine au.i ?_
 refine au.Gq (S:=cd) (N:=λk=>iM base g vl vp va k∨va.ownBlock=some k) w1.heap.size wU (iP r) (λ_ h=>h.size) (λb hb=>⟨.inr hb,(HW.aa.st.a.own hb).2.1⟩) (λV W hW hp=>?_) ?_
 ·simp only[cF,aO,aR,bW,bY,aJ]at hp;show uQ _ _ _ (V 6) _;rw[hp.1];exact⟨rfl,λ_ _=>rfl⟩
 refine au.s ?_
 iterate 2 refine au.i ?_
 refine⟨λ_ _=>trivial,λV W hW hp=>?_,λV W hW t M hA=>?_⟩
 ·exact IX
 simp only[aO,aR,cC,aJ,Nat.reduceAdd]at hA
 have B:=HW.aa.st.azS hW t M
 obtain⟨j,y,C⟩:=t.slice
 rw[C]at B
 generalize (s.ab++[iP r]).length=A at *
 have hA:=And.intro C hA
 have hb:=HW.aa.st.blk.aW hW ns.1
 have qs:=And.intro hb.cell hb.frozen
 refine aH.s ?_
 refine aH.h ?_
 have L:=(HW.aa.far (.inr (.inr rfl)) hW 3 (.slice j A y) HW.aa.bs ax).cell
 have D:=(HW.aa.far (.inr (.inr rfl)) hW 3 (.slice j A y) HW.aa.br ax).cell
 have T:=G.trans (HW.aa.YB (.inr (.inr rfl)) hW 3 (.slice j A y))
 have Z:=ae (Uo ⟨s.life,s.list,s.prom,s.ab++[iP r]⟩ (iP r) base g _ ⟨_,_,_,B⟩ (by show s.prom.length<=1000000;have:=HW.aa.sz;omega) agc)
 clear hA qs B t M hb ns
 generalize World.setCell W _ _=w5 at *
 go_wp2_with fail
 apply aM Z.aa
 rintro w3⟨J,hb⟩
 have Y:=ae J
 clear J
 go_wp2
 go_ret
 exact zu.yes Q.aa Y.aa (T.trans hb)
theorem atz{base g I gr s r vl vp va vf ve} w(h:p7 base g I gr s r vl vp va vf ve w) :
 Calls prog 218 #[.pointer (some ⟨gr,0,none⟩),.pointer (some ⟨I,0,none⟩)] w λe w'=>D6 base g s (xS s r) w e w':=by
 have Y:Hid (xS s r=if bV s.list (ar r.e)then none else if bV s.prom (ar r.e)then none else if dJ s.ab (ar r.e)then none else some ⟨s.life,s.list,s.prom++[r.e],s.ab⟩):=ae rfl
 generalize xS s r=R at *
 have hsz:=h.sz
 have hlow:=h.low
 have U:=ae λW (kW:K w W)=>DI s (ar r.e) _ W (h.st.st kW).nQ af
 have L:=ae λW (kW:K w W)=>Ky s (ar r.e) _ W (h.st.st kW).nQ af
 have Q:=ae λW (kW:K w W)=>Io s (ar r.e) _ W (h.st.st kW).nQ af
 generalize bV s.list (ar r.e)=B at *
 generalize bV s.prom (ar r.e)=D at *
 generalize dJ s.ab (ar r.e)=O at *
 have y:=ai.new w 26 #[.int .i64 r.e.br,.int .u64 r.e.life,.int .u64 r.e.b6]
 have A:=y.aU
 have H:=ae (h.k A)
 have q:=h.br.cell
 clear h
 go_enter func218,ntmps218
 go_upto_region 2 with (fail)
 clear q
 generalize w.alloc _=E at *
 generalize w.heap.size=gi at y⊢
 have qs:=And.intro H.aa.q (And.intro y.cells (show ar r.e=(r.e.br,r.e.life,r.e.b6)from rfl))
 rcases (show (B=true∨B=false/\D=true∨B=false/\D=false/\O=true)∨B=false/\D=false/\O=false by grind)with (rfl|⟨rfl,rfl⟩|⟨rfl,rfl,rfl⟩)|⟨rfl,rfl,rfl⟩
 all_goals
  refine dV 19 ?_
  iterate 19 first|refine au.i ?_|refine au.v (λW k=>U.aa W (A.tr k)) ?_|refine au.v (λW k=>L.aa W (A.tr k)) ?_|refine au.v (λW k=>Q.aa W (A.tr k)) ?_
  intro V W kW hA
  simp only[aO,aR,cC,aJ,Nat.reduceAdd]at hA
  refine aH.h ?_
  have j:=ae (H.aa.k kW)
  have J:=(A.tr kW).mono hlow
  obtain⟨q1,q2,q3⟩:=qs.1 W kW
  have hx1:=y.ay kW
  clear hA qs y U L Q
 iterate 3
  (go_wp2
   go_ret
   exact zu.no (Y.aa.trans cV) j.aa.st J)
 generalize W=E at *
 go_upto_region 4 with (fail)
 clear q1 q2 q3
 have ns:=j.aa.ns (v:=vp) (.inr (.inl rfl))
 have M:∀k,(iM base g vl vp va k∨vp.ownBlock=some k)->k<E.heap.size:=λk h=>h.elim (j.aa.st.lt j.aa.low k) λh=>(j.aa.st.p.own h).2.1
 have qs:=j.aa.up (X:=λk=>vp.ownBlock=some k) ns
 refine Fy 12 9 s.prom vp r.e 43 pw [([],[]),([],[]),([1],[(27,1)]),([2],[(28,2)]),([3],[(29,3)]),([],[]),([5],[(31,5)]),([6],[(32,6)]),([7],[(33,7)]),([4,8],[(30,4),(34,8)]),([0],[(26,0)]),([10],[(36,10)]),([11,9],[(37,11),(35,9)])] 38 j.aa.st.p j.aa.low af ?_
 iterate 7 refine au.i ?_
 refine au.c (uQ (λk=>iM base g vl vp va k∨vp.ownBlock=some k) aV r.e) (λ_ _ _ h k=>h.mut k λ_ h=>.inr h) (λW' u=>(O5 r.e _ W' (j.aa.en W' (u.more λk h=>.inr (.inr (.inl h)))) j.aa.sm).mono λe w' ⟨v,e1,ho,k⟩=>⟨v,e1,Qb ho λk h=>bz (M k h) u.size,k⟩) ?_
 refine au.Gq (S:=aV) (N:=λk=>iM base g vl vp va k∨vp.ownBlock=some k) E.heap.size pw r.e (λ_ h=>h.size) (λb hb=>⟨.inr hb,M b (.inr hb)⟩) (λV W t hp=>?_) ?_
 ·exact Qd
 refine au.s ?_
 iterate 2 refine au.i ?_
 refine⟨λ_ _=>trivial,λV W t hp=>?_,λV W t C T hA=>?_⟩
 ·exact IX
 simp only[aO,aR,cC,aJ,Nat.reduceAdd]at hA
 have F:=j.aa.st.Yz t C T
 obtain⟨Z,c9,G⟩:=C.slice
 rw[G]at F
 generalize (s.prom++[r.e]).length=n9 at *
 have hA:=And.intro G hA
 have hb:=j.aa.st.blk.aW t ns.1
 have qs:=And.intro hb.cell hb.frozen
 refine aH.s ?_
 refine aH.h ?_
 have M0:=J.trans (j.aa.YB (.inr (.inl rfl)) t 2 (.slice Z n9 c9))
 have HS:=ae F
 clear hA qs F C T hb ns
 go_wp2
 go_ret
 exact zu.yes Y.aa ⟨_,_,_,HS.aa⟩ M0
theorem atA{base g T gr s r vl vp va vf ve} w(h:p7 base g T gr s r vl vp va vf ve w) :
 Calls prog 215 #[.pointer (some ⟨gr,0,none⟩),.pointer (some ⟨T,0,none⟩)] w λe w'=>D6 base g s (xR s r) w e w':=by
 have G:Hid (xR s r=if ¬r.n=s.list.length then none else if bV s.list (ar r.e)then none else if dJ s.ab (ar r.e)then none else some ⟨s.life,s.list++[r.e],ja s.prom (ar r.e),s.ab⟩):=ae rfl
 generalize xR s r=R at *
 obtain⟨j,cl,rfl⟩:=h.st.l.slice
 have hsz:=h.sz
 have hlow:=h.low
 have C1:=ae λW (kW:K w W)=>DI s (ar r.e) _ W (h.st.st kW).nQ af
 have Y:=ae λW (kW:K w W)=>Io s (ar r.e) _ W (h.st.st kW).nQ af
 generalize bV s.list (ar r.e)=B at *
 generalize dJ s.ab (ar r.e)=J at *
 have t:=ai.new w 26 #[.int .i64 r.e.br,.int .u64 r.e.life,.int .u64 r.e.b6]
 have D:=t.aU
 have H:=ae (h.k D)
 have q:=h.br.cell
 clear h
 go_enter func215,ntmps215
 go_upto_region 2 with (fail)
 clear q
 generalize w.alloc _=F at *
 generalize w.heap.size=gi at t⊢
 have hwr:IntKind.u64.wrap (s.list.length:Int)=s.list.length:=by rw[IntKind.wrap_u64];omega
 obtain⟨y,ET⟩:∃b,((r.n:Int) != (s.list.length:Int))=b:=⟨_,rfl⟩
 replace G:=ae (show R=if y=true then none else if B=true then none else if J=true then none else some ⟨s.life,s.list++[r.e],ja s.prom (ar r.e),s.ab⟩ by rw[G.aa,<- ET];by_cases h:r.n=s.list.length <;> simp[h,Int.ofNat_inj])
 have qs:=And.intro H.aa.q (And.intro t.cells (And.intro hwr (And.intro (show ar r.e=(r.e.br,r.e.life,r.e.b6)from rfl) ET)))
 rcases (show (y=true∨y=false/\B=true∨y=false/\B=false/\J=true)∨y=false/\B=false/\J=false by grind)with (rfl|⟨rfl,rfl⟩|⟨rfl,rfl,rfl⟩)|⟨rfl,rfl,rfl⟩
 all_goals
  refine dV 23 ?_
  iterate 23 first|refine au.i ?_|refine au.v (λW k=>C1.aa W (D.tr k)) ?_|refine au.v (λW k=>Y.aa W (D.tr k)) ?_
  intro V W kW hA
  simp only[aO,aR,cC,aJ,Nat.reduceAdd]at hA
  refine aH.h ?_
  have HW:=ae (H.aa.k kW)
  have U:=(D.tr kW).mono hlow
  obtain⟨q1,q2,O⟩:=qs.1 W kW
  have L:=t.ay kW
  clear hA qs t C1 Y
 iterate 3
  (go_wp2
   go_ret
   exact zu.no (G.aa.trans cV) HW.aa.st U)
 generalize W=F at *
 go_upto_region 4 with (fail)
 clear q1 q2 O
 have ns:=HW.aa.ns (v:=(Value.slice j s.list.length cl)) (.inl rfl)
 have hN:∀k,(iM base g (Value.slice j s.list.length cl) vp va k∨(Value.slice j s.list.length cl).ownBlock=some k)->k<F.heap.size:=λk h=>h.elim (HW.aa.st.lt HW.aa.low k) λh=>(HW.aa.st.l.own h).2.1
 have qs:=HW.aa.up (X:=λk=>(Value.slice j s.list.length cl).ownBlock=some k) ns
 refine Fy 12 9 s.list (Value.slice j s.list.length cl) r.e 43 pw [([],[]),([],[]),([1],[(31,1)]),([2],[(32,2)]),([3],[(33,3)]),([],[]),([5],[(35,5)]),([6],[(36,6)]),([7],[(37,7)]),([4,8],[(34,4),(38,8)]),([0],[(30,0)]),([10],[(40,10)]),([11,9],[(41,11),(39,9)])] 45 HW.aa.st.l HW.aa.low af ?_
 iterate 7 refine au.i ?_
 refine au.c (uQ (λk=>iM base g (Value.slice j s.list.length cl) vp va k∨(Value.slice j s.list.length cl).ownBlock=some k) aV r.e) (λ_ _ _ h k=>h.mut k λ_ h=>.inr h) (λW' u=>(O5 r.e _ W' (HW.aa.en W' (u.more λk h=>.inr (.inl h))) HW.aa.sm).mono λe w' ⟨v,e1,ho,k⟩=>⟨v,e1,Qb ho λk h=>bz (hN k h) u.size,k⟩) ?_
 refine au.Gq (S:=aV) (N:=λk=>iM base g (Value.slice j s.list.length cl) vp va k∨(Value.slice j s.list.length cl).ownBlock=some k) F.heap.size pw r.e (λ_ h=>h.size) (λb hb=>⟨.inr hb,hN b (.inr hb)⟩) (λV W hW hp=>?_) ?_
 ·exact Qd
 refine au.s ?_
 iterate 2 refine au.i ?_
 refine⟨λ_ _=>trivial,λV W hW hp=>?_,λV W hW I hv hA=>?_⟩
 ·exact IX
 simp only[aO,aR,cC,aJ,Nat.reduceAdd]at hA
 have M:=HW.aa.st.Jm hW I hv
 obtain⟨A,C,Q⟩:=I.slice
 rw[Q]at M
 generalize (s.list++[r.e]).length=E at *
 have hA:=And.intro Q hA
 have hb:=HW.aa.st.blk.aW hW ns.1
 have qs:=And.intro hb.cell hb.frozen
 refine aH.s ?_
 refine aH.h ?_
 have M0:=U.trans (HW.aa.YB (.inl rfl) hW 1 (.slice A E C))
 have q2:=(HW.aa.far (.inl rfl) hW 1 (.slice A E C) HW.aa.bs ax).cell
 have O:=(HW.aa.far (.inl rfl) hW 1 (.slice A E C) HW.aa.br ax).cell
 have q4:=((L.aW hW λe=>absurd ((HW.aa.st.l.own e).2.2.elim λ_ k=>L.ie k) ax).far (p:=⟨g,1,none⟩) (λe=>absurd (L.ie (show ai F gi 46 _ by rw[show gi=g from e];exact HW.aa.st.blk)) ax) (.slice A E C)).cell
 have C3:=ae (Uo ⟨s.life,s.list++[r.e],s.prom,s.ab⟩ (ar r.e) base g _ ⟨_,_,_,M⟩ aA agc)
 clear hA qs M I hv hb ns
 generalize World.setCell W _ _=w5 at *
 go_wp2_with fail
 apply aM C3.aa
 rintro w3⟨Z,hb⟩
 have HS:=ae Z
 clear Z
 go_wp2
 go_ret
 exact zu.yes G.aa HS.aa (M0.trans hb)
