/-
  Maps by keys of whatever kind: what is looked up, laid and taken away (for maps by whole numbers and by IDs). Conditions: none.
-/
import Derived.Test.YtoeiinllelipoaaGreatMa13
import Derived.RangeFuncKeeps
import Derived.RangeFuncLeaves
import Derived.RangeFuncFrom
import Derived.RangeFuncBox
import Derived.Shelf.Abstract
import Derived.OwnWalkIn
import Derived.TacticsInMore
import Derived.LoopNIn
import Derived.LoopIn
import Derived.Test.YtoeiinllelipoaaGreatMz
set_option maxRecDepth 100000
set_option maxHeartbeats 16000000
set_option linter.unusedVariables false
set_option linter.unusedSimpArgs false
namespace Go.Proofs.YtoeiinllelipoaaGreat
open Go Go.RowKit Tryz
section
open Go Go.RowKit Go.ChangeMaps
section
variable {α:Type} [DecidableEq α] {enc:α->Value} {P:Program} {kt:TypeId}
def jT(k:α):List (α×Value)->Nat->Option (Nat×Value)
 | [],_=>none
 | p :: r,i=>if p.1=k then some (i,p.2)else jT k r (i+1)
def qV(h:List (α×Value))(k:α):Option Value:=(jT k h 0).map (·.2)
def td(h:List (α×Value))(k:α)(v:Value):List (α×Value):=match jT k h 0 with|some (i,_)=>h.modify i λp=>(p.1,v)|none=>h++[(k,v)]
theorem acJ{k:α}{t:List (α×Value)}:∀ {i j:Nat} {v:Value},jT k t i=some (j,v)->i<=j/\t[j-i]?=some (k,v):=by
 induction t with
 | nil=>intro i j v h;cases h
 | cons p r y =>
  intro i j v h;simp only[jT]at h;split at h
  ·rename_i hk;injection h with h;injection h with u s;subst u s hk;simp
  ·obtain⟨u,s⟩:=y h;refine⟨af,?_⟩;rw[show j-i=(j-(i+1))+1 by omega,List.getElem?_cons_succ];exact s
structure Qr(P:Program)(kt:TypeId)(enc:α->Value):Prop where
 find:∀(k:α) (es:List MapEntry) (aY:List (α×Value)) (w:World),es.map (λe=>(e.key,e.val))=aY.map (λp=>(enc p.1,p.2))->(Instr.findKey kt (enc k) es).run P w=.ok (jT k aY 0) w
 mH:∀(k:α) (em:Bool) (w:World),(Instr.checkKey em 10000 kt (enc k)).run P w=.ok () w
 stays:∀(k:α),Instr.sameBits 10000 (enc k) (enc k)=true
theorem aob{β γ:Type}{g:β->γ}(f:β->β)(h:∀x,g (f x)=g x):∀(l:List β) (i:Nat),(l.modify i f).map g=l.map g:=by
 intro l
 induction l with
 | nil=>intro i;cases i <;> rfl
 | cons x l j =>
  intro i
  cases i with
  | zero=>simp[h]
  | succ i=>simp[j]
def zZ(es:List MapEntry)(c:Nat):Prop:=(es.map (·.born)).Pairwise (· < ·)/\∀n∈es.map (·.born),n<c
theorem zZ.push{es:List MapEntry}{c:Nat}(h:zZ es c)(k v:Value):zZ (es++[⟨k,v,c⟩]) (c+1):=by
 refine⟨?_,λn hn=>?_⟩
 ·rw[List.map_append];exact List.pairwise_append.2 ⟨h.1,aj,λa i b hb=>by simp at hb;subst hb;exact h.2 a i⟩
 ·rw[List.map_append,xG]at hn;rcases hn with hn|hn
  ·have:=h.2 n hn;omega
  ·simp at hn;omega
theorem zZ.same{es i:List MapEntry}{c:Nat}(h:zZ es c)(e:i.map (·.born)=es.map (·.born)):zZ i c:=by unfold zZ;rw[e];exact h
def fS(enc:α->Value)(w:World)(b:Nat)(h:List (α×Value)):Prop :=
 ∃(es:Array MapEntry) (c:Nat),w.heap[b]?=some (.map es c)/\es.toList.map (λe=>(e.key,e.val))=h.map (λp=>(enc p.1,p.2))/\zZ es.toList c
end
section
variable {α:Type} {enc:α->Value} {P:Program} {kt:TypeId}
theorem fS.new(w:World):fS enc (w.alloc (.map #[] 0)) w.heap.size []:=⟨#[],0,heap_alloc_new w _,rfl,by simp[zZ]⟩
end
section
variable {α:Type} [DecidableEq α] {enc:α->Value} {P:Program} {kt:TypeId}
end
section
variable {α:Type} {enc:α->Value} {P:Program} {kt:TypeId}
theorem fS.lt{w:World}{b:Nat}{i:List (α×Value)}(h:fS enc w b i):b<w.heap.size:=by obtain⟨es,c,h,_⟩:=h;exact (Array.getElem?_eq_some_iff.1 h).1
end
section
variable {α:Type} [DecidableEq α] {enc:α->Value} {P:Program} {kt:TypeId}
end
section
variable {α:Type} {enc:α->Value} {P:Program} {kt:TypeId}
theorem fS.bT{w w':World}{b:Nat}{i:List (α×Value)}{X:Nat->Prop}(h:fS enc w b i)(hb:ah X w w')(u:¬X b):fS enc w' b i:=by have t:=h.lt;obtain⟨es,c,j,s⟩:=h;exact⟨es,c,(hb.block b t u).trans j,s⟩
end
section
variable {α:Type} [DecidableEq α] {enc:α->Value} {P:Program} {kt:TypeId}
end
section
variable {α:Type} {enc:α->Value} {P:Program} {kt:TypeId}
theorem fS.st{w w':World}{b:Nat}{i:List (α×Value)}(h:fS enc w b i)(k:K w w'):fS enc w' b i:=by have t:=h.lt;obtain⟨es,c,j,s⟩:=h;exact⟨es,c,(k.block b t).trans j,s⟩
end
section
variable {α:Type} [DecidableEq α] {enc:α->Value} {P:Program} {kt:TypeId}
end
section
variable {α:Type} {enc:α->Value} {P:Program} {kt:TypeId}
theorem fS.cells{w:World}{b:Nat}{j:List (α×Value)}(h:fS enc w b j){e:TypeId}{cs:Array Value}(hb:ai w b e cs):False:=by obtain⟨es,c,i,_⟩:=h;have:=i.symm.trans hb;cases this
end
section
variable {α:Type} [DecidableEq α] {enc:α->Value} {P:Program} {kt:TypeId}
theorem Ig{t E:TypeId}(s:Qr P kt enc)(u:P.underlying t=some (.map kt E)){w:World}{z:Value}(hz:(zeroValue E).run P w=.ok z w){b:Nat}{i:List (α×Value)}(h:fS enc w b i)(k:α) :
 (Instr.lookup t (.map (some b)) (enc k) true).run P w=.ok (.tuple #[(qV i k).getD z,.bool (qV i k).isSome]) w/\(Instr.lookup t (.map (some b)) (enc k) false).run P w=.ok ((qV i k).getD z) w:=by
 obtain⟨es,c,y,A,B⟩:=h
 have j:=s.find k es.toList i w A
 unfold qV
 cases hr:jT k i 0 with
 | none=>rw[hr]at j;simp[Instr.lookup,run_underlying u,MapKept.run_getObj_map y,s.mH,j,hz,Result.andThen]
 | some x=>rw[hr]at j;simp[Instr.lookup,run_underlying u,MapKept.run_getObj_map y,s.mH,j,Result.andThen]
theorem Ki{t E:TypeId}(D:Qr P kt enc)(G:P.underlying t=some (.map kt E)){w:World}{b:Nat}{C:List (α×Value)}(h:fS enc w b C)(k:α)(v:Value) :
 ∃w',(Instr.mapUpdate t (.map (some b)) (enc k) v).run P w=.ok () w'/\fS enc w' b (td C k v)/\w.grownBy w' (some b):=by
 obtain⟨es,c,s,B,H⟩:=h
 have F:=D.find k es.toList C w B
 have hg:∀o,w.grownBy (setBlock w b o) (some b):=λo=>⟨rfl,rfl,rfl,by simp[setBlock],λi _ u=>heap_setBlock_other s _ (λe=>u Dv)⟩
 unfold td
 cases hr:jT k C 0 with
 | none =>
  rw[hr]at F;refine⟨setBlock w b (.map (es.push ⟨enc k,v,c⟩) (c+1)),?_,⟨_,_,heap_setBlock_same s _,?_,by simpa using H.push (enc k) v⟩,hg _⟩
  ·simp[Instr.mapUpdate,run_underlying G,MapKept.run_getObj_map s,D.mH,F,MapKept.run_setObj_map _ s,Result.andThen,setBlock]
  ·simp[B]
 | some x =>
  obtain⟨i,J⟩:=x;rw[hr]at F;obtain⟨-,u⟩:=acJ hr;have I:(es[i]?).map (·.key)=some (enc k):=by
   have:=congrArg (λl=>l[i]?) B
   simp only[List.getElem?_map]at this
   rw[show i-0=i by omega]at u
   rw[u]at this
   simp only[Array.getElem?_toList,Option.map_some]at this
   cases he:es[i]? with
   | none=>rw[he]at this;simp at this
   | some e=>rw[he]at this;simp at this;simp[this.1]
  refine⟨setBlock w b (.map (es.modify i λe=>{ e with key:=enc k,val:=v }) c),?_,⟨_,_,heap_setBlock_same s _,?_,H.same av4⟩,hg _⟩
  ·simp[Instr.mapUpdate,run_underlying G,MapKept.run_getObj_map s,D.mH,F,I,Instr.keyThatStays,D.stays,MapKept.run_setObj_map _ s,Result.andThen,setBlock]
  ·rw[Array.toList_modify];apply List.ext_getElem?;intro j;have A:=congrArg (λl=>l[j]?) B;simp only[List.getElem?_map,List.getElem?_modify]at A⊢;by_cases e:i=j
   ·subst e;rw[show i-0=i by omega]at u;simp only[u,Option.map_some]at A⊢;cases he:es.toList[i]? with
    | none=>rw[he]at A;simp at A
    | some y=>simp
   ·simp only[e,if_false]at A⊢;simpa using A
end
def encI(n:Int):Value:=.int .i64 n
theorem LF{P:Program}{kt:TypeId}(s:P.underlying kt=some (.int .i64)):Qr P kt encI:=by
 refine⟨λk es j w h=>?_,λk B w=>NP s k B w,λk=>by simp[encI,Instr.sameBits]⟩;have key:∀(es:List MapEntry) (j:List (Int×Value)) (i:Nat),es.map (λe=>(e.key,e.val))=j.map (λp=>(encI p.1,p.2))->Instr.findNow (.int .i64) (.int .i64 k) es i=some (jT k j i):=by
  intro es
  induction es with
  | nil=>intro j i h;cases j with
   | nil=>rfl
   | cons p r=>simp at h
  | cons e es y=>intro j i h;cases j with
   | nil=>simp at h
   | cons p r =>
    simp only[j9,List.cons.injEq,Prod.mk.injEq]at h;obtain⟨⟨t,u⟩,A⟩:=h;unfold Instr.findNow jT;rw[t];by_cases hk:p.1=k
    ·subst hk;simp[Instr.sameNow,encI,u]
    ·have:(k==p.1)=false:=by simp;exact λe=>hk e.symm
     simp[Instr.sameNow,encI,this,y r (i+1) A,hk]
 simp[Instr.findKey,run_underlying s,encI,key es j 0 h]
def km(a:av):Value:=.agg #[.int .i64 a.1,.int .u64 (a.2.1:Int),.int .u64 (a.2.2:Int)]
theorem as2(x y:av)(w:World)(d:Nat):(Op.equalIn (d+1+1) 46 (km x) (km y)).run prog w=.ok (decide (x=y)) w:=by obtain⟨a,b,c⟩:=x;obtain⟨t,j,u⟩:=y;unfold km;simp[go_sem,Hy];by_cases h:a=t <;> by_cases i:b=j <;> by_cases s:c=u <;> simp[h,s,i] <;> omega
theorem Qs:Qr prog 46 km:=by
 refine⟨λk es j w h=>?_,λk E w=>?_,λk=>?_⟩
 ·have key:∀(es:List MapEntry) (j:List (av×Value)) (i:Nat),es.map (λe=>(e.key,e.val))=j.map (λp=>(km p.1,p.2))->(Instr.findAsking 46 (km k) es i).run prog w=.ok (jT k j i) w:=by
   intro es
   induction es with
   | nil=>intro j i h;cases j with
    | nil=>rfl
    | cons p r=>simp at h
   | cons e es C=>intro j i h;cases j with
    | nil=>simp at h
    | cons p r =>
     simp only[j9,List.cons.injEq,Prod.mk.injEq]at h;obtain⟨⟨y,B⟩,D⟩:=h;have u:(Op.equal 46 (km k) (km p.1)).run prog w=.ok (decide (k=p.1)) w:=as2 k p.1 w 9998;unfold Instr.findAsking jT;rw[y];by_cases hk:p.1=k
     ·subst hk;simp[Sem.run_bind,u,Result.andThen,B]
     ·have A:¬k=p.1:=λe=>hk e.symm
      simp[Sem.run_bind,u,Result.andThen,hk,A,C r (i+1) D]
  obtain⟨s,t⟩:∃s,prog.underlying 46=some (.struct s):=⟨_,underlying46⟩;cases es with
  | nil =>
   cases j with
   | nil=>simp[Instr.findKey,run_underlying t,Instr.findNow,jT]
   | cons p r=>simp at h
  | cons e es =>
   have hn:Instr.findNow (.struct s) (km k) (e :: es) 0=none:=by
    unfold Instr.findNow;have:Instr.sameNow (.struct s) (km k) e.key=none:=by unfold Instr.sameNow km;split <;> simp_all
    rw[this]
   simp[Instr.findKey,run_underlying t,hn,key (e :: es) j 0 h]
 ·unfold km;kernel_rfl
 ·unfold km;simp[Instr.sameBits]
end
structure cV where
 g:Nat
 gl:Nat
 gd:Nat
 gr:Nat
 gt:Nat
 vd:Value
 vr:Value
 vp:Value
 vh:Value
 vl:Value
 vq:Value
 va:Value
 vt:Value
 vf:Value
 vw:Value
 kr:List (Int×Value)
abbrev Gu(p:cV)(B:aB):Array Value:=#[.int .i64 B.me,p.vp,p.vh,.pointer (some ⟨p.gl,0,none⟩),.int .u64 (B.st.life:Int),p.vl,p.vq,p.va,p.vt,.int .u64 (B.calls:Int),.map (some p.gr),p.vf,.map (some p.gt),p.vw]
def bn(p:cV)(k:Nat):Prop:=k=p.g∨k=p.gr∨k=p.gt∨jg p.gl p.gd p.vd p.vr k
def BJ(l:List (Int×bK))(j:List (Int×Value))(W:World):Prop:=j.length=l.length/\∀i (h:i<j.length) (h':i<l.length),j[i].1=l[i].1/\js l[i].2 j[i].2 W
def og(l:List av):List (av×Value):=l.zipIdx.map λp=>(p.1,.int .i64 (p.2:Int))
structure Zp(p:cV)(B:aB)(W:World):Prop where
 par:ar eS B.par p.vp W
 aZ:ar eS B.aZ p.vh W
 list:ar aQ B.st.list p.vl W
 prom:ar aQ B.st.prom p.vq W
 ab:ar bI B.st.ab p.va W
 aK:ar cJ B.aK p.vt W
 eX:ar bI B.refused p.vf W
 waits:ar aQ B.waits p.vw W
 bR:BJ B.bR p.kr W
structure bC(M:Nat->Prop)(p:cV)(B:aB)(w:World):Prop where
 blk:ai w p.g 95 (Gu p B)
 lg:Ro p.gl p.gd p.vd p.vr B.dk w
 rep:fS encI w p.gr p.kr
 vA:fS km w p.gt (og B.told)
 bL:Fx M (Zp p B) w
 sub:∀k,bn p k->M k
 low:∀k,M k->k<w.heap.size
 ne:p.gr≠p.gt
section
variable {M M' X:Nat->Prop} {p p':cV} {B B':aB} {w w' w'':World}
theorem bC.st(h:bC M p B w)(k:K w w'):bC M p B w' :=
 ⟨h.blk.below k h.blk.lt,h.lg.st k,h.rep.st k,h.vA.st k,h.bL.k k,h.sub,λb hb=>bB (h.low b hb) k.size,h.ne⟩
theorem fS.akx{gl gd:Nat}{vd vr:Value}{d:lq}{α:Type}[DecidableEq α]{enc:α->Value}{b:Nat}{j:List (α×Value)}(h:fS enc w b j)(l:Ro gl gd vd vr d w):¬jg gl gd vd vr b:=λhk=>by
 obtain⟨n,xs,hn,i⟩:=l.row;rcases hk with rfl|hk|rfl|hk
 ·exact h.cells l.blk
 ·obtain⟨s,hb⟩:=gg i hk;exact h.cells hb
 ·exact h.cells l.dk.blk
 ·obtain⟨s,hb⟩:=gg l.dk.own hk;exact h.cells hb
theorem bC.apart(h:bC M p B w):p.g≠p.gr/\p.g≠p.gt/\¬jg p.gl p.gd p.vd p.vr p.g/\¬jg p.gl p.gd p.vd p.vr p.gr/\¬jg p.gl p.gd p.vd p.vr p.gt:=by
 refine⟨λe=>h.rep.cells (e▸h.blk),λe=>h.vA.cells (e▸h.blk),λhk=>?_,h.rep.akx h.lg,h.vA.akx h.lg⟩;obtain⟨n,xs,hn,j⟩:=h.lg.row;rcases hk with e|hk|e|hk
 ·exact absurd (h.blk.ja (e▸h.lg.blk)) au
 ·obtain⟨i,hb⟩:=gg j hk;exact absurd (h.blk.ja hb) au
 ·exact absurd (h.blk.ja (e▸h.lg.dk.blk)) au
 ·obtain⟨i,hb⟩:=gg h.lg.dk.own hk;exact absurd (h.blk.ja hb) au
theorem bC.far(h:bC M p B w)(u:ah X w w')(j:∀k,X k->M k)(hn:∀k,X k->¬bn p k)(y:∀k,k<w.heap.size->M' k->M k)(t:∀k,bn p k->M' k)(s:∀k,M' k->k<w'.heap.size):bC M' p B w' :=
 ⟨h.blk.bT u λi=>hn _ i (.inl rfl),h.lg.bT u λk hk i=>hn k i (.inr (.inr (.inr hk))),h.rep.bT u λi=>hn _ i (.inr (.inl rfl)),h.vA.bT u λi=>hn _ i (.inr (.inr (.inl rfl))),h.bL.to u j y,t,s,h.ne⟩
theorem bC.cell(h:bC M p B w)(i:Nat)(v:Value)(hb:ai (w.setCell ⟨p.g,i,none⟩ v) p.g 95 (Gu p' B'))
 (N:p'.g=p.g/\p'.gl=p.gl/\p'.gd=p.gd/\p'.gr=p.gr/\p'.gt=p.gt/\p'.vd=p.vd/\p'.vr=p.vr/\p'.kr=p.kr) (H:B'.dk=B.dk/\B'.told=B.told)
 (J:∀W,ah M w W->Zp p B W->Zp p' B' W):bC M p' B' (w.setCell ⟨p.g,i,none⟩ v):=by
 obtain⟨A,D,C,s,j,E,F,G⟩:=N
 obtain⟨L,Q⟩:=H
 obtain⟨O,I,P,S,R⟩:=h.apart
 have u:ah (λk=>k=p.g) w (w.setCell ⟨p.g,i,none⟩ v):=ah.b6 (X:=λk=>k=p.g) rfl i v
 have y:ah M w (w.setCell ⟨p.g,i,none⟩ v):=u.more λk hk=>h.sub k (.inl hk)
 refine⟨by rw[A];exact hb,?_,?_,?_,λW t=>J W (y.tr t) (h.bL W (y.tr t)),λk hk=>h.sub k ?_,λk hk=>by simpa using h.low k hk,by rw[s,j];exact h.ne⟩
 ·rw[D,C,E,F,L];exact h.lg.bT u λk hk e=>P (e▸hk)
 ·rw[s,G];exact h.rep.bT u λe=>O e.symm
 ·rw[j,Q];exact h.vA.bT u λe=>I e.symm
 ·unfold bn at hk⊢;rw[A,D,C,s,j,E,F]at hk;exact hk
def cV.key(p:cV):Nat×Nat:=(p.g,p.gd)
theorem kg{p:cV}{a b:Nat}(h:p.key=(a,b)):p.g=a:=congrArg Prod.fst h
theorem yA{p p':cV}(h:p'.key=p.key):p'.g=p.g:=congrArg Prod.fst h
def cW(M:Nat->Prop)(p:cV)(B':aB)(w w':World):Prop :=
 ∃p',bC (λk=>M k∨bn p' k) p' B' w'/\ah (bn p) w w'/\p'.key=p.key/\∀k,bn p' k->bn p k∨w.heap.size<=k
theorem bC.less(h:bC M p B w)(j:∀k,bn p k->M' k)(i:∀k,M' k->M k):bC M' p B w:=⟨h.blk,h.lg,h.rep,h.vA,h.bL.less i,j,λk hk=>h.low k (i k hk),h.ne⟩
theorem bC.now(h:bC M p B w)(hg:p'.key=p.key)(i:∀k,bn p k->bn p' k∨w'.heap.size<=k)(u:ah (bn p') w' w):cW M p' B w' w :=
 ⟨p,h.less (λk hk=>.inr hk) (λk hk=>hk.elim id (h.sub k)),u,hg.symm,i⟩
theorem bC.n(h:bC M p B w)(k:K w w'):cW M p B w w' :=
 (h.st k).now rfl (λ_ h=>.inl h) (ah.bg k _)
theorem cW.tr{j:Nat->Prop}{p1:cV}(u:ah (bn p) w w')(hg:p1.key=p.key)(i:∀k,bn p1 k->bn p k∨w.heap.size<=k)(C:∀k,M k->j k)(h:cW j p1 B' w' w''):cW M p B' w w'':=by
 obtain⟨p2,y,A,B,s⟩:=h;refine⟨p2,y.less (λk hk=>.inr hk) (λk hk=>hk.imp (C k) id),u.iA A λk hk t=>(i k t).resolve_right af,B.trans hg,λk hk=>?_⟩;rcases s k hk with a|a
 ·exact i k a
 ·exact .inr (bq u.size a)
theorem cW.k(h:cW M p B' w w')(k:K w' w''):cW M p B' w w'':=by obtain⟨p2,j,s,t,i⟩:=h;exact⟨p2,j.st k,s.tr (ah.bg k _),t,i⟩
theorem cW.xe{w0:World}(h:cW M p B' w w')(k:K w0 w)(A:∀j,bn p j->j<w0.heap.size):cW M p B' w0 w':=by obtain⟨p2,s,t,u,i⟩:=h;exact⟨p2,s,(ah.bg k _).tr t,u,λj y=>(i j y).imp id λa=>bq k.size a⟩
end
theorem auR(W:World):BJ [] [] W:=⟨rfl,λi h=>yQ⟩
theorem bC.q{M:Nat->Prop}{p:cV}{B:aB}{w:World}(h:bC M p B w):∀W,K w W->∀i,W.cell? ⟨p.g,i,none⟩=(Gu p B)[i]?:=h.blk.cells
section
variable {P:Program} {Q:Exit->Act->World->Prop}
def XI(P:Program)(h:Act)(ops:Array Oper)(k:Nat):Prop :=
 ∃o,ops[k]?=some o/\o.guard=none/\∀(rd:List (Nat×Nat)) (V:Nat->Value) (W:World),(execOp (aw rd h V) (ay o.op o.type)).run P W=.ok (.value (.map (some W.heap.size))) (W.alloc (.map #[] 0))
def Fo(ds:List Nat)(L:Nat->Bool)(V:Nat->Value)(W:World):Prop :=
 (∀i∈ds,L i=true->∃b,V i=.map (some b)/\b<W.heap.size)/\∀i∈ds,∀j∈ds,i≠j->L i=true->L j=true->V i≠V j
theorem Fo.next{ds:List Nat}{L:Nat->Bool}{V:Nat->Value}{W B:World}{k:Nat}{v:Value}(h:Fo ds L V W)(I:W.heap.size<=B.heap.size)(C:k∈ds->v=.map (some W.heap.size)/\W.heap.size<B.heap.size):Fo ds (dw L k) (bj V k v) B:=by
 refine⟨λi t y=>?_,λi t j A G y H=>?_⟩
 ·unfold bj;by_cases s:i=k
  ·subst s;rw[if_pos rfl];exact⟨_,C t⟩
  ·rw[if_neg s];obtain⟨b,u,E⟩:=h.1 i t ((yO y).resolve_left s);exact⟨b,u,af⟩
 ·unfold bj;by_cases s:i=k
  ·subst s;have F:j≠i:=λe=>G e.symm
   rw[if_pos rfl,if_neg F];obtain⟨b,u,E⟩:=h.1 j A ((yO H).resolve_left F);rw[u,(C t).1];intro e;injection e with e;injection e with e;omega
  ·rw[if_neg s];by_cases D:j=k
   ·subst D;rw[if_pos rfl];obtain⟨b,u,E⟩:=h.1 i t ((yO y).resolve_left s);rw[u,(C A).1];intro e;injection e with e;injection e with e;omega
   ·rw[if_neg D];exact h.2 i t j A G ((yO y).resolve_left s) ((yO H).resolve_left D)
theorem Fo.old{ds:List Nat}{L:Nat->Bool}{V:Nat->Value}{W i:World}{k:Nat}{v:Value}(h:Fo ds L V W)(hk:k∉ds)(j:W.heap.size<=i.heap.size):Fo ds (dw L k) (bj V k v) i:=h.next j λh=>absurd h hk
theorem an6{id:Nat}{ops:Array Oper}{a0:Act}{w:World}(fr:List Nat)(cs:Nat->Value)(m:Nat)(pl:List (List Nat×List (Nat×Nat)))
 (n:Nat) (hn:a0.tmps.size=n) (hm:P.follows .mixedOrders=true) (hok:o8 ops n=true) (hpl:qP ops pl=true) (gA:Fy fr pl m ops.size=true) (Gl:m<=ops.size) (iM:∀j∈fr,ajC P a0 ops pl fr cs j) (ds:List Nat) (B:∀k∈ds,k<m/\k∉fr) (U:∀k∈ds,XI P a0 ops k)
 (h:aV P a0 w (λt=>∀(V:Nat->Value) (W:World),K w W->(∀i∈ds,∀j∈ds,i≠j->V i≠V j)->eA V W 0 t->bu P a0 (λV W=>Q .normal (bF V ops.toList 0 a0) W) m (ops.toList.drop m) (pl.drop m) V W) (ops.toList.take m) pl []) :
 (Code.region id ops true).wp P Q a0 w:=by
 have tv:∀j∈fr,j<m:=by exact afS
 have M:∀(i:Nat) (o:Oper),ops[i]?=some o->∃x:List Nat×List (Nat×Nat),pl[i]?=some x/\∀j∈x.1,j∈ahead o:=by exact VM
 obtain⟨s,F,hs,hst,hq⟩:=acH (ops:=ops) (n:=n) (ops.toList.take m) pl [] h
  (λi o x h1 h2 h3 j hj=>by
   simp only[List.length_nil,fP]at h1⊢;obtain⟨y,hy,Z⟩:=M i o h1;rw[hy]at h3;injection h3 with h3;subst h3;have:=Z j hj;have h5:=List.all_eq_true.1 hok (o,i) (List.mem_zipIdx_iff_getElem?.2 (by rw[Array.getElem?_toList];exact h1));simp only[cz]at h5;have h6:=List.all_eq_true.1 h5.1.1.1.1 j this;simpa using h6)
  (λi o h1=>by
   simp only[List.length_nil,fP];rw[<- Array.getElem?_toList];by_cases hi:i<m
   ·rwa [List.getElem?_take_of_lt hi]at h1
   ·rw[List.getElem?_take_eq_none af]at h1;cases h1)
  aj
 simp only[aJ,List.length_nil,fP]at F hst hq
 have gY:s.length=m:=by rw[hs];simp;omega
 have XH:∀(b j:Nat),j<b->j∈fr->∀W,K w W->tab s j (cs j) W:=by exact afT
 let T:Nat->(Nat->Value)->World->Prop:=λi V W=>bu P a0 (λV W=>Q .normal (bF V ops.toList 0 a0) W) i (ops.toList.drop i) (pl.drop i) V W
 have hT:∀i o x,ops[i]?=some o->pl[i]?=some x->∀V W,T i V W=(if aL V o.guard=true then mm P (λv w'=>T (i+1) (bj V i v) w') ((execOp (aw x.2 a0 V) (ay o.op o.type)).run P W)else T (i+1) (bj V i undef) W):=by exact afU
 let I:(Nat->Bool)->(Nat->Value)->World->Prop:=λL V W =>
  ((∀i,m<=i->i<ops.size->L i=false)->K w W/\Fo ds L V W/\∀j,L j=true->tab s j (V j) W) /\
  (∀k,m<k->k<=ops.size->(∀j,j<k->j∉fr->L j=true)->(∀j,k<=j->j<ops.size->L j=false)->T k (vF fr cs V) W) /\
  (∀j∈fr,L j=true->V j=cs j)
 refine EO I n hn hm hok ⟨λ_=>⟨(K.rf w).drew,⟨λ_ _ hj=>Ff,λ_ _ _ _ _ hj=>Ff⟩,λ_ hj=>Ff⟩,(λk hk _ hL _=>afV),(λj _ h=>vR)⟩ ?_ ?_
 ·intro k o ho L V W ni hcl hal hI;have hlt:k<ops.size:=(Array.getElem?_eq_some_iff.1 ho).1;obtain⟨x,hx,O⟩:=M k o ho;have N:∀j∈ahead o,vF fr cs V j=V j:=λj hj=>by exact afW
  have hgd:∀j b,o.guard=some (j,b)->j∈ahead o:=λj b hg=>by exact afX
  have E:∀V',(∀j∈ahead o,V' j=V j)->execOp (tj ops a0 V o) o=execOp (aw x.2 a0 V') (ay o.op o.type):=by exact afY
  have H:∀V',(∀j∈ahead o,V' j=V j)->wants V o=aL V' o.guard:=by exact afZ
  by_cases zV:k∈fr
  ·obtain⟨o',x',A,D,hg,X9,hrun⟩:=iM k zV;rw[ho]at A;injection A with A;subst A;rw[hx]at D;injection D with D;subst D;rw[H V λ_ _=>rfl,hg,if_pos (show aL V none=true from rfl),E V λ_ _=>rfl,hrun V W (λi hi=>hI.2.2 i (X9 i hi).1 (hal i (O i hi)))];have J:=tv k zV;have Ck:vF fr cs (bj V k (cs k))=vF fr cs V:=by exact af0
   refine⟨λh1=>?_,λi h1 h2 h3 h4=>?_,λj hj hL=>?_⟩
   ·obtain⟨hk,C,hp⟩:=hI.1 (λi h2 h3=>af1);refine⟨hk,C.old (λhd=>(B k hd).2 zV) (aG _),λj hj=>?_⟩;exact af2
   ·exact af3
   ·exact af4
  have Qo:∀v,∀j∈fr,dw L k j=true->bj V k v j=cs j:=λv j hj hL=>by exact af5
  by_cases J:k<m
  ·rw[H V λ_ _=>rfl,E V λ_ _=>rfl];have Rh:∀i,m<=i->i<ops.size->L i=false:=by exact af6
   obtain⟨hk,C,hp⟩:=hI.1 Rh;have Ye:k∈ds->(execOp (aw x.2 a0 V) (ay o.op o.type)).run P W=.ok (.value (.map (some W.heap.size))) (W.alloc (.map #[] 0))/\o.guard=none:=λhd=>by obtain⟨o',A,Y,hr'⟩:=U k hd;rw[ho]at A;injection A with A;subst A;exact⟨hr' _ _ _,Y⟩
   have aks:∀i,m<=i->i<ops.size->dw L k i=false:=by exact af7
   have u:=hq k o x (by rw[List.getElem?_take_of_lt J,Array.getElem?_toList];exact ho) hx V W hk (λj hj=>hp j (hal j (O j hj)));have next:∀v w',tab s k v w'->Below W.heap.size W w'->(k∈ds->v=.map (some W.heap.size)/\W.heap.size<w'.heap.size)->I (dw L k) (bj V k v) w':=by
    intro v w' hv hb hfv;refine⟨λ_=>⟨hk.tr hb,C.next hb.size hfv,λj hj=>?_⟩,λi h1 h2 h3 _=>?_,Qo v⟩
    ·exact af8
    ·exact af9
   by_cases zn:aL V o.guard=true
   ·rw[if_pos zn]at u⊢;generalize (execOp (aw x.2 a0 V) (ay o.op o.type)).run P W=q at *;cases q with
    | ok nx w' =>
     cases nx <;> simp only[aS]at u <;> simp only[mm]
     case value v =>
      refine next _ _ u.1 u.2 λhd=>?_
      obtain⟨h1,-⟩:=Ye hd;injection h1 with h1 h2;injection h1 with h1;rw[h2];exact⟨h1,aj⟩
     case skip =>
      refine next _ _ u.1 u.2 λhd=>?_
      exact agG
     case enter f args => refine u.mono ?_;rintro e w''⟨v,rfl,hv,hb⟩;refine⟨v,rfl,next _ _ hv hb λhd=>?_⟩;exact agG
    | halt x w'=>simp only[aS]at u
   ·rw[if_neg zn]at u⊢;refine next _ _ u (aN _ _) λhd=>?_
    obtain⟨-,h1⟩:=Ye hd;rw[h1]at zn;exact absurd rfl zn
  ·rw[H (vF fr cs V) N,E (vF fr cs V) N];have hall:=N7 hpl gA hcl af ho hal;have kK:∀i,k<=i->i<ops.size->L i=false:=by exact agb
   have zW:T k (vF fr cs V) W:=by
    by_cases X:k=m
    ·subst X;obtain⟨hk,C,hp⟩:=hI.1 kK;refine F (vF fr cs V) W hk (λi hi j hj G=>?_) ?_
     ·have e:∀i∈ds,vF fr cs V i=V i:=λi hi=>by unfold vF;rw[if_neg (B i hi).2]
      rw[e i hi,e j hj];exact C.2 i hi j hj G (hall i (B i hi).1 (B i hi).2) (hall j (B j hj).1 (B j hj).2)
     exact agc
    ·exact hI.2.1 k af af hall kK
   exact agd
 ·intro V W hI;have Ck:∀j,j<ops.size->vF fr cs V j=V j:=λj hj=>by exact age
  have R:∀(V':Nat->Value) (l:List Oper) (k:Nat) (a:Act),(∀j,k<=j->j<k+l.length->V' j=V j)->bF V' l k a=bF V l k a:=by exact agf
  have ajY:=R (vF fr cs V) ops.toList 0 a0 (λj _ h=>Ck j rT);by_cases tz:m<ops.size
  ·exact agh
  ·have S:m=ops.size:=af;subst S;obtain⟨hk,C,hp⟩:=hI.1 (λi h1 h2=>af);have h9:=F V W hk (λi hi j hj G=>C.2 i hi j hj G (by simpa using (B i hi).1) (by simpa using (B j hj).1)) (by
    have:=VK (V:=V) (w:=W) s [] (λj _ h2=>by
     simp at h2;exact hp j aU)
    simpa using this)
   rw[List.drop_eq_nil_of_le aj]at h9;exact h9
theorem aoc{id:Nat}{ops:Array Oper}{s:Act}{w:World}(m:Nat)(u:List (List Nat×List (Nat×Nat)))(ds:List Nat)
 (n:Nat) (hn:s.tmps.size=n) (hm:P.follows .mixedOrders=true) (E:o8 ops n=true) (B:qP ops u=true) (y:Fy [] u m ops.size=true) (A:m<=ops.size) (D:∀k∈ds,k<m) (C:∀k∈ds,XI P s ops k)
 (h:aV P s w (λt=>∀(V:Nat->Value) (W:World),K w W->(∀i∈ds,∀j∈ds,i≠j->V i≠V j)->eA V W 0 t->bu P s (λV W=>Q .normal (bF V ops.toList 0 s) W) m (ops.toList.drop m) (u.drop m) V W) (ops.toList.take m) u []) :
 (Code.region id ops true).wp P Q s w :=
 an6 [] (λ_=>undef) m u n hn hm E B y A (λ_ h=>vR) ds (λk hk=>⟨D k hk,aj⟩) C h
theorem abY{h:Act}{ops:Array Oper}{k:Nat}{o:Oper}{t:TypeId}(j:ops[k]?=some o)(u:o.op=.makeMap t none)(hg:o.guard=none){kt s:TypeId}(i:P.underlying t=some (.map kt s)):XI P h ops k:=by refine⟨o,j,hg,λrd V W=>?_⟩;rw[u];simp[execOp,ay,Instr.makeMap,run_underlying i,go_sem]
theorem aV.ints{i:Act}{w0:World}{B:List (Value->World->Prop)->Prop}{o:Oper}{r:List Oper}{x:List Nat×List (Nat×Nat)}{xs:List (List Nat×List (Nat×Nat))}{t:List (Value->World->Prop)}(l:List Int)(s u:Operand)(y e:TypeId)(z:Value)(bytes:Nat)(T:gJ P y e z 1 bytes)
 (G:o.op=.call { callee:=.builtin .append,args:=#[s,u],argTypes:=#[y,y] }) (hg:o.guard=none) (M:l.length*(bytes+1)<=140737488355328)
 (h:∀(V:Nat->Value) (w:World),K w0 w->(∀j∈x.1,tab t j (V j) w)->aw x.2 i V s=.slice none 0 0/\ar eS l (aw x.2 i V u) w)
 (k:aV P i w0 B r xs (t++[λv W=>aT (λk=>k<w0.heap.size) w0.heap.size e eS l v W])):aV P i w0 B (o :: r) (x :: xs) t:=by
 refine aV.op _ (λ_ _ _ h k=>h.st k) (λV w C I=>?_) k
 obtain⟨L,A,c,E,⟨css,D,J⟩,-⟩:=h V w C I
 have hcs:=aa7 D
 obtain⟨Q,w',F,H,N,O,h6⟩:=Bb (P:=P) w w.heap.size y o.type e z 1 bytes T (.slice none 0 0) 0 [] (iF _ _ _ _) _ A l.length c css.flatten J D.ones (by simpa using M) (aG _)
 rw[hg,if_pos (show aL V none=true from rfl),G]
 simp only[execOp,ay,resolve,invoke,builtin,Sem.run_bind,Sem.run_pure,Result.andThen_ok,List.map_toArray,j9,List.map_nil,L,E,F]
 refine⟨⟨css,?_,by rw[hcs];simp,λW u=>agH⟩,h6⟩
 have h7:=my C.size H
 simp only[fP,aJ]at h7
 exact h7
end
theorem ints_at{p:List Int}{A:Option Addr}{w:World}(s:wL eS p A w)(u:0<p.length) :
 ∃b j,A=some ⟨b,j,none⟩/\∀W,K w W->∀i (t:i<p.length),W.cell? ⟨b,j+i,none⟩=some (.int .i64 p[i]):=by
 obtain⟨b,j,cs,rfl,-,-,-,-⟩:=dM s 0 u au
 refine⟨b,j,rfl,λW k i t=>?_⟩
 obtain⟨D,E,y,e,-,C,B,-⟩:=dM s i t au
 injection e with e
 injection e with e1 e2
 subst e1 e2
 have h:=B W k
 rw[show y=zo p[i]from C W k]at h
 simpa [eS]using h
def Bw(p:List Int):Int:=if iw p then 0 else 120
theorem Il{p:List Int}:iw p=true↔1<=p.length/\p.length<=16/\p[0]?=some (-1)/\∀n (h:n<p.length),1<=n->0<=p[n]/\p[n]<(n:Int):=by
 simp only[iw,cz,decide_eq_true_eq,pU,List.mem_range,Bool.or_eq_true,beq_iff_eq,and_assoc];refine and_congr_right λj=>and_congr_right λ_=>and_congr_right λ_=>⟨λh n hn j=>?_,λh n hn=>?_⟩
 ·have:=h n hn;rw[List.getElem?_eq_getElem hn]at this;simp at this;rcases this with h|h
  ·omega
  ·exact h
 ·by_cases i:n=0
  ·exact .inl i
  ·right;rw[List.getElem?_eq_getElem hn];simpa using h n hn af
theorem vO{p:List Int}(h:iw p=true):1<=p.length/\p.length<=16:=⟨(Il.1 h).1,(Il.1 h).2.1⟩
theorem Tm(p:List Int)(v:Value)(w:World)(h:ar eS p v w)(hn:p.length<=1000000) :
 Calls prog 30 #[v] w λe w'=>e=.returned (.int .i64 (Bw p))/\K w w':=by
 obtain⟨A,c,rfl,C,-⟩:=h
 have t:Hid (Bw p=if iw p then 0 else 120):=ae rfl
 generalize Bw p=R at *
 have no:Hid (∀_:¬iw p=true,R=120):=ae λh=>by rw[t.aa,if_neg h]
 have yes:Hid (∀_:iw p=true,R=0):=ae λh=>by rw[t.aa,if_pos h]
 have kk:=K.rf w
 clear t
 go_enter func30,ntmps30
 by_cases U:p.length<1
 ·have J:(p.length:Int)<1:=af;exact agI
 have J:¬(p.length:Int)<1:=af
 by_cases s:16<p.length
 ·have S:16<(p.length:Int):=af;exact agI
 have S:¬16<(p.length:Int):=af
 obtain⟨b,L,rfl,u⟩:=ints_at C af
 have y:0<p.length:=af
 have Y:w.cell? ⟨b,L,none⟩=some (.int .i64 p[0]):=u w kk 0 y
 have G:Hid (p[0]?=some p[0]):=ae (List.getElem?_eq_getElem y)
 have N:=ae (u w kk)
 clear u C
 generalize p[0]=D at *
 by_cases h2:D=-1
 rotate_left
 ·have V:(D != -1)=true:=qN;have HR:Hid (R=120):=ae (no.aa λh=>by have:=(Il.1 h).2.2.1;rw[G.aa]at this;injection this with this;exact h2 this);clear h2;exact yU
 subst h2
 go_wp2_with fail
 go_loop [3] (fun i=>∃j:Nat,1<=j/\j<=p.length/\i=.int .i64 (j:Int)/\Hid (∀n (h:n<p.length),1<=n->n<j->0<=p[n]/\p[n]<(n:Int))) (fun i=>p.length-(intOf i).toNat)
 case atStart=>exact⟨1,af,af,rfl,ae λn _ s h2=>af⟩
 case round =>
  obtain⟨j,I,Z,rfl,E⟩:=hrel;by_cases B:j<p.length
  ·have Q:(j:Int)<(p.length:Int):=af;have X:=N.aa j B;have H:Hid (0<=p[j]/\p[j]<(j:Int)->∀n (h:n<p.length),1<=n->n<j+1->0<=p[n]/\p[n]<(n:Int)):=ae λh n hn s h2=>by
    by_cases e:n=j
    ·subst e;exact h
    ·exact E.aa n hn s af
   have HN:Hid (¬(0<=p[j]/\p[j]<(j:Int))->R=120):=ae λh=>no.aa λO=>h ((Il.1 O).2.2.2 j B I)
   generalize p[j]=F at *;by_cases T:F<0
   ·exact agJ
   by_cases W:(j:Int)<=F
   ·exact agJ
   have M:=ae (H.aa af);go_wp2;go_round
   case rel=>exact⟨j+1,af,af,bO,M⟩
   case measure=>simp[intOf];omega
  ·have Q:¬(j:Int)<(p.length:Int):=af;have HR:Hid (R=0):=ae (yes.aa (Il.2 ⟨af,af,G.aa,λn hn s=>E.aa n hn s af⟩));exact yU
def rM(p:List Int)(n:Int):Bool:=jd p n&&iw p
theorem Te(p:List Int)(n:Int)(v:Value)(w:World)(h:ar eS p v w)(hn:p.length<=1000000) :
 Calls prog 174 #[v,.int .i64 n] w λe w'=>e=.returned (.bool (rM p n))/\K w w':=by
 have i:=ae λW (k:K w W)=>Tm p v W (aW h k) hn
 obtain⟨A,c,rfl,t,-⟩:=h
 have HC:Hid (rM p n=((decide (0<=n)&&decide (n<(p.length:Int)))&&iw p)):=ae rfl
 have j:Hid (Bw p=if iw p then 0 else 120):=ae rfl
 generalize rM p n=R at *
 generalize Bw p=T at *
 have kk:=K.rf w
 go_enter func174,ntmps174
 by_cases h0:0<=n
 rotate_left
 ·have HR:Hid (R=false):=ae agK;clear i;exact yU
 by_cases h1:n<(p.length:Int)
 rotate_left
 ·have HR:Hid (R=false):=ae (by rw[HC.aa];simp[h1]);clear i;exact yU
 have HR:Hid (R=iw p):=ae VW
 clear HC
 go_wp2_with fail
 refine (i.aa w kk).mono ?_
 rintro e s⟨rfl,k1⟩
 cases ho:iw p
 ·obtain rfl:T=120:=by rw[j.aa,ho];rfl
  have ir:Hid (R=false):=ae (by rw[HR.aa,ho]);clear ho HR j i;go_wp2;exact Ps
 ·obtain rfl:T=0:=by rw[j.aa,ho];rfl
  have ir:Hid (R=true):=ae (by rw[HR.aa,ho]);clear ho HR j i;go_wp2;exact Ps
theorem as3(p:List Int)(a b:Int)(v:Value)(w:World)(h:ar eS p v w)(hn:p.length<=1000000) :
 Calls prog 193 #[v,.int .i64 a,.int .i64 b] w λe w'=>e=.returned (.bool (Ci p a b))/\K w w':=by
 have C:=ae λW (k:K w W)=>Te p a v W (aW h k) hn
 have s:=ae λW (k:K w W)=>Te p b v W (aW h k) hn
 obtain⟨A,c,rfl,y,-⟩:=h
 have HC:Hid (Ci p a b=(rM p a&&rM p b&&Ch p a (p.length+1) b)):=ae (by unfold Ci rM;cases jd p a <;> cases jd p b <;> cases iw p <;> rfl)
 generalize Ci p a b=R at *
 have u:Hid (rM p b=true->iw p=true/\0<=b/\b<(p.length:Int)):=ae av5
 have t:Hid (rM p a=true->iw p=true):=ae (by unfold rM;simp)
 have kk:=K.rf w
 go_enter func193,ntmps193
 go_wp2
 go_step3
 go_wp2_with fail
 refine (C.aa w kk).mono ?_
 rintro e I⟨rfl,k1⟩
 cases Js:rM p a
 ·have HR:Hid (R=false):=ae (by rw[HC.aa,Js];rfl);clear Js;exact agL
 have N:=ae (t.aa Js)
 go_wp2_with fail
 refine (s.aa I k1).mono ?_
 rintro e J⟨rfl,E⟩
 replace k1:=k1.tr E
 cases lM:rM p b
 ·have HR:Hid (R=false):=ae agM;clear Js lM;exact agL
 have HR:Hid (R=Ch p a (p.length+1) b):=ae agM
 obtain⟨-,Q,aO⟩:=u.aa lM
 obtain⟨T,S,rfl,B⟩:=ints_at y af
 have L:=ae B
 clear Js lM HC u t C s B y E
 go_wp2_with fail
 go_step3
 go_wp2_with fail
 go_loop [2,7] (fun j M=>∃(f:Nat) (n:Int),j=.int .i64 n/\M=.bool false/\-1<=n/\n<(p.length:Int)/\n+1<(f:Int)/\Hid (R=Ch p a f n)) (fun j _=>(intOf j+1).toNat)
 case atStart=>exact⟨p.length+1,b,rfl,rfl,af,af,af,HR⟩
 case round =>
  clear HR;obtain⟨f,n,rfl,rfl,dK,Y,hf,HR⟩:=hrel;obtain⟨f,rfl⟩:∃F,f=F+1:=⟨f-1,af⟩;by_cases H:0<=n
  ·by_cases i:a=n
   ·subst i;have ir:Hid (R=true):=ae (by rw[HR.aa,Ch,if_neg (by omega),if_pos rfl]);go_wp2;try rw[gS]
    exact Ps
   ·have U:(a==n)=false:=by simpa using i
    obtain⟨m,rfl⟩:=Int.eq_ofNat_of_zero_le H;have hm:m<p.length:=af;have V:=L.aa J k1 m hm;have ir:Hid (R=Ch p a f p[m]):=ae (by rw[HR.aa,Ch,if_neg (by omega),if_neg i];simp[hm]);have G:-1<=p[m]/\p[m]<(m:Int):=by
     have D:=Il.1 N.aa;by_cases h1:m=0
     ·subst h1;have h2:=D.2.2.1;rw[List.getElem?_eq_getElem hm]at h2;injection h2 with h2;rw[h2];omega
     ·have:=D.2.2.2 m hm af;omega
    clear i HR;generalize p[m]=q at *;obtain⟨Z,X⟩:=G;go_wp2;go_round
    case rel=>exact⟨f,q,rfl,rfl,af,af,af,ir⟩
    case measure=>simp[intOf];omega
  ·have O:n<0:=af;have ir:Hid (R=false):=ae (by rw[HR.aa,Ch,if_pos (by omega)]);go_wp2;try rw[gS]
   exact Ps
section
open Go Go.RowKit Go.Shelf
attribute [local go_sem] Oper.semAt_some
def xC(p:List Int)(n:Int)(j:Nat):List Int:=((List.range j).filter λk=>decide (p[k]?=some n)).map λ(k:Nat)=>(k:Int)
theorem ap2(p:List Int)(n:Int)(j:Nat)(h:j<p.length):xC p n (j+1)=xC p n j++(if p[j]=n then [(j:Int)]else []):=by
 unfold xC;rw[List.range_succ,List.filter_append,List.map_append];congr 1;by_cases e:p[j]=n
 ·rw[if_pos e,List.filter_cons_of_pos (by simpa [h]using e)];rfl
 ·rw[if_neg e,List.filter_cons_of_neg (by simpa [h]using e)];rfl
theorem arh(p:List Int)(n:Int)(j:Nat)(h:j<=p.length):xC p n j <+: qT p n:=by
 unfold xC qT;have:List.range p.length=List.range j++(List.range (p.length-j)).map (j+·):=by rw[show p.length=j+(p.length-j) by omega,List.range_add];simp
 rw[this,List.filter_append,List.map_append];exact List.prefix_append _ _
theorem as4(p:List Int)(n:Int):(qT p n).length<=p.length:=by unfold qT;exact VX
def Ex(B b:Nat)(W h:World):Prop:=h.heap[B]?=W.heap[B]?/\h.heap[b]?=W.heap[b]?
theorem Ex.tr{B b:Nat}{W j i:World}(h:Ex B b W j)(k:Ex B b j i):Ex B b W i:=⟨k.1.trans h.1,k.2.trans h.2⟩
theorem as5(l Q u b A c:Nat)(p:List Int)(n:Int)(J M:List Int->World->Prop)
 (S:∀pre x W,J pre W->pre.length<(qT p n).length->YieldAt Fence.wide 4 prog l #[.int .i64 x] W λe t =>
  (e=.returned (.bool true)/\J (pre++[x]) t/\Ex u b W t)∨(e=.returned (.bool false)/\M (pre++[x]) t))
 (W:World) (U:W.cell? ⟨Q,0,none⟩=some (.slice (some ⟨b,A,none⟩) p.length c)) (D:W.cell? ⟨u,0,none⟩=some (.int .i64 n))
 (N:∀i (hi:i<p.length),W.cell? ⟨b,A+i,none⟩=some (.int .i64 p[i])) (hlen:p.length<=1000000) (F:J [] W) :
 CallsIn Fence.wide 5 prog 226 #[.func (.yield l) #[] #[],.pointer (some ⟨Q,0,none⟩),.pointer (some ⟨u,0,none⟩)] W λe t=>(∃v,e=.returned v) /\
  ((∃E,E=qT p n/\J E t)∨(∃pre,pre <+: qT p n/\M pre t)):=by
 refine callsIn_of_wp func226 rfl trivial ?_ rfl
 simp only[ntmps226,List.size_toArray,iE,List.length_nil,Nat.reduceAdd,Nat.reduceSub,Array.replicate_succ,Array.replicate_zero,List.push_toArray,List.append_toArray,aJ,aM]
 gi_wp2
 gi_loopw [4,5,8] (λ_ _ i wr=>∃j:Nat,i=.int .i64 (j:Int)/\j<=p.length/\J (xC p n j) wr/\Ex u b W wr) (λ_ _ i _=>p.length-(intOf i).toNat)
 case atStart=>exact⟨0,rfl,af,F,rfl,rfl⟩
 case round =>
  obtain⟨j,rfl,hj,s,hk⟩:=hrel;by_cases G:j<p.length
  ·have V:(j:Int)<(p.length:Int):=af;have cj:wr.cell? ⟨b,A+j,none⟩=some (.int .i64 p[j]):=(World.cell?_of_block hk.2).trans (N j G);have c2:wr.cell? ⟨u,0,none⟩=some (.int .i64 n):=(World.cell?_of_block hk.1).trans D;have O:=ap2 p n j G;have L:=arh p n (j+1) af;have y:=ae O;have B:=ae L;clear O L U D N F;generalize p[j]=q at *;by_cases e:q=n
   ·subst e;have C:Hid (xC p q (j+1)=xC p q j++[(j:Int)]):=ae (by rw[y.aa,if_pos rfl]);obtain⟨fn,tmps,assign,body,hy,T⟩:=S (xC p q j) j wr s (by have:=B.aa.length_le;rw[C.aa]at this;simp at this;omega);clear y;gi_wp2;refine T.mono ?_;rintro e Y (⟨rfl,H,R⟩|⟨rfl,I⟩)
    ·rw[<- C.aa]at H;gi_wp2;go_roundw
     case rel=>exact⟨j+1,bO,af,H,hk.tr R⟩
     case measure=>simp[intOf];omega
    ·rw[<- C.aa]at I;gi_wp2;refine bodyPost_ret (results_none rfl _ _ _) rfl ?_;exact⟨⟨_,rfl⟩,.inr ⟨_,B.aa,I⟩⟩
   ·have Z:(q==n)=false:=Iq;rw[show xC p n j=xC p n (j+1) by rw[y.aa,if_neg e];simp]at s;clear y B e;gi_wp2;refine⟨(λf X=>by cases X),?_⟩;gi_wp2;go_roundw
    case rel=>exact⟨j+1,bO,af,s,hk⟩
    case measure=>simp[intOf];omega
  ·have V:¬(j:Int)<(p.length:Int):=af;obtain rfl:j=p.length:=af;gi_wp2;go_end0;first|exact⟨⟨_,rfl⟩,.inl ⟨_,rfl,s⟩⟩|exact⟨⟨_,rfl⟩,.inl s⟩|exact s|exact .inl s
end
section
open Go Go.RowKit Go.Shelf
attribute [local go_sem] Oper.semAt_some
abbrev LG(l:List Int):List Value:=l.map λn=>Value.int .i64 n
theorem axg:(prog.info? 3).map (λi=>(i.zero,i.size,i.bytes))=some (some (.int .i64 0),1,8):=by kernel_rfl
theorem Rw:gJ prog 22 3 (.int .i64 0) 1 8:=⟨underlying22,axg,rfl,au⟩
theorem auS{base:Nat}{v:Value}{l:List Int}{W:World}(h:W.ownsRow base 3 1 v l.length (LG l)):aT (λk=>k<base) base 3 eS l v W :=
 ⟨l.map zo,by rw[T4];exact h,aj,λw' _=>J8 l w'⟩
theorem ap3(p:List Int)(n:Int)(A:Option Addr)(c:Nat)(w:World) :
 Calls prog 175 #[.slice A p.length c,.int .i64 n] w λe w'=>e=.returned (.func (.func 226) #[] #[.pointer (some ⟨w.heap.size,0,none⟩),.pointer (some ⟨w.heap.size+1,0,none⟩)])/\w'=(w.alloc (.cells #[.slice A p.length c] 22)).alloc (.cells #[.int .i64 n] 3):=by
 go_enter func175,ntmps175
 go_wp2
 go_ret
 exact⟨aj,rfl⟩
theorem ap4(p:List Int)(n:Int)(v:Value)(w:World)(h:ar eS p v w)(hn:p.length<=1000000) :
 Calls prog 100 #[v,.int .i64 n] w λe w'=>∃v',e=.returned v'/\aT (λk=>k<w.heap.size) w.heap.size 3 eS (Fw p n) v' w'/\K w w':=by
 have C1:=ae λW (k:K w W)=>Te p n v W (aW h k) hn
 obtain⟨A,c,rfl,hl,-⟩:=h
 have T:Hid (Fw p n=if rM p n then qT p n else []):=ae rfl
 have U:Hid (rM p n=true->0<p.length):=ae av6
 generalize Fw p n=R at *
 have kk:=K.rf w
 refine (callsIn_wide (n:=6)).1 ?_
 refine callsIn_of_wp_marks func100 rfl trivial ?_ rfl
 simp only[ntmps100,List.size_toArray,iE,List.length_nil,Nat.reduceAdd,Nat.reduceSub,Array.replicate_succ,Array.replicate_zero,List.push_toArray,List.append_toArray,aJ,aM]
 gi_wp2_with fail
 refine⟨trivial,(callsIn_wide.2 (C1.aa w kk)).mono ?_⟩
 rintro e E⟨rfl,Q⟩
 cases hb:rM p n
 ·have O:Hid (R=[]):=ae (by rw[T.aa,hb];rfl);clear hb;gi_wp2;exact⟨_,results_tmp rfl _ _ _,_,rfl,by rw[O.aa];exact aT.nil _ _ _ _ _,Q⟩
 have O:Hid (R=qT p n):=ae (by rw[T.aa,hb];rfl)
 obtain⟨b,y,rfl,hcell⟩:=ints_at hl (U.aa hb)
 have dI:b<w.heap.size:=Ka (hcell w kk 0 (U.aa hb))
 have uO:=ae hcell
 clear hb T U C1 hl hcell
 gi_wp2_with fail
 refine⟨trivial,(callsIn_wide.2 (ap3 p n _ c _)).mono ?_⟩
 rintro e C⟨rfl,rfl⟩
 have I:=((Boxed.new E 22 (.slice none 0 0)).alloc (.cells #[.slice (some ⟨b,y,none⟩) p.length c] 22)).alloc (.cells #[.int .i64 n] 3)
 have L:=(Boxed.new (E.alloc (.cells #[.slice none 0 0] 22)) 22 (.slice (some ⟨b,y,none⟩) p.length c)).alloc (.cells #[.int .i64 n] 3)
 have G:=Boxed.new ((E.alloc (.cells #[.slice none 0 0] 22)).alloc (.cells #[.slice (some ⟨b,y,none⟩) p.length c] 22)) 3 (.int .i64 n)
 have k2:K w (((E.alloc (.cells #[.slice none 0 0] 22)).alloc (.cells #[.slice (some ⟨b,y,none⟩) p.length c] 22)).alloc (.cells #[.int .i64 n] 3)):=((Q.al _).al _).al _
 have hz2:(((E.alloc (.cells #[.slice none 0 0] 22)).alloc (.cells #[.slice (some ⟨b,y,none⟩) p.length c] 22)).alloc (.cells #[.int .i64 n] 3)).heap.size=E.heap.size+1+1+1:=aj
 simp only[World.size_alloc]at L G⊢
 have hz1:=Q.size
 have ayY:=ae (uO.aa _ k2)
 generalize ((E.alloc (.cells #[.slice none 0 0] 22)).alloc (.cells #[.slice (some ⟨b,y,none⟩) p.length c] 22)).alloc (.cells #[.int .i64 n] 3)=C at *
 generalize hg:E.heap.size=B0 at *
 clear hg hz2 uO
 gi_wp2_with fail
 refine wpIn_rangeFunc_ownF rfl af (gf:=226) (lb:=#[.pointer (some ⟨B0+1,0,none⟩),.pointer (some ⟨B0+1+1,0,none⟩)]) rfl trivial (enters_of func226 ak rfl)
  (encs:=λx:Int=>#[.int .i64 x]) (Kp:=Ex (B0+1+1) b) (S:=λys=>ys=qT p n) (Sp:=λpre=>pre <+: qT p n) (N:=(qT p n).length) (w0:=C)
  (λl J Jx W Z _ _ hY h0=>as5 l (B0+1) (B0+1+1) b y c p n J Jx hY W ((World.cell?_of_block (Z.block _ L.lt)).trans L.cell) ((World.cell?_of_block (Z.block _ G.lt)).trans G.cell)
   (λi V=>(World.cell?_of_block (Z.block _ (show b<_ by have:=k2.size;omega))).trans (ayY.aa i V)) hn h0)
  (λh k=>h.tr k) (λW l o o' h1 _ _ _=>⟨World.putObj_heap_other (by have:=G.lt;omega),World.putObj_heap_other (by have:=k2.size;omega)⟩) (aN _ _) (λ_=>rfl)
  (λpre W=>∃v,Boxed W B0 22 v/\W.ownsRow C.heap.size 3 1 v pre.length (LG pre)/\Below w.heap.size w W/\C.heap.size<=W.heap.size)
  (λ_ _ _=>False) ?own (λ_ _ _ _ _ hs _ _=>hs) ⟨_,I,iF _ _ _ _,k2,aG _⟩
  (λx=>{ tmps:=#[.slice (some ⟨b,y,none⟩) p.length c,.int .i64 n,undef,undef,.slice none 0 0,.pointer (some ⟨B0,0,none⟩),.int .i64 x,.slice (some ⟨b,y,none⟩) p.length c,.int .i64 n,.bool true,.bool false,.slice (some ⟨b,y,none⟩) p.length c,.int .i64 n,.func (.func 226) #[] #[.pointer (some ⟨B0+1,0,none⟩),.pointer (some ⟨B0+1+1,0,none⟩)],.int .i64 x,undef,undef,undef,undef,undef],defers:=[] }) ?assign ?body ?done ?stop
 case own => exact agN
 case assign => intro l x W K hK;gi_wp2;exact hK
 case body =>
  rintro l pre x W⟨v,hv,hrow,hB,MR⟩ hpl;have q:=hv.cell;have hul:=as4 p n;have IM:=pg hrow (.cells #[.int .i64 x] 3);have aO:=ai.new W 3 #[.int .i64 x];obtain⟨i,V,hz0,iW,iX⟩:=Rw.fit;gi_wp2_with (gi_at_builtin;refine wpListIn_append_own _ rfl _ _ 22 rfl C.heap.size 3 i (.int .i64 0) 1 8 underlying22 V hz0 iW iX rfl au v pre.length (LG pre) rfl IM ⟨W.heap.size,0,none⟩ 1 1 [.int .i64 x] rfl rfl ?c1 ?c2 ?c3 ?c4 ?c5 ?_)
  case c1 =>
   intro j u hu;have:j=0:=by exact UK
   subst this;have h:=aO.cell 0;simp at hu⊢;rw[<- hu];simp[Addr.add]
  case c2=>intro u hu;simp at hu;subst hu;rfl
  case c3=>unfold maxLen;omega
  case c4=>omega
  case c5=>simp;omega
  intro v' w' hown' Y _;obtain⟨g',cap',F⟩:∃g cap,v'=.slice (some ⟨g,0,none⟩) (pre.length+1) cap:=by exact agO
  rw[F]at hown'⊢;clear F;obtain⟨v',F⟩:∃v',v'=Value.slice (some ⟨g',0,none⟩) (pre.length+1) cap':=⟨_,rfl⟩;rw[<- F]at hown';have hne:some B0≠v.ownBlock:=λe=>by have:=(hrow.lt B0 e.symm).1;have:=I.lt;omega
  have M:Boxed w' B0 22 v:=(hv.alloc _).kept Y hne;have q1:=M.cell;have z1:=M.frozen;have aky:v'.ownBlock≠some B0:=λe=>by have:=(hown'.lt B0 e).1;have:=I.lt;omega
  have u:ah (λk=>k=B0∨C.heap.size<=k) W (w'.setCell ⟨B0,0,none⟩ v') :=
   ((ah.bg ((K.rf W).al (.cells #[.int .i64 x] 3)) _).tr (ah.fM Y λg hg=>.inr (IM.lt g hg).1)).tr (ah.b6 (X:=λk=>k=B0∨C.heap.size<=k) (.inl rfl) 0 v')
  have Jg:KeepsOthers W (w'.setCell ⟨B0,0,none⟩ v'):=by refine ((KeepsOthers.alloc W (.cells #[.int .i64 x] 3)).trans (KeepsOthers.of_grownBy Y λj o ej hj=>?_)).trans (KeepsOthers.setCell _ _ _);exact agP
  have H:Boxed (w'.setCell ⟨B0,0,none⟩ v') B0 22 v'/\(w'.setCell ⟨B0,0,none⟩ v').ownsRow C.heap.size 3 1 v' (pre++[x]).length (LG (pre++[x]))/\Below w.heap.size w (w'.setCell ⟨B0,0,none⟩ v')/\C.heap.size<=(w'.setCell ⟨B0,0,none⟩ v').heap.size:=by
   refine⟨M.set v',?_,⟨u.os.trans hB.os,u.tape.trans hB.tape,u.output.trans hB.output,bq hB.size u.size,λk hk=>(u.block k (bB hk hB.size) λh=>?_).trans (hB.block k hk)⟩,bq MR u.size⟩
   ·exact agQ
   ·have:=k2.size;omega
  have F3:Ex (B0+1+1) b W (w'.setCell ⟨B0,0,none⟩ v'):=by have h2:=G.lt;have h3:=k2.size;exact⟨u.block _ af af,u.block _ af af⟩
  subst F;gi_wp2;exact⟨Jg,F3,_,H.1,H.2.1,H.2.2.1,H.2.2.2⟩
 case done =>
  rintro D ys W hD rfl⟨v,hv,hrow,hB,MR⟩ hK;have q:=hv.cell;have hr:(W.putObj D (.deferred none)).ownsRow w.heap.size 3 1 v (qT p n).length (LG (qT p n)):=Dm (my k2.size hrow) λg _ _ h2=>World.putObj_heap_other λe=>by exact agR
  have HV:=ae (auS hr);have HI:=ae (belowK_b (n₀:=w.heap.size) (w:=C) k2.size W D _ (.deferred none) hD hK rfl rfl);gi_wp2;refine⟨aj,.inl ⟨_,_,rfl,run_takeDeferred hK,?_⟩⟩;exact⟨_,results_tmp rfl _ _ _,_,rfl,by rw[O.aa];exact HV.aa,hB.trans HI.aa⟩
 case stop => rintro D c pre W _ _ h _;exact h.elim
end
