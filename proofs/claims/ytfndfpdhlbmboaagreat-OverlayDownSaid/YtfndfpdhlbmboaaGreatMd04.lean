/-
  Lists in memory whose elements lead on: their cells, own rows that are written, what stays. Conditions: none.
-/
import Derived.Test.YtfndfpdhlbmboaaGreatMd03
import Derived.Sort.MapsRangeIn
import Derived.RangeFuncGives
import Derived.Test.YtfndfpdhlbmboaaGreatMdz
set_option maxRecDepth 100000
set_option linter.constructorNameAsVariable false
set_option maxHeartbeats 16000000
set_option linter.unusedVariables false
set_option linter.unusedSimpArgs false
namespace Go.Proofs.YtfndfpdhlbmboaaGreat
open Go Go.RowKit _root_.Go.Proofs.Tryz
theorem aX.floor{α S}{l:List α}{v w base lo j e}(h:aX base lo e S l v w)(A:j<=lo):aX base j e S l v w:=by obtain⟨css,B,t,y⟩:=h;exact⟨css,B,t,λw' u=>y w' (u.more A (λ_ _ h=>h))⟩
theorem fT.up{w w' B v l}(h:fT w B v l)(u:aI B none w w'):fT w' B v l:=by refine⟨h.1,h.2.imp id ?_⟩;exact VQ
theorem Vj(l:List cZ):∀u∈l.flatMap nI,u.oneCell'=true:=by
 intro u j
 obtain⟨x,_,t⟩:=List.mem_flatMap.1 j
 grind [aei]
theorem IA(l:List dH):∀u∈l.flatMap fR,u.oneCell'=true:=by intro u t;obtain⟨x,_,j⟩:=List.mem_flatMap.1 t;simp at j;rcases j with rfl|rfl|rfl|rfl|rfl <;> rfl
theorem eB{α S}{l:List α}{A w}(h:zf S l A w) i(C:i<l.length)(u:0<S.size) :
 ∃b t cs,A=some ⟨b,t,none⟩/\cs.length=S.size/\(∀W,K w W->S.rel l[i] cs W)/\(∀W,K w W->W.cell? ⟨b,t+i*S.size,none⟩=cs[0]?)/\∀W,K w W->∀j,j<S.size->W.cell? ⟨b,t+i*S.size+j,none⟩=cs[j]?:=by
 obtain⟨b,t,cs,e,hb,E,D,y⟩:=I7 h i C u
 have key:∀W,K w W->∀j,j<S.size->W.cell? ⟨b,t+i*S.size+j,none⟩=cs[j]?:=λW k j B=>(k.cell (p:=⟨b,t+i*S.size+j,none⟩) hb).trans (y j B)
 exact⟨b,t,cs,e,E,λW k=>S.st D k,λW k=>key W k 0 u,key⟩
theorem VR{w:World}{base g n cap q e size xs}(h:w.ownsRow base e size (.slice (some ⟨g,0,none⟩) n cap) n xs)(_:q<xs.length) u :
 (w.setCell ⟨g,q,none⟩ u).ownsRow base e size (.slice (some ⟨g,0,none⟩) n cap) n (xs.set q u):=by
 refine⟨by simpa using h.1,.inr ?_⟩
 rcases h.2 with ⟨j,_⟩|⟨G,E,cur,A,B,y,C,D,F,t⟩
 ·cases j
 ·injection A with e1 _ e3;injection e1 with e1;injection e1 with e1;subst e1 e3;refine⟨g,cap,cur.setIfInBounds q u,rfl,B,(show ai w g e cur from y).aQ q u,C,D,aA,?_⟩;rw[Array.toList_setIfInBounds,<- t,List.take_set]
theorem FF{w:World}{base g n cap e size xs}(h:w.ownsRow base e size (.slice (some ⟨g,0,none⟩) n cap) n xs):(∀q,q<xs.length->w.cell? ⟨g,q,none⟩=xs[q]?)/\∀q,w.frozen? ⟨g,q,none⟩=false:=by
 rcases h.2 with ⟨t,_⟩|⟨G,B,cur,y,C,j,E,F,D,u⟩
 ·cases t
 ·injection y with e1 _ e3;injection e1 with e1;injection e1 with e1;subst e1 e3;refine⟨λq A=>?_,λq=>(show ai w g e cur from j).frozen q⟩;rw[(show ai w g e cur from j).cell q,<- u];grind
theorem O4{α:Type} n u:∀(css:List (List α)),(∀cs∈css,cs.length=n)->∀(k j:Nat) (hk:k<css.length),j<n->css.flatten.set (k*n+j) u=(css.set k ((css[k]).set j u)).flatten
 | [],_,k,j,hk,_=>by simp at hk
 | c :: css,h,0,j,hk,hj=>by have hc:=h c aj;simp only[Nat.zero_mul,mQ,List.flatten_cons,rH,List.getElem_cons_zero];rw[List.set_append,if_pos af]
 | c :: css,h,k+1,j,hk,hj=>by have hc:=h c aj;have t:=O4 n u css (λx hx=>h x IQ) k j tk hj;simp only[List.flatten_cons,rI,List.getElem_cons_succ];rw[List.set_append,if_neg PM,<- t];congr 2;rw[hc,Nat.succ_mul];omega
theorem Each.set{α S l css w}(h:Each S l css w) k{x:α}{cs}(u:S.rel x cs w):Each S (l.set k x) (css.set k cs) w:=by
 refine⟨Lm,λi y t=>?_⟩;by_cases j:k=i
 ·grind
 ·rw[List.getElem_set_ne j,List.getElem_set_ne j];exact h.2 i aA aA
structure ag(X:Nat->Prop)(w w':World):Prop where
 os:w'.os=w.os
 tape:w'.tape=w.tape
 output:w'.output=w.output
 size:w.heap.size<=w'.heap.size
 block:∀k,k<w.heap.size->¬X k->w'.heap[k]?=w.heap[k]?
section
variable {X:Nat->Prop} {a b c w w':World}
theorem ag.rf X w:ag X w w:=⟨rfl,rfl,rfl,aD _,λ_ _ _=>rfl⟩
theorem ag.tr(h:ag X a b)(k:ag X b c):ag X a c :=
 ⟨k.os.trans h.os,k.tape.trans h.tape,k.output.trans h.output,bn h.size k.size,λi t j=>(k.block i (bz t h.size) j).trans (h.block i t j)⟩
theorem ag.aT(h:K w w') X:ag X w w':=⟨h.os,h.tape,h.output,h.size,λi j _=>h.block i j⟩
theorem ag.eU{row}(h:w.grownBy w' row)(t:∀g,row=some g->X g):ag X w w' :=
 ⟨h.os,h.tape,h.output,h.size,λi u j=>h.block i u (λe=>j (t i e.symm))⟩
theorem ag.rY{lo row}(h:ag X w w')(u:∀k,lo<=k->k<w.heap.size->some k≠row->¬X k):aI lo row w w' :=
 ⟨h.os,h.tape,h.output,h.size,λi y j t=>h.block i j (u i y j t)⟩
theorem aI.upN{lo row}(h:aI lo row w w')(t:∀k,k<lo∨some k=row->X k):ag X w w' :=
 ⟨h.os,h.tape,h.output,h.size,λi y j=>h.block i (Nat.le_of_not_lt λu=>j (t i (.inl u))) y (λe=>j (t i (.inr e)))⟩
theorem FJ{base e size n v xs}(h:w.ownsRow base e size v n xs)(k:∀g,base<=g->g<w.heap.size->v.ownBlock=some g->w'.heap[g]?=w.heap[g]?):w'.ownsRow base e size v n xs:=by refine⟨h.1,h.2.imp id ?_⟩;rintro ⟨g,cap,cur,rfl,t,j,u⟩;exact⟨g,cap,cur,rfl,t,(k g t (Array.getElem?_eq_some_iff.1 j).1 rfl).trans j,u⟩
theorem mq{base e size n v xs}(h:w.ownsRow base e size v n xs){g}(hg:v.ownBlock=some g):∃cur,ai w g e cur:=by
 rcases h.2 with ⟨rfl,_⟩|⟨t,cap,cur,rfl,_,j,_⟩
 ·cases hg
 ·injection hg with hg;subst hg;exact⟨cur,j⟩
theorem ai.ie{g t j cs u}(h:ai w g t cs)(y:ai w g j u):t=j:=by
 grind [ai]
theorem Pa{α S}{l:List α}{v base e css}(j:w.ownsRow base e S.size v l.length css.flatten)(t:Each S l css w):aq S l v w:=by
 have u:=j;rcases j.2 with ⟨rfl,y⟩|⟨g,cap,cur,rfl,_,_,hn,_⟩
 ·grind [List.eq_nil_of_length_eq_zero,gI]
 ·exact⟨_,_,rfl,⟨css,t,Reads.yH u⟩,hn⟩
theorem Py{base g n cap:Nat}{e:TypeId}{size:Nat}:∀(us xs:List Value) (q:Nat) (w:World),w.ownsRow base e size (.slice (some ⟨g,0,none⟩) n cap) n xs->q+us.length<=xs.length ->
 (ef w g q us).ownsRow base e size (.slice (some ⟨g,0,none⟩) n cap) n (oU xs q us)
 | [],_,_,_,h,_=>h
 | u :: us,xs,q,w,h,hl=>by simp only[ef,oU];simp only[fg]at hl;exact Py us _ _ _ (VR h af u) ba
theorem OQ n:∀(us:List Value) (css:List (List Value)),(∀cs∈css,cs.length=n)->∀(k j:Nat) (hk:k<css.length),j+us.length<=n->oU css.flatten (k*n+j) us=(css.set k (oU (css[k]) j us)).flatten
 | [],css,h,k,j,hk,hj=>by simp[oU]
 | u :: us,css,h,k,j,hk,hj=>by
  simp only[fg]at hj;simp only[oU];rw[O4 n u css h k j hk af];have A:∀cs∈css.set k ((css[k]).set j u),cs.length=n:=by
   intro cs y;rcases List.mem_or_eq_of_mem_set y with B|rfl
   ·exact h cs B
   ·simp;exact h _ (bZ hk)
  have t:=OQ n us (css.set k ((css[k]).set j u)) A k (j+1) tk af;rw[show k*n+j+1=k*n+(j+1) by omega,t];simp
theorem ag.sets{g:Nat}(j:X g):∀(us:List Value) (q:Nat) (w:World),ag X w (ef w g q us)
 | [],_,_=>ag.rf _ _
 | u :: us,q,w=>by simp only[ef];refine ag.tr (b:=w.setCell ⟨g,q,none⟩ u) ⟨rfl,rfl,rfl,VS,λi _ h=>Below.heap_setCell w ⟨g,q,none⟩ u i (by rintro rfl;exact h j)⟩ (ag.sets j us _ _)
end
section
open Go Go.RowKit Go.ChangeMaps
section
variable {α:Type} [DecidableEq α] {enc:α->Value} {P:Program} {kt:TypeId}
def gu(k:α):List (α×Value)->Nat->Option (Nat×Value)
 | [],_=>none
 | p :: r,i=>if p.1=k then some (i,p.2)else gu k r (i+1)
def dh(ak:List (α×Value))(k:α):Option Value:=(gu k ak 0).map (·.2)
def sG(ak:List (α×Value))(k:α)(v:Value):List (α×Value):=match gu k ak 0 with|some (i,_)=>ak.modify i λp=>(p.1,v)|none=>ak++[(k,v)]
def Cp(ak:List (α×Value))(k:α):List (α×Value):=match gu k ak 0 with|some (i,_)=>ak.eraseIdx i|none=>ak
theorem UW{k}{ak:List (α×Value)}:∀ {i j:Nat} {v:Value},gu k ak i=some (j,v)->i<=j/\ak[j-i]?=some (k,v):=by
 induction ak with
 | nil=>intro i j v h;cases h
 | cons p r t =>
  grind [gu]
structure Gm(P:Program)(kt:TypeId)(enc:α->Value):Prop where
 find:∀(k:α) (es:List MapEntry) (ak:List (α×Value)) (w:World),es.map (λe=>(e.key,e.val))=ak.map (λp=>(enc p.1,p.2))->(Instr.findKey kt (enc k) es).run P w=.ok (gu k ak 0) w
 mH:∀(k:α) (em:Bool) (w:World),(Instr.checkKey em 10000 kt (enc k)).run P w=.ok () w
 stays:∀(k:α),Instr.sameBits 10000 (enc k) (enc k)=true
theorem aoF{β γ:Type}{g:β->γ} f(h:∀x,g (f x)=g x):∀(l:List β) (i:Nat),(l.modify i f).map g=l.map g:=by
 intro l
 induction l with
 | nil=>intro i;cases i <;> rfl
 | cons x l j =>
  intro i
  cases i with
  | zero=>simp[h]
  | succ i=>simp[j]
def wN(es:List MapEntry)(c:Nat):Prop:=(es.map (·.born)).Pairwise (· < ·)/\∀n∈es.map (·.born),n<c
theorem wN.push{es c}(h:wN es c) k v:wN (es++[⟨k,v,c⟩]) (c+1):=by
 refine⟨?_,λn hn=>?_⟩
 ·rw[List.map_append];exact List.pairwise_append.2 ⟨h.1,aj,λa j b hb=>by simp at hb;subst hb;exact h.2 a j⟩
 ·rw[List.map_append,Eh]at hn;rcases hn with hn|hn
  ·have:=h.2 n hn;omega
  ·grind
theorem wN.same{es j c}(h:wN es c)(e:j.map (·.born)=es.map (·.born)):wN j c:=by
 grind [wN]
theorem wN.sub{es j c}(h:wN es c)(s:j.Sublist es):wN j c:=⟨h.1.sublist (s.map _),λn hn=>h.2 n ((s.map _).mem hn)⟩
def eC(enc:α->Value)(w:World)(b:Nat)(ak:List (α×Value)):Prop :=
 ∃(es:Array MapEntry) (c:Nat),w.heap[b]?=some (.map es c)/\es.toList.map (λe=>(e.key,e.val))=ak.map (λp=>(enc p.1,p.2))/\wN es.toList c
end
section
variable {α:Type} {enc:α->Value} {P:Program} {kt:TypeId}
theorem eC.new(w:World):eC enc (w.alloc (.map #[] 0)) w.heap.size []:=⟨#[],0,heap_alloc_new w _,rfl,by simp[wN]⟩
end
section
variable {α:Type} [DecidableEq α] {enc:α->Value} {P:Program} {kt:TypeId}
end
section
variable {α:Type} {enc:α->Value} {P:Program} {kt:TypeId}
theorem eC.lt{w b ak}(h:eC enc w b ak):b<w.heap.size:=by
 obtain⟨es,c,h,_⟩:=h
 grind
end
section
variable {α:Type} [DecidableEq α] {enc:α->Value} {P:Program} {kt:TypeId}
end
section
variable {α:Type} {enc:α->Value} {P:Program} {kt:TypeId}
theorem eC.aW{w w' b ak X}(h:eC enc w b ak)(hb:ag X w w')(t:¬X b):eC enc w' b ak:=by have u:=h.lt;obtain⟨es,c,y,j⟩:=h;exact⟨es,c,(hb.block b u t).trans y,j⟩
end
section
variable {α:Type} [DecidableEq α] {enc:α->Value} {P:Program} {kt:TypeId}
end
section
variable {α:Type} {enc:α->Value} {P:Program} {kt:TypeId}
theorem eC.st{w w' b ak}(h:eC enc w b ak)(k:K w w'):eC enc w' b ak:=by have t:=h.lt;obtain⟨es,c,u,j⟩:=h;exact⟨es,c,(k.block b t).trans u,j⟩
end
section
variable {α:Type} [DecidableEq α] {enc:α->Value} {P:Program} {kt:TypeId}
end
section
variable {α:Type} {enc:α->Value} {P:Program} {kt:TypeId}
theorem eC.cells{w b ak}(h:eC enc w b ak){e cs}(hb:ai w b e cs):False:=by obtain⟨es,c,j,_⟩:=h;have:=j.symm.trans hb;cases this
end
section
variable {α:Type} [DecidableEq α] {enc:α->Value} {P:Program} {kt:TypeId}
theorem DG{t E}(u:Gm P kt enc)(y:P.underlying t=some (.map kt E)){w z}(hz:(zeroValue E).run P w=.ok z w){b ak}(h:eC enc w b ak) k :
 (Instr.lookup t (.map (some b)) (enc k) true).run P w=.ok (.tuple #[(dh ak k).getD z,.bool (dh ak k).isSome]) w/\(Instr.lookup t (.map (some b)) (enc k) false).run P w=.ok ((dh ak k).getD z) w:=by
 obtain⟨es,c,A,B,C⟩:=h
 have j:=u.find k es.toList ak w B
 unfold dh
 cases hr:gu k ak 0 with
 | none=>rw[hr]at j;simp[Instr.lookup,run_underlying y,MapKept.run_getObj_map A,u.mH,j,hz,Result.andThen]
 | some x=>rw[hr]at j;simp[Instr.lookup,run_underlying y,MapKept.run_getObj_map A,u.mH,j,Result.andThen]
theorem FK{t E}(y:Gm P kt enc)(C:P.underlying t=some (.map kt E)){w b ak}(h:eC enc w b ak) k v :
 ∃w',(Instr.mapUpdate t (.map (some b)) (enc k) v).run P w=.ok () w'/\eC enc w' b (sG ak k v)/\w.grownBy w' (some b):=by
 obtain⟨es,c,u,h2,D⟩:=h
 have A:=y.find k es.toList ak w h2
 have hg:∀o,w.grownBy (setBlock w b o) (some b):=λo=>⟨rfl,rfl,rfl,PK,λi _ B=>heap_setBlock_other u _ (λe=>B K8)⟩
 unfold sG
 cases hr:gu k ak 0 with
 | none =>
  rw[hr]at A;refine⟨setBlock w b (.map (es.push ⟨enc k,v,c⟩) (c+1)),?_,⟨_,_,heap_setBlock_same u _,?_,by simpa using D.push (enc k) v⟩,hg _⟩
  ·simp[Instr.mapUpdate,run_underlying C,MapKept.run_getObj_map u,y.mH,A,MapKept.run_setObj_map _ u,Result.andThen,setBlock]
  ·simp[h2]
 | some x =>
  obtain⟨i,H⟩:=x;rw[hr]at A;obtain⟨-,B⟩:=UW hr;have J:es.toList.length=ak.length:=afE;have G:i<ak.length:=aA;have F:(es[i]?).map (·.key)=some (enc k):=by
   have:=congrArg (λl=>l[i]?) h2
   simp only[List.getElem?_map]at this
   rw[show i-0=i by omega]at B
   rw[B]at this
   simp only[Array.getElem?_toList,Option.map_some]at this
   cases he:es[i]? with
   | none=>rw[he]at this;simp at this
   | some e=>rw[he]at this;simp at this;simp[this.1]
  refine⟨setBlock w b (.map (es.modify i λe=>{ e with key:=enc k,val:=v }) c),?_,⟨_,_,heap_setBlock_same u _,?_,D.same (by grind [Array.toList_modify,aoF])⟩,hg _⟩
  ·simp[Instr.mapUpdate,run_underlying C,MapKept.run_getObj_map u,y.mH,A,F,Instr.keyThatStays,y.stays,MapKept.run_setObj_map _ u,Result.andThen,setBlock]
  ·rw[Array.toList_modify];apply List.ext_getElem?;intro j;have I:=congrArg (λl=>l[j]?) h2;grind
theorem avo{t E}(KG:Gm P kt enc)(hT:P.underlying t=some (.map kt E)){w b ak}(h:eC enc w b ak) k ty u(hts:u[0]?=some t) :
 ∃w',(Builtin.delete_ u ty #[.map (some b),enc k]).run P w=.ok (.tuple #[]) w'/\eC enc w' b (Cp ak k)/\w.grownBy w' (some b):=by
 obtain⟨es,c,h1,h2,j⟩:=h
 have hf:=KG.find k es.toList ak w h2
 have hg:∀o,w.grownBy (setBlock w b o) (some b):=λo=>⟨rfl,rfl,rfl,PK,λi _ y=>heap_setBlock_other h1 _ (λe=>y K8)⟩
 have C:es.toList.length=ak.length:=afE
 unfold Cp
 cases hr:gu k ak 0 with
 | none => rw[hr]at hf;refine⟨setBlock w b (.map es c),?_,⟨_,_,heap_setBlock_same h1 _,h2,j⟩,hg _⟩;exact afF
 | some x =>
  obtain⟨i,B⟩:=x;rw[hr]at hf;obtain⟨-,y⟩:=UW hr;have A:i<es.size:=aA;refine⟨setBlock w b (.map (es.eraseIdxIfInBounds i) c),?_,⟨_,_,heap_setBlock_same h1 _,?_,j.sub (by grind [Array.toList_eraseIdx,List.eraseIdx_sublist])⟩,hg _⟩
  ·exact afF
  ·grind [Array.toList_eraseIdx,List.map,List.eraseIdx_eq_take_drop_succ,List.map_take,List.map_drop]
end
def encI(n:Int):Value:=.int .i64 n
theorem Es{P kt}(j:P.underlying kt=some (.int .i64)):Gm P kt encI:=by
 refine⟨λk es ak w h=>?_,λk t w=>OK j k t w,λk=>by simp[encI,Instr.sameBits]⟩;have key:∀(es:List MapEntry) (ak:List (Int×Value)) (i:Nat),es.map (λe=>(e.key,e.val))=ak.map (λp=>(encI p.1,p.2))->Instr.findNow (.int .i64) (.int .i64 k) es i=some (gu k ak i):=by
  intro es
  induction es with
  | nil=>intro ak i h;cases ak with
   | nil=>rfl
   | cons p r=>simp at h
  | cons e es A=>intro ak i h;cases ak with
   | nil=>simp at h
   | cons p r =>
    simp only[jR,List.cons.injEq,Prod.mk.injEq]at h;obtain⟨⟨B,y⟩,u⟩:=h;unfold Instr.findNow gu;rw[B];by_cases hk:p.1=k
    ·subst hk;simp[Instr.sameNow,encI,y]
    ·have:(k==p.1)=false:=aA;simp[Instr.sameNow,encI,this,A r (i+1) u,hk]
 simp[Instr.findKey,run_underlying j,encI,key es ak 0 h]
def mD(a:aS):Value:=.agg #[.int .i64 a.1,.int .u64 (a.2.1:Int),.int .u64 (a.2.2:Int)]
theorem ate x y w d:(Op.equalIn (d+1+1) 26 (mD x) (mD y)).run prog w=.ok (decide (x=y)) w:=by obtain⟨a,b,c⟩:=x;obtain⟨t,u,j⟩:=y;unfold mD;simp[go_sem,KO];by_cases A:a=t <;> by_cases B:b=u <;> by_cases C:c=j <;> simp[A,C,B] <;> omega
theorem Rl:Gm prog 26 mD:=by
 refine⟨λk es ak w h=>?_,λk u w=>?_,λk=>?_⟩
 ·have key:∀(es:List MapEntry) (ak:List (aS×Value)) (i:Nat),es.map (λe=>(e.key,e.val))=ak.map (λp=>(mD p.1,p.2))->(Instr.findAsking 26 (mD k) es i).run prog w=.ok (gu k ak i) w:=by
   intro es
   induction es with
   | nil=>intro ak i h;cases ak with
    | nil=>rfl
    | cons p r=>simp at h
   | cons e es ih=>intro ak i h;cases ak with
    | nil=>simp at h
    | cons p r => simp only[jR,List.cons.injEq,Prod.mk.injEq]at h;obtain⟨⟨h1,t⟩,h3⟩:=h;have he:(Op.equal 26 (mD k) (mD p.1)).run prog w=.ok (decide (k=p.1)) w:=ate k p.1 w 9998;exact afG
  obtain⟨j,hu⟩:∃j,prog.underlying 26=some (.struct j):=⟨_,underlying26⟩;cases es with
  | nil => exact afH
  | cons e es =>
   have hn:Instr.findNow (.struct j) (mD k) (e :: es) 0=none:=by rfl
   simp[Instr.findKey,run_underlying hu,hn,key (e :: es) ak 0 h]
 ·rfl
 ·unfold mD;simp[Instr.sameBits]
end
section
open Go Go.RowKit Go.ChangeMaps
section
variable {α:Type} {enc:α->Value} {P:Program}
def sH(enc:α->Value)(w:World)(b r:Nat)(ak:List (α×Value))(L:List α):Prop :=
 ∃(es:Array MapEntry) (c since:Nat) (seen:Array Nat) (c0:Nat),w.heap[b]?=some (.map es c)/\es.toList.map (λe=>(e.key,e.val))=ak.map (λp=>(enc p.1,p.2))/\wN es.toList c /\
  w.heap[r]?=some (.mapIter (some b) since seen c0)/\(∀x∈es.toList,x.born<since)/\since<=c0/\since<=c/\(Go.leftOf es seen).toList.map (·.key)=L.map enc
theorem eC.range{t kt E w b ak}(h:eC enc w b ak)(B:P.underlying t=some (.map kt E)) :
 ∃w',(Instr.range t (.map (some b))).run P w=.ok (.pointer (some ⟨w.heap.size,0,none⟩)) w'/\sH enc w' b w.heap.size ak (ak.map (·.1))/\w.grownBy w' none/\w'.heap.size=w.heap.size+1:=by
 have C:=h.lt
 obtain⟨es,c,y,u,j⟩:=h
 refine⟨_,run_range_map w t kt E b es c B y,⟨es,c,c,#[],c,((MapKept.heap_alloc w _).2 b C).trans y,u,j,(MapKept.heap_alloc w _).1,λx A=>j.2 _ (List.mem_map.2 ⟨x,A,rfl⟩),aD _,aD _,?_⟩,World.grownBy_alloc w _ none,aj⟩
 have:=congrArg (List.map Prod.fst) u
 simp only[List.map_map]at this
 have e:(Go.leftOf es #[]).toList=es.toList:=by simp[Go.leftOf]
 rw[e,List.map_map]
 simpa [Function.comp_def]using this
theorem aci:∀(l:List MapEntry),(l.map (·.born)).Pairwise (· < ·)->∀(i:Nat) (h:i<l.length),l.filter (λx=>!(x.born==l[i].born))=l.eraseIdx i
 | [],_,i,h=>xy
 | e :: l,hp,i,h=>by
  rw[jR,List.pairwise_cons]at hp
  cases i with
  | zero => rw[List.getElem_cons_zero,List.filter_cons_of_neg aj,List.eraseIdx_cons_zero,List.filter_eq_self];intro x u;have:=hp.1 x.born (List.mem_map.2 ⟨x,u,rfl⟩);have j:x.born≠e.born:=af;simpa using j
  | succ i => have t:i<l.length:=BX;have:=hp.1 l[i].born (List.mem_map.2 ⟨l[i],bZ t,rfl⟩);have j:e.born≠l[i].born:=af;rw[List.getElem_cons_succ,List.filter_cons_of_pos (by simpa using j),List.eraseIdx_cons_succ,aci l hp.2 i t]
theorem acT{β γ:Type}(f:β->γ):∀(l:List β) (i:Nat),(l.eraseIdx i).map f=(l.map f).eraseIdx i
 | [],i=>rfl
 | x :: l,0=>rfl
 | x :: l,i+1=>by simp[acT f l i]
theorem sH.next{w b r ak L}(h:sH enc w b r ak L) ty :
 (L=[]/\(Instr.next (.pointer (some ⟨r,0,none⟩)) false ty).run P w=.ok (.tuple #[.bool false]) w) ∨
 ∃(i:Nat) (u:i<L.length) (v:Value) (w':World),(Instr.next (.pointer (some ⟨r,0,none⟩)) false ty).run P w=.ok (.tuple #[.bool true,enc L[i],v]) w'/\sH enc w' b r ak (L.eraseIdx i)/\w.grownBy w' (some r)/\w'.heap.size=w.heap.size/\(Instr.entry (.pointer (some ⟨r,0,none⟩))).run P w'=.ok (.tuple #[enc L[i],v]) w':=by
 obtain⟨es,c,t,j,H,I,V,C,N,F,Q,J,M⟩:=h
 have W:r≠b:=aA
 rcases run_next_at (P:=P) w ty r b t H j es c N I F Q with ⟨X,R⟩|⟨e,B,E,y,R⟩
 ·simp_all
 ·obtain⟨i,u,B⟩:=List.mem_iff_getElem.1 B;have Y:L.length=(Go.leftOf es j).toList.length:=by have:=congrArg List.length M;simpa using this.symm
  have U:i<L.length:=af;have hk:e.key=enc L[i]:=by
   have:=congrArg (λl=>l[i]?) M
   grind
  have T:E.heap[r]?=some (.mapIter (some b) t j H):=by rcases y with rfl|rfl <;> exact N
  have O:E.heap[b]?=some (.map es c):=by rcases y with rfl|rfl <;> exact I
  have A:=MapKept.heap_set (o':=.mapIter (some b) t (j.push e.born) c) T;have Z:(Go.leftOf es (j.push e.born)).toList=(Go.leftOf es j).toList.eraseIdx i:=by
   rw[<- aci _ (C.1.sublist ((show (Go.leftOf es j).toList.Sublist es.toList by unfold Go.leftOf;rw[Array.toList_filter];exact List.filter_sublist).map _)) i u,B]
   unfold Go.leftOf
   grind [Array.toList_filter,List.filter_filter,List.filter_congr]
  have G:(setBlock E r (.mapIter (some b) t (j.push e.born) c)).heap[b]?=some (.map es c):=(A.2 b (λD=>W D.symm)).trans O;have S:e∈es.toList:=by
   have:e∈(Go.leftOf es j).toList:=B▸bZ u
   unfold Go.leftOf at this
   grind
  refine .inr ⟨i,U,e.val,_,aA,⟨es,c,t,j.push e.born,c,G,V,C,A.1,F,J,J,?_⟩,?_,?_,by rw[<- hk];exact run_entry_at _ r b t j es c e A.1 G S (C.1.imp λh=>Nat.ne_of_lt h)⟩
  ·grind [acT]
  ·rcases y with rfl|rfl <;> exact⟨rfl,rfl,rfl,PK,λi _ u=>A.2 i (λD=>u (by rw[D]))⟩
  ·rcases y with rfl|rfl <;> simp[setBlock]
theorem sH.left{w b r ak L}(h:sH enc w b r ak L):w.rangeLeft b r=L.length:=by obtain⟨es,c,A,y,C,u,D,B,j,-,-,-,t⟩:=h;simp only[World.rangeLeft,u,j];have:=congrArg List.length t;simpa using this
theorem sH.walks{w w' b r ak L}(h:sH enc w b r ak L)(k:KeepsWalks w w'):sH enc w' b r ak L:=by obtain⟨es,c,t,j,y,D,B,u,A,C⟩:=h;exact⟨es,c,t,j,y,k.same b _ D rfl,B,u,k.same r _ A rfl,C⟩
theorem sH.walk{w b r ak L}(h:sH enc w b r ak L):∃o:Obj,w.heap[r]?=some o/\o.isWalk=true:=by obtain⟨es,c,u,t,A,D,B,y,j,C⟩:=h;exact⟨_,j,rfl⟩
end
section
variable {α:Type} {enc:α->Value} {F:Fence} {n:Nat} {P:Program} (w:World) {ops:Array Oper} {rest:List Oper} {o:Oper} {a:Act} {Q:Exit->Act->World->Prop}
theorem aoG(hg:o.guard=none) m t(j:o.op=Op.range t m) k e(C:P.underlying t=some (.map k e)) b ak
 (hm:a.eval m=.map (some b)) (h:eC enc w b ak)
 (B:∀w',sH enc w' b w.heap.size ak (ak.map (·.1))->w.grownBy w' none->w'.heap.size=w.heap.size+1->wpListIn F n P ops Q rest (a.put o.dst (.pointer (some ⟨w.heap.size,0,none⟩))) w') :
 wpListIn F n P ops Q (o :: rest) a w:=by
 refine wpListIn_plain hg λG A=>?_
 obtain⟨w',E,D,y,u⟩:=h.range C
 unfold Oper.wpIn
 refine⟨?_,?_⟩
 ·simp[Oper.about,j]
 ·rw[Oper.semAt_plain F _ _ aA];simp[execOp,j,hm,E,Result.andThen];exact A _ _ (B w' D y u)
theorem aoQ(hg:o.guard=none) y(j:o.op=Op.next y false) b r ak L
 (A:a.eval y=.pointer (some ⟨r,0,none⟩)) (h:sH enc w b r ak L)
 (J:L=[]->wpListIn F n P ops Q rest (a.put o.dst (.tuple #[.bool false])) w)
 (E:∀(i:Nat) (B:i<L.length) (v:Value) (w':World),sH enc w' b r ak (L.eraseIdx i)->w.grownBy w' (some r)->w'.heap.size=w.heap.size->(Instr.entry (.pointer (some ⟨r,0,none⟩))).run P w'=.ok (.tuple #[enc L[i],v]) w'->wpListIn F n P ops Q rest (a.put o.dst (.tuple #[.bool true,enc L[i],v])) w') :
 wpListIn F n P ops Q (o :: rest) a w:=by
 refine wpListIn_plain hg λM u=>?_
 unfold Oper.wpIn
 refine⟨by simp[Oper.about,j],?_⟩
 rw[Oper.semAt_plain F _ _ aA]
 rcases h.next (P:=P) o.type with ⟨I,t⟩|⟨i,B,v,w',t,H,G,D,C⟩
 ·simp[execOp,j,A,t,Result.andThen];exact u _ _ (J I)
 ·simp[execOp,j,A,t,Result.andThen];exact u _ _ (E i B v w' H G D C)
end
end
section
variable {P:Program} {Q:Exit->Act->World->Prop}
def qP(t:List (List Nat×List (Nat×Nat)))(z:Nat):Nat->Nat->Bool
 | 0,_=>false
 | f+1,j=>match t[j]? with
  | none=>false
  | some y=>y.1.contains z||y.1.any (qP t z f)
theorem IB{ops t}(B:uq ops t=true){L}(u:Closed ops L){z}:∀(f j:Nat),qP t z f j=true->L j=true->L z=true:=by
 intro f
 induction f with
 | zero=>intro j h _;cases h
 | succ f H =>
  intro j h A
  unfold qP at h
  cases hy:t[j]? with
  | none=>rw[hy]at h;cases h
  | some y =>
   rw[hy]at h
   simp only[Bool.or_eq_true,List.contains_iff_mem,List.any_eq_true]at h
   have E:=u.2 j A
   have C:ops[j]?=some ops[j]:=aj
   have D:=List.all_eq_true.1 B (ops[j],j) (List.mem_zipIdx_iff_getElem?.2 aj)
   simp only[hy,dC]at D
   have F:∀i∈y.1,L i=true:=λi G=>u.1 j _ C A i aA
   grind
theorem atf{ρ w} s x t ty e base z size bytes(T:fY P t e z size bytes) v n xs(H:ρ s=v)(F:w.ownsRow base e size v n xs)
 B A m c j (D:ρ x=.slice A m c) (I:Reads w B size A m j) (M:∀u∈j,u.oneCell'=true)
 (C:(n+m)*(bytes+1)<=140737488355328) (G:base<=w.heap.size) :
 ∃v' w',(execOp ρ (aG (.call { callee:=.builtin .append,args:=#[s,x],argTypes:=#[t,t] }) ty)).run P w=.ok (.value v') w'/\w'.ownsRow base e size v' (n+m) (xs++j)/\Below base w w'/\w.grownBy w' v.ownBlock:=by
 obtain⟨v',w',E,J,y,N,L⟩:=FR w base t ty e z size bytes T v n xs F B A m c j I M C G
 refine⟨v',w',?_,J,L,y⟩
 simp only[execOp,aG,resolve,invoke,builtin,Sem.run_bind,Sem.run_pure,Result.andThen_ok,List.map_toArray,jR,List.map_nil,H,D,E]
end
section
variable {P:Program} {Q:Exit->Act->World->Prop}
def cC(V:Nat->Value)(w:World):Nat->List (Value->World->Prop)->Prop
 | _,[]=>True
 | k,φ :: r=>φ (V k) w/\cC V w (k+1) r
def aH(P:Program)(j:Act)(E:(Nat->Value)->World->Prop):Nat->List Oper->List (List Nat×List (Nat×Nat))->(Nat->Value)->World->Prop
 | _,[],_,V,w=>E V w
 | _,_ :: _,[],_,_=>False
 | k,o :: r,x :: xs,V,w=>if bR V o.guard=true then kI P (λv w'=>aH P j E (k+1) r xs (bj V k v) w') ((execOp (aF x.2 j V) (aG o.op o.type)).run P w)else aH P j E (k+1) r xs (bj V k undef) w
def I8(t:List (List Nat×List (Nat×Nat)))(m n:Nat):Bool :=
 (List.range n).all λk=>decide (k<m)||(List.range k).all λj=>match t[k]? with
  | none=>false
  | some x=>x.1.contains j||x.1.any (qP t j n)
theorem afI{V w}:∀(s t:List (Value->World->Prop)),(∀j,t.length<=j->j<t.length+s.length->tab (t++s) j (V j) w)->cC V w t.length s:=by
 intro s
 induction s with
 | nil=>intro t _;trivial
 | cons φ s ih =>
  intro t h;refine⟨?_,?_⟩
  ·have:=h t.length (aD _) aj;unfold tab at this;simpa [List.getD_eq_getElem?_getD]using this
  ·have:=ih (t++[φ]) (λj y u=>by
    simp at y u;have:=h j af ba;simpa using this)
   simpa using this
def Ra(t:List Nat)(u:List (List Nat×List (Nat×Nat)))(m n:Nat):Bool :=
 t.all (λj=>decide (j<m))&&(List.range n).all λk=>decide (k<m)||(List.range k).all λj=>t.contains j||match u[k]? with
  | none=>false
  | some x=>x.1.contains j||x.1.any (qP u j n)
theorem Ut{ops A y m}(G:uq ops y=true)(B:Ra A y m ops.size=true){L}(M:Closed ops L){k}(hk:m<=k){o}(J:ops[k]?=some o)(D:∀j∈ahead o,L j=true):∀j,j<k->j∉A->L j=true:=by
 intro j H E
 have C:=(Array.getElem?_eq_some_iff.1 J).1
 simp only[Ra,dC]at B
 have u:=List.all_eq_true.1 B.2 k (List.mem_range.2 C)
 simp only[Bool.or_eq_true,decide_eq_true_eq]at u
 rcases u with u|u
 ·omega
 have t:=List.all_eq_true.1 u j (List.mem_range.2 H)
 simp only[Bool.or_eq_true,List.contains_iff_mem]at t
 have t:=t.resolve_left E
 cases hx:y[k]? with
 | none=>rw[hx]at t;cases t
 | some x =>
  rw[hx]at t;simp only[Bool.or_eq_true,List.contains_iff_mem,List.any_eq_true]at t;have F:=List.all_eq_true.1 G (o,k) (List.mem_zipIdx_iff_getElem?.2 aA);simp only[hx,dC]at F;have N:∀i∈x.1,L i=true:=λi I=>D i aA
  rcases t with t|⟨i,I,t⟩
  ·grind
  ·grind [IB]
end
section
variable {X Y:Nat->Prop} {w w' w'' W W':World}
theorem ag.bM{b}(j:X b) i u:ag X W (W.setCell ⟨b,i,none⟩ u):=ag.sets j [u] i W
theorem ag.more(h:ag X W W')(t:∀k,X k->Y k):ag Y W W':=⟨h.os,h.tape,h.output,h.size,λi u j=>h.block i u λh=>j (t i h)⟩
theorem ag.gF(u:ag X w w')(v:ag Y w' w'')(y:∀k,k<w.heap.size->Y k->X k):ag X w w'' :=
 ⟨v.os.trans u.os,v.tape.trans u.tape,v.output.trans u.output,bn u.size v.size,λk j t=>(v.block k (bz j u.size) (λh=>t (y k j h))).trans (u.block k j t)⟩
theorem i6{base e size n v xs}(h:W.ownsRow base e size v n xs)(u:ag X W W')(y:∀b,v.ownBlock=some b->¬X b):W'.ownsRow base e size v n xs :=
 FJ h λb _ t j=>u.block b t (y b j)
theorem ag.low{B}(u:ag X w w')(t:∀k,X k->B<=k)(j:B<=w.heap.size):Below B w w' :=
 ⟨u.os,u.tape,u.output,u.size,λi y=>u.block i (bz y j) λe=>by have:=t i e;omega⟩
theorem ag.k{a}(u:ag X w w')(h:K a w)(j:∀k,X k->a.heap.size<=k):K a w':=h.trans (u.low j h.size)
theorem ai.aW{b t cs}(h:ai W b t cs)(u:ag X W W')(hb:¬X b):ai W' b t cs:=(u.block b h.lt hb).trans h
theorem ag.al X W o:ag X W (W.alloc o):=ag.aT ((K.rf W).al o) X
theorem ag.fresh{a}(u:ag X a W){b}(hb:a.heap.size<=b) i v:ag X a (W.setCell ⟨b,i,none⟩ v) :=
 ⟨u.os,u.tape,u.output,by simpa [World.setCell]using u.size,λk hk j=>(Below.heap_setCell W ⟨b,i,none⟩ v k ba).trans (u.block k hk j)⟩
end
def Fx(M:Nat->Prop)(p:World->Prop)(w:World):Prop:=∀W,ag M w W->p W
section
variable {M N X:Nat->Prop} {p q:World->Prop} {w w':World}
theorem Fx.now(h:Fx M p w):p w:=h w (ag.rf _ _)
theorem Fx.k(h:Fx M p w)(k:K w w'):Fx M p w':=λW u=>h W ((ag.aT k _).tr u)
theorem Fx.up(h:Fx M p w)(u:ag X w w')(t:∀k,X k->M k):Fx M p w':=λW j=>h W ((u.more t).tr j)
theorem Fx.less(h:Fx M p w)(j:∀k,N k->M k):Fx N p w:=λW u=>h W (u.more j)
theorem Fx.mono(h:Fx M p w)(hp:∀W,p W->q W):Fx M q w:=λW u=>hp W (h W u)
theorem Fx.at(h:Fx M p w)(k:K w w'):p w':=h w' (ag.aT k _)
theorem Fx.to(h:Fx M p w)(u:ag X w w')(t:∀k,X k->M k)(j:∀k,k<w.heap.size->N k->M k):Fx N p w':=λW v=>h W ((u.more t).gF v j)
theorem Fx.fresh{lo}(h:∀W,aI lo none w W->p W)(t:∀k,M k->k<lo):Fx M p w :=
 λW u=>h W (u.rY λk y _ _ j=>by have:=t k j;omega)
end
abbrev AO(n:Int):List Value:=[.int .i64 n]
def cQ:ei Int where
 size:=1
 rel:=λn cs _=>cs=AO n
 len:=by rintro x cs w rfl;rfl
 one:=by rintro x cs w rfl u j;simp at j;subst j;rfl
 st:=λh _=>h
theorem FG l W:Each cQ l (l.map AO) W:=⟨aj,λi h j=>by simp[cQ]⟩
theorem UY(l:List Int):(l.map AO).flatten=l.map λn=>Value.int .i64 n:=by
 induction l with
 | nil=>rfl
 | cons a l j=>simp[AO,j]
theorem OS{l css W}(h:Each cQ l css W):css=l.map AO:=by
 refine List.ext_getElem Lm λi j t=>?_
 have:=h.2 i aA j;simpa [cQ]using this
section
variable {α:Type} {S:ei α} {Y:Nat->Prop} {base:Nat} {e:TypeId} {l:List α} {v:Value} {w w':World}
def aB(Y:Nat->Prop)(base:Nat)(e:TypeId)(S:ei α)(l:List α)(v:Value)(w:World):Prop :=
 ∃css,w.ownsRow base e S.size v l.length css.flatten/\css.length=l.length/\∀w',ag (λk=>Y k∨v.ownBlock=some k) w w'->Each S l css w'
theorem aB.nil Y base e(S:ei α) w:aB Y base e S [] (.slice none 0 0) w:=⟨[],kU _ _ _ _,rfl,λ_ _=>Each.nil _ _⟩
theorem aB.st(h:aB Y base e S l v w)(k:K w w'):aB Y base e S l v w':=by obtain⟨css,y,t,j⟩:=h;exact⟨css,qv y k,t,λA u=>j A ((ag.aT k _).tr u)⟩
theorem aB.blk(h:aB Y base e S l v w):∀g,v.ownBlock=some g->base<=g/\g<w.heap.size:=by obtain⟨css,j,-,-⟩:=h;exact λg hg=>j.lt g hg
theorem aB.up{Y'}(h:aB Y base e S l v w)(u:ag Y' w w')(y:∀k,Y' k->Y k)(hb:∀k,Y' k->k<base):aB Y base e S l v w':=by have D:=h.blk;obtain⟨css,C,B,j⟩:=h;exact⟨css,i6 C u λb E F=>aA,B,λA t=>j A ((u.more λk hk=>.inl (y k hk)).tr t)⟩
theorem aB.less{Y'}(h:aB Y base e S l v w)(A:∀k,Y' k->Y k):aB Y' base e S l v w:=by obtain⟨css,y,t,j⟩:=h;exact⟨css,y,t,λw' u=>j w' (u.more λk hk=>hk.imp (A k) id)⟩
theorem aB.low{base'}(h:aB Y base e S l v w)(hb:base'<=base):aB Y base' e S l v w:=afy
theorem aB.aq(h:aB Y base e S l v w):aq S l v w:=by obtain⟨css,t,u,j⟩:=h;exact Pa t (j w (ag.rf _ _))
theorem aB.fx(h:aB Y base e S l v w)(hb:∀k,Y k->k<base):Fx Y (λW=>Go.Proofs.YtfndfpdhlbmboaaGreat.aq S l v W) w:=λ_ u=>(h.up u (λ_ h=>h) hb).aq
theorem aB.slice(h:aB Y base e S l v w):∃A c,v=.slice A l.length c:=av h.aq
theorem aX.tO{lo}(h:aX base lo e S l v w):aB (λk=>k<lo) base e S l v w:=by obtain⟨css,t,y,j⟩:=h;exact⟨css,t,y,λw' u=>j w' (u.rY λk t _ j A=>aA)⟩
theorem aB.toL{lo}(h:aB (λk=>k<lo) base e S l v w):aX base lo e S l v w:=by obtain⟨css,y,t,j⟩:=h;exact⟨css,y,t,λw' u=>j w' (u.upN λk hk=>hk.imp id λh=>h.symm)⟩
def uQ(N:Nat->Prop)(S:ei α)(x:α)(v:Value)(W:World):Prop:=v.cells.size=S.size/\Fx N (λW=>S.rel x v.cells.toList W) W
def eD(N:Nat->Prop)(lo:Nat)(e:TypeId)(S:ei α)(x:α)(v:Value)(W:World):Prop:=∃g cs,v=.slice (some ⟨g,0,none⟩) 1 1/\lo<=g/\ai W g e cs/\Fx N (λW=>S.rel x cs.toList W) W
theorem awV N lo e S(x:α):∀v w w',eD N lo e S x v w->Below w.heap.size w w'->eD N lo e S x v w':=by rintro v w w'⟨g,cs,u,y,t,j⟩ k;exact⟨g,cs,u,y,t.ay k,j.k k⟩
variable {P:Program} {ρ:Operand->Value}
theorem atg(a b:Array Value)(h:a.size=b.size) m:b.zipIdx.foldl (λcs (x:Value×Nat)=>cs.setIfInBounds (0*m+x.2) x.1) a=b:=by
 obtain⟨la⟩:=a;obtain⟨lb⟩:=b;simp at h;have key:∀(r pre q:List Value),la.length=pre.length+r.length->q.length=r.length->(List.zipIdx r pre.length).foldl (λ(cs:Array Value) (x:Value×Nat)=>cs.setIfInBounds x.2 x.1) (pre++q).toArray=(pre++r).toArray:=by
  intro r
  induction r with
  | nil=>intro pre q _ j;simp at j;subst j;simp
  | cons x r A =>
   intro pre q B u
   cases q with
   | nil=>simp at u
   | cons y q =>
    simp only[List.zipIdx_cons,List.foldl_cons]
    have t:(pre++y :: q).toArray.setIfInBounds pre.length x=(pre++[x]++q).toArray:=aj
    rw[t]
    have:=A (pre++[x]) q aA aA
    grind
 have:=key lb [] la aA h;simpa using this
theorem avp size a v(y:v.cells.size=size)(u:a.size=size):Instr.fill (λi=>some (i*size,size)) a [(0,v)]=some v.cells:=by have h:=atg a v.cells af size;have t:¬(0*size+v.cells.size>a.size):=af;have j:¬(v.cells.size≠size):=af;simp only[Instr.fill,j,t,decide_false,Bool.or_false,Bool.false_eq_true,if_false];exact congrArg some h
theorem arL t z size bytes(T:fY P t e z size bytes)(D:v.cells.size=size)(G:size<=16777216) :
 (Instr.buildSlice t 1 #[(0,v)]).run P w=.ok (.slice (some ⟨w.heap.size,0,none⟩) 1 1) (w.alloc (.cells v.cells e)):=by
 obtain⟨i,j,A,C,H⟩:=T.fit
 have F:=T.pos
 have B:¬(1*size>2^24):=af
 have y:¬(1*size=0):=af
 have hz:(zeroValue e).run P w=.ok z w:=by simp[zeroValue,typeInfo,j,A]
 have u:=avp size ((Array.range (1*size)).map λk=>z.cells[k%z.cells.size]!) v D aj
 have E:(sizeOf e).run P w=.ok size w:=by simp[sizeOf,typeInfo,j,C]
 unfold Instr.buildSlice
 simp only[Sem.run_bind,Result.andThen_ok,run_underlying T.und,E,B,y,if_false,Sem.run_pure,hz,u]
 simp[newRow,go_sem]
theorem acj t ty z size bytes(T:fY P t e z size bytes) x(j:ρ x=v)(y:v.cells.size=size)(u:size<=16777216) :
 (execOp ρ (aG (.buildSlice t 1 #[(0,x)]) ty)).run P w=.ok (.value (.slice (some ⟨w.heap.size,0,none⟩) 1 1)) (w.alloc (.cells v.cells e)):=by
 have h:=arL (P:=P) (w:=w) t z size bytes T y u
 subst j
 simp only[execOp,aG,List.map_toArray,jR,List.map_nil,Sem.run_bind,h,Result.andThen_ok,Sem.run_pure]
theorem aeo t ty z size bytes(T:fY P t e z size bytes)(G:S.size=size)(H:aB Y base e S l v w) u x(A:eD (λk=>Y k∨v.ownBlock=some k) 0 e S x u w)
 (J:(l.length+1)*(bytes+1)<=140737488355328) (N:base<=w.heap.size) :
 ∃v' w',(Builtin.append_ #[t,t] ty #[v,u]).run P w=.ok v' w'/\aB Y base e S (l++[x]) v' w'/\w.grownBy w' v.ownBlock/\(v'.ownBlock=v.ownBlock∨v'.ownBlock=some w.heap.size)/\Below base w w':=by
 subst G
 obtain⟨g,cs,rfl,-,hb,B⟩:=A
 obtain⟨css,M,I,L⟩:=H
 have hrel:=B.now
 have R:=S.len hrel
 have F:Reads w w.heap.size S.size (some ⟨g,0,none⟩) 1 cs.toList:=⟨af,λ_=>⟨g,0,rfl,hb.lt,λj u A=>by
  rw[mQ,hb.cell j];simpa using A⟩⟩
 obtain⟨v',w',Q,h2,C,y,O⟩:=FR w base t ty e z S.size bytes T v l.length css.flatten M w.heap.size _ 1 1 _ F (S.one hrel) J N
 refine⟨v',w',Q,⟨css++[cs.toList],yB,by simp[I],λE u=>?_⟩,C,y,O⟩
 have D:=(ag.eU (X:=λk=>Y k∨v.ownBlock=some k) C (λg hg=>.inr hg)).gF u λk hk h=>by
  rcases h with h|h
  ·exact .inl h
  ·rcases y with y|y <;> rw[y]at h
   ·exact .inr h
   ·injection h with h;omega
 exact (L E D).snoc (B E D)
theorem adD s x t ty z size bytes(T:fY P t e z size bytes)(j:S.size=size)(E:ρ s=v)(y:aB Y base e S l v w) u(C:ρ x=u) a(B:eD (λk=>Y k∨v.ownBlock=some k) 0 e S a u w)
 (A:(l.length+1)*(bytes+1)<=140737488355328) (D:base<=w.heap.size) :
 ∃v' w',(execOp ρ (aG (.call { callee:=.builtin .append,args:=#[s,x],argTypes:=#[t,t] }) ty)).run P w=.ok (.value v') w'/\aB Y base e S (l++[a]) v' w'/\w.grownBy w' v.ownBlock/\(v'.ownBlock=v.ownBlock∨v'.ownBlock=some w.heap.size)/\Below base w w':=by
 obtain⟨v',w',F,h⟩:=aeo (P:=P) t ty z size bytes T j y u a B A D
 refine⟨v',w',?_,h⟩
 subst E C
 simp only[execOp,aG,resolve,invoke,builtin,Sem.run_bind,Sem.run_pure,Result.andThen_ok,List.map_toArray,jR,List.map_nil,F]
theorem jN{ops rest o a Q}(J:o.guard=none) s x t
 (I:o.op=.call { callee:=.builtin .append,args:=#[s,x],argTypes:=#[t,t] })
 z size bytes (T:fY P t e z size bytes) (j:S.size=size) (H:a.eval s=v) (y:aB Y base e S l v w) u (F:a.eval x=u) b (E:eD (λk=>Y k∨v.ownBlock=some k) 0 e S b u w)
 (C:(l.length+1)*(bytes+1)<=140737488355328) (G:base<=w.heap.size)
 (h:∀v' w',aB Y base e S (l++[b]) v' w'->w.grownBy w' v.ownBlock->(v'.ownBlock=v.ownBlock∨v'.ownBlock=some w.heap.size)->Below base w w'->wpList P ops Q rest (a.put o.dst v') w') :
 wpList P ops Q (o :: rest) a w:=by
 refine wpList_plain J λK D=>?_
 obtain⟨v',w',N,M,A,B,L⟩:=aeo (P:=P) t o.type z size bytes T j y u b E C G
 unfold Oper.wp execOp
 simp only[I,resolve,invoke,builtin,Sem.run_bind,Sem.run_pure,Result.andThen_ok,List.map_toArray,jR,List.map_nil,H,F,N]
 exact D _ _ (h v' w' M A B L)
theorem eD.new{N x}(h:Fx N (λW=>S.rel x v.cells.toList W) w) lo(j:lo<=w.heap.size):eD N lo e S x (.slice (some ⟨w.heap.size,0,none⟩) 1 1) (w.alloc (.cells v.cells e)) :=
 ⟨w.heap.size,v.cells,rfl,j,ai.new _ _ _,h.k ((K.rf w).al _)⟩
theorem eD.less{N j lo x}(h:eD N lo e S x v w)(t:∀k,j k->N k):eD j 0 e S x v w:=by obtain⟨g,cs,y,B,A,u⟩:=h;exact⟨g,cs,y,af,A,u.less t⟩
end
section
variable {α:Type} {S:ei α} {P:Program} {a0:Act} {w0:World} {Fin:List (Value->World->Prop)->Prop} {o:Oper} {r:List Oper} {x:List Nat×List (Nat×Nat)} {xs:List (List Nat×List (Nat×Nat))} {t:List (Value->World->Prop)} {N Y:Nat->Prop} {lo base:Nat} {e:TypeId} {E:(Nat->Value)->World->Prop} {k:Nat} {V:Nat->Value} {w:World}
theorem aH.push s u j z size bytes(T:fY P j e z size bytes)(F:S.size=size)(I:o.op=.call { callee:=.builtin .append,args:=#[s,u],argTypes:=#[j,j] })(hg:o.guard=none)
 v l y (H:aF x.2 a0 V s=v) (t:aB Y base e S l v w) (D:eD (λk=>Y k∨v.ownBlock=some k) 0 e S y (aF x.2 a0 V u) w) (C:(l.length+1)*(bytes+1)<=140737488355328) (G:base<=w.heap.size)
 (h:∀v' w',aB Y base e S (l++[y]) v' w'->w.grownBy w' v.ownBlock->(v'.ownBlock=v.ownBlock∨v'.ownBlock=some w.heap.size)->Below base w w'->aH P a0 E (k+1) r xs (bj V k v') w') :
 aH P a0 E k (o :: r) (x :: xs) V w:=by
 obtain⟨v',w',M,L,A,B,J⟩:=adD (P:=P) (ρ:=aF x.2 a0 V) s u j o.type z size bytes T F H t _ rfl y D C G
 unfold aH
 rw[hg,if_pos (show bR V none=true from rfl),I,M]
 exact h v' w' L A B J
theorem aH.nil(h:E V w):aH P a0 E k [] xs V w:=by assumption
theorem aH.skip w'(hg:o.guard=none)(hx:(execOp (aF x.2 a0 V) (aG o.op o.type)).run P w=.ok .skip w')(h:aH P a0 E (k+1) r xs (bj V k undef) w'):aH P a0 E k (o :: r) (x :: xs) V w:=VT
theorem aH.pure v(hg:o.guard=none)(hx:(execOp (aF x.2 a0 V) (aG o.op o.type)).run P w=.ok (.value v) w)(h:aH P a0 E (k+1) r xs (bj V k v) w):aH P a0 E k (o :: r) (x :: xs) V w:=VT
theorem aH.val v w'(hg:o.guard=none)(hx:(execOp (aF x.2 a0 V) (aG o.op o.type)).run P w=.ok (.value v) w')(h:aH P a0 E (k+1) r xs (bj V k v) w'):aH P a0 E k (o :: r) (x :: xs) V w:=VT
end
def MK:ei UInt8 where
 size:=1
 rel:=λb cs _=>cs=[.int .u8 (b.toNat:Int)]
 len:=by rintro x cs w rfl;rfl
 one:=by rintro x cs w rfl u j;simp at j;subst j;rfl
 st:=λh _=>h
theorem aep l:(l.map λb=>[Value.int .u8 b.toNat]).flatten=dS l:=by
 induction l with
 | nil=>rfl
 | cons a l j=>simp[j,dS]
theorem Own.tO{Y w base e v l}(h:Own w base e v l):aB Y base e MK l v w :=
 ⟨l.map λb=>[.int .u8 b.toNat],by rw[aep];exact h,aj,λw' _=>⟨aj,λi h j=>by simp[MK]⟩⟩
theorem aB.bytes{Y w base e v l}(h:aB Y base e MK l v w):Own w base e v l:=by
 obtain⟨css,j,t,u⟩:=h;have y:=u w (ag.rf _ _);have:css=l.map λb=>[Value.int .u8 b.toNat]:=List.ext_getElem (by simp[t]) λi j t=>by have:=y.2 i af j;simpa [MK]using this
 rw[this,aep]at j;exact j
theorem Un A c l w B(hR:Reads w B 4 A l.length (l.flatMap nI))(E:B<=w.heap.size) :
 Calls prog 226 #[.slice A l.length c] w λe w'=>e=.returned (.int .i64 (ko l))/\Below w.heap.size w w':=by
 by_cases h1:l.length<1
 ·have Y:(l.length:Int)<1:=af;have HE:Hid (ko l=40):=ae (by simp[ko,fN,show ¬1<=l.length by omega]);exact afJ
 have Y:¬(l.length:Int)<1:=af
 by_cases im:16<l.length
 ·have X:(16:Int)<(l.length:Int):=af;have HE:Hid (ko l=40):=ae (by simp[ko,fN];omega);exact afJ
 have X:¬(16:Int)<(l.length:Int):=af
 obtain⟨b,D,rfl,u,R⟩:=hR.Ri af
 have O:=ae R
 clear R hR
 go_enter func226,ntmps226
 go_wp2
 go_step3
 go_wp2_with fail
 go_step3
 go_wp2_with fail
 go_loopw [3,16] (fun m i wr=>∃k:Nat,k<=l.length/\m=.int .i64 k/\i=.int .i64 k/\Hid (jW none (l.take k)=true)/\Below w.heap.size w wr) (fun _ i _=>l.length-(intOf i).toNat)
 case atStart=>exact⟨0,af,rfl,rfl,ae cV,cT _ _⟩
 case round =>
  obtain⟨k,hk,rfl,rfl,S,hb⟩:=hrel;by_cases F:k<l.length
  ·have fM:(k:Int)<l.length:=af;obtain⟨C,L,N,M⟩:=O.aa k F;have Q:=(hb.cell (p:=⟨b,D+k*4,none⟩) (bz u E)).trans C;have d1:=(hb.cell (p:=⟨b,D+k*4+1,none⟩) (bz u E)).trans L;have d2:=(hb.cell (p:=⟨b,D+k*4+2,none⟩) (bz u E)).trans N;have d3:=(hb.cell (p:=⟨b,D+k*4+3,none⟩) (bz u E)).trans M;clear C L N M;have hz:=hb.size;have V:b<wr.heap.size:=af;have rN:=ae (awL l (k+1));have AJ:∀W,Below wr.heap.size wr W->Below w.heap.size w W:=λW h=>hb.trans (h.mono hz)
   have AJ:=ae AJ;rcases Nat.eq_zero_or_pos k with I|I
   ·have hT:Hid (jW none (l.take (k+1))=ll l[k]):=by subst I;exact ae (auZ l F)
    have GI:¬(0:Int)<(k:Int):=af;have ML:decide (0<k)=false:=ba;clear I;generalize l[k]=x at *;obtain⟨s,vk,vn,vs⟩:=x;simp only at Q d1 d2 d3;go_wp2_with fail
    apply aM (Uz s _);rintro w' rfl;cases hn:tv s
    ·exact afK
    ·go_wp2_with fail
     apply aM (O3 vk vn vs _);intro J t;have oC:=((cT _ _).alloc (aD _) _).trans (t.mono aj);have H:=(ai.new wr 76 #[.string s,.int .i64 vk,.int .i64 vn,.string vs]).below t aj;clear t;cases hv:iY vk vn vs
     ·exact afL
     ·have hch:(mH vk vn vs != 0)=false:=by simp[mH,hv]
      have G:=H.cell 0;simp at G;go_wp2_with fail
      go_quiet (fail);have hr:Hid (jW none (l.take (k+1))=true):=ae (by rw[hT.aa];simp[ll,hn,hv]);exact afM
   ·have GI:(0:Int)<(k:Int):=af;have ML:decide (0<k)=true:=ba;have Z:k-1<l.length:=af;have hT:Hid (jW none (l.take (k+1))=(jW none (l.take k)&&(ll l[k]&&mI l[k-1].1 l[k].1))):=by refine ae ?_;obtain⟨j,rfl⟩:∃j,k=j+1:=⟨k-1,af⟩;exact au0 l j F
    obtain⟨C,_⟩:=O.aa (k-1) Z;have p0:=(hb.cell (p:=⟨b,D+(k-1)*4,none⟩) (bz u E)).trans C;clear C;generalize l[k-1].1=y at *;generalize l[k]=x at *;obtain⟨s,vk,vn,vs⟩:=x;simp only at Q d1 d2 d3 hT;go_wp2_with fail
    apply aM (Uz s _);rintro w' rfl;cases hn:tv s
    ·exact afK
    ·go_wp2_with fail
     apply aM (O3 vk vn vs _);intro J t;have oC:=((cT _ _).alloc (aD _) _).trans (t.mono aj);have H:=(ai.new wr 76 #[.string s,.int .i64 vk,.int .i64 vn,.string vs]).below t aj;clear t;cases hv:iY vk vn vs
     ·exact afL
     ·have hch:(mH vk vn vs != 0)=false:=by simp[mH,hv]
      have G:=H.cell 0;simp at G;have p1:=(oC.cell V).trans p0;have U:IntKind.i64.wrap ((k:Int)-1)=(k:Int)-1:=IntWalk.i64_in _ af;have hp1:(1:Int)<=(k:Int):=af;have hp2:((k:Int)-1).toNat=k-1:=af;have hp3:(k:Int)-1<(l.length:Int):=af;have hbk:b<J.heap.size:=by have:=oC.size;omega
      cases mg:mI y s
      ·have azK:(!(Op.bytesLess y.toList s.toList))=true:=by unfold mI at mg;simp[mg]
       have HB:=ae (rN.aa (by rw[hT.aa];simp[ll,mg]));go_wp2_with fail
       go_quiet (fail);go_wp2;rw[iq];go_ret;exact⟨FV,AJ.aa _ (below_drewN oC _)⟩
      ·have azK:(!(Op.bytesLess y.toList s.toList))=false:=by unfold mI at mg;simp[mg]
       have hr:Hid (jW none (l.take (k+1))=true):=ae (by rw[hT.aa,S.aa];simp[ll,hn,hv,mg]);go_wp2_with fail
       go_quiet (fail);clear U hp2;exact afM
  ·have fM:¬(k:Int)<l.length:=af;have T:k=l.length:=af;have HE:=ae (au1 l af af (by have:=S.aa;rwa [T]at this));clear T;go_wp2;try rw[iq]
   exact PU
section
variable {l la lb:List cZ} {b:List UInt8} {v va vb:Value} {w:World}
theorem acU(h:ji l v w):Calls prog 226 #[v] w λe w'=>e=.returned (.int .i64 (ko l))/\Below w.heap.size w w':=by obtain⟨A,c,rfl,j⟩:=h;exact Un A c l w _ j (aD _)
end
theorem acV a w :
 Calls prog 276 #[cN a] w λe w'=>e=.returned (.bool (qH a.1))/\K w w':=by
 obtain⟨b,l,s⟩:=a
 have hb:=K.new w (.cells #[.int .i64 b,.int .u64 l,.int .u64 s] 26)
 go_enter func276,ntmps276
 go_wp2
 all_goals
  go_ret
  refine⟨?_,hb⟩
  show Ending.returned (.bool _)=Ending.returned (.bool _)
  congr 2
  unfold qH
  simp
  try omega
def FW(x:aK):Bool:=decide (x=dD)
theorem aqq x:FW x=(decide (x.kind=0)&&(decide (x.br=0)&&decide (x.life=0)&&decide (x.b6=0))&&decide (x.cl=0)&&decide (x.sub=0)&&x.f.isEmpty&&x.es.isEmpty):=by
 obtain⟨k,b,l,s,c,u,f,es⟩:=x
 grind [FW,dD]
theorem ack x v w(h:dm x v w) :
 Calls prog 275 #[v] w λe w'=>e=.returned (.bool (FW x))/\K w w':=by
 obtain⟨vf,y,rfl,t,j⟩:=h
 obtain⟨A,c,rfl⟩:=cA t
 obtain⟨D,d,rfl⟩:=av j
 clear t j
 obtain⟨k,b,l,s,cl,u,f,es⟩:=x
 simp only
 go_enter func275,ntmps275
 go_wp2
 all_goals
  go_ret
  refine⟨?_,(K.rf w).al _⟩
  rw[aqq]
  show Ending.returned (.bool _)=Ending.returned (.bool _)
  simp_all [LY]
theorem DH{x}(h:bJ x=false):pL x=110:=by simp[pL,h]
theorem KQ{x}(h:bJ x=true):pL x=0:=by simp[pL,h]
theorem awW l:(ko l==0)=fN l:=by grind [ko,fN]
theorem awX l:(mW l==0)=okF l:=by grind [mW,okF]
theorem Im{α:Type}(p:α->Bool)(l:List α)(k:Nat)(h:k<l.length):(l.take (k+1)).all p=((l.take k).all p&&p l[k]):=ae6
theorem OT{α:Type} p(l:List α) k(h:(l.take k).all p=false):l.all p=false:=by
 cases hl:l.all p with
 | false=>rfl
 | true =>
  grind
theorem KB x v w(h:dm x v w) :
 Calls prog 241 #[v] w λe w'=>e=.returned (.int .i64 (pL x))/\K w w':=by
 obtain⟨vf,R,rfl,H,y⟩:=h
 obtain⟨A,c,rfl⟩:=cA H
 obtain⟨D,d,e0,y,Y⟩:=y
 obtain rfl:=e0
 obtain⟨k,b,l,s,cl,u,f,es⟩:=x
 simp only at H y Y⊢
 have J:=ai.new w 126 (aE ⟨k,b,l,s,cl,u,f,es⟩ (.slice A f.length c) (.slice D es.length d))
 have B:=J.aU
 have hg:w.heap.size<(w.alloc (.cells (aE ⟨k,b,l,s,cl,u,f,es⟩ (.slice A f.length c) (.slice D es.length d)) 126)).heap.size:=aj
 generalize oY:pL ⟨k,b,l,s,cl,u,f,es⟩=E
 go_enter func241,ntmps241
 go_wp2_with fail
 generalize w.alloc _=S at *
 generalize w.heap.size=g at J hg⊢
 have qx:=J.cells
 have O:=eO _ _ _ _ H B
 have W:=X4 y B
 clear H y
 apply cG (acV (b,l,s) S) B
 intro V I bD
 cases hh:qH b
 ·have HE:Hid (E=110):=ae (by rw[<- oY];exact DH (by simp[bJ,hh]));exact afN
 by_cases hc0:cl<0
 ·exact afO
 by_cases hc1:32<=cl
 ·exact afO
 by_cases G:k=1
 ·subst G;have HE:Hid (E=if (decide (u=0)&&f.isEmpty&&decide (es.length<=8)&&es.all fN)=true then 0 else 110):=ae (by
   rw[<- oY];simp[pL,bJ,hh,show 0<=cl by omega,show cl<32 by omega])
  clear oY;go_upto_region 8 with (fail);go_cut [3]from 27 to 41 (fun v wc=>v=.bool (decide (u=0)&&f.isEmpty&&decide (es.length<=8))/\wc=V)
  case first =>
   have e1:((u:Int)==0)=decide (u=0):=by
    by_cases h:u=0
    ·subst h;rfl
    ·simp[h]
   have e2:=LY f;by_cases L:u=0;rotate_left
   ·have zi:((u:Int)==0)=false:=by simpa using L
    go_wp2;go_meet
    case rel=>simp[L]
   subst L;by_cases t:f=[];rotate_left
   ·have zi:((f.length:Int)==0)=false:=by rw[LY];simpa using t
    go_wp2;go_meet
    case rel=>simp[t]
   subst t;by_cases h8:es.length<=8
   ·have T:(es.length:Int)<=8:=af;go_wp2;go_meet
    case rel=>simp[h8]
   ·have T:¬(es.length:Int)<=8:=af;go_wp2;go_meet
    case rel=>simp[h8]
  case rest =>
  obtain⟨rfl,rfl⟩:=hcut;have h8:Hid ((decide (u=0)&&f.isEmpty&&decide (es.length<=8))=true->es.length<=8):=ae aj;generalize (decide (u=0)&&f.isEmpty&&decide (es.length<=8))=M at *;go_wp2_with fail
  go_loopw [3,4] (fun mv U wr=>∃(m:Bool) (j:Nat),mv=.bool m/\U=.int .i64 j/\j<=es.length/\Hid (m=(M&&(es.take j).all fN))/\K S wr) (fun _ i _=>es.length-(intOf i).toNat)
  case atStart=>exact⟨M,0,rfl,rfl,af,ae aj,I⟩
  case round =>
   obtain⟨m,j,rfl,rfl,hj,hm,kr⟩:=hrel;cases m
   ·have HB:Hid (E=110):=ae (by
     rw[HE.aa,if_neg];have hm:=hm.aa;cases M
     ·simp
     ·simp only[Bool.true_and]at hm;have:=OT fN es j hm.symm;rw[this];simp)
    go_wp2;go_ret;exact⟨FV,B.tr kr⟩
   have h88:=h8.aa (by have:=hm.aa.symm;simp only[dC]at this;exact this.1);by_cases N:j<es.length
   ·have aP:(j:Int)<es.length:=af;obtain⟨b1,off,cs,rfl,X,hcl,⟨R,rfl,iN⟩,hcell⟩:=I7 W j N ax;have d0:wr.cell? ⟨b1,off+j,none⟩=some R:=by have:=hcell 0 ax;rw[kr.cell (by simpa using X)];simpa [cO]using this
    have Z:=qC _ _ _ _ iN kr;go_wp2_with fail
    apply aM (acU Z);intro Q k3;have e3:=awW es[j];go_wp2;go_roundw
    case rel=>exact⟨fN es[j],j+1,rfl,bI,af,ae (by rw[Im fN es j N,<- Bool.and_assoc,<- hm.aa];rfl),kr.tr k3⟩
    case measure=>simp[intOf];omega
   ·have aP:¬(j:Int)<es.length:=af;have HB:Hid (E=0):=ae (by
     have hm:=hm.aa;rw[gQ af]at hm;rw[HE.aa,if_pos hm.symm])
    go_wp2;go_ret;exact⟨FV,B.tr kr⟩
 by_cases F:k=3
 ·subst F;have HE:Hid (E=if (f.isEmpty&&es.isEmpty)=true then 0 else 110):=ae (by
   rw[<- oY];simp[pL,bJ,hh,show 0<=cl by omega,show cl<32 by omega])
  clear oY;cases t:f.isEmpty
  ·have e2:((f.length:Int)==0)=false:=by rw[LY,t]
   have HB:Hid (E=110):=ae (by rw[HE.aa,t];rfl);go_wp2;go_ret;exact⟨FV,bD⟩
  obtain rfl:f=[]:=by simpa using t
  cases GK:es.isEmpty
  ·exact afP
  obtain rfl:es=[]:=by simpa using GK
  have HB:Hid (E=0):=ae iK;clear GK t;go_wp2_with fail
  apply aM (acR (eO _ _ _ _ O I));intro Q k3;rw[show mW []=0 from rfl];exact VU
 by_cases C:k=2
 ·subst C;have HE:Hid (E=if (es.isEmpty&&okF f)=true then 0 else 110):=ae (by
   rw[<- oY];simp[pL,bJ,hh,show 0<=cl by omega,show cl<32 by omega])
  clear oY;cases GK:es.isEmpty
  ·exact afP
  obtain rfl:es=[]:=by simpa using GK
  clear GK;go_wp2_with fail
  apply aM (acR (eO _ _ _ _ O I));intro Q k3;have e3:=awX f;cases hok:okF f
  ·have HB:Hid (E=110):=ae VV;rw[hok]at e3;clear HE;exact VU
  ·have HB:Hid (E=0):=ae VV;rw[hok]at e3;clear HE;exact VU
 have HE:Hid (E=110):=ae (by
  rw[<- oY];exact DH (by simp[bJ,G,C,F]))
 clear oY
 have g1:(k==1)=false:=by simpa using G
 have g2:(k==2)=false:=by simpa using C
 have g3:(k==3)=false:=by simpa using F
 clear G C F
 go_wp2
 go_ret
 exact⟨iK,bD⟩
