/-
  Words for memory that the walks of this claim share: a slice that reads as a list of cells, bytes, and how these facts go on when memory grows. Conditions: none.
-/
import Derived.Test.YtcjlnlcpodcldaaGreatProg
import Derived.Test.YtcjlnlcpodcldaaGreatMsz
set_option maxRecDepth 100000
set_option maxHeartbeats 16000000
set_option linter.all false
namespace Go.Proofs.YtcjlnlcpodcldaaGreat
open Go Go.RowKit _root_.Go.Proofs.Tryz
open List renaming length→Q
open _root_.Array renaming size→Z
open Go.World renaming heap→D,alloc→aU,setCell→aV
open Go.Value renaming ownBlock→aW
open Go.Value renaming int→G,slice→F,pointer→aj,bool→ar,tuple→au,agg→av,string→aw
open Go.IntKind renaming i64→J,u64→E
open Option renaming none→U,some→I
open Go.Ending renaming returned→ak
open Go.Obj renaming cells→aq
open Go.World renaming setCell→ax,alloc→ay
open Bool renaming false→az,true→aA
open And renaming intro→aB
open List renaming lookup→aC,getElem?_eq_getElem→aE,getElem?_eq_some_iff→aF
open _root_.Array renaming getElem?_toList→aD,getElem?_eq_some_iff→aG
open Nat renaming le_succ→aH
open Or renaming inl→aI,inr→aJ
open Go renaming Calls→aK,execOp→aL,bodyPost_ret→aM,World→aP,Value→aQ
open Go.RowKit renaming Below→aN,intOf→aO
section
variable {P:Program} {f:FuncId} {args:Array aQ} {w w0:aP} {X:aQ} {R:aP->Prop} {S:aQ->aP->Prop} {aR:Ending->aP->Prop}
theorem bN(h:aK P f args w λe w'=>e=ak X/\R w')(k:∀w',R w'->aR (ak X) w'):aK P f args w aR:=h.mono λ_ w' ⟨e,r⟩=>e▸k w' r
theorem dD(h:aK P f args w λe w'=>∃v,e=ak v/\S v w')(k:∀v w',S v w'->aR (ak v) w'):aK P f args w aR:=h.mono λ_ w' ⟨v,e,r⟩=>e▸k v w' r
theorem dP(h:aK P f args w λe w'=>e=ak X/\aN (Z (D w)) w w')(j:aN (Z (D w0)) w0 w)(k:∀w',aN (Z (D w)) w w'->aN (Z (D w0)) w0 w'->aR (ak X) w'):aK P f args w aR:=bN h λw' r=>k w' r (j.trans (r.mono j.size))
theorem tH(h:aK P f args w λe w'=>∃v,e=ak v/\S v w'/\aN (Z (D w)) w w')(j:aN (Z (D w0)) w0 w)(k:∀v w',S v w'->aN (Z (D w)) w w'->aN (Z (D w0)) w0 w'->aR (ak v) w'):aK P f args w aR:=dD h λv w' r=>k v w' r.1 r.2 (j.trans (r.2.mono j.size))
end
abbrev gW(w:aP)(b o:Nat):Option aQ:=w.cell? ⟨b,o,U⟩
def Reads(w:aP)(B size:Nat)(A:Option Addr)(n:Nat)(xs:List aQ):Prop :=
 (Q xs)=n*size/\(0<Q xs->∃b t,A=I ⟨b,t,U⟩/\b<B/\∀j u,xs[j]?=I u->w.cell? ⟨b,t+j,U⟩=I u)
theorem J7{w:aP}{a u}(h:w.cell? a=I u):a.block<Z (D w):=World.block_lt_of_cell? w a h
section
variable {w w':aP} {B B' size n:Nat} {A:Option Addr} {xs:List aQ}
theorem Reads.nil w B size A:Reads w B size A 0 []:=⟨bq,λh=>absurd h bq⟩
theorem Reads.keep(h:Reads w B size A n xs)(hk:∀k,k<B->w'.heap[k]?=w.heap[k]?):Reads w' B size A n xs :=
 ⟨h.1,λhn=>by
  obtain⟨b,t,e,hb,z⟩:=h.2 hn;exact⟨b,t,e,hb,λj u y=>(World.cell?_of_block (hk b hb)).trans (z j u y)⟩⟩
theorem Reads.more(h:Reads w B size A n xs)(y:B<=B'):Reads w B' size A n xs :=
 ⟨h.1,λhn=>by
  obtain⟨b,j,e,hb,t⟩:=h.2 hn;exact⟨b,j,e,aZ,t⟩⟩
theorem Reads.below{C}(h:Reads w B size A n xs)(hb:aN C w w')(j:B<=C):Reads w' B size A n xs:=h.keep λ_ hk=>hb.block _ (by omega)
theorem Reads.drew(h:Reads w B size A n xs):Reads w.drew B size A n xs:=h
theorem Reads.len(h:Reads w B 1 A n xs):Q xs=n:=by simpa using h.1
theorem Reads.cut(h:Reads w B 1 A n xs) l m cap(y:l<=m)(hm:m<=n)(C:n<=cap) :
 Reads w B 1 (if cap=l then A else A.map (·.add l)) (m-l) ((xs.take m).drop l):=by
 have:=h.len
 refine⟨bG,λhn=>?_⟩
 simp at hn
 obtain⟨b,t,rfl,hb,L⟩:=h.2 aZ
 rw[bO aZ]
 refine⟨b,t+l,by simp[Addr.add_lit],hb,λj u H=>?_⟩
 grind
theorem Reads.AW{base e c}(h:w.ownsRow base e size (F A n c) n xs):Reads w (Z (D w)) size A n xs:=by
 refine⟨h.1,λhn=>?_⟩;rcases h.2 with ⟨_,rfl⟩|⟨g,cap,cur,y,_,hg,_,_,_,z⟩
 ·have:=h.1;simp at this;subst this;simp at hn
 ·injection y with hA;subst hA;refine⟨g,0,rfl,?_,λj u t=>?_⟩
  ·grind
  ·have:=h.cells (g:=g) rfl j u t;simpa [Addr.add_lit]using this
end
theorem En(w:aP) row:w.grownBy w row:=World.grownBy.refl w row
theorem FF{a w:aP}{row}(h:a.grownBy w row) o:a.grownBy (aU w o) row :=
 ⟨h.os,h.tape,h.output,cI h.size bq,λi j t=>(Below.heap_alloc w o i (cQ j h.size)).trans (h.block i j t)⟩
theorem FM{a w:aP}{g}(h:a.grownBy w (I g)){p}(hp:p.block=g) u:a.grownBy (aV w p u) (I g) :=
 ⟨h.os,h.tape,h.output,ahT,λi t j=>(Below.heap_setCell w p u i (by rintro rfl;exact j (by rw[hp]))).trans (h.block i t j)⟩
theorem AO{a w:aP}{row}(h:a.grownBy w row){p}(hp:Z (D a)<=p.block) u:a.grownBy (aV w p u) row :=
 ⟨h.os,h.tape,h.output,ahT,λi j t=>(Below.heap_setCell w p u i aZ).trans (h.block i j t)⟩
theorem Ef{a w}(h:aN (Z (D a)) a w) row:a.grownBy w row:=⟨h.os,h.tape,h.output,h.size,λi j _=>h.block i j⟩
theorem qJ{a b c:aP}{row}(h:a.grownBy b row)(k:b.grownBy c row):a.grownBy c row:=h.trans k
theorem mN{a w g B}(h:a.grownBy w (I g))(j:B<=g)(hz:B<=Z (D a)):aN B a w :=
 ⟨h.os,h.tape,h.output,h.size,λi t=>h.block i aZ (by intro e;injection e with e;omega)⟩
def fM(l:List UInt8):List aQ:=l.map λb=>G .u8 (b.toNat:Int)
@[simp] theorem aI7 (l:List UInt8):Q (fM l)=Q l:=by simp[fM]
theorem MJ a b:fM (a++b)=fM a++fM b:=by simp[fM]
theorem xN l:∀u∈fM l,u.oneCell'=true:=by intro u j;obtain⟨_,_,rfl⟩:=List.mem_map.1 j;rfl
theorem ahU l j(h:j<Q l):(fM l)[j]?=I (G .u8 (l[j].toNat:Int)):=by simp[fM,h]
theorem Reads.pre{w B A n l}(h:Reads w B 1 A n (fM l)) k(hk:k<=n):Reads w B 1 A k (fM (l.take k)):=by
 have:Q l=n:=by simpa using h.len
 refine⟨cG,λj=>?_⟩
 simp at j
 obtain⟨b,y,e,hb,z⟩:=h.2 cG
 grind [fM]
theorem Reads.post{w B A A' n l}(h:Reads w B 1 A n (fM l)) k(hA:k<n->A'=A.map (·.add k)):Reads w B 1 A' (n-k) (fM (l.drop k)):=by
 have:Q l=n:=by simpa using h.len
 refine⟨cG,λy=>?_⟩;simp at y;obtain⟨b,t,rfl,hb,z⟩:=h.2 cG;refine⟨b,t+k,by rw[hA (by omega)];simp[Addr.add_lit],hb,λj u C=>?_⟩;rw[Nat.add_assoc];refine z _ u ?_;rw[<- C];unfold fM;simp
theorem ahV{P} w t y e(z:P.underlying t=some (.slice e))(C:P.underlying e=some (.int .u8))(L:P.underlying y=some .string)
 B A n c l (hR:Reads w B 1 A n (fM l)):(convert t y (F A n c)).run P w=.ok (aw ⟨l.toArray⟩) w:=by
 have N:Q l=n:=Hw
 rcases A with _|H
 ·have R:l=[]:=by
   rcases Nat.eq_zero_or_pos (Q l)with h|h
   ·grind
   ·obtain⟨b,O,e,_⟩:=hR.2 Kf;cases e
  subst R;exact run_convert_bytes_nil w t e z C _ _ y L
 ·have S:∀j (M:j<Q l),w.cell? (H.add j)=I (G .u8 (l[j].toNat:Int)):=by intro j M;obtain⟨b,O,e,_,T⟩:=hR.2 cG;injection e with e;subst e;rw[Addr.add_lit];exact T j _ (ahU l j M)
  rw[<- N];exact run_convert_bytes_back w t y e H c l z C L S
abbrev Own(w:aP)(base:Nat)(e:TypeId)(v:aQ)(l:List UInt8):Prop:=w.ownsRow base e 1 v (Q l) (fM l)
theorem wK{w:aP}{base base':Nat}{e:TypeId}{v:aQ}{l l':List UInt8}(hb:base<=base')(h:Own w base' e v l)(j:l=l':=by simp):Own w base e v l':=by subst j;exact ahW
theorem Xh{w w' base B e v l}(_:B<=Z (D w))(h:Own w base e v l)(hb:aN (Z (D w)) w w'):Own w' base e v l:=ahX
theorem QQ{w:aP}{base g cap e xs rest n}(hb:base<=g)(hg:w.heap[g]?=I (aq (xs++rest).toArray e (0,0)))(hn:Q xs=n)(j:n+Q rest=cap)(hm:cap<=maxLen) :
 w.ownsRow base e 1 (F (I ⟨g,0,U⟩) n cap) n xs :=
 ⟨by simp[hn],aJ ⟨g,cap,_,rfl,hb,hg,aZ,hm,cG,by simp[hn]⟩⟩
theorem Own.slice{w base e v l}(h:Own w base e v l):∃A c,v=F A (Q l) c/\Reads w (Z (D w)) 1 A (Q l) (fM l):=by
 have:=h;rcases h.2 with ⟨rfl,j⟩|⟨g,cap,cur,rfl,_⟩
 ·grind [List.eq_nil_of_length_eq_zero,Reads.AW]
 ·grind [Reads.AW]
def bn(w:aP)(g:Nat)(t:TypeId)(cs:Array aQ):Prop:=w.heap[g]?=I (aq cs t (0,0))
section
variable {w w':aP} {g:Nat} {t:TypeId} {cs:Array aQ}
theorem bn.lt(h:bn w g t cs):g<Z (D w):=(aG.1 h).1
theorem bn.cell(h:bn w g t cs) i:w.cell? ⟨g,i,U⟩=cs[i]?:=cell_of_row w g i cs t (0,0) h
theorem bn.frozen(h:bn w g t cs) i:w.frozen? ⟨g,i,U⟩=false:=by unfold bn at h;simp[World.frozen?,h]
theorem bn.new(w:aP) t cs:bn (aU w (aq cs t)) (Z (D w)) t cs:=heap_alloc_new w _
theorem bn.drew(h:bn w g t cs):bn w.drew g t cs:=h
theorem bn.alloc(h:bn w g t cs) o:bn (aU w o) g t cs:=(Below.heap_alloc w o g h.lt).trans h
theorem bn.cz(h:bn w g t cs) i u:bn (aV w ⟨g,i,U⟩ u) g t (cs.setIfInBounds i u):=by unfold bn at h⊢;simp[ax,Array.getElem?_modify,h]
theorem bn.far(h:bn w g t cs){p}(hp:g≠p.block) u:bn (aV w p u) g t cs:=(Below.heap_setCell w p u g hp).trans h
theorem bn.grown{row}(h:bn w g t cs)(hb:w.grownBy w' row)(hg:I g≠row):bn w' g t cs:=(hb.block g h.lt hg).trans h
theorem bn.below{B}(h:bn w g t cs)(hb:aN B w w')(hg:g<B):bn w' g t cs:=(hb.block g hg).trans h
theorem bn.bF(h:bn w g t cs)(hb:aN (Z (D w)) w w'):bn w' g t cs:=h.below hb h.lt
end
theorem My{P a w j c rest} l(y:findLabel c l=I rest)
 (first:c.wp P (Exit.jump l (λa w=>rest.wp P (Exit.noGoto j) a w) j) a w):(Code.scope c).wp P j a w:=by
 refine wp_scope_jumps l _ (λ_ _=>0) y first ?_
 intro a w h
 refine wp_mono h ?_
 intro e a w t
 cases e <;> first|exact t|exact False.elim t
structure ir(P:Program)(t e:TypeId)(z:aQ)(size bytes:Nat):Prop where
 und:P.underlying t=some (.slice e)
 info:(P.info? e).map (λi=>(i.zero,i.size,i.bytes))=I (I z,size,bytes)
 zsz:z.cells.size=size
 pos:0<size
theorem ir.fit{P t e z size bytes}(h:ir P t e z size bytes) :
 ∃i,P.info? e=I i/\i.zero=I z/\i.size=size/\i.bytes=bytes:=info_parts h.info
section
variable {P:Program}
theorem Hx w base t ty e z size bytes(T:ir P t e z size bytes) v n xs(hown:w.ownsRow base e size v n xs)
 B A m c y (L:Reads w B size A m y) (X:∀u∈y,u.oneCell'=aA)
 (O:(n+m)*(bytes+1)<=140737488355328) (hbase:base<=Z (D w)) :
 ∃v' w',(Builtin.append_ #[t,t] ty #[v,F A m c]).run P w=.ok v' w'/\w'.ownsRow base e size v' (n+m) (xs++y)/\w.grownBy w' (aW v) /\
  (aW v'=aW v∨aW v'=I (Z (D w)))/\aN base w w':=by
 obtain⟨i,C,S,R,N⟩:=T.fit
 have M:=T.pos
 have V:=cI (Nat.mul_le_mul_left _ (aH _)) O
 have sf:=cI (Nat.le_mul_of_pos_right _ aZ) O
 rcases Nat.eq_zero_or_pos (Q y)with H|H
 ·obtain rfl:y=[]:=List.eq_nil_of_length_eq_zero H;have hm:m=0:=by
   have:=L.1;simp only[List.length_nil]at this;rcases Nat.eq_zero_or_pos m with h|h
   ·exact h
   ·have:=Nat.mul_pos h M;omega
  subst hm;rcases A with _|Y
  ·refine⟨v,w,?_,bG,World.grownBy.refl w _,aI rfl,ed _ _⟩;rcases hown.2 with ⟨rfl,rfl⟩|⟨g,cap,cur,rfl,_,_,hnc,_⟩
   ·simp[Builtin.append_,run_underlying T.und,sizeOf,typeInfo,C,Builtin.lenOf,Builtin.firstCells]
   ·simp[Builtin.append_,run_underlying T.und,sizeOf,typeInfo,C,Builtin.lenOf,Builtin.firstCells,hnc,storeCells]
  ·obtain⟨v',w',hrun,h2,h3,_,h5⟩:=run_append_own_at (P:=P) w base t ty e i z size bytes T.und C S R N T.zsz M v n xs hown Y 0 c [] bq bq bq Eo V hbase;exact ahY
 ·obtain⟨b,W,rfl,_,hc⟩:=L.2 H;obtain⟨v',w',hrun,h2,h3,_,h5⟩:=run_append_own_at (P:=P) w base t ty e i z size bytes T.und C S R N T.zsz M v n xs hown ⟨b,W,U⟩ m c y L.1 (λj u hu=>by rw[Addr.add_lit];exact hc j u hu) X Eo V hbase;exact ahY
theorem j9{w ops rest o a y}(hgd:o.guard=U) s x t
 (ho:o.op=.call { callee:=.builtin .append,args:=#[s,x],argTypes:=#[t,t] })
 base e z size bytes (T:ir P t e z size bytes) v n xs (L:a.eval s=v) (C:w.ownsRow base e size v n xs)
 B A m c j (N:a.eval x=F A m c) (O:Reads w B size A m j) (S:∀u∈j,u.oneCell'=aA)
 (V:(n+m)*(bytes+1)<=140737488355328) (R:base<=Z (D w))
 (h:∀v' w',w'.ownsRow base e size v' (n+m) (xs++j)->w.grownBy w' (aW v)->(aW v'=aW v∨aW v'=I (Z (D w)))->aN base w w'->wpList P ops y rest (a.put o.dst v') w') :
 wpList P ops y (o :: rest) a w:=by
 refine wpList_plain hgd λK W=>?_
 obtain⟨v',w',Y,M,X,h4,H⟩:=Hx w base t o.type e z size bytes T v n xs C B A m c j O S V R
 unfold Oper.wp aL
 simp only[ho,resolve,invoke,builtin,Sem.run_bind,Sem.run_pure,Result.andThen_ok,List.map_toArray,lT,List.map_nil,L,N,Y]
 exact W _ _ (h v' w' M X h4 H)
theorem Reads.new(w:aP) cs t size n(h:Q cs=n*size):Reads (aU w (aq cs.toArray t)) (Z (D w)+1) size (I ⟨Z (D w),0,U⟩) n cs :=
 ⟨h,λ_=>⟨Z (D w),0,rfl,aZ,λj u y=>by
  have z:=heap_alloc_new w (aq cs.toArray t);simp only[World.cell?,z];simpa using y⟩⟩
end
section
open Go Go.RowKit Go.ChangeMaps
def F3(bu:List (Int×aQ))(k:Int):Option aQ:=(bu.find? λp=>p.1==k).map (·.2)
def EN(w:aP)(b:Nat)(bu:List (Int×aQ)):Prop :=
 ∃(es:Array MapEntry) (c:Nat),w.heap[b]?=I (.map es c)/\es.toList.map (λe=>(e.key,e.val))=bu.map λp=>(G J p.1,p.2)
theorem EN.new(w:aP):EN (aU w (.map #[] 0)) (Z (D w)) []:=⟨#[],0,heap_alloc_new w _,rfl⟩
theorem Xi k:∀(es:List MapEntry) (bu:List (Int×aQ)) (i:Nat),es.map (λe=>(e.key,e.val))=bu.map (λp=>(G J p.1,p.2)) ->
 ∃r,Instr.findNow (.int J) (G J k) es i=I r/\r.map (·.2)=F3 bu k
 | [],[],i,_=>⟨U,rfl,rfl⟩
 | [],_ :: _,i,h=>yY
 | _ :: _,[],i,h=>yY
 | e :: es,p :: bu,i,h=>by
  simp only[lT,List.cons.injEq,Prod.mk.injEq]at h;obtain⟨⟨y,t⟩,z⟩:=h;obtain⟨r,A,j⟩:=Xi k es bu (i+1) z;unfold Instr.findNow;rw[y];by_cases hk:p.1=k
  ·subst hk;exact⟨I (i,e.val),by simp[Instr.sameNow],by simp[F3,t]⟩
  ·refine⟨r,?_,?_⟩
   ·have:(k==p.1)=false:=by simp;exact λe=>hk e.symm
    simp[Instr.sameNow,this,A]
   ·rw[j];unfold F3;rw[List.find?_cons_of_neg vD]
section
variable {P:Program}
theorem ar8{K}(j:P.underlying K=some (.int .i64)) k t n w:(Instr.checkKey t (n+1) K (G J k)).run P w=.ok () w:=by simp[Instr.checkKey,run_underlying j]
theorem QI{K}(t:P.underlying K=some (.int .i64)) k j w:(Instr.checkKey j 10000 K (G J k)).run P w=.ok () w:=ar8 t k j 9999 w
theorem ave{t K L}(M:P.underlying t=some (.map K L))(z:P.underlying K=some (.int .i64)){w b bu}(h:EN w b bu) k v(hn:F3 bu k=U) :
 ∃w',(Instr.mapUpdate t (.map (I b)) (G J k) v).run P w=.ok () w'/\EN w' b (bu++[(k,v)])/\w.grownBy w' (I b):=by
 obtain⟨es,c,j,y⟩:=h
 obtain⟨r,H,A⟩:=Xi k es.toList bu 0 y
 have C:r=none:=by
  cases r with
  | none=>rfl
  | some x=>rw[hn]at A;cases A
 subst C
 refine⟨setBlock w b (.map (es.push ⟨G J k,v,c⟩) (c+1)),?_,⟨_,_,heap_setBlock_same j _,?_⟩,⟨rfl,rfl,rfl,RU,λi _ B=>heap_setBlock_other j _ (λe=>B Hy)⟩⟩
 ·simp[Instr.mapUpdate,run_underlying M,MapKept.run_getObj_map j,QI z,Instr.findKey,run_underlying z,H,MapKept.run_setObj_map _ j,Result.andThen,setBlock]
 ·simp[y]
theorem xI{t K B}(C:P.underlying t=some (.map K B))(j:P.underlying K=some (.int .i64)){w z}(hz:(zeroValue B).run P w=.ok z w){b bu}(h:EN w b bu) k :
 (Instr.lookup t (.map (I b)) (G J k) aA).run P w=.ok (au #[(F3 bu k).getD z,ar (F3 bu k).isSome]) w:=by
 obtain⟨es,c,y,H⟩:=h
 obtain⟨r,A,L⟩:=Xi k es.toList bu 0 H
 rw[<- L]
 cases r with
 | none=>simp[Instr.lookup,run_underlying C,MapKept.run_getObj_map y,QI j,Instr.findKey,run_underlying j,A,hz,Result.andThen]
 | some x=>simp[Instr.lookup,run_underlying C,MapKept.run_getObj_map y,QI j,Instr.findKey,run_underlying j,A,Result.andThen]
theorem yT w{ops rest o a j}
 (hg:o.guard=U) m x v t (z:o.op=Op.insert t m x v) K N (R:P.underlying t=some (.map K N)) (L:P.underlying K=some (.int .i64))
 b bu (hm:a.eval m=.map (I b)) (y:EN w b bu) k (B:a.eval x=G J k) val (C:a.eval v=val) (hn:F3 bu k=U)
 (O:∀w',EN w' b (bu++[(k,val)])->w.grownBy w' (I b)->wpList P ops j rest (a.put o.dst undef) w'):wpList P ops j (o :: rest) a w:=by
 refine wpList_plain hg λT A=>?_
 obtain⟨w',M,S,H⟩:=ave R L y k val hn
 unfold Oper.wp
 simp[aL,z,hm,B,C,M,Result.andThen]
 exact A _ _ (O w' S H)
end
end
theorem aas:(prog.info? 5).map (λi=>(i.zero,i.size,i.bytes))=I (I (G .u8 0),1,1):=by kernel_rfl
theorem Rp A n c l more w B(t:Reads w B 1 A n (fM l))(T:B<=Z (D w))(hn:n<=1099511627776)(R:0<=more)(X:more<=1099511627776) :
 aK prog 196 #[F A n c,G J more] w λe w' =>
  ∃g cap,e=ak (F (I ⟨g,0,U⟩) n cap)/\w'.ownsRow (Z (D w)) 5 1 (F (I ⟨g,0,U⟩) n cap) n (fM l)/\aN (Z (D w)) w w'/\n<=cap/\cap<=2199023255552:=by
 obtain⟨m,rfl⟩:=Int.eq_ofNat_of_zero_le R
 obtain⟨i,C,M,H,hz2⟩:=info_parts aas
 have:∀W:aP,(Instr.makeSlice 118 (G J n) (G J ((n:Int)+m))).run prog W=.ok (F (I ⟨Z (D W),0,U⟩) n (n+m)) (aU W (aq (madeCells #[G .u8 0] (n+m)) 5)):=by intro W;have h:=run_make (P:=prog) W 118 5 i (G .u8 0) underlying118 C M J J (n:Int) ((n:Int)+m) aZ aZ XY aZ;rw[H]at h;simpa [Value.cells,show ((n:Int)+m).toNat=n+m from by omega]using h
 go_in
 go_wp2_with (with_reducible refine wpList_copy_splice rfl (.tmp 13) (.tmp 14) 118 118 rfl 5 underlying118 (by rw[C];simp[H]) _ A _ _ _ _ rfl rfl (Z (D w)) 0 (List.replicate (n+m) (G .u8 0)) 5 ?hg (fM l) ?hn ?hpos ?hfit (xN l) (Z (D w)) w ?hb (bL _) ?_)
 case hg=>rw[heap_alloc_new,<- toList_madeCells_one]
 case hn=>rw[t.len];simp
 case hpos => intro h0;obtain⟨b,V,rfl,hb,N⟩:=t.2 Ng;refine⟨_,rfl,λj v S=>?_⟩;rw[Addr.add_lit,World.cell?_alloc_lt _ _ _ cG];exact N j v S
 case hfit=>rw[t.len];simp
 case hb=>exact (ed _ _).alloc (bL _) _
 intro w2 L O
 go_wp2
 go_ret
 refine⟨_,_,rfl,?_,O,aZ,aZ⟩
 have z:=L.aX
 have y:=t.len
 rw[show splice (List.replicate (n+m) (G .u8 0)) 0 (fM l)=fM l++List.replicate m (G .u8 0)from by simp only[splice];simp[show Q l=n from by simpa using y]]at z
 exact QQ (bL _) z y bq Eo
def iD(n:Nat):Nat:=if n=0 then 0 else iD (n/256)+1
decreasing_by omega
theorem JX:iD 0=0:=by grind [iD]
theorem Rq n(h:0<n):iD n=iD (n/256)+1:=by grind [iD]
theorem M6 k:∀n,n<256^k->iD n<=k:=by
 induction k with
 | zero => intro n h;have:n=0:=Er;subst this;simp[JX]
 | succ k j =>
  grind [iD]
theorem avf(n:Nat)(hn:n<18446744073709551616) w :
 aK prog 304 #[G E n] w λe w'=>e=ak (G J (iD n:Nat))/\w=w':=by
 have z:=M6 8 n aZ
 go_in
 go_wp2_with fail
 go_loop [0,3] (fun x c=>∃m k:Nat,m<=n/\k+iD m=iD n/\x=G E m/\c=G J k) (fun x _=>(aO x).toNat)
 case atStart=>exact⟨n,0,bL _,aZ,rfl,rfl⟩
 case round =>
  obtain⟨m,k,hm,hk,rfl,rfl⟩:=hrel;have t:=aY hk;have A:k<=8:=aZ;rcases Nat.eq_zero_or_pos m with j|j
  ·subst j;go_wp2;go_ret;have e:k=iD n:=by have:=t.aX;rw[JX]at this;omega
   exact⟨by rw[<- e];rfl,rfl⟩
  ·go_wp2;have y:=Rq m j;go_round
   case rel=>exact⟨m/256,k+1,aZ,by have:=t.aX;omega,bq,cU⟩
   case measure=>simp[aO];omega
def be:Nat->Nat->List UInt8
 | 0,_=>[]
 | k+1,n=>UInt8.ofNat (n/256^k) :: be k n
def bI(n:Nat):List UInt8:=UInt8.ofNat (iD n) :: be (iD n) n
theorem xJ k n:Q (be k n)=k:=by
 induction k generalizing n with
 | zero=>rfl
 | succ k j=>simp[be,j]
theorem aCi N n k(h:k<N):(be N n)[k]?=I (UInt8.ofNat (n/256^(N-1-k))):=by
 induction N generalizing k with
 | zero=>omega
 | succ N j =>
  cases k with
  | zero=>simp[be]
  | succ k =>
   grind [be]
theorem aAG N n k(h:k<N):(be N n).take (k+1)=(be N n).take k++[UInt8.ofNat (n/256^(N-1-k))]:=by
 grind [List.take_add_one,aCi]
theorem aga(n j:Nat):((n:Int)/2^(8*j)%256)=((UInt8.ofNat (n/256^j)).toNat:Int):=by rw[show (256:Nat)^j=2^(8*j) by rw[Nat.pow_mul]];simp
theorem eM n(h:n<18446744073709551616):Q (bI n)<=9:=by simp_all [M6,bI,xJ]
theorem TB:ir prog 118 5 (G .u8 0) 1 1:=⟨underlying118,aas,rfl,bC⟩
theorem aeH v l(n:Nat)(hn:n<18446744073709551616) w base(z:Own w base 5 v l)(y:base<=Z (D w))(hl:Q l<=1099511627776) :
 aK prog 262 #[v,G E n] w λe w' =>
  ∃v',e=ak v'/\Own w' base 5 v' (l++bI n)/\aN base w w':=by
 have aC2:=M6 8 n aZ
 go_in
 go_wp2_with fail
 apply bN (avf n hn _)
 rintro w' rfl
 generalize hN:iD n=N at *
 have O:=aY hN
 have S:(UInt8.ofNat N).toNat=N:=cG
 have T:=aY S
 go_wp2_with (at_builtin;refine j9 rfl _ _ 118 rfl base 5 _ 1 1 TB _ _ _ rfl (z.alloc _) (Z (D w)+1) _ 1 1 (fM [UInt8.ofNat N]) rfl ?c1 ?c2 ?c3 ?c5 ?_)
 case c1 => have:=Reads.new w (fM [UInt8.ofNat N]) 5 1 1 rfl;simpa [fM,T.aX]using this
 case c2=>exact xN _
 case c3=>omega
 case c5=>simp;omega
 intro H V W hg1 aJh A
 have C:=((ed _ _).alloc y _).trans A
 have aaB:Own V base 5 H (l++[UInt8.ofNat N]):=by unfold Own;rw[MJ];simpa using W
 go_wp2_with fail
 go_loopw [0,15] (fun u i wr=>∃k:Nat,k<=N/\i=G J k/\Own wr base 5 u (l++[UInt8.ofNat N]++(be N n).take k)/\aN base w wr) (fun _ i _=>N-(aO i).toNat)
 case atStart=>exact⟨0,aZ,rfl,by simpa using aaB,C⟩
 case round =>
  obtain⟨k,hk,rfl,t,j⟩:=hrel;have M:=cI y j.size;by_cases hlt:k<N
  ·have hi:(k:Int)<N:=aZ;have R:=aY (aga n (N-1-k));have B:=aY (aAG N n k hlt);have hlen:Q (l++[UInt8.ofNat N]++(be N n).take k)<=Q l+9:=by simp[xJ];omega
   go_wp2_with (at_builtin;refine j9 rfl _ _ 118 rfl base 5 _ 1 1 TB _ _ _ rfl (sK t _) (Z (D wr)+1) _ 1 1 (fM [UInt8.ofNat (n/256^(N-1-k))]) rfl ?d1 ?d2 ?d3 ?d5 ?_)
   case d1 => have:=Reads.new wr (fM [UInt8.ofNat (n/256^(N-1-k))]) 5 1 1 rfl;rw[R.aX];exact this
   case d2=>exact xN _
   case d3=>omega
   case d5=>simp;omega
   intro v2 w2 F4 kj Ol X;have Y:=(j.alloc M _).trans X;have L:Own w2 base 5 v2 (l++[UInt8.ofNat N]++(be N n).take (k+1)):=by unfold Own;rw[B.aX,<- fN,MJ];simpa [Nat.add_assoc]using F4
   go_wp2;go_roundw
   case rel=>exact⟨k+1,aZ,cU,L,Y⟩
   case measure=>simp[aO];omega
  ·have hge:¬(k:Int)<N:=aZ;have Ho:Hid (Own wr base 5 u0 (l++bI n)):=by unfold bI;rw[O.aX];have:(be N n).take k=be N n:=iw (by rw[xJ];omega);rw[this]at t;exact aY (by simpa using t)
   go_wp2;go_ret;exact⟨_,rfl,Ho.aX,j⟩
theorem yU A m c l(n:Nat)(hn:n<18446744073709551616) w B(hR:Reads w B 1 A m (fM l))(j:B<=Z (D w))(hm:m<=1000000000) :
 aK prog 202 #[F A m c,G E n] w λe w' =>
  ∃v',e=ak v'/\Own w' (Z (D w)) 5 v' (l++bI n)/\aN (Z (D w)) w w':=by
 have:Q l=m:=Hw
 go_in
 go_wp2_with fail
 refine (Rp A m c l 9 w B hR j aZ aZ aZ).mono ?_
 rintro e z⟨g,cap,rfl,L,hb,_,_⟩
 go_wp2_with fail
 apply dD (aeH _ l n hn z (Z (D w)) bG hb.size aZ)
 rintro v' H⟨t,y⟩
 go_wp2
 go_ret
 exact⟨_,rfl,t,hb.trans y⟩
theorem QZ A C m c k d l b w B(hR:Reads w B 1 A m (fM l))(z:Reads w B 1 C k (fM b))(L:B<=Z (D w))(hm:m<=1000000000)(hk:k<=1000000000) :
 aK prog 204 #[F A m c,F C k d] w λe w' =>
  ∃v',e=ak v'/\Own w' (Z (D w)) 5 v' (l++bI (Q b)++b)/\aN (Z (D w)) w w':=by
 have M:Q l=m:=Hw
 have hb:Q b=k:=by simpa using z.len
 have hp:=eM k aZ
 have t:=aY M
 have H:=aY hb
 clear M hb
 go_in
 go_wp2_with fail
 refine (Rp A m c l (9+k) w B hR L aZ aZ aZ).mono ?_
 rintro e R⟨g,cap,rfl,T,y,_,_⟩
 go_wp2_with fail
 apply dD (aeH _ l k aZ R (Z (D w)) (by unfold Own;rw[t.aX];exact T) y.size (by have:=t.aX;omega))
 rintro v' w2⟨N,V⟩
 have j:=y.trans V
 have O:=z.below j L
 go_wp2_with (at_builtin;refine j9 rfl _ _ 118 rfl (Z (D w)) 5 _ 1 1 TB _ _ _ rfl N B _ k d (fM b) rfl O (xN _) ?d3 j.size ?_)
 case d3=>have:=t.aX;simp;omega
 intro Y X W kj Ol S
 go_wp2
 go_ret
 refine⟨_,rfl,?_,j.trans S⟩
 unfold Own
 rw[MJ,H.aX]
 simpa [H.aX,Nat.add_assoc]using W
abbrev fW(s:ByteArray):List UInt8:=s.data.toList
def km(k n:Int)(s:ByteArray):Bool :=
 if k==1 then s.toList.isEmpty else if k==2 then n==0&&decide ((s.size:Int)<=40)else if k==3 then (n==0||n==1)&&s.toList.isEmpty else az
def nX(k n:Int)(s:ByteArray):Int:=if km k n s then 0 else 10
def foldI(n:Int):Nat:=if n<0 then (-2*n-1).toNat else (2*n).toNat
def xO(n:Nat):Int:=if n%2=1 then -((n/2:Nat):Int)-1 else ((n/2:Nat):Int)
theorem avg n w(j:-9223372036854775808<=n)(t:n<=9223372036854775807) :
 aK prog 334 #[G J n] w λe w'=>e=ak (G E (foldI n:Nat))/\w=w':=by
 by_cases hn:n<0
 ·have e:(foldI n:Int)=-2*n-1:=by simp[foldI,hn];omega
  have HE:=aY e;clear e;exact RV
 ·have e:(foldI n:Int)=2*n:=by simp[foldI,hn];omega
  have HE:=aY e;clear e;exact RV
theorem aeI(n:Nat) w(hn:n<18446744073709551616) :
 aK prog 302 #[G E n] w λe w'=>e=ak (G J (xO n))/\w=w':=by
 by_cases hm:n%2=1
 ·have e:xO n=-((n/2:Nat):Int)-1:=by simp[xO,hm]
  have HE:=aY e;have hb:(((n:Int)%2)==1)=true:=cG;clear e hm;exact RV
 ·have e:xO n=((n/2:Nat):Int):=by simp[xO,hm]
  have HE:=aY e;have hb:(((n:Int)%2)==1)=false:=cG;clear e hm;exact RV
theorem Q0 k n s w :
 aK prog 297 #[av #[G J k,G J n,aw s]] w λe w'=>e=ak (G J (nX k n s))/\aN (Z (D w)) w w':=by
 go_in
 go_wp2
 all_goals
  go_ret
  refine⟨?_,(ed _ _).alloc (bL _) _⟩
  show ak (G _ _)=ak (G _ _)
  simp_all [nX,km]
abbrev vv(k n:Int)(s:ByteArray):aQ:=av #[G J k,G J n,aw s]
def xY(k n:Int):Nat:=if k=1 then foldI n else (n%18446744073709551616).toNat
def cL(k:Int):Nat:=(k%18446744073709551616).toNat
def pP(k n:Int)(s:ByteArray):List UInt8:=bI (cL k)++bI (xY k n)++(bI s.size++fW s)
theorem FI k:E.wrap k=(cL k:Int):=by unfold cL;show k%2^64=_;omega
theorem jb k:cL k<18446744073709551616:=by grind [cL]
theorem ayE n(j:-9223372036854775808<=n)(t:n<=9223372036854775807):foldI n<18446744073709551616:=by
 grind [foldI]
theorem Nh k n(j:-9223372036854775808<=n)(t:n<=9223372036854775807):xY k n<18446744073709551616:=by
 grind [xY,ayE,jb]
theorem Reads.conv(w:aP) s c x e:Reads (aU w (aq (bytesRow s c) e x)) (Z (D w)+1) 1 (I ⟨Z (D w),0,U⟩) s.size (fM (fW s)) :=
 ⟨bq,λ_=>⟨Z (D w),0,rfl,aZ,λj u hu=>by
  have z:=heap_alloc_new w (aq (bytesRow s c) e x);simp only[World.cell?,z];have y:j<s.data.size:=ahZ;have A:j<s.size:=y;simp[bytesRow,Array.getElem?_append,A];simp[fM]at hu;obtain⟨a,t,rfl⟩:=hu;rw[Array.getElem?_eq_getElem y]at t;injection t with t;rw[t]⟩⟩
theorem aeY A m c l k n s w B(hR:Reads w B 1 A m (fM l))(hB:B<=Z (D w))(hm:m<=900000000)(N:s.size<=900000000)
 (y:-9223372036854775808<=n) (z:n<=9223372036854775807) :
 aK prog 305 #[F A m c,vv k n s] w λe w' =>
  ∃v',e=ak v'/\Own w' (Z (D w)) 5 v' (l++pP k n s)/\aN (Z (D w)) w w':=by
 have hnl:=Nh k n y z
 have sW:=jb k
 have:=eM _ sW
 have:=eM _ hnl
 have C:Q l=m:=Hw
 have Hml:=aY C
 clear C
 generalize t:xY k n=NV at *
 generalize H:cL k=KN at *
 have HNV:=aY t
 have HKN:=aY H
 clear t H
 have:=λW=>run_bytes_of_string (P:=prog) W 9 118 5 s underlying9 underlying118 underlying5
 have anI:aN (Z (D w)) w (aU w (aq #[G J k,G J n,aw s] 83)):=(ed _ _).alloc (bL _) _
 by_cases hk:k=1
 rotate_left
 ·have L:(k==1)=false:=vD;have j:Hid (cL n=NV):=by rw[<- HNV.aX];exact aY (by simp[xY,hk];rfl)
  clear hk;go_in;go_wp2_with fail
  rw[FI n,j.aX];exact ah0
 ·have L:(k==1)=true:=vD;have j:Hid (foldI n=NV):=by rw[<- HNV.aX];exact aY (by simp[xY,hk])
  clear hk;go_in;go_wp2_with fail
  apply bN (avg n _ y z);rintro w' rfl;rw[j.aX];go_wp2_with fail
  exact ah0
def Rd(w:aP)(g:Nat)(l:List UInt8)(wr:Bool):Prop :=
 ∃A c,bn w g 275 #[F A (Q l) c,ar wr]/\Reads w g 1 A (Q l) (fM l)/\Q l<=c/\c<=2199023255552
def kL(l:List UInt8):Nat:=l.foldl (λn b=>n*256+b.toNat) 0
def bE(l:List UInt8)(wr:Bool):Nat×List UInt8×Bool :=
 match l with
 | []=>(0,l,aA)
 | b :: r =>
  if wr||decide (8<b.toNat)||decide (Q r<b.toNat)||(decide (0<b.toNat)&&r.head?==I 0)then (0,l,aA)
  else (kL (r.take b.toNat),r.drop b.toNat,az)
theorem MV A n c l w B(hR:Reads w B 1 A n (fM l))(j:B<=Z (D w))(hn:n<=1000000000) :
 aK prog 132 #[F A n c] w λe w' =>
  ∃g,e=ak (aj (I ⟨g,0,U⟩))/\Z (D w)<=g/\Rd w' g l az/\aN (Z (D w)) w w':=by
 have t:Q l=n:=Hw
 subst t
 go_in
 go_wp2_with fail
 refine (Rp A _ c l 0 w B hR j aZ aZ aZ).mono ?_
 rintro e C⟨g,cap,rfl,H,hb,y,z⟩
 go_wp2
 go_ret
 refine⟨Z (D C),rfl,hb.size,⟨_,_,bn.new _ _ _,?_,?_,?_⟩,hb.alloc hb.size _⟩
 ·exact (Reads.AW H).below (Below.alloc (ed _ _) (bL _) _) (bL _)
 ·exact y
 ·exact z
theorem Bm(l:List UInt8):((Q l:Int)==0)=l.isEmpty:=by cases l <;> simp;omega
theorem MK g l wr w(h:Rd w g l wr) :
 aK prog 138 #[aj (I ⟨g,0,U⟩)] w λe w'=>e=ak (ar (!wr&&l.isEmpty))/\w=w':=by
 obtain⟨A,c,hb,z,B,y⟩:=h
 have j:=hb.cell 1
 have t:=hb.cell 0
 simp at j t
 cases wr
 ·go_in;go_wp2;go_ret;exact⟨by show ak (ar _)=_;rw[Bm];rfl,rfl⟩
 ·exact XZ
def pU(g:Nat)(l:List UInt8)(wr:Bool)(w w':aP):Prop:=Rd w' g l wr/\w.grownBy w' (I g)
theorem asv g l wr w(h:Rd w g l wr)(j:(bE l wr).2.2=aA) :
 aK prog 134 #[aj (I ⟨g,0,U⟩)] w λe w'=>e=ak (G E 0)/\pU g l aA w w':=by
 obtain⟨A,c,hb,C,y,N⟩:=h
 have O:=hb.cell 1
 have t:=hb.cell 0
 have:=hb.frozen 1
 simp at O t
 have Dm:∀W:aP,W=w.setCell ⟨g,1,U⟩ (ar aA)->pU g l aA w W:=by rintro W rfl;refine⟨⟨A,c,hb.cz 1 _,?_,y,N⟩,FM (En _ _) rfl _⟩;exact C.keep λk hk=>Below.heap_setCell w _ _ k cG
 cases wr
 ·cases l with
  | nil => exact Ni
  | cons b r =>
   obtain⟨H,B,rfl,rh,z⟩:=C.2 bq;have:w.cell? ⟨H,B,U⟩=I (G .u8 b.toNat):=z 0 _ cY;simp only[fY]at t y hb;have:b.toNat<256:=b.toNat_lt;by_cases h8:8<b.toNat
   ·have R:(8:Int)<(b.toNat:Int):=aZ;exact Ni
   ·have R:¬(8:Int)<(b.toNat:Int):=aZ;by_cases h9:Q r<b.toNat
    ·have L:(Q r:Int)+1<1+(b.toNat:Int):=aZ;exact Ni
    ·have L:¬(Q r:Int)+1<1+(b.toNat:Int):=aZ;cases r with
     | nil =>
      have M:b.toNat=0:=by simp at h9;omega
      simp[bE,M]at j
     | cons x r =>
      have hx:(x==0)=aA/\0<b.toNat:=by
       simp only[bE]at j;split at j
       ·grind
       ·simp at j
      obtain⟨hx,X⟩:=hx;have hx:x=0:=Nj;subst hx;have:w.cell? ⟨H,B+1,U⟩=I (G .u8 0):=z 1 _ cY;clear z;simp only[fY]at t y hb L h9;exact Ni
 ·exact Ni
theorem Reads.at_{w B A l n}(h:Reads w B 1 A n (fM l))(y:0<Q l) :
 ∃b t,A=I ⟨b,t,U⟩/\b<B/\∀j (hj:j<Q l),w.cell? ⟨b,t+j,U⟩=I (G .u8 (l[j].toNat:Int)):=by
 obtain⟨b,t,e,hb,z⟩:=h.2 Kf
 grind [fM]
theorem Xj l b:kL (l++[b])=kL l*256+b.toNat:=by simp[kL]
theorem Nk l:kL l<256^Q l:=by
 induction h:Q l generalizing l with
 | zero=>simp[List.eq_nil_of_length_eq_zero h,kL]
 | succ n t => have j:l≠[]:=bG;rw[<- List.dropLast_concat_getLast j,Xj];have:=t l.dropLast Kg;have hb:=(l.getLast j).toNat_lt;rw[Nat.pow_succ];omega
theorem asw g b r w(h:Rd w g (b :: r) az)(h8:b.toNat<=8)(hl:b.toNat<=Q r)(hx:0<b.toNat->∃x C,r=x :: C/\0<x.toNat) :
 aK prog 134 #[aj (I ⟨g,0,U⟩)] w λe w'=>e=ak (G E (kL (r.take b.toNat):Nat))/\pU g (r.drop b.toNat) az w w':=by
 obtain⟨A,c,hb,hr,h1,R⟩:=h
 have hc:=hb.cell 1
 have M:=hb.cell 0
 have hf0:=hb.frozen 0
 simp at hc M
 obtain⟨B,y,rfl,rh,H⟩:=hr.at_ bq
 have Y:=H 0 bq
 simp at Y
 have z:=aY H
 clear H
 simp only[fY]at M h1 hb
 generalize S:b.toNat=N at *
 have HN:=aY S
 clear S
 have zn:¬(8:Int)<(N:Int):=aZ
 have h9':¬(Q r:Int)+1<1+(N:Int):=aZ
 have Dm:∀(A':Option Addr) (m t:Nat),m=Q r-N->(0<m->A'=I ⟨B,y+(1+N),U⟩)->m<=t->t<=c->pU g (r.drop N) az w (aV w ⟨g,0,U⟩ (F A' m t)):=by
  rintro A' m t rfl hA hm hc'
  have hb':=hb.cz 0 (F A' (Q r-N) t)
  refine⟨⟨A',t,by simpa using hb',⟨bq,λh0=>?_⟩,by simpa using hm,aZ⟩,FM (En _ _) rfl _⟩
  simp at h0
  refine⟨B,y+(1+N),hA aZ,rh,λj u hu=>?_⟩
  rw[World.cell?_setCell_other _ _ _ _ bq]
  have V:j<Q (r.drop N):=ahZ
  rw[ahU _ _ V]at hu
  injection hu with hu
  rw[<- hu,List.getElem_drop]
  simp at V
  have:=z.aX (1+N+j) cG
  rw[show y+(1+N)+j=y+(1+N+j) by omega,this]
  grind
 by_cases W:0<N
 ·obtain⟨x,C,rfl,fG⟩:=hx W;have jC:=z.aX 1 bq;simp at jC;have hxb:((x.toNat:Int)==0)=false:=cG;have hNi:(0:Int)<(N:Int):=aZ;generalize hR:x :: C=r at *;clear hR;go_in;go_wp2;go_step3;go_wp2_with fail
  go_loop [3,51] (fun n i=>∃k:Nat,k<=N/\i=G J k/\n=G E (kL (r.take k):Nat)) (fun _ i=>N-(aO i).toNat)
  case atStart=>exact⟨0,aZ,rfl,rfl⟩
  case round =>
   obtain⟨k,hk,rfl,rfl⟩:=hrel;by_cases hlt:k<N
   ·have gJ:(k:Int)<N:=aZ;have Dw:w.cell? ⟨B,y+(1+k),U⟩=I (G .u8 (r[k].toNat:Int)):=by have:=z.aX (1+k) cG;simpa [Nat.add_comm 1 k]using this
    have lh:kL (r.take k)<72057594037927936:=by have:=Nk (r.take k);have R:Q (r.take k)<=7:=cG;have h3:256^Q (r.take k)<=256^7:=Nat.pow_le_pow_right bC R;omega
    generalize T:kL (r.take k)=v at *;have L:kL (r.take (k+1))=v*256+r[k].toNat:=by rw[ix aZ,Xj,T]
    have aC3:r[k].toNat<256:=r[k].toNat_lt;have O:bits BinOp.or E ((v:Int)*256) (r[k].toNat:Int)=((v*256+r[k].toNat:Nat):Int):=by rw[show (v:Int)*256=((v*256:Nat):Int) by simp,u64_or_nat _ _ aZ aZ,nat_join 8 _ _ aZ aZ]
    have HT:=aY L;have HO:=aY O;clear T L O;go_wp2;go_round
    case rel=>exact⟨k+1,aZ,cU,by rw[HO.aX,HT.aX]⟩
    case measure=>simp[aO];omega
   ·have gJ:¬(k:Int)<N:=aZ;have X:k=N:=aZ;subst X;exact ah1
 ·obtain rfl:N=0:=aZ;have hNi:¬(0:Int)<((0:Nat):Int):=aZ;go_in;go_wp2;go_step3;go_wp2_with fail
  refine wp_loop_rounds 1 ?_;rw[rounds_succ];exact ah1
theorem vC g l wr w(h:Rd w g l wr) :
 aK prog 134 #[aj (I ⟨g,0,U⟩)] w λe w'=>e=ak (G E ((bE l wr).1:Nat))/\pU g (bE l wr).2.1 (bE l wr).2.2 w w':=by
 by_cases j:(bE l wr).2.2=aA
 ·have e:bE l wr=(0,l,aA):=by
   unfold bE at j⊢
   grind
  rw[e];exact asv g l wr w h j
 ·match l,h,j with
  | [],_,j=>simp[bE]at j
  | b :: r,h,j =>
   have t:(wr||decide (8<b.toNat)||decide (Q r<b.toNat)||(decide (0<b.toNat)&&r.head?==I 0))=false:=by
    grind [bE]
   have e:bE (b :: r) wr=(kL (r.take b.toNat),r.drop b.toNat,az):=by grind [bE]
   rw[e]
   simp at t
   obtain⟨⟨⟨rfl,h8⟩,h9⟩,nD⟩:=t
   refine asw g b r w h h8 h9 λy=>?_
   have:=nD y
   match r,h9,this with
   | [],h9,_=>simp at h9;omega
   | x :: r',_,yr =>
    refine⟨x,r',rfl,?_⟩;rcases Nat.eq_zero_or_pos x.toNat with h|h
    ·exact absurd (by simpa using UInt8.toNat_inj.1 (show x.toNat=(0:UInt8).toNat from h)) yr
    ·exact h
def bY(j:Int)(l:List UInt8)(wr:Bool):List UInt8×List UInt8×Bool :=
 if (bE l wr).2.2||decide (j<0)||decide (j.toNat<(bE l wr).1)||decide (Q (bE l wr).2.1<(bE l wr).1)then ([],(bE l wr).2.1,aA)
 else ((bE l wr).2.1.take (bE l wr).1,(bE l wr).2.1.drop (bE l wr).1,az)
theorem pL l wr:Q (bE l wr).2.1<=Q l:=by
 unfold bE
 grind
theorem pN l wr:(bE l wr).1<18446744073709551616:=by
 unfold bE;split
 ·simp
 ·rename_i b r;split
  ·simp
  ·rename_i j;simp at j;have z:=Nk (r.take b.toNat);have t:Q (r.take b.toNat)<=8:=bG;have y:256^Q (r.take b.toNat)<=256^8:=Nat.pow_le_pow_right bC t;show kL (r.take b.toNat)<_;omega
theorem Rd.Ya{w g l wr}(h:Rd w g l wr):pU g l aA w (aV w ⟨g,1,U⟩ (ar aA)):=by obtain⟨A,c,hb,j,y,t⟩:=h;refine⟨⟨A,c,hb.cz 1 _,?_,y,t⟩,FM (En _ _) rfl _⟩;exact j.keep λk hk=>Below.heap_setCell w _ _ k bG
theorem QR g l wr t w(h:Rd w g l wr)(hl:Q l<=1000000000)(hm0:-9223372036854775808<=t)(oM:t<=9223372036854775807) :
 aK prog 136 #[aj (I ⟨g,0,U⟩),G J t] w λe w' =>
  ∃v,e=ak v/\Own w' (Z (D w)) 5 v (bY t l wr).1/\pU g (bY t l wr).2.1 (bY t l wr).2.2 w w':=by
 have S:=vC g l wr w h
 have V:=pL l wr
 have hlt:=pN l wr
 unfold bY
 generalize bE l wr=R at *
 obtain⟨n,j,B⟩:=R
 simp only at S V hlt⊢
 have HN:=aY S
 by_cases z:(B||decide (t<0)||decide (t.toNat<n)||decide (Q j<n))=aA
 ·rw[z];have hfin:∀W,Rd W g j B->w.grownBy W (I g)->Own (aV W ⟨g,1,U⟩ (ar aA)) (Z (D w)) 5 (F U 0 0) []/\pU g j aA w (aV W ⟨g,1,U⟩ (ar aA)):=by intro W rm hgr;obtain⟨H,C⟩:=rm.Ya;exact⟨mr _ _ _ _,H,qJ hgr C⟩
  cases B
  ·by_cases H:t<0
   ·exact RX
   ·by_cases C:t.toNat<n
    ·obtain⟨m,rfl⟩:=Int.eq_ofNat_of_zero_le (show 0<=t by omega);have T:(m:Int)<n:=aZ;exact RX
    ·have O:Q j<n:=bG;obtain⟨m,rfl⟩:=Int.eq_ofNat_of_zero_le (show 0<=t by omega);have T:¬(m:Int)<n:=aZ;have h3':(Q j:Int)<n:=aZ;exact RX
  ·exact RX
 ·have z:(B||decide (t<0)||decide (t.toNat<n)||decide (Q j<n))=false:=by simpa using z
  rw[z];simp at z;obtain⟨⟨⟨rfl,H⟩,C⟩,O⟩:=z;obtain⟨m,rfl⟩:=Int.eq_ofNat_of_zero_le H;simp at C;have T:(n:Int)<=m:=aZ;have h3':(n:Int)<=Q j:=aZ;go_in;go_wp2;go_step3;go_wp2_with fail
  apply bN HN.aX;rintro w2⟨⟨A,c,hb,hr,hc1,jC⟩,hgr⟩;have fG:=hb.cell 0;have hx1:=hb.cell 1;simp at fG hx1;go_wp2_with fail
  refine (Rp A n c (j.take n) 0 w2 g (hr.pre n O) (Nat.le_of_lt hb.lt) aZ aZ aZ).mono ?_;rintro e M⟨g3,aDG,rfl,ho,N,_,_⟩;have L:=hb.bF N;have X:=hr.below N (Nat.le_of_lt hb.lt);have Y:=L.cell 0;have:=L.frozen 0;simp at Y;have hfin:∀(A':Option Addr) (y:Nat),(n<Q j->A'=A.map (·.add n))->Q j-n<=y->y<=c ->
   Own (aV M ⟨g,0,U⟩ (F A' (Q j-n) y)) (Z (D w)) 5 (F (I ⟨g3,0,U⟩) n aDG) (j.take n)/\pU g (j.drop n) az w (aV M ⟨g,0,U⟩ (F A' (Q j-n) y)):=by
   intro A' y hA h4 h5
   refine⟨?_,⟨A',y,?_,?_,Kh,aZ⟩,FM (qJ hgr (Ef N _)) rfl _⟩
   ·have h6:=ownsRow_setCell_below (a:=⟨g,0,U⟩) ho hb.lt (F A' (Q j-n) y);refine wK hgr.size ?_ rfl;unfold Own;rw[show Q (j.take n)=n by simp;omega];exact h6
   ·have h7:=L.cz 0 (F A' (Q j-n) y);simpa using h7
   ·have h8:=X.post (A':=A') n hA;rw[List.length_drop];exact h8.keep λk hk=>Below.heap_setCell M _ _ k cG
  go_wp2;all_goals
   go_ret
   refine⟨_,rfl,hfin _ _ (λtJ=>?_) aZ aZ⟩
   first|rfl|omega
def F5(n:Nat):Int:=((n:Int)+9223372036854775808)%18446744073709551616-9223372036854775808
def xj(k n:Nat):Int:=if k=1 then xO n else F5 n
def ig(l:List UInt8)(wr:Bool):(Int×Int×List UInt8)×List UInt8×Bool :=
 let a:=bE l wr
 let b:=bE a.2.1 a.2.2
 let s:=bY 40 b.2.1 b.2.2
 if decide (3<a.1)||s.2.2||!(km a.1 (xj a.1 b.1) ⟨s.1.toArray⟩)then ((0,0,[]),s.2.1,aA)
 else ((a.1,xj a.1 b.1,s.1),s.2.1,az)
theorem FN j l wr:Q (bY j l wr).2.1<=Q l:=by
 grind [pL,bY]
abbrev vd(d:Int×Int×List UInt8):aQ:=vv d.1 d.2.1 ⟨d.2.2.toArray⟩
theorem Rd.below{w w' g B l wr}(h:Rd w g l wr)(hb:aN B w w')(hg:g<B):Rd w' g l wr:=by obtain⟨A,c,hk,j,y,t⟩:=h;exact⟨A,c,hk.below hb hg,j.below hb aZ,y,t⟩
theorem Rd.lt{w g l wr}(h:Rd w g l wr):g<Z (D w):=by obtain⟨_,_,hb,_⟩:=h;exact hb.lt
theorem Rd.bF{w w' g l wr}(h:Rd w g l wr)(hb:aN (Z (D w)) w w'):Rd w' g l wr:=h.below hb h.lt
theorem aeJ g l wr w(h:Rd w g l wr)(hl:Q l<=1000000000) :
 aK prog 260 #[aj (I ⟨g,0,U⟩)] w λe w' =>
  e=ak (vd (ig l wr).1)/\pU g (ig l wr).2.1 (ig l wr).2.2 w w':=by
 have hg:=h.lt
 have c1:=λW (t:Rd W g l wr)=>vC g l wr W t
 have c2:=λW (t:Rd W g (bE l wr).2.1 (bE l wr).2.2)=>vC g _ _ W t
 have c3:=λW (t:Rd W g (bE (bE l wr).2.1 (bE l wr).2.2).2.1 (bE (bE l wr).2.1 (bE l wr).2.2).2.2)=>QR g _ _ 40 W t (by have:=pL l wr;have:=pL (bE l wr).2.1 (bE l wr).2.2;omega) aZ aZ
 have:=pN l wr
 have Y:=pN (bE l wr).2.1 (bE l wr).2.2
 simp only[ig]
 generalize bE l wr=a at *
 obtain⟨k,l1,w1⟩:=a
 simp only at *
 generalize bE l1 w1=a at *
 obtain⟨n,l2,w2⟩:=a
 simp only at *
 generalize bY 40 l2 w2=a at *
 obtain⟨s,l3,M⟩:=a
 simp only at *
 have C1:=aY c1
 have C2:=aY c2
 have C3:=aY c3
 clear c1 c2 c3
 have hW0:aN (Z (D w)) w (aU w (aq #[G J 0,G J 0,aw { data:=#[] }] 83)):=(ed _ _).alloc (bL _) _
 have V:=bn.new w 83 #[G J 0,G J 0,aw { data:=#[] }]
 have S:=h.below hW0 hg
 clear h
 go_in
 go_wp2
 refine My 0 rfl ?_
 go_wp2_with fail
 apply bN (C1.aX _ S)
 rintro W1⟨hr1,z⟩
 have R:=V.grown z cG
 clear V S
 go_wp2_with fail
 apply bN (C2.aX _ hr1)
 rintro W2⟨T,A⟩
 have hx2:=R.grown A cG
 clear R hr1
 go_wp2_with fail
 apply dD (C3.aX _ T)
 rintro v3 W3⟨iB,fP,H⟩
 have L:=hx2.grown H cG
 clear hx2 T
 obtain⟨A3,k3,rfl,zo⟩:=iB.slice
 have:=ahV (P:=prog) W3 118 9 5 underlying118 underlying5 underlying9 _ A3 _ k3 s zo
 clear iB
 by_cases h3:3<k
 ·have h3':(3:Int)<(k:Int):=aZ;have gF:=fP.below (Below.alloc (ed _ W3) (bL _) (aq #[G J 0,G J (wrap64 (n:Int)),aw { data:=s.toArray }] 83)) fP.lt;have dV:=L.alloc (aq #[G J 0,G J (wrap64 (n:Int)),aw { data:=s.toArray }] 83);have hgr:w.grownBy (aU W3 (aq #[G J 0,G J (wrap64 (n:Int)),aw { data:=s.toArray }] 83)) (I g):=FF (qJ (qJ (qJ (FF (En _ _) _) z) A) H) _;go_wp2;generalize W3.alloc _=W4 at *;have Lc:(if (decide (3<k)||M||!(km (k:Int) (xj k n) ⟨s.toArray⟩))=aA then (((0,0,[]),l3,aA):(Int×Int×List UInt8)×List UInt8×Bool)else (((k:Int),xj k n,s),l3,az))=((0,0,[]),l3,aA):=by simp[h3]
  go_step3;refine⟨rfl,?_⟩;have hy0:=dV.cell 0;have EZ:=dV.cell 1;have hy2:=dV.cell 2;have hz0:=dV.frozen 0;have hz1:=dV.frozen 1;have hz2:=dV.frozen 2;simp at hy0 EZ hy2;obtain⟨A4,c4,hb4,_⟩:=id gF;have gX:=hb4.cell 1;have vT:=hb4.frozen 1;simp at gX;go_wp2;have gh:=(((dV.far (p:=⟨g,1,U⟩) cG (ar aA)).cz 0 (G J 0)).cz 1 (G J 0)).cz 2 (aw { data:=#[] });have e0:=gh.cell 0;have e1:=gh.cell 1;have e2:=gh.cell 2;simp at e0 e1 e2;have hw:=gF.Ya;rw[jt];refine aM (v:=vd (0,0,[])) Yb rfl ?_;rw[Lc];exact ah2
 ·have h3':¬(3:Int)<(k:Int):=aZ;generalize X:xj k n=N at *;have HN:=aY X;clear X;by_cases C:k=1
  ·have h1':((k:Int)==1)=true:=cG;have y:Hid (xO n=N):=by rw[<- HN.aX];exact aY (by simp[xj,C])
   clear C;have gF:=fP.bF (Below.alloc (ed _ W3) (bL _) (aq #[G J k,G J N,aw { data:=s.toArray }] 83));have dV:=L.alloc (aq #[G J k,G J N,aw { data:=s.toArray }] 83);have hgr:w.grownBy (aU W3 (aq #[G J k,G J N,aw { data:=s.toArray }] 83)) (I g):=FF (qJ (qJ (qJ (FF (En _ _) _) z) A) H) _;cases hw3:M
   ·subst hw3;obtain⟨O,c5,j,_⟩:=id fP;have gX:=λo=>(j.alloc o).cell 1
    simp at gX;go_wp2_with fail
    apply bN (aeI n _ Y);rintro w' rfl;rw[y.aX];go_wp2_with fail
    exact ah3
   ·subst hw3;obtain⟨O,c5,j,_⟩:=id fP;have gX:=λo=>(j.alloc o).cell 1
    simp at gX;go_wp2_with fail
    apply bN (aeI n _ Y);rintro w' rfl;rw[y.aX];go_wp2_with fail
    exact ah4
  ·have h1':((k:Int)==1)=false:=cG;have y:Hid (wrap64 (n:Int)=N):=by rw[<- HN.aX];exact aY (by simp[xj,C,F5,wrap64])
   clear C;have gF:=fP.bF (Below.alloc (ed _ W3) (bL _) (aq #[G J k,G J N,aw { data:=s.toArray }] 83));have dV:=L.alloc (aq #[G J k,G J N,aw { data:=s.toArray }] 83);have hgr:w.grownBy (aU W3 (aq #[G J k,G J N,aw { data:=s.toArray }] 83)) (I g):=FF (qJ (qJ (qJ (FF (En _ _) _) z) A) H) _;cases hw3:M
   ·subst hw3;obtain⟨O,c5,j,_⟩:=id fP;have gX:=λo=>(j.alloc o).cell 1
    simp at gX;go_wp2_with fail
    simp only[y.aX];exact ah3
   ·subst hw3;obtain⟨O,c5,j,_⟩:=id fP;have gX:=λo=>(j.alloc o).cell 1
    simp at gX;go_wp2_with fail
    simp only[y.aX];exact ah4
section
open Go Go.RowKit Go.ChangeShapes Go.WideShapes Go.ChangeAt
open Go.ChangeMaps (open_string shut_string)
set_option linter.unusedVariables false
def cV(n:Int):Prop:=-9223372036854775808<=n/\n<=9223372036854775807
theorem Eg{α:Type}(C:Nat):∀(css:List (List α)),(∀cs∈css,Q cs=C)->Q css.flatten=Q css*C
 | [],_=>bq
 | c :: css,h=>by simp only[List.flatten_cons,eU,fY];rw[h c bq,Eg C css λcs j=>h cs (by simp[j]),Nat.succ_mul];omega
theorem yV{α:Type} C:∀(css:List (List α)),(∀cs∈css,Q cs=C)->∀i j,i<Q css->j<C->css.flatten[i*C+j]?=(css[i]?.getD [])[j]?
 | [],_,i,j,hi,_=>Nl
 | c :: css,h,i,j,hi,hj=>by
  have hc:=h c bq
  cases i with
  | zero=>simp;rw[List.getElem?_append_left aZ]
  | succ i => rw[List.flatten_cons,List.getElem?_append_right RZ];simp only[List.getElem?_cons_succ];rw[<- yV C css (λcs t=>h cs (by simp[t])) i j Nn hj];congr 1;rw[hc,Nat.succ_mul];omega
section
variable {H:Type} {enc:TypeId×aQ->H} {w:aP} {base:Nat} {r:Reach} {b0:Nat} {spare:Nat->Bool} {held:Bool} {v:aQ} {d:DataW H} {p:List MemPlace}
end
end
section
open Go Go.RowKit Go.ChangeShapes Go.WideShapes Go.ChangeAt
open Go.ChangeMaps (open_string shut_string)
abbrev dW:=ByteArray×Int×Int×ByteArray
abbrev lV(x:dW):List aQ:=[aw x.1,G J x.2.1,G J x.2.2.1,aw x.2.2.2]
section
variable {H:Type} {enc:TypeId×aQ->H} {w:aP} {base:Nat} {r:Reach} {b0:Nat} {spare:Nat->Bool} {held:Bool} {v:aQ} {d:DataW H} {p:List MemPlace}
end
end
def za(b:UInt8):Bool:=(decide (97<=b.toNat)&&decide (b.toNat<=122))||(decide (48<=b.toNat)&&decide (b.toNat<=57))
def vF(s:ByteArray):Bool:=decide (1<=s.size)&&decide (s.size<=16)&&(fW s).all za
theorem ayF(l:List UInt8)(k:Nat)(h:k<Q l):(l.take (k+1)).all za=((l.take k).all za&&za l[k]):=ah5
theorem aAH(l:List UInt8) k(h:k<Q l)(hb:za l[k]=az):l.all za=false:=by
 grind
theorem WV s w :
 aK prog 296 #[aw s] w λe w'=>e=ak (ar (vF s))/\w=w':=by
 by_cases R:s.size<1
 ·have H:(s.size:Int)<1:=aZ;exact ah6
 have H:¬(s.size:Int)<1:=aZ
 by_cases O:16<s.size
 ·have N:(16:Int)<(s.size:Int):=aZ;exact ah6
 have N:¬(16:Int)<(s.size:Int):=aZ
 have C:Q (fW s)=s.size:=cY
 go_in
 go_wp2_with fail
 go_loopw [15] (fun i wr=>∃k:Nat,k<=s.size/\i=G J k/\Hid (((fW s).take k).all za=aA)/\wr=w) (fun i _=>s.size-(aO i).toNat)
 case atStart=>exact⟨0,aZ,rfl,aY bq,rfl⟩
 case round =>
  obtain⟨k,hk,rfl,y,rfl⟩:=hrel;by_cases S:k<s.size
  ·have z:(k:Int)<s.size:=aZ;have t:k<Q (fW s):=aZ;have M:=aY (ayF (fW s) k t);have L:=aY (aAH (fW s) k t);have T:s[k]=(fW s)[k]:=cY;generalize (fW s)[k]=x at *;have V:x.toNat<256:=x.toNat_lt;go_upto_if 34 with fail;all_goals
    go_wp2
    all_goals first
     | (go_ret
        have j:za x=false:=by simp[za];omega
        exact⟨by rw[show vF s=az by simp[vF,L.aX j]];rfl,rfl⟩)
     | (have j:za x=true:=by simp[za];omega
        have A:Hid (((fW s).take (k+1)).all za=aA):=aY (by rw[M.aX,y.aX,j];rfl)
        go_roundw
        case rel=>exact⟨k+1,aZ,cU,A,Np⟩
        case measure=>simp[aO];omega)
  ·have z:¬(k:Int)<s.size:=aZ;have B:k=s.size:=aZ;have hn:Hid (vF s=aA):=by have:=y.aX;rw[B,<- C,nN]at this;exact aY (by simp only[vF,this];simp;omega)
   go_wp2;go_ret;exact⟨by rw[hn.aX];rfl,rfl⟩
theorem Xk n:n<256^iD n:=by
 induction n using Nat.strongRecOn with
 | _ n j =>
  rcases Nat.eq_zero_or_pos n with h|h
  ·subst h;simp[JX]
  ·rw[Rq n h,Nat.pow_succ];have:=j (n/256) aZ;omega
theorem ayG n(h:0<n):256^(iD n-1)<=n:=by
 induction n using Nat.strongRecOn with
 | _ n y =>
  rw[Rq n h];simp only[Nat.add_sub_cancel];rcases Nat.eq_zero_or_pos (n/256)with j|j
  ·rw[j,JX];simp;omega
  ·have:=y (n/256) aZ j;have t:iD (n/256)=(iD (n/256)-1)+1:=by have:=Rq (n/256) j;omega
   rw[t,Nat.pow_succ];omega
theorem ayH n k(j:n<256^(k+1))(y:256^k<=n):iD n=k+1:=by
 have:=M6 (k+1) n j;rcases Nat.lt_or_ge (iD n) (k+1)with h|h
 ·exfalso;have:=Xk n;have:256^iD n<=256^k:=Nat.pow_le_pow_right bC aZ;omega
 ·omega
theorem Xl b l:kL (b :: l)=b.toNat*256^Q l+kL l:=by
 have key:∀(l:List UInt8) (a:Nat),l.foldl (λn (b:UInt8)=>n*256+b.toNat) a=a*256^Q l+kL l:=by
  intro l
  induction l with
  | nil=>intro a;simp[kL]
  | cons x l j =>
   grind [kL]
 have:=key l b.toNat;simpa [kL]using this
theorem Yc k:∀n,kL (be k n)=n%256^k:=by
 induction k with
 | zero=>intro n;simp[be,kL,Nat.mod_one]
 | succ k j => intro n;rw[be,Xl,j,xJ,Nat.pow_succ,Nat.mod_mul];simp;rw[Nat.mul_comm,Nat.add_comm]
theorem aCj k:∀n m,n%256^k=m%256^k->be k n=be k m:=by
 induction k with
 | zero=>intro n m _;rfl
 | succ k C =>
  intro n m h;have hp:0<256^k:=Nat.pow_pos bC;have e:∀x:Nat,x%256^(k+1)=256^k*(x/256^k%256)+x%256^k:=by simp[Nat.pow_succ,Nat.mod_mul,Nat.add_comm]
  rw[e n,e m]at h;have B:=Nat.mod_lt n hp;have A:=Nat.mod_lt m hp;have z:n/256^k%256=m/256^k%256:=by
   have y:(256^k*(n/256^k%256)+n%256^k)/256^k=n/256^k%256:=by rw[Nat.mul_add_div hp,Nat.div_eq_of_lt B,Nat.add_zero]
   have j:(256^k*(m/256^k%256)+m%256^k)/256^k=m/256^k%256:=by rw[Nat.mul_add_div hp,Nat.div_eq_of_lt A,Nat.add_zero]
   rw[<- y,<- j,h]
  have t:n%256^k=m%256^k:=bG;rw[be,be,C n m t];congr 1;apply UInt8.toNat_inj.1;simpa using z
theorem ah7:∀l:List UInt8,be (Q l) (kL l)=l
 | []=>rfl
 | b :: l=>by
  have y:=Nk l;have hp:0<256^Q l:=Nat.pow_pos bC;rw[fY,be,Xl];have j:(b.toNat*256^Q l+kL l)/256^Q l=b.toNat:=by rw[Nat.mul_comm,Nat.mul_add_div hp,Nat.div_eq_of_lt y,Nat.add_zero]
  rw[j];have t:be (Q l) (b.toNat*256^Q l+kL l)=be (Q l) (kL l):=aCj _ _ _ bq;rw[t,ah7 l];simp
theorem td n(h:n<18446744073709551616) rest:bE (bI n++rest) az=(n,rest,az):=by
 have h8:=M6 8 n aZ;have hb:(UInt8.ofNat (iD n)).toNat=iD n:=cG;have B:=xJ (iD n) n;have z:(be (iD n) n++rest).take (iD n)=be (iD n) n:=bG;have H:(be (iD n) n++rest).drop (iD n)=rest:=bG;have C:0<iD n->¬(be (iD n) n++rest).head?=I 0:=by
  intro y t;have A:0<n:=by
   grind [Nat.eq_zero_or_pos,JX]
  have hg:=ayG n A;have j:=Xk n;obtain⟨k,hk⟩:∃k,iD n=k+1:=⟨iD n-1,aZ⟩;rw[hk]at t hg j;simp only[be,bZ,List.head?_cons,Option.some.injEq,Nat.add_sub_cancel]at t hg;have hz:n/256^k%256=0:=by have:=congrArg UInt8.toNat t;simpa using this
  have hp:0<256^k:=Nat.pow_pos bC;have M:n/256^k<256:=by rw[Nat.pow_succ]at j;exact Nat.div_lt_of_lt_mul j
  have N:=Nat.div_pos hg hp;omega
 have L:(az||decide (8<(UInt8.ofNat (iD n)).toNat)||decide (Q (be (iD n) n++rest)<(UInt8.ofNat (iD n)).toNat)||(decide (0<(UInt8.ofNat (iD n)).toNat)&&(be (iD n) n++rest).head?==I 0))=false:=by
  rw[hb];simp only[Bool.false_or,Bool.or_eq_false_iff,decide_eq_false_iff_not,Bool.and_eq_false_iff];refine⟨⟨aZ,by simp[B]⟩,?_⟩;by_cases y:0<iD n
  ·right;exact beq_eq_false_iff_ne.2 (C y)
  ·left;exact y
 unfold bI;simp only[bZ,bE];rw[L,hb,z,H,Yc,Nat.mod_eq_of_lt (Xk n)];rfl
theorem wL{l wr}(h:(bE l wr).2.2=az):l=bI (bE l wr).1++(bE l wr).2.1/\wr=false:=by
 match l with
 | []=>simp[bE]at h
 | b :: r =>
  simp only[bE]at h⊢;split at h
  ·simp at h
  ·rename_i y;rw[bO y];simp only[Bool.or_eq_true,not_or,Bool.not_eq_true,Bool.and_eq_false_iff,decide_eq_false_iff_not]at y;obtain⟨⟨⟨C,h8⟩,L⟩,t⟩:=y;refine⟨?_,C⟩;have j:Q (r.take b.toNat)=b.toNat:=cG;have hk:iD (kL (r.take b.toNat))=b.toNat:=by
    rcases Nat.eq_zero_or_pos b.toNat with hb|hb
    ·rw[hb];simp[kL,JX]
    ·obtain⟨k,hk⟩:∃k,b.toNat=k+1:=⟨b.toNat-1,aZ⟩;rw[hk]at j t⊢;match r,j,t with
     | [],j,_=>simp at j
     | x :: r',j,t =>
      have B:x≠0:=by rintro rfl;simp at t
      have H:0<x.toNat:=by
       rcases Nat.eq_zero_or_pos x.toNat with h|h
       ·exact absurd (UInt8.toNat_inj.1 (show x.toNat=(0:UInt8).toNat from h)) B
       ·exact h
      simp only[Tz,fY,Nat.add_right_cancel_iff]at j⊢;have A:=Nk (x :: r'.take k);simp only[fY,j]at A;refine ayH _ k A ?_;rw[Xl,j];have:1*256^k<=x.toNat*256^k:=Nat.mul_le_mul_right _ H;omega
   have z:=ah7 (r.take b.toNat);rw[j]at z;unfold bI;rw[hk,z,bZ,List.take_append_drop];simp
theorem Hq j b(hb:Q b<18446744073709551616)(hm:(Q b:Int)<=j) rest:bY j (bI (Q b)++b++rest) az=(b,rest,az):=by
 rw[fN];unfold bY;rw[td (Q b) hb];have t:(az||decide (j<0)||decide (j.toNat<Q b)||decide (Q (b++rest)<Q b))=false:=by simp;omega
 simp only;rw[t];simp
theorem FJ{j l wr}(h:(bY j l wr).2.2=az) :
 l=bI (Q (bY j l wr).1)++(bY j l wr).1++(bY j l wr).2.1/\(Q (bY j l wr).1:Int)<=j/\wr=false:=by
 grind [bY,wL,bE,fN,List.take_append_drop]
theorem at4 n(j:-9223372036854775808<=n)(t:n<=9223372036854775807):xO (foldI n)=n:=by
 grind [xO,foldI]
theorem at5 n(h:n<18446744073709551616):foldI (xO n)=n/\-9223372036854775808<=xO n/\xO n<=9223372036854775807:=by
 grind [foldI,xO]
theorem awG n(j:-9223372036854775808<=n)(t:n<=9223372036854775807):F5 (n%18446744073709551616).toNat=n:=by unfold F5;omega
theorem awH n(h:n<18446744073709551616):(F5 n%18446744073709551616).toNat=n/\-9223372036854775808<=F5 n/\F5 n<=9223372036854775807:=by unfold F5;omega
theorem J8{k n s}(h:km k n s=aA):(k=1∨k=2∨k=3)/\s.size<=40:=by
 unfold km at h;split at h
 ·rename_i hk;rw[ByteArray.toList_eq]at h;simp at hk h;refine⟨aI hk,?_⟩;show s.data.size<=40;simp[h]
 ·split at h
  ·grind
  ·split at h
   ·rename_i hk;rw[ByteArray.toList_eq]at h;simp at hk h;refine⟨aJ (aJ hk),?_⟩;show s.data.size<=40;simp[h.2]
   ·simp at h
theorem ayI k n(hk:k=1∨k=2∨k=3)(j:-9223372036854775808<=n)(t:n<=9223372036854775807):xj (cL k) (xY k n)=n:=by
 grind [xj,xY,cL,at4,awG]
theorem ag9 k n s(t:km k n s=aA)(j:-9223372036854775808<=n)(y:n<=9223372036854775807) rest :
 ig (pP k n s++rest) az=((k,n,fW s),rest,az):=by
 obtain⟨hk,M⟩:=J8 t
 have A:=jb k
 have H:=Nh k n j y
 have C:Q (fW s)=s.size:=bq
 unfold ig pP
 rw[fN,fN,td _ A]
 simp only
 rw[td _ H]
 simp only
 rw[<- C,Hq 40 (fW s) aZ aZ]
 simp only
 rw[ayI k n hk j y]
 have B:(cL k:Int)=k:=by unfold cL;omega
 have L:¬3<cL k:=aZ
 rw[B]
 have z:(⟨(fW s).toArray⟩:ByteArray)=s:=by cases s;simp
 rw[z,t]
 simp[L]
theorem XD{l wr}(h:(ig l wr).2.2=az) :
 l = pP (ig l wr).1.1 (ig l wr).1.2.1 ⟨(ig l wr).1.2.2.toArray⟩++(ig l wr).2.1/\km (ig l wr).1.1 (ig l wr).1.2.1 ⟨(ig l wr).1.2.2.toArray⟩=aA/\wr=az /\
  -9223372036854775808<=(ig l wr).1.2.1/\(ig l wr).1.2.1<=9223372036854775807:=by
 simp only[ig]at h⊢
 split at h
 ·simp at h
 ·rename_i j;rw[bO j];simp only[Bool.or_eq_true,not_or,decide_eq_true_eq,Bool.not_eq_true,Bool.not_eq_eq_eq_not]at j;obtain⟨⟨hk,C⟩,hok⟩:=j;have V:=pN l wr;have y:=pN (bE l wr).2.1 (bE l wr).2.2;obtain⟨M,S,O⟩:=FJ C;obtain⟨L,H⟩:=wL O;obtain⟨B,w0⟩:=wL H;have t:km ((bE l wr).1:Int) (xj (bE l wr).1 (bE (bE l wr).2.1 (bE l wr).2.2).1) ⟨(bY 40 (bE (bE l wr).2.1 (bE l wr).2.2).2.1 (bE (bE l wr).2.1 (bE l wr).2.2).2.2).1.toArray⟩=true:=R3;have W:=(J8 t).1;simp only;generalize (bY 40 (bE (bE l wr).2.1 (bE l wr).2.2).2.1 (bE (bE l wr).2.1 (bE l wr).2.2).2.2)=c at *;generalize bE (bE l wr).2.1 (bE l wr).2.2=b at *;generalize bE l wr=a at *;obtain⟨k,l1',X⟩:=a;obtain⟨n,R,T⟩:=b;obtain⟨s,Y,w3'⟩:=c;simp only at *;have N:cL (k:Int)=k:=by unfold cL;omega
  have z:xY (k:Int) (xj k n)=n/\-9223372036854775808<=xj k n/\xj k n<=9223372036854775807:=by
   unfold xY xj;by_cases A:k=1
   ·subst A;simp;exact at5 n y
   ·rw[bO aZ,bO A];exact awH n y
  refine⟨?_,t,w0,z.2⟩;unfold pP;rw[N,z.1,B,L,M];simp[ByteArray.size,fW]
section
variable {P:Program} {aR:Exit->Act->aP->Prop}
def rP(ops:Array Oper)(j:Nat):Option Tmp:=(ops[j]?).bind (·.dst)
def ahead(o:Oper):List Nat:=(o.after.toList.filter (Region.binds .any)).map (·.on)
def rL(ops:Array Oper)(n:Nat):Bool :=
 ops.toList.zipIdx.all λx =>
  (ahead x.1).all (λj=>decide (j<x.2)) &&
  (match x.1.op with | .select ..=>az|_=>aA) &&
  (match x.1.dst with|some d=>decide (d<n)&&ops.toList.zipIdx.all (λy=>y.2==x.2||y.1.dst != I d)|none=>aA) &&
  (match x.1.guard with|some (j,_)=>(ahead x.1).contains j&&(rP ops j).isSome|none=>aA) &&
  ((x.1.looksAt ops).all λt=>ops.toList.zipIdx.all λy=>y.1.dst != I t||(y.2 != x.2&&((ahead x.1).contains y.2||(ahead y.1).contains x.2)))
def BJ(ops:Array Oper)(y:Act)(V:Nat->aQ)(o:Oper):Operand->aQ
 | .tmp t=>match (ahead o).find? (λj=>rP ops j==I t)with
  | some j=>V j
  | none=>y.tmps.getD t undef
 | x=>y.eval x
def wants(V:Nat->aQ)(o:Oper):Bool :=
 match o.guard with
 | none=>aA
 | some (j,want)=>match V j with
  | ar b=>b==want
  | _=>az
def upd(L:Nat->Bool)(i:Nat):Nat->Bool:=λj=>if j=i then aA else L j
def lO(P:Program)(R:aQ->aP->Prop):Result Next->Prop
 | .ok (.value v) w'=>R v w'
 | .ok .skip w'=>R undef w'
 | .ok (.enter f args) w'=>aK P f args w' λe j=>∃v,e=ak v/\R v j
 | _=>False
def cK(V:Nat->aQ)(i:Nat)(v:aQ):Nat->aQ:=λj=>if j=i then v else V j
def Closed(ops:Array Oper)(L:Nat->Bool):Prop:=(∀j o,ops[j]?=I o->L j=aA->∀k∈ahead o,L k=aA)/\∀j,L j=aA->j<ops.size
def TN(P:Program)(ops:Array Oper)(t:Act)(j:(Nat->Bool)->(Nat->aQ)->aP->Prop)(i:Nat)(o:Oper):Prop :=
 ∀(L:Nat->Bool) (V:Nat->aQ) (w:aP),L i=az->Closed ops L->(∀k∈ahead o,L k=aA)->j L V w ->
  if wants V o=aA then lO P (λv w'=>j (upd L i) (cK V i v) w') ((aL (BJ ops t V o) o).run P w)else j (upd L i) (cK V i undef) w
def iu(V:Nat->aQ):List Oper->Nat->Act->Act
 | [],_,a=>a
 | o :: r,k,a=>iu V r (k+1) (a.put o.dst (V k))
structure Inv(ops:Array Oper)(a0:Act)(ah:(Nat->Bool)->(Nat->aQ)->aP->Prop)(L:Array Bool)(a:Act)(w:aP):Prop where
 size:L.size=ops.size
 closed:∀j o,ops[j]?=I o->L.getD j az=aA->∀k∈ahead o,L.getD k az=aA
 Gu:a.tmps.size=a0.tmps.size
 Om:a.defers=a0.defers
 zb:∃V:Nat->aQ,(∀j d,L.getD j az=aA->rP ops j=I d->a.tmps.getD d undef=V j) /\
  (∀t,(∀j,L.getD j az=aA->rP ops j≠I t)->a.tmps.getD t undef=a0.tmps.getD t undef)/\ah (λj=>L.getD j az) V w
theorem He{ops n}(h:rL ops n=aA){i o}(L:ops[i]?=I o) :
 (∀j∈ahead o,j<i)/\(∀cs b,o.op≠.select cs b)/\(∀d,o.dst=I d->d<n/\∀j p,ops[j]?=I p->j≠i->p.dst≠I d) /\
 (∀j B,o.guard=I (j,B)->j∈ahead o/\∃d,rP ops j=I d) /\
 (∀t∈o.looksAt ops,∀j p,ops[j]?=I p->p.dst=I t->j≠i/\(j∈ahead o∨i∈ahead p)):=by
 have mem:∀ {j:Nat} {p:Oper},ops[j]?=I p->(p,j)∈ops.toList.zipIdx:=λ{j p} A=>List.mem_zipIdx_iff_getElem?.2 bG
 have z:=List.all_eq_true.1 h _ (mem L)
 simp only[fB]at z
 obtain⟨⟨⟨⟨z,N⟩,O⟩,y⟩,C⟩:=z
 refine⟨λj A=>bG,?_,?_,?_,?_⟩
 ·grind
 ·grind
 ·intro j B hg;rw[hg]at y;simp only[fB,List.contains_iff_mem]at y;exact⟨y.1,Option.isSome_iff_exists.1 y.2⟩
 ·intro t H j p A M;have:=List.all_eq_true.1 (List.all_eq_true.1 C t H) _ (mem A);simp only[M,Bool.or_eq_true,fB,bne_iff_ne,List.contains_iff_mem]at this;rcases this with h|h
  ·exact absurd rfl h
  ·exact h
theorem JY{ops j d}(h:rP ops j=I d):∃p,ops[j]?=I p/\p.dst=I d:=by
 unfold rP at h
 cases hp:ops[j]? with
 | none=>rw[hp]at h;cases h
 | some p=>rw[hp]at h;exact⟨p,rfl,h⟩
theorem agb{o k}:k∈ahead o ↔ ∃e∈o.after,Region.binds .any e=aA/\e.on=k:=by
 grind [ahead]
theorem ayJ{ops}{z a:Act}{L:Array Bool}{V i o}
 (S:rL ops z.tmps.size=aA) (O:ops[i]?=I o) (H:L.getD i az=az) (hp:∀k∈ahead o,L.getD k az=aA)
 (closed:∀j o,ops[j]?=I o->L.getD j az=aA->∀k∈ahead o,L.getD k az=aA)
 (T:∀j d,L.getD j az=aA->rP ops j=I d->a.tmps.getD d undef=V j)
 (M:∀t,(∀j,L.getD j az=aA->rP ops j≠I t)->a.tmps.getD t undef=z.tmps.getD t undef) :
 ∀x∈o.op.operands,a.eval x=BJ ops z V o x:=by
 obtain⟨k1,X,k3,k4,W⟩:=He S O
 intro x hx
 cases x with
 | tmp t =>
  have N:t∈o.looksAt ops:=List.mem_append_left _ (List.mem_filterMap.2 ⟨.tmp t,Nj,rfl⟩)
  show a.tmps.getD t undef=BJ ops z V o (.tmp t)
  cases hf:(ahead o).find? (λj=>rP ops j==I t)with
  | some j => have A:=List.find?_some hf;have hm:=List.mem_of_find?_eq_some hf;simp only[beq_iff_eq]at A;simp only[BJ,hf];exact T j t (hp j hm) A
  | none =>
   simp only[BJ,hf];refine M t λj A B=>?_
   obtain⟨p,C,R⟩:=JY B;obtain⟨Y,y⟩:=W t N j p C R;rcases y with y|y
   ·have:=List.find?_eq_none.1 hf j y;simp[B]at this
   ·have:=closed j p C A i y;rw[H]at this;cases this
 | const v=>rfl
 | global g=>rfl
 | func f=>rfl
theorem ayK{ops}{y a:Act}{L:Array Bool}{V}{i:Nat}{o}
 (z:rL ops y.tmps.size=aA) (C:ops[i]?=I o) (hp:∀k∈ahead o,L.getD k az=aA) (P:a.tmps.size=y.tmps.size)
 (N:∀j d,L.getD j az=aA->rP ops j=I d->a.tmps.getD d undef=V j) :
 Region.wanted o (yielded ops a.tmps)=wants V o:=by
 obtain⟨k1,W,Y,T,X⟩:=He z C
 unfold Region.wanted wants
 cases hg:o.guard with
 | none=>rfl
 | some gw =>
  obtain⟨j,R⟩:=gw;obtain⟨S,d,t⟩:=T j R hg;have M:=N j d (hp j S) t;obtain⟨p,O,A⟩:=JY t;have H:d<a.tmps.size:=by rw[P];exact ((He z O).2.2.1 d A).1
  have B:yielded ops a.tmps j=match V j with|ar b=>I b|_=>none:=by
   unfold yielded;unfold rP at t;rw[t];have:a.tmps[d]?=I (V j):=by rw[<- M];simp[H]
   show (match a.tmps[d]? with|some (ar b)=>I b|_=>U)=_;rw[this];cases V j <;> rfl
  simp only[B];cases V j <;> simp
theorem ah8{ops}{C a:Act}{S}{L:Array Bool}{w' V i o v}
 (hok:rL ops C.tmps.size=aA) (B:ops[i]?=I o) (hl:L.getD i az=az) (hp:∀k∈ahead o,L.getD k az=aA)
 (T:L.size=ops.size) (closed:∀j o,ops[j]?=I o->L.getD j az=aA->∀k∈ahead o,L.getD k az=aA)
 (Gu:a.tmps.size=C.tmps.size) (Om:a.defers=C.defers)
 (h1:∀j d,L.getD j az=aA->rP ops j=I d->a.tmps.getD d undef=V j)
 (h2:∀t,(∀j,L.getD j az=aA->rP ops j≠I t)->a.tmps.getD t undef=C.tmps.getD t undef)
 (hI:S (upd (λj=>L.getD j az) i) (cK V i v) w') :
 Inv ops C S (L.setIfInBounds i aA) (a.put o.dst v) w':=by
 obtain⟨k1,k2,W,k4,k5⟩:=He hok B
 have hlt:i<L.size:=by rw[T];exact (aG.1 B).1
 have M:∀j,(L.setIfInBounds i aA).getD j az=upd (λj=>L.getD j az) i j:=by
  intro j;unfold upd;by_cases y:j=i
  ·subst y;simp[hlt]
  ·rw[bO y,getD_set_ne _ (λe=>y e.symm)]
 have O:∀j,(L.setIfInBounds i aA).getD j az=aA->j=i∨L.getD j az=true:=by
  intro j y;rw[M j]at y;unfold upd at y;by_cases A:j=i
  ·exact aI A
  ·rw[bO A]at y;exact aJ y
 refine⟨by simpa using T,?_,?_,?_,⟨λj=>if j=i then v else V j,?_,?_,?_⟩⟩
 ·intro j p z y k hk;rcases O j y with rfl|y
  ·rw[B]at z;injection z with z;subst z;exact getD_set_true (hp k hk)
  ·exact getD_set_true (closed j p z y k hk)
 ·rw[<- Gu];cases o.dst <;> simp[Act.put]
 ·rw[<- Om];cases o.dst <;> rfl
 ·intro j d y N;by_cases A:j=i
  ·subst A;obtain⟨p,z,H⟩:=JY N;rw[B]at z;injection z with z;subst z;have:=(W d H).1;rw[H];simp[Act.put,Gu,this]
  ·show _=if j=i then v else V j
   rw[bO A];have X:=(O j y).resolve_left A;rw[<- h1 j d X N];cases ho:o.dst with
   | none=>rfl
   | some e =>
    obtain⟨p,z,H⟩:=JY N;have hne:e≠d:=by rintro rfl;exact (W e ho).2 j p z A H
    exact Yd
 ·intro t R;have Y:=R i (by rw[M];simp[upd]);rw[<- h2 t λj y=>R j (getD_set_true y)];cases ho:o.dst with
  | none=>rfl
  | some e =>
   have hne:e≠t:=by rintro rfl;exact Y (by unfold rP;rw[B];exact ho)
   exact Yd
 ·have:(λj=>(L.setIfInBounds i aA).getD j az)=upd (λj=>L.getD j az) i:=funext M;rw[this];exact hI
theorem ayL{ops z a A L w i}
 (B:rL ops z.tmps.size=aA) (W:∀i o,ops[i]?=I o->TN P ops z A i o)
 (h:Inv ops z A L a w) (Y:i∈Region.ready .any ops L):wpOp P ops aR i (Inv ops z A (L.setIfInBounds i aA)) a w:=by
 obtain⟨uD,o,y,Un⟩:=mem_ready.1 Y
 have R:=h.size
 have hlt:i<L.size:=bG
 have C:L.getD i az=false:=Ye
 have hp:∀k∈ahead o,L.getD k az=true:=by intro k hk;obtain⟨e,he,hb,rfl⟩:=agb.1 hk;exact Un e he hb
 obtain⟨V,H,M,S⟩:=h.zb
 have k2:=(He B y).2.1
 have X:=ayJ B y C hp h.closed H M
 have hw:=ayK B y hp h.Gu H
 have hex:=execOp_congr o k2 X
 have T:∀j,L.getD j az=aA->j<ops.size:=by
  intro j hj;by_cases h5:j<L.size
  ·omega
  ·simp[h5]at hj
 have t:=W i o y (λj=>L.getD j az) V w C ⟨h.closed,T⟩ hp S
 unfold wpOp
 simp only[y]
 rw[hw]
 by_cases O:wants V o=aA
 ·rw[bT O]at t⊢;refine aI ?_;unfold Oper.wp;rw[hex];generalize (aL (BJ ops z V o) o).run P w=r at *;have put:∀v w',A (upd (λj=>L.getD j az) i) (cK V i v) w'->Inv ops z A (L.setIfInBounds i aA) (a.put o.dst v) w':=λv w' N =>
   ah8 B y C hp R h.closed h.Gu h.Om H M N
  cases r with
  | ok n w' =>
   cases n <;> simp only[lO]at t <;> simp only[Oper.upon]
   case value v=>exact put _ _ t
   case skip=>exact put _ _ t
   case enter f args => apply dD t;intro v w'' N;exact put _ _ N
  | halt x w'=>simp only[lO]at t
 ·rw[bO O]at t⊢;exact ah8 B y C hp R h.closed h.Gu h.Om H M t
theorem awI V:∀(l:List Oper) (k:Nat) (a:Act),(iu V l k a).tmps.size=a.tmps.size/\(iu V l k a).defers=a.defers /\
 (∀t,(∀(j:Nat) (o:Oper),l[j]?=I o->o.dst≠I t)->(iu V l k a).tmps.getD t undef=a.tmps.getD t undef) /\
 (∀(j:Nat) (o:Oper) (t:Tmp),l[j]?=I o->o.dst=I t->t<a.tmps.size->(∀(y:Nat) (o':Oper),l[y]?=I o'->y≠j->o'.dst≠I t)->(iu V l k a).tmps.getD t undef=V (k+j)):=by
 intro l
 induction l with
 | nil=>intro k a;exact⟨rfl,rfl,λ_ _=>rfl,λj o t h=>bG⟩
 | cons o r S =>
  intro k a;obtain⟨N,R,L,O⟩:=S (k+1) (a.put o.dst (V k));have z:(a.put o.dst (V k)).tmps.size=a.tmps.size:=by cases o.dst <;> simp[Act.put]
  refine⟨N.trans z,R.trans (by cases o.dst <;> rfl),λt A=>?_,λj p t hj H C B=>?_⟩
  ·show (iu V r (k+1) (a.put o.dst (V k))).tmps.getD t undef=_;rw[L t λj p hj=>A (j+1) p Es];have M:=A 0 o bq;cases ho:o.dst with
   | none=>rfl
   | some e =>
    have hne:e≠t:=by rintro rfl;exact M ho
    exact Yd
  ·show (iu V r (k+1) (a.put o.dst (V k))).tmps.getD t undef=_;cases j with
   | zero => simp at hj;subst hj;rw[L t λj p hj=>B (j+1) p Es aZ,H];simp[Act.put,C]
   | succ j =>
    have:=O j p t Es H (by rw[z];exact C) λy o' hj' hne=>B (y+1) o' Yf aZ
    rw[this];congr 1;omega
theorem avh{ops n L}(z:rL ops n=aA)(H:L.size=ops.size)(y:Region.ready .any ops L=[]):∀i,i<ops.size->L.getD i az=true:=by
 intro i
 induction i using Nat.strongRecOn with
 | _ i B =>
  intro C;by_cases h:L.getD i az=aA
  ·exact h
  ·exfalso;have j:ops[i]?=I ops[i]:=bq;have:i∈Region.ready .any ops L:=by
    refine mem_ready.2 ⟨?_,_,j,λe t hb=>?_⟩
    ·grind
    ·have hk:=agb.2 ⟨e,t,hb,rfl⟩;have A:=(He z j).1 _ hk;exact B _ A aZ
   rw[y]at this;cases this
theorem aAI{ops y C}
 (S:rL ops y.tmps.size=aA) (owed:∀i o,ops[i]?=I o->TN P ops y C i o)
 (fin:∀(V:Nat->aQ) (w:aP),C (λj=>decide (j<ops.size)) V w->aR .normal (iu V ops.toList 0 y) w) :
 ∀(A:Nat) (L:Array Bool) (a:Act) (w:aP),L.toList.count az<=A->Inv ops y C L a w->wpAny P .any ops aR A L a w:=by
 have done:∀(L:Array Bool) (a:Act) (w:aP),Inv ops y C L a w->Region.ready .any ops L=[]->aR .normal a w:=by
  intro L a w h H;have hall:=avh S h.size H;obtain⟨V,h1,h2,W⟩:=h.zb;have hLf:(λj=>L.getD j az)=λj=>decide (j<ops.size):=by
   funext j;by_cases hj:j<ops.size
   ·grind
   ·have:¬j<L.size:=by rw[h.size];exact hj
    simp[hj,this]
  rw[hLf]at W;have hq:=fin V w W;obtain⟨p1,p2,p3,p4⟩:=awI V ops.toList 0 y;have ha:a=iu V ops.toList 0 y:=by
   have e2:=h.Om.trans p2.symm;have O:a.tmps=(iu V ops.toList 0 y).tmps:=by
    apply Array.ext
    ·rw[h.Gu,p1]
    ·intro t Y ht2;have g1:a.tmps[t]=a.tmps.getD t undef:=by simp[Y]
     have g2:(iu V ops.toList 0 y).tmps[t]=(iu V ops.toList 0 y).tmps.getD t undef:=by simp[ht2]
     rw[g1,g2];by_cases T:∃j,j<ops.size/\rP ops j=I t
     ·obtain⟨j,hj,z⟩:=T;obtain⟨p,N,X⟩:=JY z;rw[h1 j t (hall j hj) z];have h5:=p4 j p t (by simpa using N) X (by rw[<- h.Gu];exact Y) λj' o' hj' hne hd'=>(He S N).2.2.1 t X |>.2 j' o' Yf hne hd'
      rw[h5,ng]
     ·rw[h2 t λj hj z=>T ⟨j,?_,z⟩,p3 t λj o hj z=>T ⟨j,?_,?_⟩]
      ·have:=(aF.1 hj).1;simpa using this
      ·unfold rP;have hj':ops[j]?=I o:=Es;rw[hj'];exact z
      ·obtain⟨p,N,_⟩:=JY z;exact (aG.1 N).1
   calc a=⟨a.tmps,a.defers⟩:=rfl
    _=_:=by rw[O,e2]
  rw[ha];exact hq
 intro A
 induction A with
 | zero =>
  intro L a w KQ h;have H:Region.ready .any ops L=[]:=by
   apply List.eq_nil_iff_forall_not_mem.2;intro i M;obtain⟨uD,o,R,_⟩:=mem_ready.1 M;have hlt:i<L.size:=by rw[h.size];exact (aG.1 R).1
   have B:L[i]=false:=Ye;have:az∈L.toList:=by rw[<- B];simp
   have:=List.count_pos_iff.2 this;omega
  exact⟨H,done L a w h H⟩
 | succ A ih =>
  intro L a w KQ h;refine⟨done L a w h,λi M=>?_⟩;refine wpOp_mono (λa' w' h'=>ih _ a' w' ?_ h') (ayL S owed h M);obtain⟨uD,o,R,_⟩:=mem_ready.1 M;have hlt:i<L.size:=by rw[h.size];exact (aG.1 R).1
  have B:L[i]=false:=Ye;have hpos:0<L.toList.count false:=List.count_pos_iff.2 (by rw[<- B];simp);rw[Array.toList_setIfInBounds,List.count_set (by simpa using hlt)];have O:(L.toList[i]'(by simpa using hlt)==az)=true:=by simp[B]
  rw[bT O,bO bC];omega
theorem QM{id ops y w} z
 n (hn:y.tmps.size=n) (hm:P.follows .mixedOrders=aA) (H:rL ops n=aA)
 (C:z (λ_=>az) (λ_=>undef) w.drew) (B:∀i o,ops[i]?=I o->TN P ops y z i o)
 (fin:∀(V:Nat->aQ) (w:aP),z (λj=>decide (j<ops.size)) V w->aR .normal (iu V ops.toList 0 y) w) :
 (Code.region id ops aA).wp P aR y w:=by
 subst hn
 refine wp_region_any hm (aAI H B fin _ _ _ _ ?_ ⟨bq,?_,rfl,rfl,⟨λ_=>undef,?_,λ_ _=>rfl,?_⟩⟩)
 ·refine cI List.count_le_length ?_;simp
 ·intro j o L A;have t:=(aG.1 L).1;simp[t]at A
 ·intro j d A M;by_cases t:j<ops.size <;> simp[t]at A
 ·have:(λj=>(Array.replicate ops.size az).getD j az)=λ_=>false:=by funext j;by_cases t:j<ops.size <;> simp[t]
  rw[this];exact C
def tab(l:List (aQ->aP->Prop))(i:Nat)(v:aQ)(w:aP):Prop:=(l.getD i (λ_ _=>True)) v w
theorem dA f l v w:tab (f :: l) 0 v w=f v w:=rfl
theorem dB f l n v w:tab (f :: l) (n+1) v w=tab l n v w:=rfl
theorem WW{Le:aP->aP->Prop}{l}(h:∀f∈l,∀v w w',f v w->Le w w'->f v w'):∀j v w w',tab l j v w->Le w w'->tab l j v w':=by
 intro j v w w' z y
 unfold tab at *
 by_cases t:j<Q l
 ·simp only[List.getD_eq_getElem?_getD,aE t,Option.getD_some]at *;exact h _ (dG t) v w w' z y
 grind
def bP(rd:List (Nat×Nat))(y:Act)(V:Nat->aQ):Operand->aQ
 | .tmp t=>match rd.lookup t with
  | some j=>V j
  | none=>y.tmps.getD t undef
 | x=>y.eval x
def dC(V:Nat->aQ):Option (Nat×Bool)->Bool
 | none=>aA
 | some (j,want)=>match V j with
  | ar b=>b==want
  | _=>az
def bR (op:Op) (ty:TypeId):Oper:={ dst:=U,op:=op,type:=ty,pos:="",after:=#[],guard:=U }
def ann(P:Program)(ops:Array Oper)(y:Act)(t:(Nat->Bool)->(Nat->aQ)->aP->Prop)(k:Nat)(op:Op)(ty:TypeId)(gd:Option (Nat×Bool))(al:List Nat)(rd:List (Nat×Nat)):Prop :=
 ∀(L:Nat->Bool) (V:Nat->aQ) (w:aP),L k=az->Closed ops L->(∀j∈al,L j=aA)->t L V w ->
  if dC V gd=aA then lO P (λv w'=>t (upd L k) (cK V k v) w') ((aL (bP rd y V) (bR op ty)).run P w)else t (upd L k) (cK V k undef) w
def KK(P:Program)(ops:Array Oper)(t:Act)(j:(Nat->Bool)->(Nat->aQ)->aP->Prop):Nat->List Oper->List (List Nat×List (Nat×Nat))->Prop
 | _,[],_=>True
 | _,_ :: _,[]=>False
 | k,o :: r,x :: xs=>ann P ops t j k o.op o.type o.guard x.1 x.2/\KK P ops t j (k+1) r xs
def tk(ops:Array Oper)(z:List (List Nat×List (Nat×Nat))):Bool :=
 ops.toList.zipIdx.all λx=>match z[x.2]? with
  | none=>az
  | some (al,rd)=>al.all (λj=>(ahead x.1).contains j) &&
   (match x.1.op with | .select ..=>az|_=>aA) &&
   (x.1.op.operands.toList.all λy=>match y with
    | .tmp t=>(ahead x.1).find? (λj=>rP ops j==I t)==rd.lookup t
    | _=>aA)
theorem WK ρ o:aL ρ o=aL ρ (bR o.op o.type):=by
 cases o with
 | mk z op y pos j t=>cases op <;> rfl
theorem agc{ops z B} H
 (hok:tk ops H=aA) (h:KK P ops z B 0 ops.toList H):∀i o,ops[i]?=I o->TN P ops z B i o:=by
 have key:∀(l:List Oper) (k:Nat) (q:List (List Nat×List (Nat×Nat))),KK P ops z B k l q->∀(i:Nat) (o:Oper),l[i]?=I o->∃x,q[i]?=I x/\ann P ops z B (k+i) o.op o.type o.guard x.1 x.2:=by
  intro l
  induction l with
  | nil=>intro k q _ i o A;simp at A
  | cons p r ih =>
   intro k q hk i o A
   cases q with
   | nil=>exact False.elim hk
   | cons x xs =>
    cases i with
    | zero=>simp at A;subst A;exact⟨x,rfl,hk.1⟩
    | succ i =>
     obtain⟨y,R,M⟩:=ih (k+1) xs hk.2 i o bG
     grind
 intro i o A
 obtain⟨⟨al,rd⟩,hx,M⟩:=key _ 0 H h i o bG
 rw[ng]at M
 have C:=List.all_eq_true.1 hok (o,i) (List.mem_zipIdx_iff_getElem?.2 bG)
 simp only[hx,fB]at C
 obtain⟨⟨C,O⟩,W⟩:=C
 intro L V w hl X T hc
 have hal:=λj N=>by simpa using List.all_eq_true.1 C j N
 have S:=M L V w hl X (λj N=>T j (hal j N)) hc
 have Y:wants V o=dC V o.guard:=by unfold wants dC;rfl
 have hex:aL (BJ ops z V o) o=aL (bP rd z V) (bR o.op o.type):=by
  rw[<- WK];refine execOp_congr o (λcs b e=>by rw[e]at O;cases O) λy R=>?_
  have h4:=List.all_eq_true.1 W y (by simpa using R);exact ah9
 rw[Y,hex]
 exact S
def eH(P:Program)(φ:aQ->aP->Prop)(w:aP):Result Next->Prop
 | .ok (.value v) w'=>φ v w'/\aN (Z (D w)) w w'
 | .ok .skip w'=>φ undef w'/\aN (Z (D w)) w w'
 | .ok (.enter f args) w'=>aK P f args w' λe j=>∃v,e=ak v/\φ v j/\aN (Z (D w)) w j
 | _=>False
def aaD(P:Program)(t:Act)(C:aP->Prop)(φ:Nat->aQ->aP->Prop)(k:Nat)(op:Op)(ty:TypeId)(gd:Option (Nat×Bool))(al:List Nat)(rd:List (Nat×Nat)):Prop :=
 ∀(V:Nat->aQ) (w:aP),C w->(∀j∈al,φ j (V j) w)->if dC V gd=aA then eH P (φ k) w ((aL (bP rd t V) (bR op ty)).run P w)else φ k undef w
theorem AK{L i j}(h:upd L i j=aA):j=i∨L j=true:=by
 grind [upd]
def TP(P:Program)(C t:aP->Prop)(Le:aP->aP->Prop)(φ:aQ->aP->Prop)(w:aP):Result Next->Prop
 | .ok (.value v) w'=>φ v w'/\C w'/\t w'/\Le w w'
 | .ok .skip w'=>φ undef w'/\C w'/\t w'/\Le w w'
 | .ok (.enter f args) w'=>aK P f args w' λe j=>∃v,e=ak v/\φ v j/\C j/\t j/\Le w j
 | _=>False
def aCk(P:Program)(z:Act)(C t y:aP->Prop)(Le:aP->aP->Prop)(φ:Nat->aQ->aP->Prop)(k:Nat)(op:Op)(ty:TypeId)(gd:Option (Nat×Bool))(al:List Nat)(rd:List (Nat×Nat)):Prop :=
 gd=U/\∀(V:Nat->aQ) (w:aP),C w->t w->(∀j∈al,φ j (V j) w)->TP P C y Le (φ k) w ((aL (bP rd z V) (bR op ty)).run P w)
def KL(P:Program)(j:Act)(C y t:aP->Prop)(Le:aP->aP->Prop)(φ:Nat->aQ->aP->Prop)(z:Nat):Nat->List Oper->List (List Nat×List (Nat×Nat))->Prop
 | _,[],_=>True
 | _,_ :: _,[]=>False
 | k,o :: r,x :: xs=>(if k=z then aCk P j C y t Le φ k o.op o.type o.guard x.1 x.2 else aaD P j C φ k o.op o.type o.guard x.1 x.2)/\KL P j C y t Le φ z (k+1) r xs
def Oe(C y t:aP->Prop)(l:List (aQ->aP->Prop))(z:Nat)(L:Nat->Bool)(V:Nat->aQ)(w:aP):Prop:=C w/\(if L z=aA then t w else y w)/\∀j,L j=aA->tab l j (V j) w
def bM(c:aQ)(v:aQ)(_:aP):Prop:=v=c
def TQ(_:aQ)(_:aP):Prop:=True
def sl(l:List UInt8)(v:aQ)(w:aP):Prop:=∃A c,v=F A (Q l) c/\Reads w (Z (D w)) 1 A (Q l) (fM l)
theorem am3 c:∀v w w',bM c v w->aN (Z (D w)) w w'->bM c v w':=λ_ _ _ h _=>h
theorem aAJ:∀v w w',TQ v w->aN (Z (D w)) w w'->TQ v w':=λ_ _ _ h _=>h
theorem pQ l:∀v w w',sl l v w->aN (Z (D w)) w w'->sl l v w':=by rintro v w w'⟨A,c,h,j⟩ hb;exact⟨A,c,h,(j.below hb (bL _)).more hb.size⟩
theorem gD{w base e v l}(h:Own w base e v l):sl l v w:=by
 obtain⟨A,c,t,j⟩:=h.slice
 grind [sl]
theorem aCl{P w v l} j t e(y:P.underlying j=some (.slice e))(z:P.underlying e=some (.int .u8))(C:P.underlying t=some .string)
 (h:sl l v w):(convert j t v).run P w=.ok (aw ⟨l.toArray⟩) w:=by
 obtain⟨A,c,rfl,B⟩:=h
 grind [ahV]
end
def mF(x:dW):Bool:=vF x.1&&km x.2.1 x.2.2.1 x.2.2.2
def nY(a b:ByteArray):Bool:=Op.bytesLess a.toList b.toList
theorem aia:∀x y:List UInt8,Op.bytesLess x y=decide (x<y)
 | [],[]=>Yg
 | _ :: _,[]=>Yg
 | [],_ :: _=>Yg
 | a :: x,b :: y=>by rw[Op.bytesLess,aia x y];simp only[List.cons_lt_cons_iff];by_cases t:a<b <;> by_cases j:a=b <;> simp[t,j]
theorem Nq a b:nY a b=aA↔fW a<fW b:=by
 grind [nY,aia,ByteArray.toList_eq]
theorem Yh{a b}(h:fW a=fW b):a=b:=by cases a;cases b;simp only[ByteArray.mk.injEq];exact Array.toList_inj.1 h
theorem R4(a b:ByteArray):(a.toList==b.toList)=decide (a=b):=by
 grind [ByteArray.toList_eq,Yh]
theorem WX a:nY a a=false:=by simp[Bool.eq_false_iff,Nq,List.lt_irrefl]
theorem agd{a b c}(h:nY a b=aA)(k:nY b c=aA):nY a c=true:=by
 grind [Nq,List.lt_trans]
theorem aib a b:(Op.bytesLess a.toList b.toList||a.toList==b.toList)=!nY b a:=by
 have t:Op.bytesLess a.toList b.toList=nY a b:=rfl;rw[t,R4];by_cases e:a=b
 ·grind [WX]
 ·cases h:nY a b
  ·cases k:nY b a
   ·exfalso;have y:¬fW a<fW b:=λx=>by grind [Nq]
    have j:¬fW b<fW a:=λx=>by grind [Nq]
    exact e (Yh (List.le_antisymm (List.not_lt.1 j) (List.not_lt.1 y)))
   ·simp[e]
  ·grind [nY,agd,WX]
def EH:Option ByteArray->List dW->Option ByteArray
 | p,[]=>p
 | _,x :: r=>EH (I x.1) r
def behind(p:Option ByteArray)(s:ByteArray):Bool:=match p with|none=>aA|some y=>nY y s
def lP:Option ByteArray->List dW->Bool
 | _,[]=>aA
 | p,x :: r=>mF x&&behind p x.1&&lP (I x.1) r
def iC(l:List dW):Bool:=decide (1<=Q l)&&decide (Q l<=16)&&lP U l
def my(l:List dW):Int:=if iC l then 0 else 40
theorem atb p a b:EH p (a++b)=EH (EH p a) b:=by
 induction a generalizing p with
 | nil=>rfl
 | cons x a j=>simp only[bZ,EH];exact j _
theorem afy p a b:lP p (a++b)=(lP p a&&lP (EH p a) b):=by
 induction a generalizing p with
 | nil=>simp[lP,EH]
 | cons x a j=>simp only[bZ,lP,EH,j,Bool.and_assoc]
theorem avi(l:List dW) k(h:k<Q l):EH U (l.take (k+1))=I l[k].1:=by rw[ix h,atb];rfl
theorem ayM(l:List dW)(h:0<Q l):lP U (l.take 1)=mF l[0]:=by
 grind [ix,lP,behind]
theorem ayN(l:List dW)(k:Nat)(h:k+1<Q l):lP U (l.take (k+1+1))=(lP U (l.take (k+1))&&(mF l[k+1]&&nY (l[k]'aZ).1 l[k+1].1)):=by
 grind [ix,afy,avi,lP,behind]
theorem aAK l k(h:lP U (l.take k)=az):lP U l=false:=by
 grind [afy,List.take_append_drop]
theorem aAL l k(h:lP U (l.take k)=az):my l=40:=by grind [my,iC,aAK]
theorem ayO l(t:1<=Q l)(j:Q l<=16)(h:lP U (l.take (Q l))=aA):my l=0:=by
 grind [lP,my,iC]
abbrev aaO(x:dW):aQ:=av #[aw x.1,G J x.2.1,G J x.2.2.1,aw x.2.2.2]
theorem R5(l:List dW) k(hk:k<Q l):∀j,(t:j<4)->(l.flatMap lV)[k*4+j]?=I ((lV l[k])[j]'t):=by intro j t;rw[List.flatMap_def,yV 4 _ bG k j bG t];simp[hk]
theorem ayP(l:List dW):Q (l.flatMap lV)=Q l*4:=by rw[List.flatMap_def,Eg 4 _ bG];simp
theorem Reads.IA{w B n A}{l:List dW}(h:Reads w B 4 A n (l.flatMap lV))(y:0<Q l) :
 ∃b j,A=I ⟨b,j,U⟩/\b<B/\∀k (hk:k<Q l),w.cell? ⟨b,j+k*4,U⟩=I (aw l[k].1)/\w.cell? ⟨b,j+k*4+1,U⟩=I (G J l[k].2.1) /\
  w.cell? ⟨b,j+k*4+2,U⟩=I (G J l[k].2.2.1)/\w.cell? ⟨b,j+k*4+3,U⟩=I (aw l[k].2.2.2):=by
 obtain⟨b,j,e,hb,t⟩:=h.2 (by grind [ayP])
 refine⟨b,j,e,hb,λk hk=>?_⟩
 have:=t _ _ (R5 l k hk 0 bC)
 have:=t _ _ (R5 l k hk 1 bC)
 have:=t _ _ (R5 l k hk 2 bC)
 have:=t _ _ (R5 l k hk 3 bC)
 grind
theorem below_drewN{B w w'}(h:aN B w w') n:aN B w (w'.drewN n):=by
 induction n with
 | zero=>exact h
 | succ n j=>exact⟨h.os,h.tape,h.output,h.size,h.block⟩
def iT(l:List dW)(v:aQ)(w:aP):Prop:=∃A c,v=F A (Q l) c/\Reads w (Z (D w)) 4 A (Q l) (l.flatMap lV)
theorem nL l:∀v w w',iT l v w->aN (Z (D w)) w w'->iT l v w':=aic
theorem str{w v l}(h:sl l v w):(convert 118 9 v).run prog w=.ok (aw ⟨l.toArray⟩) w :=
 aCl _ _ _ underlying118 underlying5 underlying9 h
def vU(l:List UInt8)(wr:Bool):dW×List UInt8×Bool :=
 ((⟨(bY 16 l wr).1.toArray⟩,(ig (bY 16 l wr).2.1 (bY 16 l wr).2.2).1.1,(ig (bY 16 l wr).2.1 (bY 16 l wr).2.2).1.2.1,⟨(ig (bY 16 l wr).2.1 (bY 16 l wr).2.2).1.2.2.toArray⟩),(ig (bY 16 l wr).2.1 (bY 16 l wr).2.2).2)
def iM:Nat->List UInt8->Bool->List dW×List UInt8×Bool
 | 0,l,wr=>([],l,wr)
 | k+1,l,wr=>((iM k l wr).1++[(vU (iM k l wr).2.1 (iM k l wr).2.2).1],(vU (iM k l wr).2.1 (iM k l wr).2.2).2)
def IB(b:List UInt8):List dW×List UInt8×Bool:=iM (bE b az).1 (bE b az).2.1 (bE b az).2.2
def vM(b:List UInt8):Option (List dW) :=
 if decide ((bE b az).1<=16)&&!(IB b).2.2&&(IB b).2.1.isEmpty&&iC (IB b).1 then I (IB b).1 else U
def Bo(b:List UInt8):List dW:=(vM b).getD []
def Bq(b:List UInt8):Int:=if (vM b).isSome then 0 else 40
theorem R6 l wr:Q (ig l wr).2.1<=Q l:=by
 grind [pL,bE,FN,ig]
theorem aid l wr:cV (ig l wr).1.1/\cV (ig l wr).1.2.1:=by
 grind [ig,XD,J8,cV]
theorem aAM l wr:Q (vU l wr).2.1<=Q l :=
 cI (R6 _ _) (FN 16 l wr)
theorem XE k l wr:Q (iM k l wr).2.1<=Q l/\Q (iM k l wr).1=k:=by
 induction k with
 | zero=>exact⟨bL _,rfl⟩
 | succ k j=>exact⟨cI (aAM _ _) j.1,by grind [iM]⟩
theorem J9 j l wr:Q (bY j l wr).1<=j.toNat:=by
 grind [bY]
theorem ayQ k l wr:∀x∈(iM k l wr).1,(cV x.2.1/\cV x.2.2.1)/\x.1.size<=16:=by
 induction k with
 | zero=>simp[iM]
 | succ k t =>
  intro x j;rcases List.mem_append.1 j with j|j
  ·grind
  ·simp only[List.mem_singleton]at j;subst j;exact⟨aid _ _,J9 16 _ _⟩
theorem aAN:(prog.info? 88).map (λi=>(i.zero,i.size,i.bytes))=I (I (av #[aw { data:=#[] },G J 0,G J 0,aw { data:=#[] }]),4,48):=by rfl
theorem TE:ir prog 35 88 (av #[aw { data:=#[] },G J 0,G J 0,aw { data:=#[] }]) 4 48:=⟨underlying35,aAN,rfl,bC⟩
abbrev sO(w:aP)(base:Nat)(v:aQ)(l:List dW):Prop:=w.ownsRow base 88 4 v (Q l) (l.flatMap lV)
theorem sO.slice{w base v l}(h:sO w base v l):∃A c,v=F A (Q l) c/\Reads w (Z (D w)) 4 A (Q l) (l.flatMap lV)/\Q l<=c/\c<=maxLen:=aie
theorem oy{w:aP}{base base' e size n v xs}(hb:base<=base')(h:w.ownsRow base' e size v n xs):w.ownsRow base e size v n xs:=ahW
theorem sG{w w' base e size n v xs}(h:w.ownsRow base e size v n xs)(hb:aN (Z (D w)) w w'):w'.ownsRow base e size v n xs:=ahX
theorem Nr{w w':aP}{base g e size n v xs}(h:w.ownsRow base e size v n xs)(hb:w.grownBy w' (I g))(hg:g<base):w'.ownsRow base e size v n xs :=
 World.ownsRow.kept h hb (aJ (by
  intro e;have:=(h.lt g e).1;omega))
theorem aha x:∀u∈lV x,u.oneCell'=true:=by intro u j;simp at j;rcases j with rfl|rfl|rfl|rfl <;> rfl
theorem aif{w base v l}(h:sO w base v l):iT l v w:=by
 obtain⟨A,c,rfl,j,_⟩:=h.slice
 grind [iT]
section
open Go Go.RowKit Go.ChangeShapes Go.WideShapes Go.ChangeAt
abbrev eT:=ByteArray×Int×Int×Int×ByteArray
abbrev gT(x:eT):List aQ:=[aw x.1,G J x.2.1,G J x.2.2.1,G J x.2.2.2.1,aw x.2.2.2.2]
abbrev tK(x:eT):aQ:=av #[aw x.1,G J x.2.1,G J x.2.2.1,G J x.2.2.2.1,aw x.2.2.2.2]
def jF(x:eT):Prop:=cV x.2.1/\cV x.2.2.1/\cV x.2.2.2.1
theorem Ns(l:List eT) k(hk:k<Q l):∀j,(t:j<5)->(l.flatMap gT)[k*5+j]?=I ((gT l[k])[j]'t):=by intro j t;rw[List.flatMap_def,yV 5 _ aih k j bG t];simp[hk]
theorem ayR(l:List eT):Q (l.flatMap gT)=Q l*5:=by rw[List.flatMap_def,Eg 5 _ aih];simp
theorem Reads.KR{w B n A}{l:List eT}(h:Reads w B 5 A n (l.flatMap gT))(y:0<Q l) :
 ∃b j,A=I ⟨b,j,U⟩/\b<B/\∀k (hk:k<Q l),w.cell? ⟨b,j+k*5,U⟩=I (aw l[k].1)/\w.cell? ⟨b,j+k*5+1,U⟩=I (G J l[k].2.1) /\
  w.cell? ⟨b,j+k*5+2,U⟩=I (G J l[k].2.2.1)/\w.cell? ⟨b,j+k*5+3,U⟩=I (G J l[k].2.2.2.1)/\w.cell? ⟨b,j+k*5+4,U⟩=I (aw l[k].2.2.2.2):=by
 obtain⟨b,j,e,hb,t⟩:=h.2 (by grind [ayR])
 refine⟨b,j,e,hb,λk hk=>?_⟩
 have:=t _ _ (Ns l k hk 0 bC)
 have:=t _ _ (Ns l k hk 1 bC)
 have:=t _ _ (Ns l k hk 2 bC)
 have:=t _ _ (Ns l k hk 3 bC)
 have:=t _ _ (Ns l k hk 4 bC)
 grind
def fQ(l:List eT)(v:aQ)(w:aP):Prop:=∃A c,v=F A (Q l) c/\Reads w (Z (D w)) 5 A (Q l) (l.flatMap gT)
theorem fJ l:∀v w w',fQ l v w->aN (Z (D w)) w w'->fQ l v w':=aic
section
variable {H:Type} {enc:TypeId×aQ->H} {w:aP} {base:Nat} {r:Reach} {b0:Nat} {spare:Nat->Bool} {held:Bool} {v:aQ} {d:DataW H} {p:List MemPlace}
end
end
abbrev Dy(α:Type):=List UInt8->Bool->α×List UInt8×Bool
structure F6{α:Type}(enc:α->List UInt8)(ok:α->Prop)(rd:Dy α):Prop where
 fwd:∀x,ok x->∀rest,rd (enc x++rest) az=(x,rest,az)
 back:∀l wr,(rd l wr).2.2=az->l=enc (rd l wr).1++(rd l wr).2.1/\wr=az
 len:∀l wr,Q (rd l wr).2.1<=Q l
def eZ{α:Type}(rd:Dy α):Nat->Dy (List α)
 | 0,l,wr=>([],l,wr)
 | k+1,l,wr=>((eZ rd k l wr).1++[(rd (eZ rd k l wr).2.1 (eZ rd k l wr).2.2).1],(rd (eZ rd k l wr).2.1 (eZ rd k l wr).2.2).2)
section
variable {α:Type} {enc:α->List UInt8} {ok:α->Prop} {rd:Dy α}
theorem F6.bad(C:F6 enc ok rd) l:(rd l aA).2.2=true:=by
 cases h:(rd l aA).2.2 with
 | true=>rfl
 | false=>have:=(C.back l aA h).2;cases this
theorem Nt(C:F6 enc ok rd) k l wr:Q (eZ rd k l wr).2.1<=Q l/\Q (eZ rd k l wr).1=k:=by
 induction k with
 | zero=>exact⟨bL _,rfl⟩
 | succ k j=>exact⟨cI (C.len _ _) j.1,by grind [eZ]⟩
theorem Yi(C:F6 enc ok rd){k l wr}(h:(eZ rd k l wr).2.2=aA):∀d,(eZ rd (k+d) l wr).2.2=aA
 | 0=>h
 | d+1=>by have:=Yi C h d;show (rd (eZ rd (k+d) l wr).2.1 (eZ rd (k+d) l wr).2.2).2.2=aA;rw[this];exact C.bad _
theorem aii(p:α->Prop)(hp:∀l wr,p (rd l wr).1) k l wr:∀x∈(eZ rd k l wr).1,p x:=by
 induction k with
 | zero=>simp[eZ]
 | succ k j =>
  grind [eZ]
theorem aij(C:F6 enc ok rd)(l:List α)(h:∀x∈l,ok x) rest:∀k,k<=Q l->eZ rd k (l.flatMap enc++rest) az=(l.take k,(l.drop k).flatMap enc++rest,az):=by
 intro k
 induction k with
 | zero=>intro _;simp[eZ]
 | succ k ih => intro hk;have hk':k<Q l:=aZ;have hd:l.drop k=l[k] :: l.drop (k+1):=bq;have hx:=h l[k] (dG hk');show ((eZ rd k (l.flatMap enc++rest) az).1++[(rd (eZ rd k (l.flatMap enc++rest) az).2.1 (eZ rd k (l.flatMap enc++rest) az).2.2).1],(rd (eZ rd k (l.flatMap enc++rest) az).2.1 (eZ rd k (l.flatMap enc++rest) az).2.2).2)=_;exact aik
theorem ahb(C:F6 enc ok rd){k l wr}(h:(eZ rd k l wr).2.2=az):l=(eZ rd k l wr).1.flatMap enc++(eZ rd k l wr).2.1/\wr=false:=by
 induction k with
 | zero=>exact⟨cY,h⟩
 | succ k y => obtain⟨e1,t⟩:=C.back (eZ rd k l wr).2.1 (eZ rd k l wr).2.2 h;obtain⟨e2,j⟩:=y t;refine⟨?_,j⟩;show l=((eZ rd k l wr).1++[(rd (eZ rd k l wr).2.1 (eZ rd k l wr).2.2).1]).flatMap enc++(rd (eZ rd k l wr).2.1 (eZ rd k l wr).2.2).2.1;exact ail
end
def oN(s:ByteArray)(x:dW):Bool:=decide (x.1=s)
def EI(l:List dW)(s:ByteArray):aQ:=match l.find? (oN s)with|some x=>au #[vv x.2.1 x.2.2.1 x.2.2.2,ar aA]|none=>au #[vv 0 0 { data:=#[] },ar az]
theorem ahc(l:List dW) s k(hk:k<Q l)(h:oN s l[k]=aA)(j:∀x∈l.take k,oN s x=az):l.find? (oN s)=I l[k]:=by
 grind [List.getElem_cons_drop,List.take_append_drop,List.find?_eq_none,List.find?_cons_of_pos]
theorem awJ(l:List dW) s(t:∀x∈l,oN s x=az):l.find? (oN s)=none:=List.find?_eq_none.2 λx j=>by simp[t x j]
theorem ahd(s:ByteArray):∀l:List dW,(∃k,∃hk:k<Q l,oN s l[k]=aA/\∀x∈l.take k,oN s x=az)∨∀x∈l,oN s x=az
 | []=>aJ bq
 | y :: l=>by
  cases h:oN s y with
  | true=>exact aI ⟨0,bq,Er,bq⟩
  | false =>
   rcases ahd s l with ⟨k,hk,h1,t⟩|h1
   ·refine aI ⟨k+1,vD,Cx,?_⟩;intro x j;rw[Tz]at j;rcases List.mem_cons.1 j with rfl|j
    ·exact h
    ·exact t x j
   ·refine aJ λx j=>?_
    rcases List.mem_cons.1 j with rfl|j
    ·exact h
    ·exact h1 x j
theorem JZ(a b:ByteArray):a.toList=b.toList↔a=b:=by
 grind [ByteArray.toList_eq,Yh]
theorem avj k n j t s y w d:(Op.equalIn (d+1+1) 83 (vv k n s) (vv j t y)).run prog w=.ok (decide ((k,n,s)=(j,t,y))) w:=by
 simp[go_sem,JZ]
 grind
theorem aAO k n j t s y w:(binOp .eql 83 (vv k n s) (vv j t y)).run prog w=.ok (ar (decide ((k,n,s)=(j,t,y)))) w:=by rw[run_eql_struct,avj k n j t s y w 9998];rfl
abbrev Vl:=Int×Int×ByteArray
def kM(a b:Int):Int:=if a<b then -1 else if b<a then 1 else 0
def Br(a b:ByteArray):Int:=if nY a b then -1 else if nY b a then 1 else 0
def iE(a b:Vl):Int:=if kM a.1 b.1 != 0 then kM a.1 b.1 else if kM a.2.1 b.2.1 != 0 then kM a.2.1 b.2.1 else Br a.2.2 b.2.2
def preB(a b:ByteArray):Bool:=decide (b.size<=a.size)&&((a.extract 0 b.size).toList==b.toList)
def lW(a b:Vl):Bool:=a.1==2&&b.1==2&&preB a.2.2 b.2.2
def kQ(t:eT)(v:Vl):Bool :=
 if t.2.1==8 then aA else
 (v.1==t.2.2.1)&&(if t.2.1==1 then iE v t.2.2==0 else if t.2.1==2 then iE v t.2.2 != 0 else if t.2.1==3 then decide (iE v t.2.2<0)else if t.2.1==4 then decide (iE v t.2.2<=0)
  else if t.2.1==5 then decide (0<iE v t.2.2)else if t.2.1==6 then decide (0<=iE v t.2.2)else if t.2.1==7 then lW v t.2.2 else az)
def sI(t:eT)(e:List dW):Bool:=match e.find? (oN t.1)with|some x=>kQ t x.2|none=>az
def oz(f:List eT)(e:List dW):Bool:=f.all λt=>sI t e
def iU(t:eT):Bool :=
 vF t.1&&(if t.2.1==8 then decide (t.2.2=(0,0,⟨#[]⟩))else if t.2.1==7 then km t.2.2.1 t.2.2.2.1 t.2.2.2.2&&t.2.2.1==2 else decide (1<=t.2.1)&&decide (t.2.1<=8)&&km t.2.2.1 t.2.2.2.1 t.2.2.2.2)
def okF(l:List eT):Bool:=decide (Q l<=8)&&l.all iU
def Ge(t:eT):Int:=if iU t then 0 else 50
def pA(l:List eT):Int:=if okF l then 0 else 50
def lX(t:eT):List UInt8:=(bI t.1.size++fW t.1)++(bI (cL t.2.1)++(if t.2.1==8 then []else pP t.2.2.1 t.2.2.2.1 t.2.2.2.2))
def lD(l:List eT):List UInt8:=bI (Q l)++l.flatMap lX
def EJ(l:List eT):List UInt8:=if okF l then lD l else []
def iN:Dy eT:=λl wr =>
 if 8<(bE (bY 16 l wr).2.1 (bY 16 l wr).2.2).1 then ((⟨#[]⟩,0,0,0,⟨#[]⟩),(bE (bY 16 l wr).2.1 (bY 16 l wr).2.2).2.1,aA)
 else if (bE (bY 16 l wr).2.1 (bY 16 l wr).2.2).1=8 then ((⟨(bY 16 l wr).1.toArray⟩,8,0,0,⟨#[]⟩),(bE (bY 16 l wr).2.1 (bY 16 l wr).2.2).2)
 else ((⟨(bY 16 l wr).1.toArray⟩,((bE (bY 16 l wr).2.1 (bY 16 l wr).2.2).1:Int),(ig (bE (bY 16 l wr).2.1 (bY 16 l wr).2.2).2.1 (bE (bY 16 l wr).2.1 (bY 16 l wr).2.2).2.2).1.1,
  (ig (bE (bY 16 l wr).2.1 (bY 16 l wr).2.2).2.1 (bE (bY 16 l wr).2.1 (bY 16 l wr).2.2).2.2).1.2.1,⟨(ig (bE (bY 16 l wr).2.1 (bY 16 l wr).2.2).2.1 (bE (bY 16 l wr).2.1 (bY 16 l wr).2.2).2.2).1.2.2.toArray⟩),
  (ig (bE (bY 16 l wr).2.1 (bY 16 l wr).2.2).2.1 (bE (bY 16 l wr).2.1 (bY 16 l wr).2.2).2.2).2)
def F9(b:List UInt8):List eT×List UInt8×Bool:=eZ iN (bE b az).1 (bE b az).2.1 (bE b az).2.2
def tv(b:List UInt8):Option (List eT) :=
 if decide ((bE b az).1<=8)&&!(F9 b).2.2&&(F9 b).2.1.isEmpty&&okF (F9 b).1 then I (F9 b).1 else U
def xT(b:List UInt8):List eT:=(tv b).getD []
def xU(b:List UInt8):Int:=if (tv b).isSome then 0 else 50
theorem FG{l}(h:okF l=aA):Q l<=8/\∀x∈l,iU x=true:=by
 grind [okF,iU]
theorem Hh{t}(h:iU t=aA):t.1.size<=16/\1<=t.2.1/\t.2.1<=8/\(t.2.1=8->t.2.2=(0,0,⟨#[]⟩))/\(t.2.1≠8->km t.2.2.1 t.2.2.2.1 t.2.2.2.2=aA):=by
 grind [iU,km,vF]
theorem aAP l wr:Q (iN l wr).2.1<=Q l:=by
 grind [FN,pL,bY,R6,bE,iN]
theorem aAQ t(h:iU t=aA/\jF t) rest:iN (lX t++rest) az=(t,rest,az):=by
 obtain⟨L,j⟩:=h;obtain⟨A,M,h8,C,y⟩:=Hh L;obtain⟨s,op,k,n,x⟩:=t;simp only at A M h8 C y j;have hk:cL op=op.toNat:=by grind [cL]
 have z:bY 16 (lX (s,op,k,n,x)++rest) az=(fW s,bI (cL op)++(if op==8 then []else pP k n x)++rest,az):=by
  have:=Hq 16 (fW s) cG cG (bI (cL op)++(if op==8 then []else pP k n x)++rest)
  rw[show Q (fW s)=s.size by simp]at this
  unfold lX
  grind
 have N:=td (cL op) (jb op) ((if op==8 then []else pP k n x)++rest);unfold iN;rw[z];simp only;rw[fN (bI (cL op)),N];simp only;rw[bO aZ];by_cases H:op=8
 ·simp_all
 ·rw[bO aZ,bO bG];have B:=ag9 k n x (y H) j.2.2.1 j.2.2.2 rest;rw[B];cases s;grind [Prod.mk.injEq]
theorem ayS l wr(h:(iN l wr).2.2=az):l=lX (iN l wr).1++(iN l wr).2.1/\wr=false:=by
 have L:=pN (bY 16 l wr).2.1 (bY 16 l wr).2.2;unfold iN at h⊢;split at h
 ·cases h
 ·rename_i h8;rw[bO h8];split at h
  ·rename_i j;rw[bT j];obtain⟨z,A⟩:=wL h;obtain⟨t,_,B⟩:=FJ A;refine⟨?_,B⟩;unfold lX;simp only;have y:(⟨(bY 16 l wr).1.toArray⟩:ByteArray).size=Q (bY 16 l wr).1:=Yj;rw[y,show fW ⟨(bY 16 l wr).1.toArray⟩=(bY 16 l wr).1 by simp[fW]];rw[show cL (8:Int)=(bE (bY 16 l wr).2.1 (bY 16 l wr).2.2).1 by rw[j];rfl];rw[bT bC,List.append_nil,fN,<- z];exact t
  ·rename_i j;rw[bO j];obtain⟨C,_,H,_⟩:=XD h;obtain⟨z,A⟩:=wL H;obtain⟨t,_,B⟩:=FJ A;refine⟨?_,B⟩;unfold lX;simp only;have y:(⟨(bY 16 l wr).1.toArray⟩:ByteArray).size=Q (bY 16 l wr).1:=Yj;rw[y,show fW ⟨(bY 16 l wr).1.toArray⟩=(bY 16 l wr).1 by simp[fW]];rw[show cL ((bE (bY 16 l wr).2.1 (bY 16 l wr).2.2).1:Int)=(bE (bY 16 l wr).2.1 (bY 16 l wr).2.2).1 by unfold cL;omega];rw[bO cG,fN,fN (bI (bE (bY 16 l wr).2.1 (bY 16 l wr).2.2).1),<- C,<- z];exact t
theorem J3:F6 lX (λt=>iU t=aA/\jF t) iN:=⟨aAQ,ayS,aAP⟩
theorem aAR l wr:jF (iN l wr).1/\(iN l wr).1.1.size<=16:=by
 grind [J9,aid,bE,bY,iN,jF,cV,ByteArray.size]
theorem avk l(y:okF l=aA)(z:∀x∈l,jF x) rest:bE (lD l++rest) az=(Q l,l.flatMap lX++rest,az)/\F9 (lD l++rest)=(l,rest,az):=by
 obtain⟨C,A⟩:=FG y
 have t:bE (lD l++rest) az=(Q l,l.flatMap lX++rest,az):=by
  grind [lD,fN,td]
 refine⟨t,?_⟩
 have:=aij J3 l (λx j=>⟨A x j,z x j⟩) rest (Q l) (bL _)
 unfold F9
 grind
theorem ayT l(j:okF l=aA)(t:∀x∈l,jF x):tv (lD l)=I l:=by
 have h:=avk l j t []
 rw[List.append_nil]at h
 have:=(FG j).1
 unfold tv
 grind
theorem age{b y}(h:tv b=I y):b=lD y/\okF y=aA/\∀x∈y,jF x:=by
 unfold tv at h;split at h
 ·rename_i C;injection h with h;simp only[fB,Bool.not_eq_true',List.isEmpty_iff,decide_eq_true_eq]at C;obtain⟨⟨⟨N,B⟩,z⟩,j⟩:=C;unfold F9 at B z j h;obtain⟨t,M⟩:=ahb J3 B;obtain⟨H,_⟩:=wL M;have A:=(Nt J3 (bE b az).1 (bE b az).2.1 (bE b az).2.2).2;have hfit:=aii (λx:eT=>jF x/\x.1.size<=16) aAR (bE b az).1 (bE b az).2.1 (bE b az).2.2;rw[h]at t A j hfit;rw[z,List.append_nil]at t;refine⟨?_,j,λx L=>(hfit x L).1⟩;unfold lD;rw[A,<- t];exact H
 ·cases h
theorem awK t w :
 aK prog 303 #[tK t] w λe w'=>e=ak (G J (Ge t))/\aN (Z (D w)) w w':=by
 obtain⟨s,op,k,n,x⟩:=t
 have hb0:aN (Z (D w)) w (aU w (aq #[aw s,G J op,G J k,G J n,aw x] 85)):=(ed _ _).alloc (bL _) _
 have M:=bn.new w 85 #[aw s,G J op,G J k,G J n,aw x]
 have HT:Hid (iU (s,op,k,n,x)=(vF s&&(if op==8 then decide ((k,n,x)=(0,0,(⟨#[]⟩:ByteArray)))else if op==7 then km k n x&&k==2 else decide (1<=op)&&decide (op<=8)&&km k n x))):=aY rfl
 have tI:Hid (iU (s,op,k,n,x)=az->Ge (s,op,k,n,x)=50):=aY (λh=>by simp[Ge,h])
 have z:Hid (iU (s,op,k,n,x)=aA->Ge (s,op,k,n,x)=0):=aY (λh=>by simp[Ge,h])
 go_in
 go_wp2_with fail
 apply bN (WV s _)
 rintro w' rfl
 cases hn:vF s
 ·have HE:=aY (tI.aX (by rw[HT.aX,hn];rfl));go_wp2;go_ret;exact⟨jD,hb0⟩
 by_cases W:op<1
 ·exact aim
 by_cases h8:8<op
 ·exact aim
 go_wp2_with fail
 apply bN (Q0 k n x _)
 intro Y H
 have j:=M.bF H
 have fw:=hb0.trans (H.mono hb0.size)
 have T:=j.cell 1
 have R:=j.cell 2
 have L:=j.cell 3
 have N:=j.cell 4
 simp at T R L N
 have HC:Hid ((nX k n x==0)=km k n x):=aY (by unfold nX;cases km k n x <;> rfl)
 by_cases y:op=7
 ·have HE:Hid (iU (s,op,k,n,x)=(km k n x&&k==2)):=by simp_all
  have O:(op==7)=true:=by simp[y]
  have C:(op==8)=false:=by simp[y]
  cases hv:km k n x
  ·have A:(nX k n x==0)=false:=R7;have HF:=aY (tI.aX (by rw[HE.aX,hv];rfl));exact Hz
  ·have A:(nX k n x==0)=true:=R7;cases hk:(k==2)
   ·have HF:=aY (tI.aX ain);exact Hz
   ·have HF:=aY (z.aX ain);exact Hz
 ·have O:(op==7)=false:=by simp[y]
  by_cases B:op=8
  ·have HE:Hid (iU (s,op,k,n,x)=decide ((k,n,x)=(0,0,(⟨#[]⟩:ByteArray)))):=by simp_all
   have C:(op==8)=true:=by simp[B]
   have:=aAO k n 0 0 x ⟨#[]⟩;generalize S:decide ((k,n,x)=(0,0,(⟨#[]⟩:ByteArray)))=d at *;have:=aY S;cases d
   ·have HF:=aY (tI.aX Nu);exact Hz
   ·have HF:=aY (z.aX Nu);exact Hz
  ·have HE:Hid (iU (s,op,k,n,x)=km k n x):=by simp_all
   have C:(op==8)=false:=by simp[B]
   cases hv:km k n x
   ·have A:(nX k n x==0)=false:=R7;have HF:=aY (tI.aX (by rw[HE.aX,hv]));exact Hz
   ·have A:(nX k n x==0)=true:=R7;have HF:=aY (z.aX (by rw[HE.aX,hv]));exact Hz
theorem aAS l k(h:k<Q l)(hb:iU l[k]=az):pA l=50:=by
 grind [iU,pA,okF]
theorem ayU l(h8:Q l<=8)(h:∀x∈l.take (Q l),iU x=aA):pA l=0:=by
 grind [iU,pA,okF]
theorem awL(l:List eT)(k:Nat)(h:k<Q l)(ha:∀x∈l.take k,iU x=aA)(hb:iU l[k]=aA):∀x∈l.take (k+1),iU x=true:=aio
theorem avl t:(Ge t=0/\iU t=aA)∨(Ge t=50/\iU t=az):=by
 grind [Ge,iU]
theorem WD A c l w B(V:Reads w B 5 A (Q l) (l.flatMap gT))(hB:B<=Z (D w)) :
 aK prog 261 #[F A (Q l) c] w λe w'=>e=ak (G J (pA l))/\aN (Z (D w)) w w':=by
 by_cases h8:8<Q l
 ·have zn:(8:Int)<(Q l:Int):=aZ;have HE:Hid (pA l=50):=aY (by simp[pA,okF,show ¬Q l<=8 by omega]);generalize Q l=n at *;go_in;go_wp2;exact Yk
 have zn:¬(8:Int)<(Q l:Int):=aZ
 have X:=aY V
 go_in
 go_wp2_with fail
 go_loopw [11] (fun i wr=>∃k:Nat,k<=Q l/\i=G J k/\Hid (∀x∈l.take k,iU x=aA)/\aN (Z (D w)) w wr) (fun i _=>Q l-(aO i).toNat)
 case atStart=>exact⟨0,aZ,rfl,aY bq,ed _ _⟩
 case round =>
  obtain⟨k,hk,rfl,M,hb⟩:=hrel;by_cases z:k<Q l
  ·have gJ:(k:Int)<Q l:=aZ;obtain⟨b,t,rfl,S,hcell⟩:=X.aX.KR aZ;obtain⟨e0,T,e2,e3,e4⟩:=hcell k z;have j:=cQ S hB;have d0:=(hb.cell (p:=⟨b,t+k*5,U⟩) j).trans e0;have d1:=(hb.cell (p:=⟨b,t+k*5+1,U⟩) j).trans T;have d2:=(hb.cell (p:=⟨b,t+k*5+2,U⟩) j).trans e2;have d3:=(hb.cell (p:=⟨b,t+k*5+3,U⟩) j).trans e3;have d4:=(hb.cell (p:=⟨b,t+k*5+4,U⟩) j).trans e4;have HT:=aY (awL l k z M.aX);have Gv:=aY (aAS l k z);have hz:=hb.size;generalize l[k]=x at *;obtain⟨xs,C,O,N,R⟩:=x;simp only at d0 d1 d2 d3 d4;go_wp2_with fail
   apply bN (awK (xs,C,O,N,R) _);intro w2 hb2;have L:=(hb.alloc hz _).trans (hb2.mono cG);rcases avl (xs,C,O,N,R)with ⟨H,y⟩|⟨H,y⟩
   ·have W:=aY (HT.aX y);go_wp2;go_roundw
    case rel=>exact⟨k+1,aZ,cU,W,L⟩
    case measure=>simp[aO];omega
   ·have HE:=aY (Gv.aX y);have Y:=aY H;go_wp2;go_ret;exact⟨by rw[HE.aX,<- Y.aX];rfl,L⟩
  ·have gJ:¬(k:Int)<Q l:=aZ;have HE:=aY (ayU l aZ (by
    have:=M.aX;rwa [show k=Q l by omega]at this))
   go_wp2;exact Nv
theorem afz{l v w}(h:fQ l v w):aK prog 261 #[v] w λe w'=>e=ak (G J (pA l))/\aN (Z (D w)) w w':=by obtain⟨A,c,rfl,j⟩:=h;exact WD A c l w _ j (bL _)
theorem ayV:(prog.info? 85).map (λi=>(i.zero,i.size,i.bytes))=I (I (av #[aw { data:=#[] },G J 0,G J 0,G J 0,aw { data:=#[] }]),5,56):=by rfl
theorem TF:ir prog 37 85 (av #[aw { data:=#[] },G J 0,G J 0,G J 0,aw { data:=#[] }]) 5 56:=⟨underlying37,ayV,rfl,bC⟩
abbrev iF(w:aP)(base:Nat)(v:aQ)(l:List eT):Prop:=w.ownsRow base 85 5 v (Q l) (l.flatMap gT)
theorem iF.slice{w base v l}(h:iF w base v l):∃A c,v=F A (Q l) c/\Reads w (Z (D w)) 5 A (Q l) (l.flatMap gT)/\Q l<=c/\c<=maxLen:=aie
theorem ahe x:∀u∈gT x,u.oneCell'=true:=by intro u j;simp at j;rcases j with rfl|rfl|rfl|rfl|rfl <;> rfl
theorem yZ{w base v l}(h:iF w base v l):fQ l v w:=by
 obtain⟨A,c,rfl,j,_⟩:=h.slice
 grind [fQ]
theorem awM b k(hk:k<=(bE b az).1)(h:(eZ iN k (bE b az).2.1 (bE b az).2.2).2.2=aA):xU b=50/\xT b=[]:=by
 have:(F9 b).2.2=true:=by have:=Yi J3 h ((bE b az).1-k);rwa [show k+((bE b az).1-k)=(bE b az).1 by omega]at this
 have j:tv b=none:=by grind [tv]
 simp[xU,xT,j]
theorem ayW l wr(h:8<(bE (bY 16 l wr).2.1 (bY 16 l wr).2.2).1):(iN l wr).2.2=true:=by
 grind [bE,bY,iN]
theorem awN l wr(h:(bE (bY 16 l wr).2.1 (bY 16 l wr).2.2).1=8):iN l wr=((⟨(bY 16 l wr).1.toArray⟩,8,0,0,⟨#[]⟩),(bE (bY 16 l wr).2.1 (bY 16 l wr).2.2).2):=by
 grind [bE,bY,iN]
theorem ayX l wr(h:(bE (bY 16 l wr).2.1 (bY 16 l wr).2.2).1<8):iN l wr=((⟨(bY 16 l wr).1.toArray⟩,((bE (bY 16 l wr).2.1 (bY 16 l wr).2.2).1:Int),(ig (bE (bY 16 l wr).2.1 (bY 16 l wr).2.2).2.1 (bE (bY 16 l wr).2.1 (bY 16 l wr).2.2).2.2).1.1,
 (ig (bE (bY 16 l wr).2.1 (bY 16 l wr).2.2).2.1 (bE (bY 16 l wr).2.1 (bY 16 l wr).2.2).2.2).1.2.1,⟨(ig (bE (bY 16 l wr).2.1 (bY 16 l wr).2.2).2.1 (bE (bY 16 l wr).2.1 (bY 16 l wr).2.2).2.2).1.2.2.toArray⟩),
 (ig (bE (bY 16 l wr).2.1 (bY 16 l wr).2.2).2.1 (bE (bY 16 l wr).2.1 (bY 16 l wr).2.2).2.2).2):=by
 grind [bE,bY,iN,ig]
theorem ayY k l bad s(j:eZ iN k l bad=s):eZ iN (k+1) l bad=(s.1++[(iN s.2.1 s.2.2).1],(iN s.2.1 s.2.2).2):=by subst j;rfl
theorem asx A n c b w B(hR:Reads w B 1 A n (fM b))(hB:B<=Z (D w))(hn:n<=1000000000) :
 aK prog 198 #[F A n c] w λe w' =>
  ∃v',e=ak (au #[v',G J (xU b)])/\iF w' (Z (D w)) v' (xT b)/\aN (Z (D w)) w w':=by
 have dt:Q b=n:=Hw
 have hle:Q b<=1000000000:=aZ
 clear dt
 go_in
 go_wp2_with fail
 refine (MV A n c b w B hR hB hn).mono ?_
 rintro e w1⟨g,rfl,hg,hr1,cD⟩
 go_wp2_with fail
 refine (vC g b az w1 hr1).mono ?_
 rintro e w2⟨rfl,cZ,gg⟩
 have Y:=hr1.lt
 have hz2:=gg.size
 have fw:=cD.trans (mN gg hg cD.size)
 have hlt:=pN b az
 have aaP:=pL b az
 have HB:=aY (awM b)
 have HD:Hid (tv b=if decide ((bE b az).1<=8)&&!(eZ iN (bE b az).1 (bE b az).2.1 (bE b az).2.2).2.2&&(eZ iN (bE b az).1 (bE b az).2.1 (bE b az).2.2).2.1.isEmpty&&okF (eZ iN (bE b az).1 (bE b az).2.1 (bE b az).2.2).1 then I (eZ iN (bE b az).1 (bE b az).2.1 (bE b az).2.2).1 else U):=aY rfl
 generalize bE b az=a at *
 obtain⟨m,l,bad⟩:=a
 simp only at cZ hlt aaP HD HB⊢
 clear hr1 cD hR
 by_cases jx:m<=8
 rotate_left
 ·have Bn:(8:Int)<(m:Int):=aZ;have HE:Hid (xU b=50):=aY (by have:=HD.aX;simp[jx]at this;simp[xU,this]);have HL:Hid (xT b=[]):=aY (by have:=HD.aX;simp[jx]at this;simp[xT,this]);exact aip
 have Bn:¬(8:Int)<(m:Int):=aZ
 go_wp2_with fail
 go_loopw [6,7,8,16] (fun v _ _ i j=>∃k:Nat,k<=m/\i=G E k/\iF j (Z (D w1)) v (eZ iN k l bad).1/\Rd j g (eZ iN k l bad).2.1 (eZ iN k l bad).2.2/\aN (Z (D w)) w j/\Z (D w1)<=Z (D j)) (fun _ _ _ i _=>m-(aO i).toNat)
 case atStart=>exact⟨0,aZ,rfl,mr _ _ _ _,cZ,fw,hz2⟩
 case round =>
  obtain⟨k,hk,rfl,hown,rm,hb,hz⟩:=hrel;by_cases hlt:k<m
  ·have gJ:(k:Int)<m:=aZ;have hlk:=Nt J3 k l bad;have hfit:=ayY k l bad;have Ld:=HB.aX (k+1) aZ;generalize hs:eZ iN k l bad=s at *;replace hfit:=hfit s rfl;obtain⟨H,t,j⟩:=s;simp only at hown rm hlk hfit;rw[hfit]at Ld;obtain⟨aDH,aaQ⟩:=hlk;have aDI:Q H<=8:=aZ;clear aaQ;have C1:=aY (QR g t j 16 wr rm aZ aZ aZ);have ll:=FN 16 t j;have F8:=aY λh=>Ld (ayW t j h)
   have FE:=aY λh=>hfit.trans (show ((H,t,j).1++[(iN t j).1],(iN t j).2)=_ by rw[awN t j h])
   have FL:=aY λh=>hfit.trans (show ((H,t,j).1++[(iN t j).1],(iN t j).2)=_ by rw[ayX t j h])
   clear hfit hs Ld;have gj:=pL (bY 16 t j).2.1 (bY 16 t j).2.2;have tJ:=pN (bY 16 t j).2.1 (bY 16 t j).2.2;have C2:Hid (∀W,Rd W g (bY 16 t j).2.1 (bY 16 t j).2.2->aK prog 134 #[aj (I ⟨g,0,U⟩)] W λe w'=>e=ak (G E ((bE (bY 16 t j).2.1 (bY 16 t j).2.2).1:Nat))/\pU g (bE (bY 16 t j).2.1 (bY 16 t j).2.2).2.1 (bE (bY 16 t j).2.1 (bY 16 t j).2.2).2.2 W w'):=aY λW hW=>vC g _ _ W hW
   generalize bY 16 t j=sb at *;obtain⟨S,lb,wb⟩:=sb;simp only at C1 C2 F8 FE FL ll gj tJ;generalize bE lb wb=sn at *;obtain⟨op,lo,X⟩:=sn;simp only at C2 F8 FE FL gj tJ;have nZ:=R6 lo X;have C3:Hid (∀W,Rd W g lo X->aK prog 260 #[aj (I ⟨g,0,U⟩)] W λe w'=>e=ak (vd (ig lo X).1)/\pU g (ig lo X).2.1 (ig lo X).2.2 W w'):=aY λW hW=>aeJ g _ _ W hW aZ
   generalize ig lo X=sv at *;obtain⟨⟨vk,vn,vt⟩,lv,wv⟩:=sv;simp only[vd]at C3 FL nZ;have vV:g<Z (D wr):=aZ;go_wp2_with fail
   refine C1.aX.mono ?_;rintro e y⟨v3,rfl,iB,fP,kj⟩;have hst:=str (gD iB);have mf:=kj.size;have F4:=Nr hown kj Y;have dy:=hb.trans (mN kj hg hb.size);clear hown rm kj hb C1;go_wp2_with fail
   have iH:=bn.new y 85 #[aw ⟨S.toArray⟩,G J 0,G J 0,G J 0,aw ⟨#[]⟩];have TR:aN (Z (D y)) y (aU y (aq #[aw ⟨S.toArray⟩,G J 0,G J 0,G J 0,aw ⟨#[]⟩] 85)):=(ed _ _).alloc (bL _) _;have anK:=fP.below TR aZ;have am4:=sG F4 TR;have aaR:=dy.trans (TR.mono dy.size);have hhz:Z (D y)<Z (D (aU y (aq #[aw ⟨S.toArray⟩,G J 0,G J 0,G J 0,aw ⟨#[]⟩] 85))):=bq;have Uo:g≠Z (D y):=aZ;have hh1:Z (D w1)<=Z (D y):=aZ;have hhw:=dy.size;have vW:aW u6≠I (Z (D y)):=by intro e;have:=(F4.lt _ e).2;omega
   clear fP TR F4 dy hst iB;generalize y.alloc (aq #[aw ⟨S.toArray⟩,G J 0,G J 0,G J 0,aw ⟨#[]⟩] 85)=w3a at *;generalize Z (D y)=h at *;refine (C2.aX _ anK).mono ?_;rintro e w4⟨rfl,gF,hg4⟩;have lq:=hg4.size;have Io:=Nr am4 hg4 Y;have hb4:=aaR.trans (mN hg4 hg aaR.size);have R:=iH.grown hg4 aiq;clear am4 anK hg4 aaR C2 iH;by_cases h8:8<op
   ·have zn:(8:Int)<(op:Int):=aZ;obtain⟨hC,hL⟩:=F8.aX h8;have HC:=aY hC;have HL:=aY hL;clear hC hL h8;go_wp2;go_ret2;exact⟨_,by rw[HC.aX];rfl,R8,hb4⟩
   have zn:¬(8:Int)<(op:Int):=aZ;have C:=R.cell 0;have N:=R.cell 1;have z:=R.cell 2;have O:=R.cell 3;have M:=R.cell 4;have z1:=R.frozen 1;simp at C N z O M;go_upto_region 13 with fail;have sX:w4.grownBy (aV w4 ⟨h,1,U⟩ (G J op)) (I h):=FM (En w4 _) rfl _;have tQ:=sX.size;have T:=R.cz 1 (G J op);have jI:=hb4.trans (mN sX hhw hb4.size);have j0:=gF.below (mN sX (bL h) aZ) aZ;have Og:iF _ _ _ _:=World.ownsRow.kept Io sX (aJ vW);clear sX R hb4 gF Io C N z O M z1;generalize w4.setCell ⟨h,1,U⟩ (G J op)=w5 at *;have C:=T.cell 0;have N:=T.cell 1;have z:=T.cell 2;have O:=T.cell 3;have M:=T.cell 4;simp at C N z O M;by_cases he:op=8
   ·have HF:=aY (FE.aX he);subst he;have aJj:Z (D w1)<=Z (D w5):=aZ;go_wp2_with (at_builtin;refine j9 rfl _ _ 37 rfl (Z (D w1)) 85 _ 5 56 TF _ _ _ rfl (sK Og _) (Z (D w5)+1) _ 1 1 (gT ((⟨S.toArray⟩,8,0,0,⟨#[]⟩):eT)) rfl ?c1 ?c2 ?c3 ?c5 ?_)
    case c1=>exact Reads.new w5 (gT ((⟨S.toArray⟩,8,0,0,⟨#[]⟩):eT)) 85 5 1 rfl
    case c2=>first|exact ahe _|exact⟨rfl,rfl,rfl,rfl,rfl⟩|exact⟨rfl,rfl,rfl,rfl⟩
    case c3=>omega
    case c5=>first|omega|(simp;omega)
    intro v9 w9 jc dF fO cN;have am5:iF w9 (Z (D w1)) v9 (eZ iN (k+1) l bad).1:=air;have eV:Rd w9 g (eZ iN (k+1) l bad).2.1 (eZ iN (k+1) l bad).2.2:=by rw[HF.aX];exact (j0.bF (Below.alloc (ed _ _) (bL _) _)).below cN Y
    have anL:=(jI.alloc jI.size _).trans (cN.mono aZ);exact ais
   ·have HF:=aY (FL.aX aZ);have hne:¬(op:Int)=8:=aZ;go_wp2_with fail
    refine (C3.aX _ j0).mono ?_;rintro e w6⟨rfl,rq,Dz⟩;have BL:=Dz.size;have TA:=Nr Og Dz Y;have V:=jI.trans (mN Dz hg jI.size);have L:=T.grown Dz aiq;clear Og j0 Dz jI C3 T C N z O M;have C:=L.cell 0;have N:=L.cell 1;have z:=L.cell 2;have O:=L.cell 3;have M:=L.cell 4;have z2:=L.frozen 2;have z3:=L.frozen 3;have z4:=L.frozen 4;simp at C N z O M;go_upto_region 15 with fail;have yw:=FM (FM (FM (En w6 (I h)) (p:=⟨h,2,U⟩) rfl (G J vk)) (p:=⟨h,3,U⟩) rfl (G J vn)) (p:=⟨h,4,U⟩) rfl (aw ⟨vt.toArray⟩);have I0:=yw.size;have sg:=((L.cz 2 (G J vk)).cz 3 (G J vn)).cz 4 (aw ⟨vt.toArray⟩);have lh:=V.trans (mN yw hhw V.size);have mg:=rq.below (mN yw (bL h) aZ) aZ;have aC5:iF _ _ _ _:=World.ownsRow.kept TA yw (aJ vW);clear yw L V rq TA C N z O M z2 z3 z4;generalize ((aV w6 ⟨h,2,U⟩ (G J vk)).setCell ⟨h,3,U⟩ (G J vn)).setCell ⟨h,4,U⟩ (aw ⟨vt.toArray⟩)=w7 at *;have C:=sg.cell 0;have N:=sg.cell 1;have z:=sg.cell 2;have O:=sg.cell 3;have M:=sg.cell 4;simp at C N z O M;have aJk:Z (D w1)<=Z (D w7):=aZ;go_wp2_with (at_builtin;refine j9 rfl _ _ 37 rfl (Z (D w1)) 85 _ 5 56 TF _ _ _ rfl (sK aC5 _) (Z (D w7)+1) _ 1 1 (gT ((⟨S.toArray⟩,(op:Int),vk,vn,⟨vt.toArray⟩):eT)) rfl ?c1 ?c2 ?c3 ?c5 ?_)
    case c1=>exact Reads.new w7 (gT ((⟨S.toArray⟩,(op:Int),vk,vn,⟨vt.toArray⟩):eT)) 85 5 1 rfl
    case c2=>first|exact ahe _|exact⟨rfl,rfl,rfl,rfl,rfl⟩|exact⟨rfl,rfl,rfl,rfl⟩
    case c3=>omega
    case c5=>first|omega|(simp;omega)
    intro v9 w9 jc dF fO cN;have am5:iF w9 (Z (D w1)) v9 (eZ iN (k+1) l bad).1:=air;have eV:Rd w9 g (eZ iN (k+1) l bad).2.1 (eZ iN (k+1) l bad).2.2:=by rw[HF.aX];exact (mg.bF (Below.alloc (ed _ _) (bL _) _)).below cN Y
    have anL:=(lh.alloc lh.size _).trans (cN.mono aZ);exact ais
  ·have gJ:¬(k:Int)<m:=aZ;obtain rfl:k=m:=aZ;clear hlt hk;have hlk:=(Nt J3 k l bad).2;generalize eZ iN k l bad=s at *;obtain⟨H,t,j⟩:=s;simp only at hown rm HD hlk;clear hlk;have Oh:∀x:Bool,x=(!j&&t.isEmpty&&okF H)->Hid (xU b=(if x then 0 else 50))/\Hid (xT b=if x then H else []):=by
    intro x hx
    have h:=HD.aX
    rw[show (decide (k<=8))=aA by simp;omega]at h
    cases x with
    | true=>rw[Bool.true_and,<- hx]at h;exact⟨aY (by simp[xU,h]),aY (by simp[xT,h])⟩
    | false=>rw[Bool.true_and,<- hx]at h;exact⟨aY (by simp[xU,h]),aY (by simp[xT,h])⟩
   have Uq:=aY Oh;clear Oh;go_wp2_with fail
   refine (MK g _ _ wr rm).mono ?_;rintro e w'⟨rfl,rfl⟩;cases hd:(!j&&t.isEmpty)
   ·exact ait
   ·obtain⟨A',c',rfl,hR',_,_⟩:=hown.slice;have hrow:=oy (cI hg (Nat.le_of_lt Y)) hown;go_wp2_with fail
    refine (WD A' c' H wr (Z (D wr)) hR' (bL _)).mono ?_;rintro e w6⟨rfl,V⟩;have aaS:=hb.trans (V.mono hb.size);have TC:=sG hrow V;cases hok:okF H
    ·have hne:(pA H != 0)=true:=R9;exact aiu
    ·have hne:(pA H != 0)=false:=R9;exact aiv
theorem avm{b v w}(h:sl b v w)(hn:Q b<=1000000000):aK prog 198 #[v] w λe w' =>
 ∃v',e=ak (au #[v',G J (xU b)])/\iF w' (Z (D w)) v' (xT b)/\aN (Z (D w)) w w':=by
 obtain⟨A,c,rfl,j⟩:=h
 exact asx A _ c b w _ j (bL _) hn
abbrev K(w W:aP):Prop:=aN (Z (D w)) w W
section
variable {a b c w w' w'':aP} {B g base lo:Nat} {row:Option Nat}
theorem K.rf w:K w w:=ed _ _
theorem _root_.Go.RowKit.Below.tr(h:aN (Z (D a)) a b)(k:aN (Z (D b)) b c):aN (Z (D a)) a c:=h.trans (k.mono h.size)
theorem _root_.Go.RowKit.Below.al(h:aN (Z (D a)) a b)(o:Obj):aN (Z (D a)) a (b.alloc o):=h.alloc h.size o
theorem K.new w o:K w (aU w o):=(K.rf w).al o
theorem K.lK w j t:K w ((aU w j).alloc t):=(K.new w j).al _
theorem K.TS w t j y:K w (((aU w t).alloc j).alloc y):=(K.lK w t j).al _
theorem K.anM w y t j z:K w ((((aU w y).alloc t).alloc j).alloc z):=(K.TS w y t j).al _
theorem K.aDJ w t j y z A:K w (((((aU w t).alloc j).alloc y).alloc z).alloc A):=(K.anM w t j y z).al _
theorem bn.cC{w g t cs}(_:bn (aU w (aq cs t)) g t cs):K w (aU w (aq cs t)):=(K.rf w).al _
theorem bn.cells{t cs}(h:bn w g t cs):∀W,K w W->∀i,W.cell? ⟨g,i,U⟩=cs[i]?:=λ_ k i=>(h.bF k).cell i
structure bV(lo:Nat)(row:Option Nat)(w w':aP):Prop where
 os:w'.os=w.os
 tape:w'.tape=w.tape
 output:w'.output=w.output
 size:Z (D w)<=Z (D w')
 block:∀k,lo<=k->k<Z (D w)->I k≠row->w'.heap[k]?=w.heap[k]?
theorem bV.rf lo row w:bV lo row w w:=⟨rfl,rfl,rfl,bL _,λ_ _ _ _=>rfl⟩
theorem bV.tr(h:bV lo row a b)(k:bV lo row b c):bV lo row a c :=
 ⟨k.os.trans h.os,k.tape.trans h.tape,k.output.trans h.output,cI h.size k.size,λi y j t=>(k.block i y (cQ j h.size) t).trans (h.block i y j t)⟩
theorem bV.bS(h:K w w') lo row:bV lo row w w':=⟨h.os,h.tape,h.output,h.size,λi _ j _=>h.block i j⟩
theorem bV.gy(h:w.grownBy w' row) lo:bV lo row w w':=⟨h.os,h.tape,h.output,h.size,λi _ j t=>h.block i j t⟩
theorem bV.more{j t}(h:bV lo row w w')(C:lo<=j)(A:∀k,j<=k->I k≠t->I k≠row):bV j t w w' :=
 ⟨h.os,h.tape,h.output,h.size,λi z y B=>h.block i aZ y (A i z B)⟩
theorem bV.k(h:bV 0 row w w')(j:K a w)(t:∀k,row=I k->Z (D a)<=k):K a w' :=
 j.trans ⟨h.os,h.tape,h.output,h.size,λi y=>h.block i (eO _) (cQ y j.size) (by rintro rfl;have:=t i rfl;omega)⟩
theorem bV.app(h:w.grownBy w' row){j}(A:j=row∨j=I (Z (D w)))(k:bV lo j w' w''):bV lo row w w'':=by
 refine⟨k.os.trans h.os,k.tape.trans h.tape,k.output.trans h.output,cI h.size k.size,λi y t z=>(k.block i y (cQ t h.size) ?_).trans (h.block i t z)⟩
 grind
theorem TD{α:Type}(l:List α):((Q l:Int)==0)=l.isEmpty:=by
 cases l with
 | nil=>rfl
 | cons x l=>simp;omega
structure fE(α:Type) where
 size:Nat
 rel:α->List aQ->aP->Prop
 len:∀ {x cs w},rel x cs w->Q cs=size
 one:∀ {x cs w},rel x cs w->∀u∈cs,u.oneCell'=aA
 st:∀ {x cs w w'},rel x cs w->K w w'->rel x cs w'
variable {α:Type} {S:fE α} {l:List α} {v:aQ} {A:Option Addr}
def Each(S:fE α)(l:List α)(css:List (List aQ))(w:aP):Prop:=Q css=Q l/\∀i (h:i<Q l) (h':i<Q css),S.rel l[i] css[i] w
theorem Each.lens{css}(h:Each S l css w):∀cs∈css,Q cs=S.size:=by intro cs j;obtain⟨i,t,rfl⟩:=List.mem_iff_getElem.1 j;exact S.len (h.2 i Yl t)
theorem Each.ones{css}(h:Each S l css w):∀u∈css.flatten,u.oneCell'=true:=by intro u j;obtain⟨cs,y,j⟩:=List.mem_flatten.1 j;obtain⟨i,t,rfl⟩:=List.mem_iff_getElem.1 y;exact S.one (h.2 i Yl t) u j
theorem Each.st{css}(h:Each S l css w)(k:K w w'):Each S l css w':=⟨h.1,λi j t=>S.st (h.2 i j t) k⟩
theorem Each.Gf{css}(h:Each S l css w):Q css.flatten=Q l*S.size:=by rw[Eg S.size css h.lens,h.1]
theorem Each.get{css}(h:Each S l css w) i(z:i<Q l):∃cs,css[i]?=I cs/\Q cs=S.size/\S.rel l[i] cs w/\∀j,j<S.size->css.flatten[i*S.size+j]?=cs[j]?:=by have t:i<Q css:=Yl;have y:=h.2 i z t;refine⟨css[i],aE t,S.len y,y,λj A=>?_⟩;rw[yV S.size css h.lens i j t A,aE t];rfl
theorem Each.nil(S:fE α) w:Each S [] [] w:=⟨rfl,λi hi=>Nl⟩
theorem Each.snoc{css}(h:Each S l css w){x cs}(y:S.rel x cs w):Each S (l++[x]) (css++[cs]) w:=by
 refine⟨Nw,λi z A=>?_⟩
 have:=h.1
 by_cases j:i<Q l
 ·have:=h.2 i j aZ;grind
 grind
theorem Each.one{x cs}(j:S.rel x cs w):Each S [x] [cs] w:=by simpa using (Each.nil S w).snoc j
theorem Each.take{css}(h:Each S l css w) k:Each S (l.take k) (css.take k) w:=by refine⟨Nw,λi j t=>?_⟩;simp only[List.getElem_take];exact h.2 i bG bG
theorem Each.drop{css}(h:Each S l css w) k:Each S (l.drop k) (css.drop k) w:=by refine⟨Nw,λi j t=>?_⟩;simp only[List.getElem_drop];exact h.2 (k+i) bG bG
theorem Each.append{y css t}(h:Each S l css w)(k:Each S y t w):Each S (l++y) (css++t) w:=by
 refine⟨by simp[h.1,k.1],λi A B=>?_⟩;have z:=h.1;by_cases j:i<Q l
 ·rw[List.getElem_append_left j,List.getElem_append_left aZ];exact h.2 i j aZ
 ·rw[List.getElem_append_right aZ,List.getElem_append_right aZ];have:=k.2 (i-Q l) bG bG;simpa [z]using this
def xu(S:fE α)(l:List α)(A:Option Addr)(w:aP):Prop:=∃css,Each S l css w/\Reads w (Z (D w)) S.size A (Q l) css.flatten
theorem N4(h:xu S l A w)(k:K w w'):xu S l A w':=by obtain⟨css,t,j⟩:=h;exact⟨css,t.st k,(j.below k (bL _)).more k.size⟩
theorem Ym(S:fE α) A w:xu S [] A w:=⟨[],Each.nil _ _,Reads.nil _ _ _ _⟩
theorem KB(h:xu S l A w) i(B:i<Q l)(M:0<S.size):∃b t cs,A=I ⟨b,t,U⟩/\b<Z (D w)/\Q cs=S.size/\S.rel l[i] cs w/\∀j,j<S.size->w.cell? ⟨b,t+i*S.size+j,U⟩=cs[j]?:=by
 obtain⟨css,L,z⟩:=h
 obtain⟨cs,O,y,H,N⟩:=L.get i B
 have C:0<Q css.flatten:=bG
 obtain⟨b,t,rfl,hb,R⟩:=z.2 C
 refine⟨b,t,cs,rfl,hb,y,H,λj T=>?_⟩
 grind
def bw(S:fE α)(l:List α)(v:aQ)(w:aP):Prop:=∃A c,v=F A (Q l) c/\xu S l A w/\Q l<=c
theorem cH(h:bw S l v w)(k:K w w'):bw S l v w':=by obtain⟨A,c,y,j,t⟩:=h;exact⟨A,c,y,N4 j k,t⟩
theorem am6(h:bw S l v w):∀W,K w W->bw S l v W:=λ_ k=>cH h k
theorem gN(S:fE α) w:bw S [] (F U 0 0) w:=⟨U,0,rfl,Ym _ _ _,bL _⟩
def aaT(S:fE α):fE (List α) where
 size:=1
 rel l cs w:=∃v,cs=[v]/\bw S l v w
 len:=by rintro _ _ _⟨v,rfl,_⟩;rfl
 one:=by rintro _ _ _⟨v,rfl,A,c,rfl,_⟩ u j;simp at j;subst j;rfl
 st:=by rintro _ _ _ _⟨v,rfl,h⟩ k;exact⟨v,rfl,cH h k⟩
def cE(base lo:Nat)(e:TypeId)(S:fE α)(l:List α)(v:aQ)(w:aP):Prop :=
 ∃css,w.ownsRow base e S.size v (Q l) css.flatten/\Q css=Q l/\∀w',bV lo (aW v) w w'->Each S l css w'
theorem cE.nil base lo e(S:fE α) w:cE base lo e S [] (F U 0 0) w:=⟨[],mr _ _ _ _,rfl,λ_ _=>Each.nil _ _⟩
theorem cE.st{e}(h:cE base lo e S l v w)(k:K w w'):cE base lo e S l v w':=by obtain⟨css,z,t,y⟩:=h;exact⟨css,sG z k,t,λj u=>y j ((bV.bS k lo _).tr u)⟩
theorem cE.up{e}(h:cE base lo e S l v w)(M:lo<=base)(u:bV lo U w w'):cE base lo e S l v w':=by obtain⟨css,t,B,L⟩:=h;refine⟨css,⟨t.1,t.2.imp id ?_⟩,B,λA C=>L A (bV.tr (u.more (bL _) (λ_ _ _=>bq)) C)⟩;rintro ⟨g,cap,cur,z,y,j,H⟩;exact⟨g,cap,cur,z,y,(u.block g aZ (aG.1 j).1 bq).trans j,H⟩
theorem cE.low{e base'}(h:cE base' lo e S l v w)(hb:base<=base'):cE base lo e S l v w:=aiw
theorem cE.slice{e}(h:cE base lo e S l v w):∃A c,v=F A (Q l) c/\xu S l A w/\Q l<=c/\(∀g,aW v=I g->base<=g/\g<Z (D w)):=by
 obtain⟨css,j,B,y⟩:=h;have z:=j;have t:=y w (bV.rf _ _ _);have hg:=λg hg=>j.lt g hg
 rcases j.2 with ⟨rfl,C⟩|⟨g,cap,cur,rfl,_,_,hn,_⟩
 ·grind [List.eq_nil_of_length_eq_zero,Ym]
 ·exact⟨_,_,rfl,⟨css,t,Reads.AW z⟩,hn,hg⟩
theorem cE.blk{e}(h:cE base lo e S l v w):∀g,aW v=I g->base<=g/\g<Z (D w):=by obtain⟨css,j,_,_⟩:=h;exact λg hg=>j.lt g hg
theorem cE.bw{e:TypeId}(h:cE base lo e S l v w):bw S l v w:=by
 obtain⟨A,c,y,j,t,_⟩:=h.slice
 grind [bw]
theorem cE.snoc{e css}(B:Q css=Q l)(y:∀w',bV lo (aW v) w w'->Each S l css w')
 {x} {cs} {v'} (C:w'.ownsRow base e S.size v' (Q l+1) (css.flatten++cs)) (hg:w.grownBy w' (aW v)) (z:aW v'=aW v∨aW v'=I (Z (D w)))
 (t:∀w',bV lo (aW v) w w'->S.rel x cs w'):cE base lo e S (l++[x]) v' w':=by
 refine⟨css++[cs],bG,bG,λA u=>?_⟩
 have j:=bV.app hg z u
 exact (y _ j).snoc (t _ j)
end
def mz(x:dW):List UInt8:=(bI x.1.size++fW x.1)++pP x.2.1 x.2.2.1 x.2.2.2
def lL(l:List dW):List UInt8:=bI (Q l)++l.flatMap mz
def EO(l:List dW):List UInt8:=if iC l then lL l else []
theorem Yn{p l}(h:lP p l=aA):∀x∈l,mF x=true:=by
 induction l generalizing p with
 | nil=>simp
 | cons y l j =>
  grind [lP,mF]
theorem Xm{x}(h:mF x=aA):x.1.size<=16/\x.2.2.2.size<=40:=by simp only[mF,vF,fB,decide_eq_true_eq]at h;exact⟨h.1.1.2,(J8 h.2).2⟩
theorem Rs{l}(h:iC l=aA):1<=Q l/\Q l<=16/\lP U l=true:=by
 grind [iC,lP]
theorem ayZ{x}(h:mF x=aA)(j:-9223372036854775808<=x.2.2.1)(t:x.2.2.1<=9223372036854775807):Q (mz x)<=92:=by obtain⟨a,b⟩:=Xm h;have:=eM x.1.size aZ;have:=eM (cL x.2.1) (jb _);have:=eM (xY x.2.1 x.2.2.1) (Nh _ _ j t);have:=eM x.2.2.2.size aZ;simp[mz,pP];omega
theorem ay0(l:List dW)(hk:∀x∈l,Q (mz x)<=92):Q (l.flatMap mz)<=92*Q l:=by
 induction l with
 | nil=>simp
 | cons y l j =>
  grind
theorem ahf l k(y:iC l=aA)(t:∀x∈l,cV x.2.1/\cV x.2.2.1):Q (bI (Q l)++(l.take k).flatMap mz)<=2000:=by
 obtain⟨C,B,z⟩:=Rs y
 have:=eM (Q l) aZ
 have:=ay0 (l.take k) λx j=>ayZ (Yn z x (lB j)) (t x (lB j)).2.1 (t x (lB j)).2.2
 grind
theorem awO(l:List dW) k(h:k<Q l):bI (Q l)++(l.take (k+1)).flatMap mz=bI (Q l)++(l.take k).flatMap mz++(bI l[k].1.size++fW l[k].1)++pP l[k].2.1 l[k].2.2.1 l[k].2.2.2:=by
 grind [ix,mz,fN]
theorem Reads.ano(w:aP) s c x e n(hn:Z (D w)=n):Reads (aU w (aq (bytesRow s c) e x)).drew (n+1) 1 (I ⟨n,0,U⟩) s.size (fM (fW s)):=by
 grind [Reads.drew,Reads.conv]
def ny(x:dW):Prop:=cV x.2.1/\cV x.2.2.1
theorem aCm l:fW ⟨l.toArray⟩=l:=by rfl
theorem Yo s:Q (fW s)=s.size:=by simp
theorem aAT x(y:mF x=aA)(j:ny x) rest:vU (mz x++rest) az=(x,rest,az):=by
 obtain⟨B,C⟩:=Xm y;obtain⟨s,k,n,t⟩:=x;have z:km k n t=true:=by grind [mF]
 have A:bY 16 (mz (s,k,n,t)++rest) az=(fW s,pP k n t++rest,az):=by
  have:=Hq 16 (fW s) (by grind [Yo]) (by grind [Yo]) (pP k n t++rest)
  rw[Yo]at this
  simp only[mz]
  grind
 have H:=ag9 k n t z j.2.1 j.2.2 rest;unfold vU;simp_all
theorem ay1(l:List dW)(h:∀x∈l,mF x=aA/\ny x) rest:∀k,k<=Q l->iM k (l.flatMap mz++rest) az=(l.take k,(l.drop k).flatMap mz++rest,az):=by
 intro k
 induction k with
 | zero=>intro _;simp[iM]
 | succ k y => intro hk;have j:k<Q l:=aZ;have z:l.drop k=l[k] :: l.drop (k+1):=bq;have t:=h l[k] (dG j);show ((iM k (l.flatMap mz++rest) az).1++[(vU (iM k (l.flatMap mz++rest) az).2.1 (iM k (l.flatMap mz++rest) az).2.2).1],(vU (iM k (l.flatMap mz++rest) az).2.1 (iM k (l.flatMap mz++rest) az).2.2).2)=_;rw[y aZ];simp only;rw[z,xV,fN,aAT _ t.1 t.2,ix j]
theorem awP l(y:iC l=aA)(z:∀x∈l,ny x) rest:bE (lL l++rest) az=(Q l,l.flatMap mz++rest,az)/\IB (lL l++rest)=(l,rest,az):=by
 obtain⟨H,C,A⟩:=Rs y
 have t:bE (lL l++rest) az=(Q l,l.flatMap mz++rest,az):=by
  grind [lL,fN,td]
 refine⟨t,?_⟩
 have:=ay1 l (λx j=>⟨Yn A x j,z x j⟩) rest (Q l) (bL _)
 unfold IB
 grind
theorem ay2 l(j:iC l=aA)(t:∀x∈l,ny x):vM (lL l)=I l:=by
 have h:=awP l j t []
 rw[List.append_nil]at h
 have:=(Rs j).2.1
 unfold vM
 grind
theorem ay3{l wr}(h:(vU l wr).2.2=az):l=mz (vU l wr).1++(vU l wr).2.1/\wr=false:=by obtain⟨y,_,z,_⟩:=XD (l:=(bY 16 l wr).2.1) (wr:=(bY 16 l wr).2.2) h;obtain⟨j,_,A⟩:=FJ z;refine⟨?_,A⟩;unfold vU mz;simp only;rw[aCm];have t:(⟨(bY 16 l wr).1.toArray⟩:ByteArray).size=Q (bY 16 l wr).1:=Yj;rw[t,fN,<- y];exact j
theorem awQ{k l wr}(h:(iM k l wr).2.2=az):l=(iM k l wr).1.flatMap mz++(iM k l wr).2.1/\wr=false:=by
 induction k with
 | zero=>exact⟨cY,h⟩
 | succ k y => obtain⟨e1,t⟩:=ay3 (l:=(iM k l wr).2.1) (wr:=(iM k l wr).2.2) h;obtain⟨e2,j⟩:=y t;refine⟨?_,j⟩;show l=((iM k l wr).1++[(vU (iM k l wr).2.1 (iM k l wr).2.2).1]).flatMap mz++(vU (iM k l wr).2.1 (iM k l wr).2.2).2.1;exact ail
theorem agf{b y}(h:vM b=I y):b=lL y/\iC y=aA/\∀x∈y,ny x:=by
 unfold vM at h;split at h
 ·rename_i C;injection h with h;simp only[fB,Bool.not_eq_true',List.isEmpty_iff,decide_eq_true_eq]at C;obtain⟨⟨⟨N,B⟩,z⟩,j⟩:=C;unfold IB at B z j h;obtain⟨t,M⟩:=awQ B;obtain⟨H,_⟩:=wL M;have A:=(XE (bE b az).1 (bE b az).2.1 (bE b az).2.2).2;have hfit:=ayQ (bE b az).1 (bE b az).2.1 (bE b az).2.2;rw[h]at t A j hfit;rw[z,List.append_nil]at t;refine⟨?_,j,λx L=>(hfit x L).1⟩;unfold lL;rw[A,<- t];exact H
 ·cases h
theorem XF{l}(h:iC l=aA)(j:∀x∈l,ny x):Q (lL l)<=2000:=by have:=ahf l (Q l) h j;rwa [nN]at this
structure bW where
 kind:Int
 br:Int
 life:Nat
 dN:Nat
 cl:Int
 sub:Nat
 f:List eT
 es:List (List dW)
 deriving DecidableEq
def fo:bW:=⟨0,0,0,0,0,0,[],[]⟩
def dQ(x:bW):Prop:=cV x.kind/\cV x.br/\cV x.cl/\x.life<18446744073709551616/\x.dN<18446744073709551616/\x.sub<18446744073709551616/\(∀t∈x.f,jF t)/\∀e∈x.es,∀a∈e,ny a
def tz(b:Int):Bool:=decide (0<=b)&&decide (b<16)
def dm(x:bW):Bool :=
 tz x.br&&decide (0<=x.cl)&&decide (x.cl<32) &&
  (if x.kind=1 then decide (x.sub=0)&&x.f.isEmpty&&decide (Q x.es<=8)&&x.es.all iC
   else if x.kind=3 then x.f.isEmpty&&x.es.isEmpty
   else if x.kind=2 then x.es.isEmpty&&okF x.f else az)
def tA(x:bW):Int:=if dm x then 0 else 110
def jA(b:List UInt8):List UInt8:=bI (Q b)++b
def nh(x:bW):List UInt8:=bI (cL x.kind)++(bI (cL x.br)++(bI x.life++(bI x.dN++(bI (cL x.cl)++bI x.sub))))
def fU(x:bW):List UInt8 :=
 nh x++(if x.kind=1 then bI (Q x.es)++x.es.flatMap (λe=>jA (lL e))else if x.kind=2 then jA (lD x.f)else [])
def nR(n:Int):Dy (List dW):=λl wr=>match vM (bY n l wr).1 with
 | none=>([],(bY n l wr).2.1,aA)
 | some e=>(e,(bY n l wr).2)
def sP(n:Int):Dy (List eT):=λl wr=>match tv (bY n l wr).1 with
 | none=>([],(bY n l wr).2.1,aA)
 | some e=>(e,(bY n l wr).2)
theorem ML n:F6 (λe=>jA (lL e)) (λe=>iC e=aA/\(∀x∈e,ny x)/\(Q (lL e):Int)<=n) (nR n) where
 fwd:=by rintro e⟨t,j,A⟩ rest;have C:=XF t j;have hb:=Hq n (lL e) aZ A rest;simp only[nR,jA];rw[hb];simp only[ay2 e t j]
 back:=by
  intro l wr h
  simp only[nR]at h⊢
  cases hd:vM (bY n l wr).1 with
  | none=>rw[hd]at h;cases h
  | some e => rw[hd]at h;obtain⟨y,_,B⟩:=FJ h;have z:=(agf hd).1;refine⟨?_,B⟩;simp only[jA];rw[<- z];exact y
 len:=by intro l wr;have:=FN n l wr;simp only[nR];split <;> simpa using this
theorem awR{l}(h:okF l=aA)(t:∀x∈l,jF x)(j:Q (lD l)<18446744073709551616) n(hn:(Q (lD l):Int)<=n) rest:sP n (jA (lD l)++rest) az=(l,rest,az):=by have hb:=Hq n (lD l) j hn rest;simp only[sP,jA];rw[hb];simp only[ayT l h t]
theorem awS n l wr(h:(sP n l wr).2.2=az):l=jA (lD (sP n l wr).1)++(sP n l wr).2.1/\wr=false:=by
 simp only[sP]at h⊢
 cases hd:tv (bY n l wr).1 with
 | none=>rw[hd]at h;cases h
 | some e =>
  grind [FJ,age,jA]
def jd(l:List UInt8)(wr:Bool):(Nat×Nat×Nat×Nat×Nat×Nat)×List UInt8×Bool :=
 let A:=bE l wr
 let y:=bE A.2.1 A.2.2
 let t:=bE y.2.1 y.2.2
 let z:=bE t.2.1 t.2.2
 let j:=bE z.2.1 z.2.2
 let B:=bE j.2.1 j.2.2
 ((A.1,y.1,t.1,z.1,j.1,B.1),B.2)
theorem aAU a b c d e f(A:a<18446744073709551616)(hb:b<18446744073709551616)(y:c<18446744073709551616)(z:d<18446744073709551616)(t:e<18446744073709551616)(j:f<18446744073709551616) rest :
 jd (bI a++(bI b++(bI c++(bI d++(bI e++bI f))))++rest) az=((a,b,c,d,e,f),rest,az):=by
 grind [jd,fN,td]
theorem ay4 l wr(h:(jd l wr).2.2=az) :
 l=bI (jd l wr).1.1++(bI (jd l wr).1.2.1++(bI (jd l wr).1.2.2.1++(bI (jd l wr).1.2.2.2.1++(bI (jd l wr).1.2.2.2.2.1++bI (jd l wr).1.2.2.2.2.2))))++(jd l wr).2.1/\wr=false:=by
 grind [jd,wL,fN]
theorem avn{k n s}(j:-9223372036854775808<=n)(t:n<=9223372036854775807)(A:s.size<=40):Q (pP k n s)<=67:=by have:=eM (cL k) (jb _);have:=eM (xY k n) (Nh _ _ j t);have:=eM s.size aZ;simp[pP];omega
theorem ay5{t}(h:iU t=aA)(j:jF t):Q (lX t)<=101:=by
 obtain⟨y,_,_,h8,hn⟩:=Hh h;have A:=eM t.1.size aZ;have C:=eM (cL t.2.1) (jb _);have z:t.1.data.size<=16:=y;unfold lX;simp only[eU];split
 ·grind
 ·rename_i e;have B:Q (pP t.2.2.1 t.2.2.2.1 t.2.2.2.2)<=67:=avn j.2.2.1 j.2.2.2 (J8 (hn bG)).2;grind
def qO(a:Nat×Nat×Nat×Nat×Nat×Nat):bW:=⟨(min a.1 4:Nat),(min a.2.1 16:Nat),a.2.2.1,a.2.2.2.1,(min a.2.2.2.2.1 32:Nat),a.2.2.2.2.2,[],[]⟩
def sQ(n:Int):Dy bW:=λl wr =>
 if min (jd l wr).1.1 4=1 then
  ({ qO (jd l wr).1 with es:=(eZ (nR n) (min (bE (jd l wr).2.1 (jd l wr).2.2).1 9) (bE (jd l wr).2.1 (jd l wr).2.2).2.1 (bE (jd l wr).2.1 (jd l wr).2.2).2.2).1 },
   (eZ (nR n) (min (bE (jd l wr).2.1 (jd l wr).2.2).1 9) (bE (jd l wr).2.1 (jd l wr).2.2).2.1 (bE (jd l wr).2.1 (jd l wr).2.2).2.2).2)
 else if min (jd l wr).1.1 4=2 then ({ qO (jd l wr).1 with f:=(sP n (jd l wr).2.1 (jd l wr).2.2).1 },(sP n (jd l wr).2.1 (jd l wr).2.2).2)
 else (qO (jd l wr).1,(jd l wr).2)
theorem FD{x}(h:dm x=aA):(0<=x.br/\x.br<16)/\(0<=x.cl/\x.cl<32) /\
 ((x.kind=1/\x.sub=0/\x.f=[]/\Q x.es<=8/\∀e∈x.es,iC e=aA)∨(x.kind=3/\x.f=[]/\x.es=[])∨(x.kind=2/\x.es=[]/\okF x.f=aA)):=by
 simp only[dm,tz,fB,decide_eq_true_eq]at h
 obtain⟨⟨⟨⟨y,t⟩,z⟩,A⟩,j⟩:=h
 refine⟨⟨y,t⟩,⟨z,A⟩,?_⟩
 split at j
 all_goals grind
theorem wJ k(j:0<=k)(t:k<100):cL k=k.toNat:=by grind [cL]
theorem ay6 n x(h:dm x=aA)(S:dQ x)(C:∀e∈x.es,(Q (lL e):Int)<=n)(W:(Q (lD x.f):Int)<=n)(O:Q (lD x.f)<18446744073709551616) rest :
 sQ n (fU x++rest) az=(x,rest,az):=by
 obtain⟨⟨B,M⟩,⟨A,N⟩,hk⟩:=FD h
 obtain⟨_,_,_,H,y,t,T,L⟩:=S
 obtain⟨kind,br,life,dN,cl,sub,f,es⟩:=x
 simp only at B M A N hk H y t T L C W O
 have:=wJ br B aZ
 have:=wJ cl A aZ
 have h6:∀R,jd (nh ⟨kind,br,life,dN,cl,sub,f,es⟩++R) az=((cL kind,cL br,life,dN,cL cl,sub),R,az):=λR =>
  aAU (cL kind) (cL br) life dN (cL cl) sub (jb _) (jb _) H y (jb _) t R
 have:((min (cL br) 16:Nat):Int)=br:=aZ
 have:((min (cL cl) 32:Nat):Int)=cl:=aZ
 rcases hk with ⟨rfl,rfl,rfl,h8,V⟩|⟨rfl,rfl,rfl⟩|⟨rfl,rfl,hok⟩
 ·have e:fU ⟨1,br,life,dN,cl,0,[],es⟩++rest=nh ⟨1,br,life,dN,cl,0,[],es⟩++(bI (Q es)++(es.flatMap (λe=>jA (lL e))++rest)):=by simp[fU,fN]
  have:=aij (ML n) es (λe j=>⟨V e j,L e j,C e j⟩) rest (Q es) (bL _);have z:cL 1=1:=rfl;unfold sQ;grind [td,qO]
 ·have e:fU ⟨3,br,life,dN,cl,sub,[],[]⟩++rest=nh ⟨3,br,life,dN,cl,sub,[],[]⟩++rest:=by simp[fU]
  have z:cL 3=3:=rfl;unfold sQ;grind [qO]
 ·have e:fU ⟨2,br,life,dN,cl,sub,f,[]⟩++rest=nh ⟨2,br,life,dN,cl,sub,f,[]⟩++(jA (lD f)++rest):=by grind [fU]
  have z:cL 2=2:=rfl;unfold sQ;grind [awR,qO]
theorem Yp{x}(h:x.kind=1):fU x=nh x++(bI (Q x.es)++x.es.flatMap λe=>jA (lL e)):=by grind [fU]
theorem Yq{x}(h:x.kind=2):fU x=nh x++jA (lD x.f):=by grind [fU,nh,jA,lD]
theorem aix{x}(t:¬x.kind=1)(j:¬x.kind=2):fU x=nh x:=by grind [fU,nh]
theorem awT n l wr(h:(sQ n l wr).2.2=az)(ok:dm (sQ n l wr).1=aA):l=fU (sQ n l wr).1++(sQ n l wr).2.1/\wr=false:=by
 have h6:=ay4 l wr;unfold sQ at h ok⊢;generalize jd l wr=r at *;obtain⟨⟨a,b,c,d,e,f⟩,j,t⟩:=r;simp only at h ok h6⊢;have C:∀x:bW,x.kind=(min a 4:Nat)->x.br=(min b 16:Nat)->x.cl=(min e 32:Nat)->x.life=c->x.dN=d->x.sub=f->dm x=aA ->
  nh x=bI a++(bI b++(bI c++(bI d++(bI e++bI f)))):=by
  intro x h1 h2 h3 T V h6 W
  obtain⟨⟨hb0,Y⟩,⟨hc0,hc1⟩,hk⟩:=FD W
  have O:cL x.kind=a:=by
   grind [wJ]
  have S:cL x.br=b:=by grind [wJ]
  have R:cL x.cl=e:=by grind [wJ]
  unfold nh
  rw[O,S,R,T,V,h6]
 split at h
 ·rename_i B;rw[bT B]at ok⊢;have h8:Q (eZ (nR n) (min (bE j t).1 9) (bE j t).2.1 (bE j t).2.2).1=min (bE j t).1 9:=(Nt (ML n) _ _ _).2;obtain⟨A,M⟩:=ahb (ML n) h;obtain⟨N,X⟩:=wL M;obtain⟨y,w⟩:=h6 X;refine⟨?_,w⟩;have z:=C _ rfl rfl rfl rfl rfl rfl ok;obtain⟨-,-,hk⟩:=FD ok;have hes:Q (eZ (nR n) (min (bE j t).1 9) (bE j t).2.1 (bE j t).2.2).1<=8:=by
   rcases hk with hk|hk|hk
   ·exact hk.2.2.2.1
   ·have:=hk.1;simp only[qO]at this;omega
   ·have:=hk.1;simp only[qO]at this;omega
  have hm:min (bE j t).1 9=(bE j t).1:=aZ;rw[Yp Sa,z];simp only;rw[h8,hm];rw[hm]at A;generalize bI a++(bI b++(bI c++(bI d++(bI e++bI f))))=H at y⊢;rw[fN H,fN (bI (bE j t).1),<- A,<- N];exact y
 ·rename_i B;rw[bO B]at ok⊢;split at h
  ·rename_i L;rw[bT L]at ok⊢;obtain⟨A,M⟩:=awS n j t h;obtain⟨y,w⟩:=h6 M;refine⟨?_,w⟩;have z:=C _ rfl rfl rfl rfl rfl rfl ok;rw[Yq Sa,z];simp only;generalize bI a++(bI b++(bI c++(bI d++(bI e++bI f))))=H at y⊢;rw[fN H,<- A];exact y
  ·rename_i L;rw[bO L]at ok⊢;obtain⟨y,w⟩:=h6 h;refine⟨?_,w⟩;have z:=C _ rfl rfl rfl rfl rfl rfl ok;rw[aix Sa Sa,z];exact y
def jP(b:List UInt8):Option bW:=if !(sQ (Q b) b az).2.2&&(sQ (Q b) b az).2.1.isEmpty&&dm (sQ (Q b) b az).1 then I (sQ (Q b) b az).1 else U
def nM(b:List UInt8):bW:=(jP b).getD fo
def AX(b:List UInt8):Int:=if (jP b).isSome then 0 else 110
theorem WY{b x}(h:jP b=I x):b=fU x/\dm x=true:=by
 unfold jP at h;split at h
 ·rename_i t;injection h with h;simp only[fB,Bool.not_eq_true',List.isEmpty_iff]at t;obtain⟨⟨z,y⟩,j⟩:=t;have hb:=(awT _ b az z j).1;rw[y,List.append_nil,h]at hb;rw[h]at j;exact⟨hb,j⟩
 ·cases h
theorem ay7 x(hk:x.kind=1) e(j:e∈x.es):Q (lL e)<=Q (fU x):=by
 have:Q (jA (lL e))<=Q (x.es.flatMap λe=>jA (lL e)):=by
  obtain⟨s,t,y⟩:=List.append_of_mem j
  grind
 unfold fU
 grind [lL,fU,jA]
theorem agh x(h:dm x=aA)(j:dQ x):jP (fU x)=I x:=by
 obtain⟨-,-,hk⟩:=FD h
 have z:Q (lD x.f)<18446744073709551616/\(Q (lD x.f):Int)<=(Q (fU x):Int):=by
  have:1<=Q (bI (cL x.kind)):=by simp[bI]
  have hp:1<=Q (nh x):=by grind [nh]
  rcases hk with ⟨_,_,C,_⟩|⟨_,C,_⟩|⟨hk,_,B⟩
  ·grind [dm,dQ,jP,fU,lD,bI,iD,be]
  ·grind [dm,dQ,jP,fU,lD,bI,iD,be]
  ·refine⟨?_,?_⟩
   ·have h8:=FG B;have:=j.2.2.2.2.2.2.1;have:=eM (Q x.f) aZ;have:Q (x.f.flatMap lX)<=101*Q x.f:=by
     have:∀l:List eT,(∀t∈l,iU t=aA/\jF t)->Q (l.flatMap lX)<=101*Q l:=aiy
     grind
    unfold lD;rw[eU];omega
   ·grind [dm,dQ,jP,fU,jA]
 have H:∀e∈x.es,(Q (lL e):Int)<=(Q (fU x):Int):=by
  intro e N;rcases hk with ⟨hk,_⟩|⟨_,_,hn⟩|⟨_,hn,_⟩
  ·simp_all [ay7]
  all_goals grind
 have A:=ay6 (Q (fU x)) x h j H z.2 z.1 []
 rw[List.append_nil]at A
 unfold jP
 grind
theorem agi{l}(h:okF l=aA)(z:∀x∈l,jF x):Q (lD l)<=900:=by
 have h8:=FG h;have:=eM (Q l) aZ;have j:∀l:List eT,(∀t∈l,iU t=aA/\jF t)->Q (l.flatMap lX)<=101*Q l:=aiy;have h6:=j l λt ht=>⟨h8.2 t ht,z t ht⟩
 unfold lD;rw[eU];omega
theorem afA(es:List (List dW))(h:∀e∈es,iC e=aA/\∀a∈e,ny a):Q (es.flatMap λe=>jA (lL e))<=2009*Q es:=by
 induction es with
 | nil=>simp
 | cons y l j =>
  have:=j λt B=>h t bG
  obtain⟨A,z⟩:=h y bq
  grind [XF,eM,lL,jA,bI,eU,fY]
theorem MW{x}(h:dm x=aA)(y:dQ x):Q (fU x)<=20000:=by
 obtain⟨_,_,hk⟩:=FD h;obtain⟨_,_,_,j,t,z,H,R⟩:=y;have:=eM (cL x.kind) (jb _);have:=eM (cL x.br) (jb _);have:=eM x.life j;have:=eM x.dN t;have:=eM (cL x.cl) (jb _);have:=eM x.sub z;have:Q (nh x)<=54:=by grind [nh]
 rcases hk with ⟨hk,_,_,h8,O⟩|⟨hk,_,_⟩|⟨hk,_,N⟩
 ·grind [afA,eM,Yp,eU]
 ·grind [dm,dQ,fU]
 ·grind [agi,eM,lD,Yq,eU,jA]
structure Rec where
 kind:Int
 n:Nat
 e:bW
 br:Int
 life:Nat
 dN:Nat
 deriving DecidableEq
def KS:Rec:=⟨0,0,fo,0,0,0⟩
def lH(x:Rec):Prop:=cV x.kind/\x.n<18446744073709551616/\dQ x.e/\cV x.br/\x.life<18446744073709551616/\x.dN<18446744073709551616
def ze(x:Rec):Bool:=decide (x.br=0)&&decide (x.life=0)&&decide (x.dN=0)
def fK(x:Rec):Bool :=
 if x.kind=1 then decide (x.e=fo)&&ze x
 else if x.kind=2 then dm x.e&&ze x
 else if x.kind=3 then decide (x.n=0)&&dm x.e&&ze x
 else if x.kind=4∨x.kind=5 then tz x.br&&decide (x.n=0)&&decide (x.e=fo)else az
def dw(x:Rec):List UInt8 :=
 bI (cL x.kind)++(bI x.n++(if x.kind=2∨x.kind=3 then jA (fU x.e)else if x.kind=4∨x.kind=5 then bI (cL x.br)++(bI x.life++bI x.dN)else []))
theorem Eh{x}(h:fK x=aA):(x.kind=1/\x.e=fo/\x.br=0/\x.life=0/\x.dN=0)∨((x.kind=2∨x.kind=3/\x.n=0)/\dm x.e=aA/\x.br=0/\x.life=0/\x.dN=0) ∨
 ((x.kind=4∨x.kind=5)/\(0<=x.br/\x.br<16)/\x.n=0/\x.e=fo):=by
 unfold fK ze tz at h
 split at h
 ·grind
 ·split at h
  ·grind
  ·split at h;all_goals grind
def pk(m:Int):Dy Rec:=λl wr =>
 let a:=bE l wr
 let b:=bE a.2.1 a.2.2
 let k:=min a.1 6
 if k=2∨k=3 then
  match jP (bY m b.2.1 b.2.2).1 with
  | none=>(KS,(bY m b.2.1 b.2.2).2.1,aA)
  | some e=>(⟨(k:Nat),b.1,e,0,0,0⟩,(bY m b.2.1 b.2.2).2)
 else if k=4∨k=5 then
  let c:=bE b.2.1 b.2.2
  let d:=bE c.2.1 c.2.2
  let e:=bE d.2.1 d.2.2
  (⟨(k:Nat),b.1,fo,(min c.1 16:Nat),d.1,e.1⟩,e.2)
 else (⟨(k:Nat),b.1,fo,0,0,0⟩,b.2)
theorem agj m x(h:fK x=aA)(L:lH x)(hm:(Q (fU x.e):Int)<=m)(B:Q (fU x.e)<18446744073709551616) rest:pk m (dw x++rest) az=(x,rest,az):=by
 obtain⟨kind,n,e,br,life,dN⟩:=x;obtain⟨-,hn,H,-,A,C⟩:=L;simp only at hn H A C hm B;rcases Eh h with ⟨hk,j,hb,t,z⟩|⟨hk,j,hb,t,z⟩|⟨hk,hb,t,j⟩
 ·simp only at hk j hb t z;subst hk j hb t z;have y:dw ⟨1,n,fo,0,0,0⟩++rest=bI 1++(bI n++rest):=by
   grind [dw,cL,fN]
  simp only[pk];rw[y,td 1 bC];simp only[td,hn];simp
 ·simp only at hk j hb t z;subst hb t z;have:kind=2∨kind=3:=aZ;have N:=wJ kind aZ aZ;have y:dw ⟨kind,n,e,0,0,0⟩++rest=bI (cL kind)++(bI n++(bI (Q (fU e))++fU e++rest)):=by
   grind [dw,jA,fN]
  have M:=Hq m (fU e) B hm rest;simp only[pk];rw[y,td _ (jb _)];simp only[td,hn];rw[bT aZ,M];simp only[agh e j H];grind
 ·simp only at hk hb t j;subst t j;have N:=wJ kind aZ aZ;have:=wJ br hb.1 aZ;have y:dw ⟨kind,0,fo,br,life,dN⟩++rest=bI (cL kind)++(bI 0++(bI (cL br)++(bI life++(bI dN++rest)))):=by
   grind [dw,fN]
  simp only[pk];rw[y,td _ (jb _)];simp only[td,A,C,jb,show (0:Nat)<18446744073709551616 by decide];grind
theorem avo m l wr(h:(pk m l wr).2.2=az)(ok:fK (pk m l wr).1=aA):l=dw (pk m l wr).1++(pk m l wr).2.1/\wr=false:=by
 have B:=@wL l wr;unfold pk at h ok⊢;simp only at h ok⊢;generalize bE l wr=a at *;obtain⟨a,t,z⟩:=a;simp only at h ok B⊢;have hb:=@wL t z;generalize bE t z=b at *;obtain⟨b,j,y⟩:=b;simp only at h ok hb⊢;split at h
 ·rename_i hk;rw[bT hk]at ok⊢;have A:=@FJ m j y;generalize bY m j y=r at *;obtain⟨bs,H,C⟩:=r;simp only at h ok A⊢;cases hd:jP bs with
  | none=>rw[hd]at h;cases h
  | some e =>
   grind [WY,cL,wJ,dw,jA,fN,bI]
 ·grind [wL,bE,Eh,cL,wJ,dw,fN]
def pg(b:List UInt8):Option Rec:=if !(pk (Q b) b az).2.2&&(pk (Q b) b az).2.1.isEmpty&&fK (pk (Q b) b az).1 then I (pk (Q b) b az).1 else U
def wO(b:List UInt8):Rec:=(pg b).getD KS
def wP(b:List UInt8):Int:=if (pg b).isSome then 0 else 110
theorem at6{b x}(h:pg b=I x):b=dw x/\fK x=true:=by
 unfold pg at h;split at h
 ·rename_i j;injection h with h;simp only[fB,Bool.not_eq_true',List.isEmpty_iff]at j;obtain⟨⟨z,t⟩,y⟩:=j;grind [avo]
 ·cases h
theorem aiz:Q (fU fo)=6:=by simp[fU,nh,fo,bI,cL,iD,be]
theorem avp x(h:fK x=aA)(y:lH x):pg (dw x)=I x:=by
 have t:Q (fU x.e)<18446744073709551616/\(Q (fU x.e):Int)<=30000/\((x.kind=2∨x.kind=3)->(Q (fU x.e):Int)<=(Q (dw x):Int)):=by
  have B:(x.kind=2∨x.kind=3)->(Q (fU x.e):Int)<=(Q (dw x):Int):=by
   grind [fK,lH,pg,dw,jA]
  rcases Eh h with ⟨_,j,_⟩|⟨_,j,_⟩|⟨_,_,_,j⟩
  ·simp_all [aiz]
  ·have:=MW j y.2.2.1;exact⟨aZ,aZ,B⟩
  ·simp_all [aiz]
 have A:pk (Q (dw x)) (dw x++[]) az=(x,[],az):=by
  by_cases hk:x.kind=2∨x.kind=3
  ·grind [agj]
  ·have C:=agj 30000 x h y t.2.1 t.1 [];rw[<- C];have hn:(bE (dw x++[]) az).1=cL x.kind:=by unfold dw;rw[fN,td _ (jb _)]
   have z:¬(min (bE (dw x++[]) az).1 6=2∨min (bE (dw x++[]) az).1 6=3):=by
    rw[hn];rcases Eh h with ⟨g,_⟩|⟨g,_⟩|⟨g,_⟩
    ·rw[wJ _ aZ aZ];omega
    ·omega
    ·rw[wJ _ aZ aZ];omega
   unfold pk;simp only;rw[bO z,bO z]
 rw[List.append_nil]at A;unfold pg;rw[A];simp[h]
abbrev cB:=Int×Nat×Nat
abbrev di(a:cB):aQ:=av #[G J a.1,G E (a.2.1:Int),G E (a.2.2:Int)]
section
open Go Go.RowKit Go.ChangeShapes Go.WideShapes Go.ChangeAt
def dS:fE (List dW) where
 size:=1
 rel l cs w:=∃v,cs=[v]/\iT l v w
 len:=by rintro _ _ _⟨v,rfl,_⟩;rfl
 one:=by rintro _ _ _⟨v,rfl,A,c,rfl,_⟩ u j;simp at j;subst j;rfl
 st:=by rintro _ _ _ _⟨v,rfl,h⟩ k;exact⟨v,rfl,nL _ _ _ _ h k⟩
abbrev gY(a:cB):List aQ:=[G J a.1,G E (a.2.1:Int),G E (a.2.2:Int)]
def dX(a:cB):Prop:=cV a.1/\a.2.1<18446744073709551616/\a.2.2<18446744073709551616
def dJ:fE cB where
 size:=3
 rel a cs _:=cs=gY a
 len:=by rintro _ _ _ rfl;rfl
 one:=by rintro _ _ _ rfl u j;simp at j;rcases j with rfl|rfl|rfl <;> rfl
 st:=by rintro _ _ _ _ h _;exact h
abbrev aaU(x:bW)(vf ve:aQ):List aQ:=[G J x.kind,G J x.br,G E (x.life:Int),G E (x.dN:Int),G J x.cl,G E (x.sub:Int),vf,ve]
abbrev bQ(x:bW)(vf ve:aQ):Array aQ:=#[G J x.kind,G J x.br,G E (x.life:Int),G E (x.dN:Int),G J x.cl,G E (x.sub:Int),vf,ve]
theorem dK{l v w}(h:fQ l v w):∃A c,v=F A (Q l) c:=by
 grind [fQ]
theorem tc{l v w}(h:iT l v w):∃A c,v=F A (Q l) c:=by
 grind [iT]
theorem bD{α S}{l:List α}{v w}(h:bw S l v w):∃A c,v=F A (Q l) c:=by
 grind [bw]
def cF:fE bW where
 size:=8
 rel x cs w:=∃vf ve,cs=aaU x vf ve/\fQ x.f vf w/\bw dS x.es ve w
 len:=by rintro _ _ _⟨vf,ve,rfl,_⟩;rfl
 one:=by rintro x _ _⟨vf,ve,rfl,⟨A,c,rfl,_⟩,⟨y,d,rfl,_⟩⟩ u hu;exact aiA
 st:=by rintro _ _ _ _⟨vf,ve,rfl,t,j⟩ k;exact⟨vf,ve,rfl,fJ _ _ _ _ t k,cH j k⟩
def fc(x:bW)(v:aQ)(w:aP):Prop:=∃vf ve,v=av (bQ x vf ve)/\fQ x.f vf w/\bw dS x.es ve w
theorem N5{x v w w'}(h:fc x v w)(k:K w w'):fc x v w':=aiB
theorem aCn{x v w}(h:fc x v w):∀W,K w W->fc x v W:=λ_ k=>N5 h k
theorem ay8 w:fc fo (av #[G J 0,G J 0,G E 0,G E 0,G J 0,G E 0,F U 0 0,F U 0 0]) w :=
 ⟨_,_,rfl,⟨U,0,rfl,Reads.nil _ _ _ _⟩,gN _ _⟩
abbrev gP(x:Rec)(vf ve:aQ):Array aQ:=#[G J x.kind,G E (x.n:Int),G J x.e.kind,G J x.e.br,G E (x.e.life:Int),G E (x.e.dN:Int),G J x.e.cl,G E (x.e.sub:Int),vf,ve,G J x.br,G E (x.life:Int),G E (x.dN:Int)]
def si(x:Rec)(v:aQ)(w:aP):Prop:=∃vf ve,v=av (gP x vf ve)/\fQ x.e.f vf w/\bw dS x.e.es ve w
theorem Tp{x v w w'}(h:si x v w)(k:K w w'):si x v w':=aiB
theorem aCo{x v w}(h:si x v w):∀W,K w W->si x v W:=λ_ k=>Tp h k
def x7:fE Rec where
 size:=13
 rel x cs w:=∃vf ve,cs=(gP x vf ve).toList/\fQ x.e.f vf w/\bw dS x.e.es ve w
 len:=by rintro _ _ _⟨vf,ve,rfl,_⟩;rfl
 one:=by rintro x _ _⟨vf,ve,rfl,⟨A,c,rfl,_⟩,⟨z,d,rfl,_⟩⟩ u j;simp at j;rcases j with rfl|rfl|rfl|rfl|rfl|rfl|rfl|rfl|rfl|rfl|rfl|rfl|rfl <;> rfl
 st:=by rintro _ _ _ _⟨vf,ve,rfl,y,t⟩ k;exact⟨vf,ve,rfl,fJ _ _ _ _ y k,cH t k⟩
section
variable {H:Type} {enc:TypeId×aQ->H} {w:aP} {base:Nat} {r:Reach} {b0:Nat} {spare:Nat->Bool} {held:Bool} {v:aQ} {d:DataW H} {p:List MemPlace} {α:Type}
end
end
def qM:List aQ->Nat->List aQ->List aQ
 | xs,_,[]=>xs
 | xs,q,u :: us=>qM (xs.set q u) (q+1) us
def dL:aP->Nat->Nat->List aQ->aP
 | w,_,_,[]=>w
 | w,g,q,u :: us=>dL (aV w ⟨g,q,U⟩ u) g (q+1) us
theorem WZ:∀(us xs:List aQ) (q:Nat),q+Q us=Q xs->qM xs q us=xs.take q++us
 | [],xs,q,h=>by simp only[qM,List.append_nil];rw[iw (by simp at h;omega)]
 | u :: us,xs,q,h=>by
  simp only[fY]at h;simp only[qM];rw[WZ us (xs.set q u) (q+1) (by rw[List.length_set];omega),List.take_add_one];have:(xs.set q u)[q]?=I u:=by rw[List.getElem?_set_self (by omega)]
  rw[this,List.take_set_of_le (bL _)];simp
theorem ahg{g e}:∀(us:List aQ) (cs:Array aQ) (q:Nat) (w:aP),bn w g e cs->bn (dL w g q us) g e (qM cs.toList q us).toArray
 | [],cs,q,w,h=>by simpa [dL,qM]using h
 | u :: us,cs,q,w,h=>by have:=ahg us (cs.setIfInBounds q u) (q+1) _ (h.cz q u);simpa [dL,qM,Array.toList_setIfInBounds]using this
theorem Cy{w g e cs us}(h:bn w g e cs)(j:Q us=cs.size):bn (dL w g 0 us) g e us.toArray:=by have:=ahg us cs 0 w h;rwa [WZ us cs.toList 0 bG,TG,bU]at this
theorem cE.floor{α S}{l:List α}{v w base lo j e}(h:cE base lo e S l v w)(t:j<=lo):cE base j e S l v w:=by obtain⟨css,z,y,A⟩:=h;exact⟨css,z,y,λw' u=>A w' (u.more t (λ_ _ h=>h))⟩
theorem iF.up{w w' B v l}(h:iF w B v l)(u:bV B U w w'):iF w' B v l:=by refine⟨h.1,h.2.imp id ?_⟩;exact Yr
theorem XG(l:List dW):∀u∈l.flatMap lV,u.oneCell'=true:=by
 intro u j
 obtain⟨x,_,t⟩:=List.mem_flatMap.1 j
 grind [aha]
theorem J4(l:List eT):∀u∈l.flatMap gT,u.oneCell'=true:=by intro u t;obtain⟨x,_,j⟩:=List.mem_flatMap.1 t;simp at j;rcases j with rfl|rfl|rfl|rfl|rfl <;> rfl
theorem eN{α S}{l:List α}{A w}(h:xu S l A w) i(B:i<Q l)(y:0<S.size) :
 ∃b t cs,A=I ⟨b,t,U⟩/\Q cs=S.size/\(∀W,K w W->S.rel l[i] cs W)/\(∀W,K w W->W.cell? ⟨b,t+i*S.size,U⟩=cs[0]?)/\∀W,K w W->∀j,j<S.size->W.cell? ⟨b,t+i*S.size+j,U⟩=cs[j]?:=by
 obtain⟨b,t,cs,e,hb,z,H,C⟩:=KB h i B y
 have key:∀W,K w W->∀j,j<S.size->W.cell? ⟨b,t+i*S.size+j,U⟩=cs[j]?:=λW k j L=>(k.cell (p:=⟨b,t+i*S.size+j,U⟩) hb).trans (C j L)
 exact⟨b,t,cs,e,z,λW k=>S.st H k,λW k=>key W k 0 y,key⟩
theorem Yt{w:aP}{base g n cap q e size xs}(h:w.ownsRow base e size (F (I ⟨g,0,U⟩) n cap) n xs)(_:q<Q xs) u :
 (aV w ⟨g,q,U⟩ u).ownsRow base e size (F (I ⟨g,0,U⟩) n cap) n (xs.set q u):=by
 refine⟨by simpa using h.1,aJ ?_⟩
 rcases h.2 with ⟨A,_⟩|⟨L,H,cur,C,t,j,z,B,M,y⟩
 ·cases A
 ·injection C with e1 _ e3;injection e1 with e1;injection e1 with e1;subst e1 e3;refine⟨g,cap,cur.setIfInBounds q u,rfl,t,(show bn w g e cur from j).cz q u,z,B,bG,?_⟩;rw[Array.toList_setIfInBounds,<- y,List.take_set]
theorem Hi{w:aP}{base g n cap e size xs}(h:w.ownsRow base e size (F (I ⟨g,0,U⟩) n cap) n xs):(∀q,q<Q xs->w.cell? ⟨g,q,U⟩=xs[q]?)/\∀q,w.frozen? ⟨g,q,U⟩=false:=by
 rcases h.2 with ⟨y,_⟩|⟨L,C,cur,z,A,j,B,H,M,t⟩
 ·cases y
 ·injection z with e1 _ e3;injection e1 with e1;injection e1 with e1;subst e1 e3;refine⟨λq N=>?_,λq=>(show bn w g e cur from j).frozen q⟩;rw[(show bn w g e cur from j).cell q,<- t];grind
theorem Q3{α:Type} n u:∀(css:List (List α)),(∀cs∈css,Q cs=n)->∀(k j:Nat) (hk:k<Q css),j<n->css.flatten.set (k*n+j) u=(css.set k ((css[k]).set j u)).flatten
 | [],_,k,j,hk,_=>by simp at hk
 | c :: css,h,0,j,hk,hj=>by have hc:=h c bq;simp only[Nat.zero_mul,ng,List.flatten_cons,tB,List.getElem_cons_zero];rw[List.set_append,bT aZ]
 | c :: css,h,k+1,j,hk,hj=>by have hc:=h c bq;have t:=Q3 n u css (λx hx=>h x Ki) k j vD hj;simp only[List.flatten_cons,tC,List.getElem_cons_succ];rw[List.set_append,bO RZ,<- t];congr 2;rw[hc,Nat.succ_mul];omega
theorem Each.set{α S l css w}(h:Each S l css w) k{x:α}{cs}(t:S.rel x cs w):Each S (l.set k x) (css.set k cs) w:=by
 refine⟨Nw,λi y z=>?_⟩;by_cases j:k=i
 ·grind
 ·rw[List.getElem_set_ne j,List.getElem_set_ne j];exact h.2 i bG bG
structure bf(X:Nat->Prop)(w w':aP):Prop where
 os:w'.os=w.os
 tape:w'.tape=w.tape
 output:w'.output=w.output
 size:Z (D w)<=Z (D w')
 block:∀k,k<Z (D w)->¬X k->w'.heap[k]?=w.heap[k]?
section
variable {X:Nat->Prop} {a b c w w':aP}
theorem bf.rf X w:bf X w w:=⟨rfl,rfl,rfl,bL _,λ_ _ _=>rfl⟩
theorem bf.tr(h:bf X a b)(k:bf X b c):bf X a c :=
 ⟨k.os.trans h.os,k.tape.trans h.tape,k.output.trans h.output,cI h.size k.size,λi t j=>(k.block i (cQ t h.size) j).trans (h.block i t j)⟩
theorem bf.bS(h:K w w') X:bf X w w':=⟨h.os,h.tape,h.output,h.size,λi j _=>h.block i j⟩
theorem bf.gy{row}(h:w.grownBy w' row)(t:∀g,row=I g->X g):bf X w w' :=
 ⟨h.os,h.tape,h.output,h.size,λi y j=>h.block i y (λe=>j (t i e.symm))⟩
theorem bf.uE{lo row}(h:bf X w w')(y:∀k,lo<=k->k<Z (D w)->I k≠row->¬X k):bV lo row w w' :=
 ⟨h.os,h.tape,h.output,h.size,λi z j t=>h.block i j (y i z j t)⟩
theorem bV.upN{lo row}(h:bV lo row w w')(t:∀k,k<lo∨I k=row->X k):bf X w w' :=
 ⟨h.os,h.tape,h.output,h.size,λi z j=>h.block i (Nat.le_of_not_lt λy=>j (t i (aI y))) z (λe=>j (t i (aJ e)))⟩
theorem Hr{base e size n v xs}(h:w.ownsRow base e size v n xs)(k:∀g,base<=g->g<Z (D w)->aW v=I g->w'.heap[g]?=w.heap[g]?):w'.ownsRow base e size v n xs:=by refine⟨h.1,h.2.imp id ?_⟩;rintro ⟨g,cap,cur,rfl,j,t,y⟩;exact⟨g,cap,cur,rfl,j,(k g j (aG.1 t).1 rfl).trans t,y⟩
theorem nK{base e size n v xs}(h:w.ownsRow base e size v n xs){g}(hg:aW v=I g):∃cur,bn w g e cur:=by
 rcases h.2 with ⟨rfl,_⟩|⟨t,cap,cur,rfl,_,j,_⟩
 ·cases hg
 ·injection hg with hg;subst hg;exact⟨cur,j⟩
theorem bn.js{g t j cs y}(h:bn w g t cs)(z:bn w g j y):t=j:=by
 grind [bn]
theorem Q9{α S}{l:List α}{v base e css}(j:w.ownsRow base e S.size v (Q l) css.flatten)(t:Each S l css w):bw S l v w:=by
 have y:=j;rcases j.2 with ⟨rfl,z⟩|⟨g,cap,cur,rfl,_,_,hn,_⟩
 ·grind [List.eq_nil_of_length_eq_zero,gN]
 ·exact⟨_,_,rfl,⟨css,t,Reads.AW y⟩,hn⟩
theorem RB{base g n cap:Nat}{e:TypeId}{size:Nat}:∀(us xs:List aQ) (q:Nat) (w:aP),w.ownsRow base e size (F (I ⟨g,0,U⟩) n cap) n xs->q+Q us<=Q xs ->
 (dL w g q us).ownsRow base e size (F (I ⟨g,0,U⟩) n cap) n (qM xs q us)
 | [],_,_,_,h,_=>h
 | u :: us,xs,q,w,h,hl=>by simp only[dL,qM];simp only[fY]at hl;exact RB us _ _ _ (Yt h aZ u) cG
theorem QT n:∀(us:List aQ) (css:List (List aQ)),(∀cs∈css,Q cs=n)->∀(k j:Nat) (hk:k<Q css),j+Q us<=n->qM css.flatten (k*n+j) us=(css.set k (qM (css[k]) j us)).flatten
 | [],css,h,k,j,hk,hj=>by simp[qM]
 | u :: us,css,h,k,j,hk,hj=>by
  simp only[fY]at hj;simp only[qM];rw[Q3 n u css h k j hk aZ];have y:∀cs∈css.set k ((css[k]).set j u),Q cs=n:=by
   intro cs t;rcases List.mem_or_eq_of_mem_set t with z|rfl
   ·exact h cs z
   ·simp;exact h _ (dG hk)
  have A:=QT n us (css.set k ((css[k]).set j u)) y k (j+1) vD aZ;rw[show k*n+j+1=k*n+(j+1) by omega,A];simp
theorem bf.sets{g:Nat}(j:X g):∀(us:List aQ) (q:Nat) (w:aP),bf X w (dL w g q us)
 | [],_,_=>bf.rf _ _
 | u :: us,q,w=>by simp only[dL];refine bf.tr (b:=w.setCell ⟨g,q,U⟩ u) ⟨rfl,rfl,rfl,Yu,λi _ h=>Below.heap_setCell w ⟨g,q,U⟩ u i (by rintro rfl;exact h j)⟩ (bf.sets j us _ _)
end
section
open Go Go.RowKit Go.ChangeMaps
section
variable {α:Type} [DecidableEq α] {enc:α->aQ} {P:Program} {kt:TypeId}
def iG(k:α):List (α×aQ)->Nat->Option (Nat×aQ)
 | [],_=>U
 | p :: r,i=>if p.1=k then I (i,p.2)else iG k r (i+1)
def eA(bu:List (α×aQ))(k:α):Option aQ:=(iG k bu 0).map (·.2)
def uo(bu:List (α×aQ))(k:α)(v:aQ):List (α×aQ):=match iG k bu 0 with|some (i,_)=>bu.modify i λp=>(p.1,v)|none=>bu++[(k,v)]
def EP(bu:List (α×aQ))(k:α):List (α×aQ):=match iG k bu 0 with|some (i,_)=>bu.eraseIdx i|none=>bu
theorem Xn{k}{bu:List (α×aQ)}:∀ {i j:Nat} {v:aQ},iG k bu i=I (j,v)->i<=j/\bu[j-i]?=I (k,v):=by
 induction bu with
 | nil=>intro i j v h;cases h
 | cons p r t =>
  grind [iG]
structure IC(P:Program)(kt:TypeId)(enc:α->aQ):Prop where
 find:∀(k:α) (es:List MapEntry) (bu:List (α×aQ)) (w:aP),es.map (λe=>(e.key,e.val))=bu.map (λp=>(enc p.1,p.2))->(Instr.findKey kt (enc k) es).run P w=.ok (iG k bu 0) w
 nX:∀(k:α) (em:Bool) (w:aP),(Instr.checkKey em 10000 kt (enc k)).run P w=.ok () w
 stays:∀(k:α),Instr.sameBits 10000 (enc k) (enc k)=aA
theorem arY{β γ:Type}{g:β->γ} f(h:∀x,g (f x)=g x):∀(l:List β) (i:Nat),(l.modify i f).map g=l.map g:=by
 intro l
 induction l with
 | nil=>intro i;cases i <;> rfl
 | cons x l j =>
  intro i
  cases i with
  | zero=>simp[h]
  | succ i=>simp[j]
def yy(es:List MapEntry)(c:Nat):Prop:=(es.map (·.born)).Pairwise (· < ·)/\∀n∈es.map (·.born),n<c
theorem yy.push{es c}(h:yy es c) k v:yy (es++[⟨k,v,c⟩]) (c+1):=by
 refine⟨?_,λn hn=>?_⟩
 ·rw[List.map_append];exact List.pairwise_append.2 ⟨h.1,bq,λa j b hb=>by simp at hb;subst hb;exact h.2 a j⟩
 ·rw[List.map_append,De]at hn;rcases hn with hn|hn
  ·have:=h.2 n hn;omega
  ·grind
theorem yy.same{es j c}(h:yy es c)(e:j.map (·.born)=es.map (·.born)):yy j c:=by
 grind [yy]
theorem yy.sub{es j c}(h:yy es c)(s:j.Sublist es):yy j c:=⟨h.1.sublist (s.map _),λn hn=>h.2 n ((s.map _).mem hn)⟩
def fC(enc:α->aQ)(w:aP)(b:Nat)(bu:List (α×aQ)):Prop :=
 ∃(es:Array MapEntry) (c:Nat),w.heap[b]?=I (.map es c)/\es.toList.map (λe=>(e.key,e.val))=bu.map (λp=>(enc p.1,p.2))/\yy es.toList c
end
section
variable {α:Type} {enc:α->aQ} {P:Program} {kt:TypeId}
theorem fC.new(w:aP):fC enc (aU w (.map #[] 0)) (Z (D w)) []:=⟨#[],0,heap_alloc_new w _,rfl,by simp[yy]⟩
end
section
variable {α:Type} [DecidableEq α] {enc:α->aQ} {P:Program} {kt:TypeId}
end
section
variable {α:Type} {enc:α->aQ} {P:Program} {kt:TypeId}
theorem fC.lt{w b bu}(h:fC enc w b bu):b<Z (D w):=by
 obtain⟨es,c,h,_⟩:=h
 grind
end
section
variable {α:Type} [DecidableEq α] {enc:α->aQ} {P:Program} {kt:TypeId}
end
section
variable {α:Type} {enc:α->aQ} {P:Program} {kt:TypeId}
theorem fC.cA{w w' b bu X}(h:fC enc w b bu)(hb:bf X w w')(j:¬X b):fC enc w' b bu:=by have t:=h.lt;obtain⟨es,c,z,y⟩:=h;exact⟨es,c,(hb.block b t j).trans z,y⟩
end
section
variable {α:Type} [DecidableEq α] {enc:α->aQ} {P:Program} {kt:TypeId}
end
section
variable {α:Type} {enc:α->aQ} {P:Program} {kt:TypeId}
theorem fC.st{w w' b bu}(h:fC enc w b bu)(k:K w w'):fC enc w' b bu:=by have j:=h.lt;obtain⟨es,c,y,t⟩:=h;exact⟨es,c,(k.block b j).trans y,t⟩
end
section
variable {α:Type} [DecidableEq α] {enc:α->aQ} {P:Program} {kt:TypeId}
end
section
variable {α:Type} {enc:α->aQ} {P:Program} {kt:TypeId}
theorem fC.cells{w b bu}(h:fC enc w b bu){e cs}(hb:bn w b e cs):False:=by obtain⟨es,c,j,_⟩:=h;have:=j.symm.trans hb;cases this
end
section
variable {α:Type} [DecidableEq α] {enc:α->aQ} {P:Program} {kt:TypeId}
theorem Ej{t B}(y:IC P kt enc)(C:P.underlying t=some (.map kt B)){w z}(hz:(zeroValue B).run P w=.ok z w){b bu}(h:fC enc w b bu) k :
 (Instr.lookup t (.map (I b)) (enc k) aA).run P w=.ok (au #[(eA bu k).getD z,ar (eA bu k).isSome]) w/\(Instr.lookup t (.map (I b)) (enc k) az).run P w=.ok ((eA bu k).getD z) w:=by
 obtain⟨es,c,A,H,L⟩:=h
 have j:=y.find k es.toList bu w H
 unfold eA
 cases hr:iG k bu 0 with
 | none=>rw[hr]at j;simp[Instr.lookup,run_underlying C,MapKept.run_getObj_map A,y.nX,j,hz,Result.andThen]
 | some x=>rw[hr]at j;simp[Instr.lookup,run_underlying C,MapKept.run_getObj_map A,y.nX,j,Result.andThen]
theorem FK{t M}(B:IC P kt enc)(H:P.underlying t=some (.map kt M)){w b bu}(h:fC enc w b bu) k v :
 ∃w',(Instr.mapUpdate t (.map (I b)) (enc k) v).run P w=.ok () w'/\fC enc w' b (uo bu k v)/\w.grownBy w' (I b):=by
 obtain⟨es,c,y,h2,C⟩:=h
 have z:=B.find k es.toList bu w h2
 have hg:∀o,w.grownBy (setBlock w b o) (I b):=λo=>⟨rfl,rfl,rfl,RU,λi _ A=>heap_setBlock_other y _ (λe=>A Hy)⟩
 unfold uo
 cases hr:iG k bu 0 with
 | none =>
  rw[hr]at z;refine⟨setBlock w b (.map (es.push ⟨enc k,v,c⟩) (c+1)),?_,⟨_,_,heap_setBlock_same y _,?_,by simpa using C.push (enc k) v⟩,hg _⟩
  ·simp[Instr.mapUpdate,run_underlying H,MapKept.run_getObj_map y,B.nX,z,MapKept.run_setObj_map _ y,Result.andThen,setBlock]
  ·simp[h2]
 | some x =>
  obtain⟨i,R⟩:=x;rw[hr]at z;obtain⟨-,A⟩:=Xn hr;have O:Q es.toList=Q bu:=aiC;have N:i<Q bu:=bG;have L:(es[i]?).map (·.key)=I (enc k):=by
   have:=congrArg (λl=>l[i]?) h2
   simp only[List.getElem?_map]at this
   rw[show i-0=i by omega]at A
   rw[A]at this
   simp only[aD,Option.map_some]at this
   cases he:es[i]? with
   | none=>rw[he]at this;simp at this
   | some e=>rw[he]at this;simp at this;simp[this.1]
  refine⟨setBlock w b (.map (es.modify i λe=>{ e with key:=enc k,val:=v }) c),?_,⟨_,_,heap_setBlock_same y _,?_,C.same (by grind [Array.toList_modify,arY])⟩,hg _⟩
  ·simp[Instr.mapUpdate,run_underlying H,MapKept.run_getObj_map y,B.nX,z,L,Instr.keyThatStays,B.stays,MapKept.run_setObj_map _ y,Result.andThen,setBlock]
  ·rw[Array.toList_modify];apply List.ext_getElem?;intro j;have S:=congrArg (λl=>l[j]?) h2;grind
theorem ay9{t A}(KG:IC P kt enc)(hT:P.underlying t=some (.map kt A)){w b bu}(h:fC enc w b bu) k ty z(hts:z[0]?=I t) :
 ∃w',(Builtin.delete_ z ty #[.map (I b),enc k]).run P w=.ok (au #[]) w'/\fC enc w' b (EP bu k)/\w.grownBy w' (I b):=by
 obtain⟨es,c,h1,h2,y⟩:=h
 have hf:=KG.find k es.toList bu w h2
 have hg:∀o,w.grownBy (setBlock w b o) (I b):=λo=>⟨rfl,rfl,rfl,RU,λi _ j=>heap_setBlock_other h1 _ (λe=>j Hy)⟩
 have:Q es.toList=Q bu:=aiC
 unfold EP
 cases hr:iG k bu 0 with
 | none => rw[hr]at hf;refine⟨setBlock w b (.map es c),?_,⟨_,_,heap_setBlock_same h1 _,h2,y⟩,hg _⟩;exact aiD
 | some x =>
  obtain⟨i,H⟩:=x;rw[hr]at hf;obtain⟨-,j⟩:=Xn hr;have:i<es.size:=bG;refine⟨setBlock w b (.map (es.eraseIdxIfInBounds i) c),?_,⟨_,_,heap_setBlock_same h1 _,?_,y.sub (by grind [Array.toList_eraseIdx,List.eraseIdx_sublist])⟩,hg _⟩
  ·exact aiD
  ·grind [Array.toList_eraseIdx,List.map,List.eraseIdx_eq_take_drop_succ,List.map_take,List.map_drop]
end
def encI(n:Int):aQ:=G J n
theorem Dn{P kt}(j:P.underlying kt=some (.int .i64)):IC P kt encI:=by
 refine⟨λk es bu w h=>?_,λk z w=>QI j k z w,λk=>by simp[encI,Instr.sameBits]⟩;have key:∀(es:List MapEntry) (bu:List (Int×aQ)) (i:Nat),es.map (λe=>(e.key,e.val))=bu.map (λp=>(encI p.1,p.2))->Instr.findNow (.int J) (G J k) es i=I (iG k bu i):=by
  intro es
  induction es with
  | nil=>intro bu i h;cases bu with
   | nil=>rfl
   | cons p r=>simp at h
  | cons e es B=>intro bu i h;cases bu with
   | nil=>simp at h
   | cons p r =>
    simp only[lT,List.cons.injEq,Prod.mk.injEq]at h;obtain⟨⟨y,t⟩,A⟩:=h;unfold Instr.findNow iG;rw[y];by_cases hk:p.1=k
    ·subst hk;simp[Instr.sameNow,encI,t]
    ·have:(k==p.1)=false:=bG;simp[Instr.sameNow,encI,this,B r (i+1) A,hk]
 simp[Instr.findKey,run_underlying j,encI,key es bu 0 h]
def nS(a:cB):aQ:=av #[G J a.1,G E (a.2.1:Int),G E (a.2.2:Int)]
theorem awU x y w d:(Op.equalIn (d+1+1) 42 (nS x) (nS y)).run prog w=.ok (decide (x=y)) w:=by obtain⟨a,b,c⟩:=x;obtain⟨t,z,C⟩:=y;unfold nS;simp[go_sem,JZ];by_cases j:a=t <;> by_cases B:b=z <;> by_cases A:c=C <;> simp[j,A,B] <;> omega
theorem TU:IC prog 42 nS:=by
 refine⟨λk es bu w h=>?_,λk y w=>?_,λk=>?_⟩
 ·have key:∀(es:List MapEntry) (bu:List (cB×aQ)) (i:Nat),es.map (λe=>(e.key,e.val))=bu.map (λp=>(nS p.1,p.2))->(Instr.findAsking 42 (nS k) es i).run prog w=.ok (iG k bu i) w:=by
   intro es
   induction es with
   | nil=>intro bu i h;cases bu with
    | nil=>rfl
    | cons p r=>simp at h
   | cons e es ih=>intro bu i h;cases bu with
    | nil=>simp at h
    | cons p r => simp only[lT,List.cons.injEq,Prod.mk.injEq]at h;obtain⟨⟨h1,t⟩,h3⟩:=h;have he:(Op.equal 42 (nS k) (nS p.1)).run prog w=.ok (decide (k=p.1)) w:=awU k p.1 w 9998;exact aiE
  obtain⟨j,hu⟩:∃j,prog.underlying 42=some (.struct j):=⟨_,underlying42⟩;cases es with
  | nil => exact aiF
  | cons e es =>
   have hn:Instr.findNow (.struct j) (nS k) (e :: es) 0=none:=by rfl
   simp[Instr.findKey,run_underlying hu,hn,key (e :: es) bu 0 h]
 ·rfl
 ·unfold nS;simp[Instr.sameBits]
end
section
open Go Go.RowKit Go.ChangeMaps
section
variable {α:Type} {enc:α->aQ} {P:Program}
def uq(enc:α->aQ)(w:aP)(b r:Nat)(bu:List (α×aQ))(L:List α):Prop :=
 ∃(es:Array MapEntry) (c since:Nat) (seen:Array Nat) (c0:Nat),w.heap[b]?=I (.map es c)/\es.toList.map (λe=>(e.key,e.val))=bu.map (λp=>(enc p.1,p.2))/\yy es.toList c /\
  w.heap[r]?=I (.mapIter (I b) since seen c0)/\(∀x∈es.toList,x.born<since)/\since<=c0/\since<=c/\(Go.leftOf es seen).toList.map (·.key)=L.map enc
theorem fC.range{t kt A w b bu}(h:fC enc w b bu)(H:P.underlying t=some (.map kt A)) :
 ∃w',(Instr.range t (.map (I b))).run P w=.ok (aj (I ⟨Z (D w),0,U⟩)) w'/\uq enc w' b (Z (D w)) bu (bu.map (·.1))/\w.grownBy w' U/\Z (D w')=Z (D w)+1:=by
 have B:=h.lt
 obtain⟨es,c,y,j,z⟩:=h
 refine⟨_,run_range_map w t kt A b es c H y,⟨es,c,c,#[],c,((MapKept.heap_alloc w _).2 b B).trans y,j,z,(MapKept.heap_alloc w _).1,λx C=>z.2 _ (List.mem_map.2 ⟨x,C,rfl⟩),bL _,bL _,?_⟩,World.grownBy_alloc w _ U,bq⟩
 have:=congrArg (List.map Prod.fst) j
 simp only[List.map_map]at this
 have e:(Go.leftOf es #[]).toList=es.toList:=by simp[Go.leftOf]
 rw[e,List.map_map]
 simpa [Function.comp_def]using this
theorem aeZ:∀(l:List MapEntry),(l.map (·.born)).Pairwise (· < ·)->∀(i:Nat) (h:i<Q l),l.filter (λx=>!(x.born==l[i].born))=l.eraseIdx i
 | [],_,i,h=>yY
 | e :: l,hp,i,h=>by
  rw[lT,List.pairwise_cons]at hp
  cases i with
  | zero => rw[List.getElem_cons_zero,List.filter_cons_of_neg bq,List.eraseIdx_cons_zero,List.filter_eq_self];intro x y;have:=hp.1 x.born (List.mem_map.2 ⟨x,y,rfl⟩);have j:x.born≠e.born:=aZ;simpa using j
  | succ i => have t:i<Q l:=Er;have:=hp.1 l[i].born (List.mem_map.2 ⟨l[i],dG t,rfl⟩);have j:e.born≠l[i].born:=aZ;rw[List.getElem_cons_succ,List.filter_cons_of_pos (by simpa using j),List.eraseIdx_cons_succ,aeZ l hp.2 i t]
theorem afB{β γ:Type}(f:β->γ):∀(l:List β) (i:Nat),(l.eraseIdx i).map f=(l.map f).eraseIdx i
 | [],i=>rfl
 | x :: l,0=>rfl
 | x :: l,i+1=>by simp[afB f l i]
theorem uq.next{w b r bu L}(h:uq enc w b r bu L) ty :
 (L=[]/\(Instr.next (aj (I ⟨r,0,U⟩)) az ty).run P w=.ok (au #[ar az]) w) ∨
 ∃(i:Nat) (t:i<Q L) (v:aQ) (w':aP),(Instr.next (aj (I ⟨r,0,U⟩)) az ty).run P w=.ok (au #[ar aA,enc L[i],v]) w'/\uq enc w' b r bu (L.eraseIdx i)/\w.grownBy w' (I r)/\Z (D w')=Z (D w)/\(Instr.entry (aj (I ⟨r,0,U⟩))).run P w'=.ok (au #[enc L[i],v]) w':=by
 obtain⟨es,c,j,seen,S,V,h2,B,R,M,W,T,N⟩:=h
 have Y:r≠b:=bG
 rcases run_next_at (P:=P) w ty r b j S seen es c R V M W with ⟨h0,hrun⟩|⟨e,z,H,A,hrun⟩
 ·simp_all
 ·obtain⟨i,t,z⟩:=List.mem_iff_getElem.1 z;have hlen:Q L=Q (Go.leftOf es seen).toList:=by have:=congrArg Q N;simpa using this.symm
  have hiL:i<Q L:=aZ;have hk:e.key=enc L[i]:=by
   have:=congrArg (λl=>l[i]?) N
   grind
  have hr1:H.heap[r]?=I (.mapIter (I b) j seen S):=by rcases A with rfl|rfl <;> exact R
  have X:H.heap[b]?=I (.map es c):=by rcases A with rfl|rfl <;> exact V
  have y:=MapKept.heap_set (o':=.mapIter (I b) j (seen.push e.born) c) hr1;have hleft:(Go.leftOf es (seen.push e.born)).toList=(Go.leftOf es seen).toList.eraseIdx i:=by
   rw[<- aeZ _ (B.1.sublist ((show (Go.leftOf es seen).toList.Sublist es.toList by unfold Go.leftOf;rw[Array.toList_filter];exact List.filter_sublist).map _)) i t,z]
   unfold Go.leftOf
   grind [Array.toList_filter,List.filter_filter,List.filter_congr]
  have O:(setBlock H r (.mapIter (I b) j (seen.push e.born) c)).heap[b]?=I (.map es c):=(y.2 b (λC=>Y C.symm)).trans X;have Ur:e∈es.toList:=by
   have:e∈(Go.leftOf es seen).toList:=z▸dG t
   unfold Go.leftOf at this
   grind
  refine aJ ⟨i,hiL,e.val,_,bG,⟨es,c,j,seen.push e.born,c,O,h2,B,y.1,M,T,T,?_⟩,?_,?_,by rw[<- hk];exact run_entry_at _ r b j seen es c e y.1 O Ur (B.1.imp λh=>Nat.ne_of_lt h)⟩
  ·grind [afB]
  ·rcases A with rfl|rfl <;> exact⟨rfl,rfl,rfl,RU,λi _ t=>y.2 i (λC=>t (by rw[C]))⟩
  ·rcases A with rfl|rfl <;> simp[setBlock]
theorem uq.left{w b r bu L}(h:uq enc w b r bu L):w.rangeLeft b r=Q L:=by obtain⟨es,c,C,seen,A,t,z,B,j,-,-,-,y⟩:=h;simp only[World.rangeLeft,t,j];have:=congrArg Q y;simpa using this
theorem uq.walks{w w' b r bu L}(h:uq enc w b r bu L)(k:KeepsWalks w w'):uq enc w' b r bu L:=by obtain⟨es,c,C,seen,y,z,j,A,t,B⟩:=h;exact⟨es,c,C,seen,y,k.same b _ z rfl,j,A,k.same r _ t rfl,B⟩
theorem uq.walk{w b r bu L}(h:uq enc w b r bu L):∃o:Obj,w.heap[r]?=I o/\o.isWalk=true:=by obtain⟨es,c,C,seen,y,z,t,A,j,B⟩:=h;exact⟨_,j,rfl⟩
end
section
variable {α:Type} {enc:α->aQ} {ag:Fence} {n:Nat} {P:Program} (w:aP) {ops:Array Oper} {rest:List Oper} {o:Oper} {a:Act} {aR:Exit->Act->aP->Prop}
theorem arZ(hg:o.guard=U) m t(j:o.op=Op.range t m) k e(y:P.underlying t=some (.map k e)) b bu
 (hm:a.eval m=.map (I b)) (h:fC enc w b bu)
 (B:∀w',uq enc w' b (Z (D w)) bu (bu.map (·.1))->w.grownBy w' U->Z (D w')=Z (D w)+1->wpListIn ag n P ops aR rest (a.put o.dst (aj (I ⟨Z (D w),0,U⟩))) w') :
 wpListIn ag n P ops aR (o :: rest) a w:=by
 refine wpListIn_plain hg λM H=>?_
 obtain⟨w',C,L,A,z⟩:=h.range y
 unfold Oper.wpIn
 refine⟨?_,?_⟩
 ·simp[Oper.about,j]
 ·rw[Oper.semAt_plain ag _ _ bG];simp[aL,j,hm,C,Result.andThen];exact H _ _ (B w' L A z)
theorem ar9(hg:o.guard=U) B(j:o.op=Op.next B az) b r bu L
 (y:a.eval B=aj (I ⟨r,0,U⟩)) (h:uq enc w b r bu L)
 (S:L=[]->wpListIn ag n P ops aR rest (a.put o.dst (au #[ar az])) w)
 (M:∀(i:Nat) (z:i<Q L) (v:aQ) (w':aP),uq enc w' b r bu (L.eraseIdx i)->w.grownBy w' (I r)->Z (D w')=Z (D w)->(Instr.entry (aj (I ⟨r,0,U⟩))).run P w'=.ok (au #[enc L[i],v]) w'->wpListIn ag n P ops aR rest (a.put o.dst (au #[ar aA,enc L[i],v])) w') :
 wpListIn ag n P ops aR (o :: rest) a w:=by
 refine wpListIn_plain hg λT A=>?_
 unfold Oper.wpIn
 refine⟨by simp[Oper.about,j],?_⟩
 rw[Oper.semAt_plain ag _ _ bG]
 rcases h.next (P:=P) o.type with ⟨C,t⟩|⟨i,z,v,w',t,O,R,H,N⟩
 ·simp[aL,j,y,t,Result.andThen];exact A _ _ (S C)
 ·simp[aL,j,y,t,Result.andThen];exact A _ _ (M i z v w' O R H N)
end
end
section
variable {P:Program} {aR:Exit->Act->aP->Prop}
def sR(t:List (List Nat×List (Nat×Nat)))(z:Nat):Nat->Nat->Bool
 | 0,_=>az
 | f+1,j=>match t[j]? with
  | none=>az
  | some y=>y.1.contains z||y.1.any (sR t z f)
theorem J5{ops t}(H:tk ops t=aA){L}(B:Closed ops L){z}:∀(f j:Nat),sR t z f j=aA->L j=aA->L z=true:=by
 intro f
 induction f with
 | zero=>intro j h _;cases h
 | succ f R =>
  intro j h A
  unfold sR at h
  cases hy:t[j]? with
  | none=>rw[hy]at h;cases h
  | some y =>
   rw[hy]at h
   simp only[Bool.or_eq_true,List.contains_iff_mem,List.any_eq_true]at h
   have:=B.2 j A
   have M:ops[j]?=I ops[j]:=bq
   have C:=List.all_eq_true.1 H (ops[j],j) (List.mem_zipIdx_iff_getElem?.2 bq)
   simp only[hy,fB]at C
   have:∀i∈y.1,L i=true:=λi N=>B.1 j _ M A i bG
   grind
theorem awV{ρ w} s x t ty e base z size bytes(T:ir P t e z size bytes) v n xs(H:ρ s=v)(y:w.ownsRow base e size v n xs)
 B A m c j (M:ρ x=F A m c) (N:Reads w B size A m j) (R:∀u∈j,u.oneCell'=aA)
 (S:(n+m)*(bytes+1)<=140737488355328) (O:base<=Z (D w)) :
 ∃v' w',(aL ρ (bR (.call { callee:=.builtin .append,args:=#[s,x],argTypes:=#[t,t] }) ty)).run P w=.ok (.value v') w'/\w'.ownsRow base e size v' (n+m) (xs++j)/\aN base w w'/\w.grownBy w' (aW v):=by
 obtain⟨v',w',W,L,V,X,C⟩:=Hx w base t ty e z size bytes T v n xs y B A m c j N R S O
 refine⟨v',w',?_,L,C,V⟩
 simp only[aL,bR,resolve,invoke,builtin,Sem.run_bind,Sem.run_pure,Result.andThen_ok,List.map_toArray,lT,List.map_nil,H,M,W]
end
section
variable {P:Program} {aR:Exit->Act->aP->Prop}
def dx(V:Nat->aQ)(w:aP):Nat->List (aQ->aP->Prop)->Prop
 | _,[]=>True
 | k,φ :: r=>φ (V k) w/\dx V w (k+1) r
def bJ(P:Program)(j:Act)(t:(Nat->aQ)->aP->Prop):Nat->List Oper->List (List Nat×List (Nat×Nat))->(Nat->aQ)->aP->Prop
 | _,[],_,V,w=>t V w
 | _,_ :: _,[],_,_=>False
 | k,o :: r,x :: xs,V,w=>if dC V o.guard=aA then lO P (λv w'=>bJ P j t (k+1) r xs (cK V k v) w') ((aL (bP x.2 j V) (bR o.op o.type)).run P w)else bJ P j t (k+1) r xs (cK V k undef) w
def FU(t:List (List Nat×List (Nat×Nat)))(m n:Nat):Bool :=
 (List.range n).all λk=>decide (k<m)||(List.range k).all λj=>match t[k]? with
  | none=>az
  | some x=>x.1.contains j||x.1.any (sR t j n)
theorem aiG{V w}:∀(s t:List (aQ->aP->Prop)),(∀j,Q t<=j->j<Q t+Q s->tab (t++s) j (V j) w)->dx V w (Q t) s:=by
 intro s
 induction s with
 | nil=>intro t _;trivial
 | cons φ s ih =>
  intro t h;refine⟨?_,?_⟩
  ·have:=h (Q t) (bL _) bq;unfold tab at this;simpa [List.getD_eq_getElem?_getD]using this
  ·have:=ih (t++[φ]) (λj z y=>by
    simp at z y;have:=h j aZ cG;simpa using this)
   simpa using this
def TH(t:List Nat)(y:List (List Nat×List (Nat×Nat)))(m n:Nat):Bool :=
 t.all (λj=>decide (j<m))&&(List.range n).all λk=>decide (k<m)||(List.range k).all λj=>t.contains j||match y[k]? with
  | none=>az
  | some x=>x.1.contains j||x.1.any (sR y j n)
theorem WL{ops B z m}(H:tk ops z=aA)(A:TH B z m ops.size=aA){L}(W:Closed ops L){k}(hk:m<=k){o}(R:ops[k]?=I o)(T:∀j∈ahead o,L j=aA):∀j,j<k->j∉B->L j=true:=by
 intro j S C
 have N:=(aG.1 R).1
 simp only[TH,fB]at A
 have y:=List.all_eq_true.1 A.2 k (List.mem_range.2 N)
 simp only[Bool.or_eq_true,decide_eq_true_eq]at y
 rcases y with y|y
 ·omega
 have t:=List.all_eq_true.1 y j (List.mem_range.2 S)
 simp only[Bool.or_eq_true,List.contains_iff_mem]at t
 have t:=t.resolve_left C
 cases hx:z[k]? with
 | none=>rw[hx]at t;cases t
 | some x =>
  rw[hx]at t;simp only[Bool.or_eq_true,List.contains_iff_mem,List.any_eq_true]at t;have O:=List.all_eq_true.1 H (o,k) (List.mem_zipIdx_iff_getElem?.2 bG);simp only[hx,fB]at O;have:∀i∈x.1,L i=true:=λi M=>T i bG
  rcases t with t|⟨i,M,t⟩
  ·grind
  ·grind [J5]
end
section
variable {X Y:Nat->Prop} {w w' w'' W W':aP}
theorem bf.dc{b}(j:X b) i u:bf X W (aV W ⟨b,i,U⟩ u):=bf.sets j [u] i W
theorem bf.more(h:bf X W W')(t:∀k,X k->Y k):bf Y W W':=⟨h.os,h.tape,h.output,h.size,λi y j=>h.block i y λh=>j (t i h)⟩
theorem bf.iA(u:bf X w w')(v:bf Y w' w'')(y:∀k,k<Z (D w)->Y k->X k):bf X w w'' :=
 ⟨v.os.trans u.os,v.tape.trans u.tape,v.output.trans u.output,cI u.size v.size,λk j t=>(v.block k (cQ j u.size) (λh=>t (y k j h))).trans (u.block k j t)⟩
theorem ke{base e size n v xs}(h:W.ownsRow base e size v n xs)(u:bf X W W')(y:∀b,aW v=I b->¬X b):W'.ownsRow base e size v n xs :=
 Hr h λb _ j t=>u.block b j (y b t)
theorem bf.low{B}(u:bf X w w')(t:∀k,X k->B<=k)(j:B<=Z (D w)):aN B w w' :=
 ⟨u.os,u.tape,u.output,u.size,λi y=>u.block i (cQ y j) λe=>by have:=t i e;omega⟩
theorem bf.k{a}(u:bf X w w')(h:K a w)(j:∀k,X k->Z (D a)<=k):K a w':=h.trans (u.low j h.size)
theorem bn.cA{b t cs}(h:bn W b t cs)(u:bf X W W')(hb:¬X b):bn W' b t cs:=(u.block b h.lt hb).trans h
theorem bf.al X W o:bf X W (aU W o):=bf.bS ((K.rf W).al o) X
theorem bf.fresh{a}(u:bf X a W){b}(hb:Z (D a)<=b) i v:bf X a (aV W ⟨b,i,U⟩ v) :=
 ⟨u.os,u.tape,u.output,by simpa [ax]using u.size,λk hk j=>(Below.heap_setCell W ⟨b,i,U⟩ v k cG).trans (u.block k hk j)⟩
end
def Fx(M:Nat->Prop)(p:aP->Prop)(w:aP):Prop:=∀W,bf M w W->p W
section
variable {M N X:Nat->Prop} {p q:aP->Prop} {w w':aP}
theorem Fx.now(h:Fx M p w):p w:=h w (bf.rf _ _)
theorem Fx.k(h:Fx M p w)(k:K w w'):Fx M p w':=λW u=>h W ((bf.bS k _).tr u)
theorem Fx.up(h:Fx M p w)(u:bf X w w')(j:∀k,X k->M k):Fx M p w':=λW t=>h W ((u.more j).tr t)
theorem Fx.less(h:Fx M p w)(j:∀k,N k->M k):Fx N p w:=λW u=>h W (u.more j)
theorem Fx.mono(h:Fx M p w)(hp:∀W,p W->q W):Fx M q w:=λW u=>hp W (h W u)
theorem Fx.at(h:Fx M p w)(k:K w w'):p w':=h w' (bf.bS k _)
theorem Fx.to(h:Fx M p w)(u:bf X w w')(t:∀k,X k->M k)(j:∀k,k<Z (D w)->N k->M k):Fx N p w':=λW v=>h W ((u.more t).iA v j)
theorem Fx.fresh{lo}(h:∀W,bV lo U w W->p W)(j:∀k,M k->k<lo):Fx M p w :=
 λW u=>h W (u.uE λk y _ _ t=>by have:=j k t;omega)
end
abbrev Dp(n:Int):List aQ:=[G J n]
def eu:fE Int where
 size:=1
 rel:=λn cs _=>cs=Dp n
 len:=by rintro x cs w rfl;rfl
 one:=by rintro x cs w rfl u j;simp at j;subst j;rfl
 st:=λh _=>h
theorem Hj l W:Each eu l (l.map Dp) W:=⟨bq,λi h j=>by simp[eu]⟩
theorem Xo(l:List Int):(l.map Dp).flatten=l.map λn=>G J n:=by
 induction l with
 | nil=>rfl
 | cons a l j=>simp[Dp,j]
theorem QU{l css W}(h:Each eu l css W):css=l.map Dp:=by
 refine List.ext_getElem Nw λi j t=>?_
 have:=h.2 i bG j;simpa [eu]using this
section
variable {α:Type} {S:fE α} {Y:Nat->Prop} {base:Nat} {e:TypeId} {l:List α} {v:aQ} {w w':aP}
def bK(Y:Nat->Prop)(base:Nat)(e:TypeId)(S:fE α)(l:List α)(v:aQ)(w:aP):Prop :=
 ∃css,w.ownsRow base e S.size v (Q l) css.flatten/\Q css=Q l/\∀w',bf (λk=>Y k∨aW v=I k) w w'->Each S l css w'
theorem bK.nil Y base e(S:fE α) w:bK Y base e S [] (F U 0 0) w:=⟨[],mr _ _ _ _,rfl,λ_ _=>Each.nil _ _⟩
theorem bK.st(h:bK Y base e S l v w)(k:K w w'):bK Y base e S l v w':=by obtain⟨css,z,t,y⟩:=h;exact⟨css,sG z k,t,λj u=>y j ((bf.bS k _).tr u)⟩
theorem bK.blk(h:bK Y base e S l v w):∀g,aW v=I g->base<=g/\g<Z (D w):=by obtain⟨css,j,-,-⟩:=h;exact λg hg=>j.lt g hg
theorem bK.up{Y'}(h:bK Y base e S l v w)(u:bf Y' w w')(B:∀k,Y' k->Y k)(hb:∀k,Y' k->k<base):bK Y base e S l v w':=by have:=h.blk;obtain⟨css,y,t,A⟩:=h;exact⟨css,ke y u λb L C=>bG,t,λj z=>A j ((u.more λk hk=>aI (B k hk)).tr z)⟩
theorem bK.less{Y'}(h:bK Y base e S l v w)(j:∀k,Y' k->Y k):bK Y' base e S l v w:=by obtain⟨css,z,t,y⟩:=h;exact⟨css,z,t,λw' u=>y w' (u.more λk hk=>hk.imp (j k) id)⟩
theorem bK.low{base'}(h:bK Y base e S l v w)(hb:base'<=base):bK Y base' e S l v w:=aiw
theorem bK.bw(h:bK Y base e S l v w):bw S l v w:=by obtain⟨css,t,y,j⟩:=h;exact Q9 t (j w (bf.rf _ _))
theorem bK.fx(h:bK Y base e S l v w)(hb:∀k,Y k->k<base):Fx Y (λW=>Go.Proofs.YtcjlnlcpodcldaaGreat.bw S l v W) w:=λ_ u=>(h.up u (λ_ h=>h) hb).bw
theorem bK.slice(h:bK Y base e S l v w):∃A c,v=F A (Q l) c:=bD h.bw
theorem cE.tR{lo}(h:cE base lo e S l v w):bK (λk=>k<lo) base e S l v w:=by obtain⟨css,t,y,j⟩:=h;exact⟨css,t,y,λw' u=>j w' (u.uE λk t _ j z=>bG)⟩
theorem bK.toL{lo}(h:bK (λk=>k<lo) base e S l v w):cE base lo e S l v w:=by obtain⟨css,y,j,t⟩:=h;exact⟨css,y,j,λw' u=>t w' (u.upN λk hk=>hk.imp id λh=>h.symm)⟩
def vX(N:Nat->Prop)(S:fE α)(x:α)(v:aQ)(W:aP):Prop:=v.cells.size=S.size/\Fx N (λW=>S.rel x v.cells.toList W) W
def fL(N:Nat->Prop)(lo:Nat)(e:TypeId)(S:fE α)(x:α)(v:aQ)(W:aP):Prop:=∃g cs,v=F (I ⟨g,0,U⟩) 1 1/\lo<=g/\bn W g e cs/\Fx N (λW=>S.rel x cs.toList W) W
theorem aAV N lo e S(x:α):∀v w w',fL N lo e S x v w->aN (Z (D w)) w w'->fL N lo e S x v w':=by rintro v w w'⟨g,cs,j,z,t,y⟩ k;exact⟨g,cs,j,z,t.bF k,y.k k⟩
variable {P:Program} {ρ:Operand->aQ}
theorem awW(a b:Array aQ)(h:a.size=b.size) m:b.zipIdx.foldl (λcs (x:aQ×Nat)=>cs.setIfInBounds (0*m+x.2) x.1) a=b:=by
 obtain⟨la⟩:=a;obtain⟨lb⟩:=b;simp at h;have key:∀(r pre q:List aQ),Q la=Q pre+Q r->Q q=Q r->(List.zipIdx r (Q pre)).foldl (λ(cs:Array aQ) (x:aQ×Nat)=>cs.setIfInBounds x.2 x.1) (pre++q).toArray=(pre++r).toArray:=by
  intro r
  induction r with
  | nil=>intro pre q _ j;simp at j;subst j;simp
  | cons x r A =>
   intro pre q B z
   cases q with
   | nil=>simp at z
   | cons y q =>
    simp only[List.zipIdx_cons,List.foldl_cons]
    have t:(pre++y :: q).toArray.setIfInBounds (Q pre) x=(pre++[x]++q).toArray:=bq
    rw[t]
    have:=A (pre++[x]) q bG bG
    grind
 have:=key lb [] la bG h;simpa using this
theorem aza size a v(y:v.cells.size=size)(z:a.size=size):Instr.fill (λi=>I (i*size,size)) a [(0,v)]=I v.cells:=by have h:=awW a v.cells aZ size;have j:¬(0*size+v.cells.size>a.size):=aZ;have t:¬(v.cells.size≠size):=aZ;simp only[Instr.fill,t,j,decide_false,Bool.or_false,Bool.false_eq_true,if_false];exact congrArg I h
theorem avq t z size bytes(T:ir P t e z size bytes)(B:v.cells.size=size)(N:size<=16777216) :
 (Instr.buildSlice t 1 #[(0,v)]).run P w=.ok (F (I ⟨Z (D w),0,U⟩) 1 1) (aU w (aq v.cells e)):=by
 obtain⟨i,j,C,L,O⟩:=T.fit
 have:=T.pos
 have y:¬(1*size>2^24):=aZ
 have M:¬(1*size=0):=aZ
 have hz:(zeroValue e).run P w=.ok z w:=by simp[zeroValue,typeInfo,j,C]
 have H:=aza size ((Array.range (1*size)).map λk=>z.cells[k%z.cells.size]!) v B bq
 have A:(sizeOf e).run P w=.ok size w:=by simp[sizeOf,typeInfo,j,L]
 unfold Instr.buildSlice
 simp only[Sem.run_bind,Result.andThen_ok,run_underlying T.und,A,y,M,if_false,Sem.run_pure,hz,H]
 simp[newRow,go_sem]
theorem ae0 t ty z size bytes(T:ir P t e z size bytes) x(A:ρ x=v)(y:v.cells.size=size)(j:size<=16777216) :
 (aL ρ (bR (.buildSlice t 1 #[(0,x)]) ty)).run P w=.ok (.value (F (I ⟨Z (D w),0,U⟩) 1 1)) (aU w (aq v.cells e)):=by
 have h:=avq (P:=P) (w:=w) t z size bytes T y j
 subst A
 simp only[aL,bR,List.map_toArray,lT,List.map_nil,Sem.run_bind,h,Result.andThen_ok,Sem.run_pure]
theorem ahh t ty z size bytes(T:ir P t e z size bytes)(hsz:S.size=size)(R:bK Y base e S l v w) u x(A:fL (λk=>Y k∨aW v=I k) 0 e S x u w)
 (W:(Q l+1)*(bytes+1)<=140737488355328) (V:base<=Z (D w)) :
 ∃v' w',(Builtin.append_ #[t,t] ty #[v,u]).run P w=.ok v' w'/\bK Y base e S (l++[x]) v' w'/\w.grownBy w' (aW v)/\(aW v'=aW v∨aW v'=I (Z (D w)))/\aN base w w':=by
 subst hsz
 obtain⟨g,cs,rfl,-,hb,L⟩:=A
 obtain⟨css,M,hcl,hE⟩:=R
 have hrel:=L.now
 have:=S.len hrel
 have O:Reads w (Z (D w)) S.size (I ⟨g,0,U⟩) 1 cs.toList:=⟨aZ,λ_=>⟨g,0,rfl,hb.lt,λj u A=>by
  rw[ng,hb.cell j];simpa using A⟩⟩
 obtain⟨v',w',hrun,h2,H,y,N⟩:=Hx w base t ty e z S.size bytes T v (Q l) css.flatten M (Z (D w)) _ 1 1 _ O (S.one hrel) W V
 refine⟨v',w',hrun,⟨css++[cs.toList],AQ,by simp[hcl],λC u=>?_⟩,H,y,N⟩
 have B:=(bf.gy (X:=λk=>Y k∨aW v=I k) H (λg hg=>aJ hg)).iA u λk hk h=>by
  rcases h with h|h
  ·exact aI h
  ·rcases y with y|y <;> rw[y]at h
   ·exact aJ h
   ·injection h with h;omega
 exact (hE C B).snoc (L C B)
theorem agk s x t ty z size bytes(T:ir P t e z size bytes)(M:S.size=size)(j:ρ s=v)(C:bK Y base e S l v w) u(y:ρ x=u) a(B:fL (λk=>Y k∨aW v=I k) 0 e S a u w)
 (H:(Q l+1)*(bytes+1)<=140737488355328) (A:base<=Z (D w)) :
 ∃v' w',(aL ρ (bR (.call { callee:=.builtin .append,args:=#[s,x],argTypes:=#[t,t] }) ty)).run P w=.ok (.value v') w'/\bK Y base e S (l++[a]) v' w'/\w.grownBy w' (aW v)/\(aW v'=aW v∨aW v'=I (Z (D w)))/\aN base w w':=by
 obtain⟨v',w',L,h⟩:=ahh (P:=P) t ty z size bytes T M C u a B H A
 refine⟨v',w',?_,h⟩
 subst j y
 simp only[aL,bR,resolve,invoke,builtin,Sem.run_bind,Sem.run_pure,Result.andThen_ok,List.map_toArray,lT,List.map_nil,L]
theorem kI{ops rest o a j}(hgd:o.guard=U) s x t
 (ho:o.op=.call { callee:=.builtin .append,args:=#[s,x],argTypes:=#[t,t] })
 z size bytes (T:ir P t e z size bytes) (W:S.size=size) (y:a.eval s=v) (N:bK Y base e S l v w) u (B:a.eval x=u) b (C:fL (λk=>Y k∨aW v=I k) 0 e S b u w)
 (M:(Q l+1)*(bytes+1)<=140737488355328) (H:base<=Z (D w))
 (h:∀v' w',bK Y base e S (l++[b]) v' w'->w.grownBy w' (aW v)->(aW v'=aW v∨aW v'=I (Z (D w)))->aN base w w'->wpList P ops j rest (a.put o.dst v') w') :
 wpList P ops j (o :: rest) a w:=by
 refine wpList_plain hgd λK O=>?_
 obtain⟨v',w',V,L,A,R,X⟩:=ahh (P:=P) t o.type z size bytes T W N u b C M H
 unfold Oper.wp aL
 simp only[ho,resolve,invoke,builtin,Sem.run_bind,Sem.run_pure,Result.andThen_ok,List.map_toArray,lT,List.map_nil,y,B,V]
 exact O _ _ (h v' w' L A R X)
theorem fL.new{N x}(h:Fx N (λW=>S.rel x v.cells.toList W) w) lo(j:lo<=Z (D w)):fL N lo e S x (F (I ⟨Z (D w),0,U⟩) 1 1) (aU w (aq v.cells e)) :=
 ⟨Z (D w),v.cells,rfl,j,bn.new _ _ _,h.k ((K.rf w).al _)⟩
theorem fL.less{N j lo x}(h:fL N lo e S x v w)(A:∀k,j k->N k):fL j 0 e S x v w:=by obtain⟨g,cs,t,B,y,z⟩:=h;exact⟨g,cs,t,aZ,y,z.less A⟩
end
section
variable {α:Type} {S:fE α} {P:Program} {a0:Act} {w0:aP} {Fin:List (aQ->aP->Prop)->Prop} {o:Oper} {r:List Oper} {x:List Nat×List (Nat×Nat)} {xs:List (List Nat×List (Nat×Nat))} {t:List (aQ->aP->Prop)} {N Y:Nat->Prop} {lo base:Nat} {e:TypeId} {ai:(Nat->aQ)->aP->Prop} {k:Nat} {V:Nat->aQ} {w:aP}
theorem bJ.push s u j z size bytes(T:ir P j e z size bytes)(H:S.size=size)(t:o.op=.call { callee:=.builtin .append,args:=#[s,u],argTypes:=#[j,j] })(hg:o.guard=U)
 v l y (A:bP x.2 a0 V s=v) (O:bK Y base e S l v w) (C:fL (λk=>Y k∨aW v=I k) 0 e S y (bP x.2 a0 V u) w) (M:(Q l+1)*(bytes+1)<=140737488355328) (L:base<=Z (D w))
 (h:∀v' w',bK Y base e S (l++[y]) v' w'->w.grownBy w' (aW v)->(aW v'=aW v∨aW v'=I (Z (D w)))->aN base w w'->bJ P a0 ai (k+1) r xs (cK V k v') w') :
 bJ P a0 ai k (o :: r) (x :: xs) V w:=by
 obtain⟨v',w',W,N,B,R,X⟩:=agk (P:=P) (ρ:=bP x.2 a0 V) s u j o.type z size bytes T H A O _ rfl y C M L
 unfold bJ
 rw[hg,bT (show dC V U=aA from rfl),t,W]
 exact h v' w' N B R X
theorem bJ.nil(h:ai V w):bJ P a0 ai k [] xs V w:=by assumption
theorem bJ.skip w'(hg:o.guard=U)(hx:(aL (bP x.2 a0 V) (bR o.op o.type)).run P w=.ok .skip w')(h:bJ P a0 ai (k+1) r xs (cK V k undef) w'):bJ P a0 ai k (o :: r) (x :: xs) V w:=Yv
theorem bJ.pure v(hg:o.guard=U)(hx:(aL (bP x.2 a0 V) (bR o.op o.type)).run P w=.ok (.value v) w)(h:bJ P a0 ai (k+1) r xs (cK V k v) w):bJ P a0 ai k (o :: r) (x :: xs) V w:=Yv
theorem bJ.val v w'(hg:o.guard=U)(hx:(aL (bP x.2 a0 V) (bR o.op o.type)).run P w=.ok (.value v) w')(h:bJ P a0 ai (k+1) r xs (cK V k v) w'):bJ P a0 ai k (o :: r) (x :: xs) V w:=Yv
end
def OY:fE UInt8 where
 size:=1
 rel:=λb cs _=>cs=[G .u8 (b.toNat:Int)]
 len:=by rintro x cs w rfl;rfl
 one:=by rintro x cs w rfl u j;simp at j;subst j;rfl
 st:=λh _=>h
theorem ahi l:(l.map λb=>[G .u8 b.toNat]).flatten=fM l:=by
 induction l with
 | nil=>rfl
 | cons a l j=>simp[j,fM]
theorem Own.tR{Y w base e v l}(h:Own w base e v l):bK Y base e OY l v w :=
 ⟨l.map λb=>[G .u8 b.toNat],by rw[ahi];exact h,bq,λw' _=>⟨bq,λi h j=>by simp[OY]⟩⟩
theorem bK.bytes{Y w base e v l}(h:bK Y base e OY l v w):Own w base e v l:=by
 obtain⟨css,j,t,z⟩:=h;have y:=z w (bf.rf _ _);have:css=l.map λb=>[G .u8 b.toNat]:=List.ext_getElem (by simp[t]) λi j t=>by have:=y.2 i aZ j;simpa [OY]using this
 rw[this,ahi]at j;exact j
theorem WE A c l w B(hR:Reads w B 4 A (Q l) (l.flatMap lV))(H:B<=Z (D w)) :
 aK prog 252 #[F A (Q l) c] w λe w'=>e=ak (G J (my l))/\aN (Z (D w)) w w':=by
 by_cases h1:Q l<1
 ·have h1':(Q l:Int)<1:=aZ;have HE:Hid (my l=40):=aY (by simp[my,iC,show ¬1<=Q l by omega]);exact aiH
 have h1':¬(Q l:Int)<1:=aZ
 by_cases jx:16<Q l
 ·have Bn:(16:Int)<(Q l:Int):=aZ;have HE:Hid (my l=40):=aY (by simp[my,iC];omega);exact aiH
 have Bn:¬(16:Int)<(Q l:Int):=aZ
 obtain⟨b,C,rfl,z,T⟩:=hR.IA aZ
 have V:=aY T
 clear T hR
 go_in
 go_wp2
 go_step3
 go_wp2_with fail
 go_step3
 go_wp2_with fail
 go_loopw [3,16] (fun m i wr=>∃k:Nat,k<=Q l/\m=G J k/\i=G J k/\Hid (lP U (l.take k)=aA)/\aN (Z (D w)) w wr) (fun _ i _=>Q l-(aO i).toNat)
 case atStart=>exact⟨0,aZ,rfl,rfl,aY cY,ed _ _⟩
 case round =>
  obtain⟨k,hk,rfl,rfl,Y,hb⟩:=hrel;by_cases N:k<Q l
  ·have gJ:(k:Int)<Q l:=aZ;obtain⟨L,S,e2,e3⟩:=V.aX k N;have d0:=(hb.cell (p:=⟨b,C+k*4,U⟩) (cQ z H)).trans L;have d1:=(hb.cell (p:=⟨b,C+k*4+1,U⟩) (cQ z H)).trans S;have d2:=(hb.cell (p:=⟨b,C+k*4+2,U⟩) (cQ z H)).trans e2;have d3:=(hb.cell (p:=⟨b,C+k*4+3,U⟩) (cQ z H)).trans e3;clear L S e2 e3;have hz:=hb.size;have hzz:b<Z (D wr):=aZ;have tI:=aY (aAL l (k+1));have Dm:∀W,aN (Z (D wr)) wr W->aN (Z (D w)) w W:=λW h=>hb.trans (h.mono hz)
   have Dm:=aY Dm;rcases Nat.eq_zero_or_pos k with M|M
   ·have hT:Hid (lP U (l.take (k+1))=mF l[k]):=by subst M;exact aY (ayM l N)
    have yz:¬(0:Int)<(k:Int):=aZ;have OZ:decide (0<k)=false:=cG;clear M;generalize l[k]=x at *;obtain⟨s,vk,vn,vs⟩:=x;simp only at d0 d1 d2 d3;go_wp2_with fail
    apply bN (WV s _);rintro w' rfl;cases hn:vF s
    ·exact aiI
    ·go_wp2_with fail
     apply bN (Q0 vk vn vs _);intro w2 t;have sY:=((ed _ _).alloc (bL _) _).trans (t.mono bq);have R:=(bn.new wr 88 #[aw s,G J vk,G J vn,aw vs]).below t bq;clear t;cases hv:km vk vn vs
     ·exact aiJ
     ·have hch:(nX vk vn vs != 0)=false:=by simp[nX,hv]
      have O:=R.cell 0;simp at O;go_wp2_with fail
      go_quiet (fail);have hr:Hid (lP U (l.take (k+1))=aA):=aY (by rw[hT.aX];simp[mF,hn,hv]);exact aiK
   ·have yz:(0:Int)<(k:Int):=aZ;have OZ:decide (0<k)=true:=cG;have O2:k-1<Q l:=aZ;have hT:Hid (lP U (l.take (k+1))=(lP U (l.take k)&&(mF l[k]&&nY l[k-1].1 l[k].1))):=by refine aY ?_;obtain⟨j,rfl⟩:∃j,k=j+1:=⟨k-1,aZ⟩;exact ayN l j N
    obtain⟨L,_⟩:=V.aX (k-1) O2;have p0:=(hb.cell (p:=⟨b,C+(k-1)*4,U⟩) (cQ z H)).trans L;clear L;generalize l[k-1].1=y at *;generalize l[k]=x at *;obtain⟨s,vk,vn,vs⟩:=x;simp only at d0 d1 d2 d3 hT;go_wp2_with fail
    apply bN (WV s _);rintro w' rfl;cases hn:vF s
    ·exact aiI
    ·go_wp2_with fail
     apply bN (Q0 vk vn vs _);intro w2 t;have sY:=((ed _ _).alloc (bL _) _).trans (t.mono bq);have R:=(bn.new wr 88 #[aw s,G J vk,G J vn,aw vs]).below t bq;clear t;cases hv:km vk vn vs
     ·exact aiJ
     ·have hch:(nX vk vn vs != 0)=false:=by simp[nX,hv]
      have O:=R.cell 0;simp at O;have p1:=(sY.cell hzz).trans p0;have I2:J.wrap ((k:Int)-1)=(k:Int)-1:=IntWalk.i64_in _ aZ;have hp1:(1:Int)<=(k:Int):=aZ;have hp2:((k:Int)-1).toNat=k-1:=aZ;have hp3:(k:Int)-1<(Q l:Int):=aZ;cases p9:nY y s
      ·have aDK:(!(Op.bytesLess y.toList s.toList))=true:=by unfold nY at p9;simp[p9]
       have HB:=aY (tI.aX (by rw[hT.aX];simp[mF,p9]));go_wp2_with fail
       go_quiet (fail);go_wp2;rw[jt];go_ret;exact⟨H5,Dm.aX _ (below_drewN sY _)⟩
      ·have aDK:(!(Op.bytesLess y.toList s.toList))=false:=by unfold nY at p9;simp[p9]
       have hr:Hid (lP U (l.take (k+1))=aA):=aY (by rw[hT.aX,Y.aX];simp[mF,hn,hv,p9]);go_wp2_with fail
       go_quiet (fail);clear I2 hp2;exact aiK
  ·have gJ:¬(k:Int)<Q l:=aZ;have X:k=Q l:=aZ;have HE:=aY (ayO l aZ aZ (by have:=Y.aX;rwa [X]at this));clear X;go_wp2;try rw[jt]
   exact Nv
section
variable {l la lb:List dW} {b:List UInt8} {v va vb:aQ} {w:aP}
theorem afC(h:iT l v w):aK prog 252 #[v] w λe w'=>e=ak (G J (my l))/\aN (Z (D w)) w w':=by obtain⟨A,c,rfl,j⟩:=h;exact WE A c l w _ j (bL _)
end
theorem afD a w :
 aK prog 201 #[di a] w λe w'=>e=ak (ar (tz a.1))/\K w w':=by
 obtain⟨b,l,s⟩:=a
 have hb:=K.new w (aq #[G J b,G E l,G E s] 42)
 go_in
 go_wp2
 all_goals
  go_ret
  refine⟨?_,hb⟩
  show ak (ar _)=ak (ar _)
  congr 2
  unfold tz
  simp
  try omega
def H7(x:bW):Bool:=decide (x=fo)
theorem at7 x:H7 x=(decide (x.kind=0)&&(decide (x.br=0)&&decide (x.life=0)&&decide (x.dN=0))&&decide (x.cl=0)&&decide (x.sub=0)&&x.f.isEmpty&&x.es.isEmpty):=by
 obtain⟨k,b,l,s,c,u,f,es⟩:=x
 grind [H7,fo]
theorem ae1 x v w(h:fc x v w) :
 aK prog 200 #[v] w λe w'=>e=ak (ar (H7 x))/\K w w':=by
 obtain⟨vf,ve,rfl,t,j⟩:=h
 obtain⟨A,c,rfl⟩:=dK t
 obtain⟨y,d,rfl⟩:=bD j
 obtain⟨k,b,l,s,cl,u,f,es⟩:=x
 simp only
 go_in
 go_wp2
 all_goals
  go_ret
  refine⟨?_,(K.rf w).al _⟩
  rw[at7]
  show ak (ar _)=ak (ar _)
  simp_all [TD]
theorem Hm{x}(h:dm x=az):tA x=110:=by simp[tA,h]
theorem MM{x}(h:dm x=aA):tA x=0:=by simp[tA,h]
theorem aAW l:(my l==0)=iC l:=by grind [my,iC]
theorem aAX l:(pA l==0)=okF l:=by grind [pA,okF]
theorem JT{α:Type}(p:α->Bool)(l:List α)(k:Nat)(h:k<Q l):(l.take (k+1)).all p=((l.take k).all p&&p l[k]):=ah5
theorem QV{α:Type} p(l:List α) k(h:(l.take k).all p=az):l.all p=false:=by
 cases hl:l.all p with
 | false=>rfl
 | true =>
  grind
theorem Mz x v w(h:fc x v w) :
 aK prog 199 #[v] w λe w'=>e=ak (G J (tA x))/\K w w':=by
 obtain⟨vf,ve,rfl,B,y⟩:=h
 obtain⟨A,c,rfl⟩:=dK B
 obtain⟨V,d,e0,y,hd⟩:=y
 obtain rfl:=e0
 obtain⟨k,b,l,s,cl,u,f,es⟩:=x
 simp only at B y hd⊢
 have M:=bn.new w 128 (bQ ⟨k,b,l,s,cl,u,f,es⟩ (F A (Q f) c) (F V (Q es) d))
 have k1:=M.cC
 have hg:Z (D w)<Z (D (aU w (aq (bQ ⟨k,b,l,s,cl,u,f,es⟩ (F A (Q f) c) (F V (Q es) d)) 128))):=bq
 generalize zf:tA ⟨k,b,l,s,cl,u,f,es⟩=ai
 go_in
 go_wp2_with fail
 generalize w.alloc _=R at *
 generalize Z (D w)=g at M hg⊢
 have qx:=M.cells
 have S:=fJ _ _ _ _ B k1
 have E2:=N4 y k1
 apply dP (afD (b,l,s) R) k1
 intro w2 H cT
 cases hh:tz b
 ·have HE:Hid (ai=110):=aY (by rw[<- zf];exact Hm (by simp[dm,hh]));go_wp2;go_ret;exact⟨jD,cT⟩
 by_cases hc0:cl<0
 ·exact aiL
 by_cases hc1:32<=cl
 ·exact aiL
 by_cases C:k=1
 ·subst C;have HE:Hid (ai=if (decide (u=0)&&f.isEmpty&&decide (Q es<=8)&&es.all iC)=aA then 0 else 110):=aY (by
   rw[<- zf];simp[tA,dm,hh,show 0<=cl by omega,show cl<32 by omega])
  go_upto_region 8 with fail;go_cut [3]from 27 to 41 (fun v wc=>v=ar (decide (u=0)&&f.isEmpty&&decide (Q es<=8))/\wc=w2)
  case first =>
   have e1:((u:Int)==0)=decide (u=0):=by
    by_cases h:u=0
    ·subst h;rfl
    ·simp[h]
   have e2:=TD f;by_cases O:u=0;rotate_left
   ·go_wp2;go_meet
    case rel=>simp[O]
   subst O;by_cases t:f=[];rotate_left
   ·go_wp2;go_meet
    case rel=>simp[t]
   subst t;by_cases h8:Q es<=8
   ·have zn:(Q es:Int)<=8:=aZ;go_wp2;go_meet
    case rel=>simp[h8]
   ·have zn:¬(Q es:Int)<=8:=aZ;go_wp2;go_meet
    case rel=>simp[h8]
  case rest =>
  obtain⟨rfl,rfl⟩:=hcut;have h8:Hid ((decide (u=0)&&f.isEmpty&&decide (Q es<=8))=aA->Q es<=8):=aY bq;generalize (decide (u=0)&&f.isEmpty&&decide (Q es<=8))=N at *;go_wp2_with fail
  go_loopw [3,4] (fun mv Y wr=>∃(m:Bool) (j:Nat),mv=ar m/\Y=G J j/\j<=Q es/\Hid (m=(N&&(es.take j).all iC))/\K R wr) (fun _ i _=>Q es-(aO i).toNat)
  case atStart=>exact⟨N,0,rfl,rfl,aZ,aY bq,H⟩
  case round =>
   obtain⟨m,j,rfl,rfl,hj,hm,kr⟩:=hrel;cases m
   ·have HB:Hid (ai=110):=aY (by
     rw[HE.aX,bO];have hm:=hm.aX;cases N
     ·simp
     ·simp only[Bool.true_and]at hm;have:=QV iC es j hm.symm;rw[this];simp)
    go_wp2;go_ret;exact⟨H5,k1.tr kr⟩
   have h88:=h8.aX (by have:=hm.aX.symm;simp only[fB]at this;exact this.1);by_cases W:j<Q es
   ·have cd:(j:Int)<Q es:=aZ;obtain⟨b1,off,cs,rfl,X,hcl,⟨ve,rfl,mE⟩,hcell⟩:=KB E2 j W bC;have d0:wr.cell? ⟨b1,off+j,U⟩=I ve:=by have:=hcell 0 bC;rw[kr.cell (by simpa using X)];simpa [dS]using this
    have ID:=nL _ _ _ _ mE kr;go_wp2_with fail
    apply bN (afC ID);intro T k3;have e3:=aAW es[j];go_wp2;go_roundw
    case rel=>exact⟨iC es[j],j+1,rfl,cU,aZ,aY (by rw[JT iC es j W,<- Bool.and_assoc,<- hm.aX];rfl),kr.tr k3⟩
    case measure=>simp[aO];omega
   ·have cd:¬(j:Int)<Q es:=aZ;have HB:Hid (ai=0):=aY (by
     have hm:=hm.aX;rw[iw aZ]at hm;rw[HE.aX,bT hm.symm])
    go_wp2;go_ret;exact⟨H5,k1.tr kr⟩
 by_cases z:k=3
 ·subst z;have HE:Hid (ai=if (f.isEmpty&&es.isEmpty)=aA then 0 else 110):=aY (by
   rw[<- zf];simp[tA,dm,hh,show 0<=cl by omega,show cl<32 by omega])
  cases t:f.isEmpty
  ·have e2:((Q f:Int)==0)=false:=by rw[TD,t]
   have HB:Hid (ai=110):=aY (by rw[HE.aX,t];rfl);go_wp2;go_ret;exact⟨H5,cT⟩
  obtain rfl:f=[]:=by simpa using t
  cases O3:es.isEmpty
  ·exact aiM
  obtain rfl:es=[]:=by simpa using O3
  have HB:Hid (ai=0):=aY jD;go_wp2_with fail
  apply bN (afz (fJ _ _ _ _ S H));intro T k3;rw[show pA []=0 from rfl];exact Yw
 by_cases L:k=2
 ·subst L;have HE:Hid (ai=if (es.isEmpty&&okF f)=aA then 0 else 110):=aY (by
   rw[<- zf];simp[tA,dm,hh,show 0<=cl by omega,show cl<32 by omega])
  cases O3:es.isEmpty
  ·exact aiM
  obtain rfl:es=[]:=by simpa using O3
  go_wp2_with fail
  apply bN (afz (fJ _ _ _ _ S H));intro T k3;have e3:=aAX f;cases hok:okF f
  ·have HB:Hid (ai=110):=aY Yx;rw[hok]at e3;exact Yw
  ·have HB:Hid (ai=0):=aY Yx;rw[hok]at e3;exact Yw
 have HE:Hid (ai=110):=aY (by
  rw[<- zf];exact Hm (by simp[dm,C,L,z]))
 have g1:(k==1)=false:=by simpa using C
 have g2:(k==2)=false:=by simpa using L
 have g3:(k==3)=false:=by simpa using z
 go_wp2
 go_ret
 exact⟨jD,cT⟩
def iy(a:cB):List UInt8:=bI (cL a.1)++(bI a.2.1++bI a.2.2)
theorem aev l v a w(h:sl l v w)(hl:Q l<=900000000)(N:dX a) :
 aK prog 205 #[v,di a] w λe w'=>∃v',e=ak v'/\Own w' (Z (D w)) 5 v' (l++iy a)/\K w w':=by
 obtain⟨A,c,rfl,R⟩:=h
 obtain⟨b,j,C⟩:=a
 obtain⟨O,y,z⟩:=N
 simp only at O y z
 have:=eM (cL b) (jb b)
 have p1:=eM j y
 have B:=bn.new w 42 #[G J b,G E j,G E C]
 have k1:=B.cC
 have X:=(R.below k1 (bL _)).more k1.size
 go_in
 go_wp2_with fail
 generalize w.alloc _=V at *
 have:=B.cells
 rw[FI b]
 apply dD (yU A _ c l (cL b) (jb b) V _ X (bL _) aZ)
 rintro v2 w2⟨L,t⟩
 obtain⟨S,c2,rfl,zq⟩:=(gD L)
 have:Q (l++bI (cL b))<=900000009:=cG
 generalize hm2:Q (l++bI (cL b))=H at *
 go_wp2_with fail
 apply dD (yU S H c2 _ j y w2 _ zq (bL _) aZ)
 rintro v3 Y⟨iB,k3⟩
 replace t:=t.tr k3
 obtain⟨A3,c3,rfl,zo⟩:=(gD iB)
 have:Q (l++bI (cL b)++bI j)<=900000018:=cG
 generalize zt:Q (l++bI (cL b)++bI j)=m3 at *
 go_wp2_with fail
 apply dD (yU A3 m3 c3 _ C z Y _ zo (bL _) aZ)
 rintro v4 w4⟨M,W⟩
 have T:=k1.tr (t.tr W)
 go_wp2
 go_ret
 refine⟨_,rfl,wK ?_ M (by simp[iy]),T⟩
 exact cI k1.size t.size
theorem MF(g:Nat)(l:List UInt8)(wr:Bool)(n:Nat)(w:aP)(h:Rd w g l wr)(hn:n<=1000000) :
 aK prog 133 #[aj (I ⟨g,0,U⟩),G J (n:Int)] w λe w'=>e=ak (G J ((min (bE l wr).1 n:Nat):Int))/\pU g (bE l wr).2.1 (bE l wr).2.2 w w':=by
 have j:=aY (vC g l wr w h)
 have z:=pN l wr
 generalize bE l wr=a at *
 obtain⟨x,H,C⟩:=a
 simp only at j z⊢
 by_cases B:n<x
 ·have A:(n:Int)<(x:Int):=aZ;rw[show min x n=n by omega];go_in;go_wp2_with fail
  refine j.aX.mono ?_;rintro e y⟨rfl,t⟩;go_wp2;go_ret;exact⟨by first|rfl|simp <;> omega,t⟩
 ·have A:¬(n:Int)<(x:Int):=aZ;rw[show min x n=x by omega];go_in;go_wp2_with fail
  refine j.aX.mono ?_;rintro e y⟨rfl,t⟩;go_wp2;go_ret;exact⟨by first|rfl|simp <;> omega,t⟩
theorem bn.went{w w' g b t cs l wr}(h:bn w b t cs)(k:pU g l wr w w')(j:b≠g):bn w' b t cs:=h.grown k.2 (by simpa using j)
theorem Rd.al{w g l wr}(h:Rd w g l wr) o:Rd (aU w o) g l wr:=h.bF ((K.rf w).al o)
theorem Rd.set{w g b l wr}(h:Rd w g l wr)(hb:g<b) i u:Rd (aV w ⟨b,i,U⟩ u) g l wr:=h.below (Below.setCell (ed b w) (bL _) u) hb
def ER:Dy cB:=λl wr =>
 (((min (bE l wr).1 16:Nat),(bE (bE l wr).2.1 (bE l wr).2.2).1,(bE (bE (bE l wr).2.1 (bE l wr).2.2).2.1 (bE (bE l wr).2.1 (bE l wr).2.2).2.2).1),
  (bE (bE (bE l wr).2.1 (bE l wr).2.2).2.1 (bE (bE l wr).2.1 (bE l wr).2.2).2.2).2)
theorem aeK g l wr w(h:Rd w g l wr) :
 aK prog 137 #[aj (I ⟨g,0,U⟩)] w λe w'=>e=ak (di (ER l wr).1)/\pU g (ER l wr).2.1 (ER l wr).2.2 w w':=by
 have:=h.lt
 have fH:=bn.new w 42 #[G J 0,G E 0,G E 0]
 have hm0:w.grownBy (aU w (aq #[G J 0,G E 0,G E 0] 42)) (I g):=FF (En w _) _
 have h0:=h.al (aq #[G J 0,G E 0,G E 0] 42)
 have:Z (D w)<Z (D (aU w (aq #[G J 0,G E 0,G E 0] 42))):=bq
 have C:=λW hW=>MF g l wr 16 W hW aZ
 unfold ER
 generalize bE l wr=a at *
 obtain⟨x,l1,Y⟩:=a
 simp only at C⊢
 have N:=vC g l1 Y
 generalize bE l1 Y=a at *
 obtain⟨y,l2,wr2⟩:=a
 simp only at N⊢
 have L:=vC g l2 wr2
 generalize bE l2 wr2=a at *
 obtain⟨z,l3,E3⟩:=a
 simp only at L⊢
 replace C:=aY C
 replace N:=aY N
 replace L:=aY L
 go_in
 go_wp2_with fail
 generalize w.alloc _=w1 at *
 apply bN (C.aX w1 h0)
 intro X M
 have cZ:=fH.went M aZ
 have hm2:=qJ hm0 M.2
 have:=M.2.size
 have nE:=M.1
 go_wp2_with fail
 have iH:=bn.new X 42 #[G J ((min x 16:Nat):Int),G E 0,G E 0]
 have fP:=cZ.alloc (aq #[G J ((min x 16:Nat):Int),G E 0,G E 0] 42)
 have zu:=nE.al (aq #[G J ((min x 16:Nat):Int),G E 0,G E 0] 42)
 have zt:=FF hm2 (aq #[G J ((min x 16:Nat):Int),G E 0,G E 0] 42)
 generalize X.alloc _=w3 at *
 generalize hh:Z (D X)=h at *
 apply bN (N.aX w3 zu)
 intro w4 H
 have S:=iH.went H aZ
 have gF:=fP.went H aZ
 have DD:=qJ zt H.2
 have hn4:=H.1
 have A:=S.cell 1
 have:=S.frozen 1
 simp at A
 go_upto_region 3 with fail
 have gh:=S.cz 1 (G E y)
 have j0:=gF.far (p:=⟨h,1,U⟩) cG (G E y)
 have Lg:=AO DD (p:=⟨h,1,U⟩) cG (G E y)
 have hn5:=hn4.set (b:=h) aZ 1 (G E y)
 generalize w4.setCell _ _=w5 at *
 go_wp2_with fail
 apply bN (L.aX w5 hn5)
 intro w6 B
 have t:=gh.went B aZ
 have rq:=j0.went B aZ
 have zw:=qJ Lg B.2
 have Lh:=B.1
 have V:=t.cell 0
 have A:=t.cell 1
 have O:=t.cell 2
 have:=t.frozen 2
 simp at V A O
 go_upto_region 4 with fail
 have T:=t.cz 2 (G E z)
 have j:=rq.far (p:=⟨h,2,U⟩) cG (G E z)
 have Li:=AO zw (p:=⟨h,2,U⟩) cG (G E z)
 have Lj:=Lh.set (b:=h) aZ 2 (G E z)
 generalize w6.setCell _ _=w7 at *
 have V:=T.cell 0
 have A:=T.cell 1
 have O:=T.cell 2
 simp at V A O
 have r0:=j.cell 0
 have r1:=j.cell 1
 have r2:=j.cell 2
 have:=j.frozen 0
 have:=j.frozen 1
 have:=j.frozen 2
 simp at r0 r1 r2
 go_wp2
 have R:=((j.cz 0 (G J ((min x 16:Nat):Int))).cz 1 (G E y)).cz 2 (G E z)
 have e0:=R.cell 0
 have e1:=R.cell 1
 have e2:=R.cell 2
 simp at e0 e1 e2
 refine aM (v:=di ((min x 16:Nat),y,z)) (by simp[results,results137,go_sem,e0,e1,e2]) rfl ?_
 refine⟨rfl,?_,?_⟩
 ·exact ((Lj.set aZ _ _).set aZ _ _).set aZ _ _
 ·exact AO (AO (AO Li bq _) bq _) bq _
theorem azb x:(tA x==0)=dm x:=by grind [tA,dm]
theorem agl x v w(h:si x v w) :
 aK prog 139 #[v] w λe w'=>e=ak (ar (fK x))/\K w w':=by
 obtain⟨vf,ve,rfl,C,he⟩:=h
 obtain⟨k,n,x,b,l,s⟩:=x
 simp only at C he
 have B:=bn.new w 171 (gP ⟨k,n,x,b,l,s⟩ vf ve)
 have k1:=B.cC
 have HO:Hid (fK ⟨k,n,x,b,l,s⟩=if k=1 then H7 x&&ze ⟨k,n,x,b,l,s⟩else if k=2 then dm x&&ze ⟨k,n,x,b,l,s⟩else if k=3 then decide (n=0)&&dm x&&ze ⟨k,n,x,b,l,s⟩
  else if k=4∨k=5 then tz b&&decide (n=0)&&H7 x else az):=aY rfl
 have M:Hid (ze ⟨k,n,x,b,l,s⟩=(decide (b=0)&&decide (l=0)&&decide (s=0))):=aY rfl
 generalize fK ⟨k,n,x,b,l,s⟩=R at *
 have Gw:∀W,K w W->fc x (av (bQ x vf ve)) W:=λW k=>⟨vf,ve,rfl,fJ _ _ _ _ C k,cH he k⟩
 go_in
 go_upto_region 1 with fail
 generalize w.alloc _=H at *
 generalize Z (D w)=g at B⊢
 have L:=B.cells
 have:=K.rf H
 generalize ze ⟨k,n,x,b,l,s⟩=m at *
 go_cut [0,3]from 4 to 7 (fun _ v wc=>v=ar m/\wc=H)
 case first =>
  go_wp2;all_goals
   go_meet
   case rel=>(refine⟨?_,rfl⟩;rw[M.aX];clear L HO;simp_all)
 case rest =>
 obtain⟨rfl,rfl⟩:=hcut
 by_cases y:k=1
 ·subst y;rw[bT rfl]at HO;go_wp2_with fail
  apply dP (ae1 x _ _ (Gw _ k1)) k1;intro w2 k2 cT;cases he:H7 x
  ·exact aiN
  ·exact aiO
 by_cases j:k=3
 ·subst j;rw[bO bC,bO bC,bT rfl]at HO;by_cases hn:n=0;rotate_left
  ·have z:((n:Int) != 0)=true:=by simpa using hn
   have HR:Hid (R=az):=aY aiP;exact pc
  subst hn;have z:(((0:Nat):Int) != 0)=false:=bq;exact aiQ
 by_cases A:k=2
 ·subst A;rw[bO bC,bT rfl]at HO;exact aiQ
 have:(k==1)=false:=by simpa using y
 have:(k==2)=false:=by simpa using A
 have:(k==3)=false:=by simpa using j
 rw[bO y,bO A,bO j]at HO
 have N:(k=4∨k=5)∨(¬k=4/\¬k=5):=aZ
 rcases N with t|⟨h4,h5⟩
 ·rw[bT t]at HO;have:(k==4||k==5)=true:=by simpa using t
  go_upto_region 6 with fail;rcases t with rfl|rfl;all_goals
   go_wp2_with fail
   apply dP (afD (b,l,s) _) k1
   intro w2 k2 cT
   cases hh:tz b
   ·have HR:Hid (R=az):=aY (by rw[HO.aX,hh];rfl);exact Sb
   by_cases hn:n=0
   rotate_left
   ·have z:((n:Int)==0)=false:=by simpa using hn
    have HR:Hid (R=az):=aY aiP;exact Sb
   subst hn
   have z:(((0:Nat):Int)==0)=true:=bq
   have HR:Hid (R=H7 x):=aY (by rw[HO.aX,hh];simp)
   go_wp2_with fail
   apply bN (ae1 x _ _ (Gw _ cT))
   intro w3 O
   replace cT:=cT.tr O
   go_wp2
   go_ret
   exact⟨ib,cT⟩
 ·have HR:Hid (R=az):=aY (by rw[HO.aX,bO (by omega)]);have:(k==4)=false:=Kh;have:(k==5)=false:=Nx;exact pc
theorem atc A c l w B(X:Reads w B 4 A (Q l) (l.flatMap lV))(t:B<=Z (D w))(hi:∀x∈l,cV x.2.1/\cV x.2.2.1) :
 aK prog 263 #[F A (Q l) c] w λe w' =>
  ∃v',e=ak (au #[v',G J (my l)])/\Own w' (Z (D w)) 5 v' (EO l)/\aN (Z (D w)) w w':=by
 have hch:=aY (WE A c l w B X t)
 cases hok:iC l
 ·have HE:Hid (my l=40):=aY Sc;have HR:Hid (EO l=[]):=aY (by simp[EO,hok]);have hne:(my l != 0)=true:=jD;exact aiR
 ·have HE:Hid (my l=0):=aY Sc;have HR:Hid (EO l=lL l):=aY (by simp[EO,hok]);have hne:(my l != 0)=false:=jD;obtain⟨h1,jx,hL⟩:=Rs hok;have BM:=aY λk=>ahf l k hok hi
  have HA:=aY (Yn hL);have HI:=aY hi;have HS:=aY (awO l);have HRd:=aY X;go_in;go_wp2_with fail
  apply bN hch.aX;intro w1 cD;go_wp2_with fail
  apply dD (yU U 0 0 [] (Q l) aZ w1 0 (Reads.nil _ _ _ _) aZ aZ);rintro v2 w2⟨R,hb2⟩;have Iz:=cD.trans (hb2.mono cD.size);rw[bU]at R;have ho:=wK cD.size R rfl;go_wp2_with fail
  go_loopw [5,19] (fun o i wr=>∃k:Nat,k<=Q l/\i=G J k/\Own wr (Z (D w)) 5 o (bI (Q l)++(l.take k).flatMap mz)/\aN (Z (D w)) w wr) (fun _ i _=>Q l-(aO i).toNat)
  case atStart=>exact⟨0,aZ,rfl,by simpa using ho,Iz⟩
  case round =>
   obtain⟨k,hk,rfl,hok,hb⟩:=hrel;by_cases C:k<Q l
   ·have gJ:(k:Int)<Q l:=aZ;obtain⟨b,z,rfl,y,hcell⟩:=HRd.aX.IA aZ;obtain⟨e0,e1,e2,e3⟩:=hcell k C;have d0:=(hb.cell (p:=⟨b,z+k*4,U⟩) (cQ y t)).trans e0;have d1:=(hb.cell (p:=⟨b,z+k*4+1,U⟩) (cQ y t)).trans e1;have d2:=(hb.cell (p:=⟨b,z+k*4+2,U⟩) (cQ y t)).trans e2;have d3:=(hb.cell (p:=⟨b,z+k*4+3,U⟩) (cQ y t)).trans e3;have hz:=hb.size;have hsz:=Xm (HA.aX _ (dG C));have N:=(HI.aX _ (dG C)).2;have Lk:=aY (HS.aX k C);have S:=BM.aX k;generalize l[k]=x at *;obtain⟨s,j,vn,vs⟩:=x;simp only at d0 d1 d2 d3 hsz N Lk;obtain⟨aaV,aJn⟩:=hsz;generalize (l.take k).flatMap mz=T at *;obtain⟨A1,c1,rfl,Y⟩:=hok.slice;have:=S;generalize oM:Q (bI (Q l)++T)=m1 at Y S⊢;have:=λW=>run_bytes_of_string (P:=prog) W 9 118 5 s underlying9 underlying118 underlying5
    go_wp2_with fail
    have fG:=bn.new wr 88 #[aw s,G J j,G J vn,aw vs];have V:aN (Z (D wr)) wr ((aU wr (aq #[aw s,G J j,G J vn,aw vs] 88)).alloc (aq (bytesRow s (grownCap (aU wr (aq #[aw s,G J j,G J vn,aw vs] 88)) s.size 0 5)) 5 ((bytesRow s (grownCap (aU wr (aq #[aw s,G J j,G J vn,aw vs] 88)) s.size 0 5)).size,(bytesRow s (grownCap (aU wr (aq #[aw s,G J j,G J vn,aw vs] 88)) s.size 0 5)).size+1))).drew:=(((ed _ _).alloc (bL _) _).alloc bq _).drew;have zq:=(Y.below V (bL _)).more (B':=Z (D wr)+1+1) aZ;apply dD (QZ A1 _ m1 c1 s.size _ _ (fW s) _ (Z (D wr)+1+1) zq (Reads.ano _ s _ _ _ (Z (D wr)+1) bq) bq aZ aZ);rintro v3 M⟨O,dy⟩;have L:=((fG.alloc (aq (bytesRow s (grownCap (aU wr (aq #[aw s,G J j,G J vn,aw vs] 88)) s.size 0 5)) 5 ((bytesRow s (grownCap (aU wr (aq #[aw s,G J j,G J vn,aw vs] 88)) s.size 0 5)).size,(bytesRow s (grownCap (aU wr (aq #[aw s,G J j,G J vn,aw vs] 88)) s.size 0 5)).size+1))).drew).below dy cG;have H:=V.trans (dy.mono cG);have q1:=L.cell 1;have q2:=L.cell 2;have q3:=L.cell 3;simp at q1 q2 q3;have O:Own M (Z (D wr)) 5 v3 (bI (Q l)++T++(bI s.size++fW s)):=wK cG O bq;obtain⟨A3,c3,rfl,zo⟩:=O.slice;have:=eM s.size aZ;have:s.data.size<=16:=aaV;have:Q (bI (Q l)++T++(bI s.size++fW s))<=3000:=by
     grind
    generalize Q (bI (Q l)++T++(bI s.size++fW s))=m3 at *;go_wp2_with fail
    apply dD (aeY A3 m3 c3 _ j vn vs M (Z (D M)) zo (bL _) aZ aZ N.1 N.2);rintro v4 w4⟨ij,hb4⟩;have OX:=(hb.trans (H.mono hz)).trans (hb4.mono (cI hz H.size));have ij:=wK (cI hz H.size) ij rfl;rw[<- Lk.aX]at ij;exact aiS
   ·have gJ:¬(k:Int)<Q l:=aZ;have ho:Own wr (Z (D w)) 5 u5 (EO l):=by
     rw[HR.aX];unfold lL
     grind
    go_wp2;go_ret2;simp_all
section
variable {l la lb:List dW} {b:List UInt8} {v va vb:aQ} {w:aP}
theorem avr(h:iT l v w)(j:∀x∈l,cV x.2.1/\cV x.2.2.1):aK prog 263 #[v] w λe w' =>
 ∃v',e=ak (au #[v',G J (my l)])/\Own w' (Z (D w)) 5 v' (EO l)/\aN (Z (D w)) w w':=by
 obtain⟨A,c,rfl,t⟩:=h
 exact atc A c l w _ t (bL _) j
end
theorem awX{k n s}(j:-9223372036854775808<=n)(t:n<=9223372036854775807)(y:s.size<=40):Q (pP k n s)<=67:=by have t:=eM (cL k) (jb _);have:=eM (xY k n) (Nh _ _ j aZ);have:=eM s.size aZ;simp[pP];omega
def Ip(t:eT):List UInt8:=if t.2.1==8 then []else pP t.2.2.1 t.2.2.2.1 t.2.2.2.2
theorem anp{t}(h:iU t=aA):t.2.2.2.2.size<=40:=by
 obtain⟨_,_,_,h8,hn⟩:=Hh h;by_cases e:t.2.1=8
 ·have:=h8 e;rw[this];decide
 ·grind [J8]
theorem agm{t}(h:iU t=aA)(j:jF t):Q (Ip t)<=67:=by
 have y:=anp h;unfold Ip;split
 ·simp
 ·exact awX j.2.2.1 j.2.2.2 y
theorem aAY{t}(h:iU t=aA)(j:jF t):Q (lX t)<=101:=by
 obtain⟨y,_,_,_,_⟩:=Hh h
 have z:=agm h j
 have:=eM t.1.size aZ
 have:=eM (cL t.2.1) (jb _)
 have:t.1.data.size<=16:=y
 unfold lX
 unfold Ip at z
 grind
theorem awY(l:List eT)(hk:∀x∈l,Q (lX x)<=101):Q (l.flatMap lX)<=101*Q l:=by
 induction l with
 | nil=>simp
 | cons y l j =>
  grind
theorem awZ l k(t:okF l=aA)(j:∀x∈l,jF x):Q (bI (Q l)++(l.take k).flatMap lX)<=1000:=by
 grind [FG,eM,awY,aAY,lB,eU]
theorem avs(l:List eT)(k:Nat)(h:k<Q l):bI (Q l)++(l.take (k+1)).flatMap lX=bI (Q l)++(l.take k).flatMap lX++(bI l[k].1.size++fW l[k].1)++bI (cL l[k].2.1)++Ip l[k]:=by rw[ix h,List.flatMap_append,xV,List.flatMap_nil,List.append_nil];simp only[lX,Ip,fN]
theorem asy A c l w B(hR:Reads w B 5 A (Q l) (l.flatMap gT))(t:B<=Z (D w))(hi:∀x∈l,jF x) :
 aK prog 264 #[F A (Q l) c] w λe w' =>
  ∃v',e=ak (au #[v',G J (pA l)])/\Own w' (Z (D w)) 5 v' (EJ l)/\aN (Z (D w)) w w':=by
 have hch:=aY (WD A c l w B hR t)
 cases hok:okF l
 ·have HE:Hid (pA l=50):=aY R9;have HR:Hid (EJ l=[]):=aY (by simp[EJ,hok]);have hne:(pA l != 0)=true:=jD;exact aiR
 ·have HE:Hid (pA l=0):=aY R9;have HR:Hid (EJ l=lD l):=aY (by simp[EJ,hok]);have hne:(pA l != 0)=false:=jD;obtain⟨h8,hL⟩:=FG hok;have BM:=aY λk=>awZ l k hok hi
  have HA:=aY hL;have HI:=aY hi;have HS:=aY (avs l);have HRd:=aY hR;go_in;go_wp2_with fail
  apply bN hch.aX;intro w1 cD;go_wp2_with fail
  apply dD (yU U 0 0 [] (Q l) aZ w1 0 (Reads.nil _ _ _ _) aZ aZ);rintro v2 w2⟨gI,hb2⟩;have Iz:=cD.trans (hb2.mono cD.size);rw[bU]at gI;have ho:=wK cD.size gI rfl;go_wp2_with fail
  go_loopw [5,19] (fun o i wr=>∃k:Nat,k<=Q l/\i=G J k/\Own wr (Z (D w)) 5 o (bI (Q l)++(l.take k).flatMap lX)/\aN (Z (D w)) w wr) (fun _ i _=>Q l-(aO i).toNat)
  case atStart=>exact⟨0,aZ,rfl,by simpa using ho,Iz⟩
  case round =>
   obtain⟨k,hk,rfl,hok,hb⟩:=hrel;by_cases z:k<Q l
   ·have gJ:(k:Int)<Q l:=aZ;obtain⟨b,H,rfl,C,hcell⟩:=HRd.aX.KR aZ;obtain⟨e0,e1,e2,e3,e4⟩:=hcell k z;have d0:=(hb.cell (p:=⟨b,H+k*5,U⟩) (cQ C t)).trans e0;have d1:=(hb.cell (p:=⟨b,H+k*5+1,U⟩) (cQ C t)).trans e1;have d2:=(hb.cell (p:=⟨b,H+k*5+2,U⟩) (cQ C t)).trans e2;have d3:=(hb.cell (p:=⟨b,H+k*5+3,U⟩) (cQ C t)).trans e3;have d4:=(hb.cell (p:=⟨b,H+k*5+4,U⟩) (cQ C t)).trans e4;have hz:=hb.size;have V:=HA.aX _ (dG z);have hpt:=Hh V;have aDL:=anp V;have BN:=(HI.aX _ (dG z)).2;have:=aY (agm V (HI.aX _ (dG z)));have R:=aY (HS.aX k z);have hlk:=BM.aX k;generalize l[k]=x at *;obtain⟨s,op,j,vn,vs⟩:=x;simp only at d0 d1 d2 d3 d4 hpt aDL BN R;obtain⟨aaV,jf,ho8,-,-⟩:=hpt;generalize (l.take k).flatMap lX=T at *;obtain⟨A1,c1,rfl,mG⟩:=hok.slice;have:=hlk;generalize oM:Q (bI (Q l)++T)=m1 at mG hlk⊢;have:=λW=>run_bytes_of_string (P:=prog) W 9 118 5 s underlying9 underlying118 underlying5
    go_wp2_with fail
    have fG:=bn.new wr 85 #[aw s,G J op,G J j,G J vn,aw vs];have sY:aN (Z (D wr)) wr ((aU wr (aq #[aw s,G J op,G J j,G J vn,aw vs] 85)).alloc (aq (bytesRow s (grownCap (aU wr (aq #[aw s,G J op,G J j,G J vn,aw vs] 85)) s.size 0 5)) 5 ((bytesRow s (grownCap (aU wr (aq #[aw s,G J op,G J j,G J vn,aw vs] 85)) s.size 0 5)).size,(bytesRow s (grownCap (aU wr (aq #[aw s,G J op,G J j,G J vn,aw vs] 85)) s.size 0 5)).size+1))).drew:=(((ed _ _).alloc (bL _) _).alloc bq _).drew;have zq:=(mG.below sY (bL _)).more (B':=Z (D wr)+1+1) aZ;apply dD (QZ A1 _ m1 c1 s.size _ _ (fW s) _ (Z (D wr)+1+1) zq (Reads.ano _ s _ _ _ (Z (D wr)+1) bq) bq aZ aZ);rintro v3 N⟨X,S⟩;have L:=((fG.alloc (aq (bytesRow s (grownCap (aU wr (aq #[aw s,G J op,G J j,G J vn,aw vs] 85)) s.size 0 5)) 5 ((bytesRow s (grownCap (aU wr (aq #[aw s,G J op,G J j,G J vn,aw vs] 85)) s.size 0 5)).size,(bytesRow s (grownCap (aU wr (aq #[aw s,G J op,G J j,G J vn,aw vs] 85)) s.size 0 5)).size+1))).drew).below S cG;have Y:=sY.trans (S.mono cG);have hgt:Z (D wr)<Z (D N):=cQ cG S.size;have q1:=L.cell 1;have q2:=L.cell 2;have q3:=L.cell 3;have q4:=L.cell 4;simp at q1 q2 q3 q4;have X:Own N (Z (D wr)) 5 v3 (bI (Q l)++T++(bI s.size++fW s)):=wK cG X bq;obtain⟨A3,c3,rfl,zo⟩:=X.slice;have:=eM s.size aZ;have:s.data.size<=16:=aaV;have zt:Q (bI (Q l)++T++(bI s.size++fW s))<=1100:=by
     grind
    have DD:Q (bI (Q l)++T++(bI s.size++fW s)++bI (cL op))<=1200:=by have:=eM (cL op) (jb op);simp only[eU]at zt⊢;omega
    generalize Q (bI (Q l)++T++(bI s.size++fW s))=m3 at zo zt⊢;go_wp2_with fail
    have hN:=yU A3 m3 c3 _ (cL op) (jb op) N (Z (D N)) zo (bL _) aZ;rw[show ((cL op:Nat):Int)=op by unfold cL;omega]at hN;apply dD hN;rintro v4 O⟨ij,hb4⟩;have M:=L.below hb4 hgt;have r1:=M.cell 1;have r2:=M.cell 2;have r3:=M.cell 3;have r4:=M.cell 4;simp at r1 r2 r3 r4;have OX:=(hb.trans (Y.mono hz)).trans (hb4.mono (cI hz Y.size));have lq:=OX.size;have ij:=wK (cI hz Y.size) ij rfl;by_cases hop:op=8
    ·subst hop;have ij:Own O (Z (D w)) 5 v4 (bI (Q l)++(l.take (k+1)).flatMap lX):=by rw[R.aX];simpa [Ip]using ij
     exact aiS
    ·obtain⟨A4,c4,rfl,hR4⟩:=ij.slice;generalize Q (bI (Q l)++T++(bI s.size++fW s)++bI (cL op))=m4 at hR4 DD⊢;go_wp2_with fail
     apply dD (aeY A4 m4 c4 _ j vn vs O (Z (D O)) hR4 (bL _) aZ aZ BN.2.1 BN.2.2);rintro v5 w5⟨y,jI⟩;have aDM:=OX.trans (jI.mono lq);have y:=wK lq y rfl;have y:Own w5 (Z (D w)) 5 v5 (bI (Q l)++(l.take (k+1)).flatMap lX):=by rw[R.aX];simpa [Ip,hop]using y
     go_wp2;go_roundw
     case rel=>exact⟨k+1,aZ,cU,y,aDM⟩
     case measure=>simp[aO];omega
   ·have gJ:¬(k:Int)<Q l:=aZ;have ho:Own wr (Z (D w)) 5 u5 (EJ l):=by
     rw[HR.aX];unfold lD
     grind
    go_wp2;go_ret2;simp_all
theorem at8{l v w}(h:fQ l v w)(j:∀x∈l,jF x):aK prog 264 #[v] w λe w' =>
 ∃v',e=ak (au #[v',G J (pA l)])/\Own w' (Z (D w)) 5 v' (EJ l)/\aN (Z (D w)) w w':=by
 obtain⟨A,c,rfl,t⟩:=h
 exact asy A c l w _ t (bL _) j
