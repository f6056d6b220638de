/-
  Words for memory that the walks of this claim share: a slice that reads as a list of cells, bytes, and how these facts go on when memory grows. Conditions: none.
-/
import Derived.WalkKit
import Derived.WalkLawsBesides
import Derived.WalkSpells
import Derived.Deep.Draws
import Derived.Deep.AppendLies
import Derived.Maps.AppendAt
import Derived.Laws.CopyOwn
import Derived.Lib.Hide
import Derived.ScopeJumps
import Derived.Laws.IdiomStrings
import Derived.Laws.BytesArg
import Derived.WalkMore
import Derived.Maps.OwnSet
import Derived.Carry
import Derived.Test.YtfndfpdhlbmboaaGreatProg
import Derived.BigQuiet
import Derived.Deep.QuietTactic
import Derived.Test.YtfndfpdhlbmboaaGreatMdz
set_option maxRecDepth 100000
set_option linter.constructorNameAsVariable false
set_option maxHeartbeats 16000000
set_option linter.unusedVariables false
set_option linter.unusedSimpArgs false
namespace Go.Proofs.YtfndfpdhlbmboaaGreat
open Go Go.RowKit _root_.Go.Proofs.Tryz
section
variable {P:Program} {f:FuncId} {args:Array Value} {w w0:World} {X:Value} {R:World->Prop} {S:Value->World->Prop} {Q:Ending->World->Prop}
theorem aM(h:Calls P f args w λe w'=>e=.returned X/\R w')(k:∀w',R w'->Q (.returned X) w'):Calls P f args w Q:=h.mono λ_ w' ⟨e,r⟩=>e▸k w' r
theorem bS(h:Calls P f args w λe w'=>∃v,e=.returned v/\S v w')(k:∀v w',S v w'->Q (.returned v) w'):Calls P f args w Q:=h.mono λ_ w' ⟨v,e,r⟩=>e▸k v w' r
theorem cG(h:Calls P f args w λe w'=>e=.returned X/\Below w.heap.size w w')(j:Below w0.heap.size w0 w)(k:∀w',Below w.heap.size w w'->Below w0.heap.size w0 w'->Q (.returned X) w'):Calls P f args w Q:=aM h λw' r=>k w' r (j.trans (r.mono j.size))
theorem rM(h:Calls P f args w λe w'=>∃v,e=.returned v/\S v w'/\Below w.heap.size w w')(j:Below w0.heap.size w0 w)(k:∀v w',S v w'->Below w.heap.size w w'->Below w0.heap.size w0 w'->Q (.returned v) w'):Calls P f args w Q:=bS h λv w' r=>k v w' r.1 r.2 (j.trans (r.2.mono j.size))
end
abbrev fo(w:World)(b o:Nat):Option Value:=w.cell? ⟨b,o,none⟩
def Reads(w:World)(B size:Nat)(A:Option Addr)(n:Nat)(xs:List Value):Prop :=
 xs.length=n*size/\(0<xs.length->∃b t,A=some ⟨b,t,none⟩/\b<B/\∀j u,xs[j]?=some u->w.cell? ⟨b,t+j,none⟩=some u)
theorem K0{w:World}{a u}(h:w.cell? a=some u):a.block<w.heap.size:=World.block_lt_of_cell? w a h
section
variable {w w':World} {B B' size n:Nat} {A:Option Addr} {xs:List Value}
theorem Reads.nil w B size A:Reads w B size A 0 []:=⟨aj,λh=>absurd h aj⟩
theorem Reads.keep(h:Reads w B size A n xs)(hk:∀k,k<B->w'.heap[k]?=w.heap[k]?):Reads w' B size A n xs :=
 ⟨h.1,λhn=>by
  obtain⟨b,y,e,hb,C⟩:=h.2 hn;exact⟨b,y,e,hb,λj u t=>(World.cell?_of_block (hk b hb)).trans (C j u t)⟩⟩
theorem Reads.more(h:Reads w B size A n xs)(u:B<=B'):Reads w B' size A n xs :=
 ⟨h.1,λhn=>by
  obtain⟨b,j,e,hb,t⟩:=h.2 hn;exact⟨b,j,e,af,t⟩⟩
theorem Reads.below{C}(h:Reads w B size A n xs)(hb:Below C w w')(j:B<=C):Reads w' B size A n xs:=h.keep λ_ hk=>hb.block _ (by omega)
theorem Reads.drew(h:Reads w B size A n xs):Reads w.drew B size A n xs:=h
theorem Reads.len(h:Reads w B 1 A n xs):xs.length=n:=by simpa using h.1
theorem Reads.cut(h:Reads w B 1 A n xs) l m cap(F:l<=m)(hm:m<=n)(y:n<=cap) :
 Reads w B 1 (if cap=l then A else A.map (·.add l)) (m-l) ((xs.take m).drop l):=by
 have E:=h.len
 refine⟨aA,λhn=>?_⟩
 simp at hn
 obtain⟨b,t,rfl,hb,C⟩:=h.2 af
 rw[if_neg af]
 refine⟨b,t+l,by simp[Addr.add_lit],hb,λj u D=>?_⟩
 grind
theorem Reads.yH{base e c}(h:w.ownsRow base e size (.slice A n c) n xs):Reads w w.heap.size size A n xs:=by
 refine⟨h.1,λhn=>?_⟩;rcases h.2 with ⟨_,rfl⟩|⟨g,cap,cur,t,_,hg,_,_,_,B⟩
 ·have:=h.1;simp at this;subst this;simp at hn
 ·injection t with hA;subst hA;refine⟨g,0,rfl,?_,λj u y=>?_⟩
  ·grind
  ·have:=h.cells (g:=g) rfl j u y;simpa [Addr.add_lit]using this
end
theorem BV(w:World) row:w.grownBy w row:=World.grownBy.refl w row
theorem DD{a w:World}{row}(h:a.grownBy w row) o:a.grownBy (w.alloc o) row :=
 ⟨h.os,h.tape,h.output,bn h.size aj,λi j t=>(Below.heap_alloc w o i (bz j h.size)).trans (h.block i j t)⟩
theorem DP{a w:World}{g}(h:a.grownBy w (some g)){p}(hp:p.block=g) u:a.grownBy (w.setCell p u) (some g) :=
 ⟨h.os,h.tape,h.output,aeR,λi t j=>(Below.heap_setCell w p u i (by rintro rfl;exact j (by rw[hp]))).trans (h.block i t j)⟩
theorem yA{a w:World}{row}(h:a.grownBy w row){p}(hp:a.heap.size<=p.block) u:a.grownBy (w.setCell p u) row :=
 ⟨h.os,h.tape,h.output,aeR,λi j t=>(Below.heap_setCell w p u i af).trans (h.block i j t)⟩
theorem BN{a w}(h:Below a.heap.size a w) row:a.grownBy w row:=⟨h.os,h.tape,h.output,h.size,λi j _=>h.block i j⟩
theorem oO{a b c:World}{row}(h:a.grownBy b row)(k:b.grownBy c row):a.grownBy c row:=h.trans k
theorem lD{a w g B}(h:a.grownBy w (some g))(j:B<=g)(hz:B<=a.heap.size):Below B a w :=
 ⟨h.os,h.tape,h.output,h.size,λi t=>h.block i af (by intro e;injection e with e;omega)⟩
def dS(l:List UInt8):List Value:=l.map λb=>.int .u8 (b.toNat:Int)
@[simp] theorem aEs (l:List UInt8):(dS l).length=l.length:=by simp[dS]
theorem KL a b:dS (a++b)=dS a++dS b:=by simp[dS]
theorem xw l:∀u∈dS l,u.oneCell'=true:=by intro u j;obtain⟨_,_,rfl⟩:=List.mem_map.1 j;rfl
theorem aeS l j(h:j<l.length):(dS l)[j]?=some (.int .u8 (l[j].toNat:Int)):=by simp[dS,h]
theorem Reads.pre{w B A n l}(h:Reads w B 1 A n (dS l)) k(hk:k<=n):Reads w B 1 A k (dS (l.take k)):=by
 have y:l.length=n:=by simpa using h.len
 refine⟨ba,λj=>?_⟩
 simp at j
 obtain⟨b,u,e,hb,t⟩:=h.2 ba
 grind [dS]
theorem Reads.post{w B A A' n l}(h:Reads w B 1 A n (dS l)) k(hA:k<n->A'=A.map (·.add k)):Reads w B 1 A' (n-k) (dS (l.drop k)):=by
 have E:l.length=n:=by simpa using h.len
 refine⟨ba,λD=>?_⟩;simp at D;obtain⟨b,C,rfl,hb,t⟩:=h.2 ba;refine⟨b,C+k,by rw[hA (by omega)];simp[Addr.add_lit],hb,λj u y=>?_⟩;rw[Nat.add_assoc];refine t _ u ?_;rw[<- y];unfold dS;simp
theorem aeT{P} w u t e(E:P.underlying u=some (.slice e))(D:P.underlying e=some (.int .u8))(F:P.underlying t=some .string)
 B A n c l (hR:Reads w B 1 A n (dS l)):(convert u t (.slice A n c)).run P w=.ok (.string ⟨l.toArray⟩) w:=by
 have L:l.length=n:=FP
 rcases A with _|C
 ·have J:l=[]:=by
   rcases Nat.eq_zero_or_pos l.length with h|h
   ·grind
   ·obtain⟨b,I,e,_⟩:=hR.2 FQ;cases e
  subst J;exact run_convert_bytes_nil w u e E D _ _ t F
 ·have G:∀j (y:j<l.length),w.cell? (C.add j)=some (.int .u8 (l[j].toNat:Int)):=by intro j y;obtain⟨b,I,e,_,H⟩:=hR.2 ba;injection e with e;subst e;rw[Addr.add_lit];exact H j _ (aeS l j y)
  rw[<- L];exact run_convert_bytes_back w u t e C c l E D F G
abbrev Own(w:World)(base:Nat)(e:TypeId)(v:Value)(l:List UInt8):Prop:=w.ownsRow base e 1 v l.length (dS l)
theorem ua{w:World}{base base':Nat}{e:TypeId}{v:Value}{l l':List UInt8}(hb:base<=base')(h:Own w base' e v l)(j:l=l':=by simp):Own w base e v l':=by subst j;exact aeU
theorem UO{w w' base B e v l}(_:B<=w.heap.size)(h:Own w base e v l)(hb:Below w.heap.size w w'):Own w' base e v l:=aeV
theorem OO{w:World}{base g cap e xs rest n}(hb:base<=g)(hg:w.heap[g]?=some (.cells (xs++rest).toArray e (0,0)))(hn:xs.length=n)(j:n+rest.length=cap)(hm:cap<=maxLen) :
 w.ownsRow base e 1 (.slice (some ⟨g,0,none⟩) n cap) n xs :=
 ⟨by simp[hn],.inr ⟨g,cap,_,rfl,hb,hg,af,hm,ba,by simp[hn]⟩⟩
theorem Own.slice{w base e v l}(h:Own w base e v l):∃A c,v=.slice A l.length c/\Reads w w.heap.size 1 A l.length (dS l):=by
 have t:=h;rcases h.2 with ⟨rfl,j⟩|⟨g,cap,cur,rfl,_⟩
 ·grind [List.eq_nil_of_length_eq_zero,Reads.yH]
 ·grind [Reads.yH]
def ai(w:World)(g:Nat)(t:TypeId)(cs:Array Value):Prop:=w.heap[g]?=some (.cells cs t (0,0))
section
variable {w w':World} {g:Nat} {t:TypeId} {cs:Array Value}
theorem ai.lt(h:ai w g t cs):g<w.heap.size:=(Array.getElem?_eq_some_iff.1 h).1
theorem ai.cell(h:ai w g t cs) i:w.cell? ⟨g,i,none⟩=cs[i]?:=cell_of_row w g i cs t (0,0) h
theorem ai.frozen(h:ai w g t cs) i:w.frozen? ⟨g,i,none⟩=false:=by unfold ai at h;simp[World.frozen?,h]
theorem ai.new(w:World) t cs:ai (w.alloc (.cells cs t)) w.heap.size t cs:=heap_alloc_new w _
theorem ai.drew(h:ai w g t cs):ai w.drew g t cs:=h
theorem ai.alloc(h:ai w g t cs) o:ai (w.alloc o) g t cs:=(Below.heap_alloc w o g h.lt).trans h
theorem ai.aQ(h:ai w g t cs) i u:ai (w.setCell ⟨g,i,none⟩ u) g t (cs.setIfInBounds i u):=by unfold ai at h⊢;simp[World.setCell,Array.getElem?_modify,h]
theorem ai.far(h:ai w g t cs){p}(hp:g≠p.block) u:ai (w.setCell p u) g t cs:=(Below.heap_setCell w p u g hp).trans h
theorem ai.grown{row}(h:ai w g t cs)(hb:w.grownBy w' row)(hg:some g≠row):ai w' g t cs:=(hb.block g h.lt hg).trans h
theorem ai.below{B}(h:ai w g t cs)(hb:Below B w w')(hg:g<B):ai w' g t cs:=(hb.block g hg).trans h
theorem ai.ay(h:ai w g t cs)(hb:Below w.heap.size w w'):ai w' g t cs:=h.below hb h.lt
end
theorem Kz{P a w Q c rest} l(t:findLabel c l=some rest)
 (first:c.wp P (Exit.jump l (λa w=>rest.wp P (Exit.noGoto Q) a w) Q) a w):(Code.scope c).wp P Q a w:=by
 refine wp_scope_jumps l _ (λ_ _=>0) t first ?_
 intro a w h
 refine wp_mono h ?_
 intro e a w j
 cases e <;> first|exact j|exact False.elim j
structure fY(P:Program)(t e:TypeId)(z:Value)(size bytes:Nat):Prop where
 und:P.underlying t=some (.slice e)
 info:(P.info? e).map (λi=>(i.zero,i.size,i.bytes))=some (some z,size,bytes)
 zsz:z.cells.size=size
 pos:0<size
theorem fY.fit{P t e z size bytes}(h:fY P t e z size bytes) :
 ∃i,P.info? e=some i/\i.zero=some z/\i.size=size/\i.bytes=bytes:=info_parts h.info
section
variable {P:Program}
theorem FR w base t ty e z size bytes(T:fY P t e z size bytes) v n xs(hown:w.ownsRow base e size v n xs)
 B A m c y (E:Reads w B size A m y) (S:∀u∈y,u.oneCell'=true)
 (G:(n+m)*(bytes+1)<=140737488355328) (hbase:base<=w.heap.size) :
 ∃v' w',(Builtin.append_ #[t,t] ty #[v,.slice A m c]).run P w=.ok v' w'/\w'.ownsRow base e size v' (n+m) (xs++y)/\w.grownBy w' v.ownBlock /\
  (v'.ownBlock=v.ownBlock∨v'.ownBlock=some w.heap.size)/\Below base w w':=by
 obtain⟨i,C,H,J,I⟩:=T.fit
 have D:=T.pos
 have L:=bn (Nat.mul_le_mul_left _ (Nat.le_succ _)) G
 have U:=bn (Nat.le_mul_of_pos_right _ af) G
 rcases Nat.eq_zero_or_pos y.length with F|F
 ·obtain rfl:y=[]:=List.eq_nil_of_length_eq_zero F;have hm:m=0:=by
   have:=E.1;simp only[List.length_nil]at this;rcases Nat.eq_zero_or_pos m with h|h
   ·exact h
   ·have:=Nat.mul_pos h D;omega
  subst hm;rcases A with _|Q
  ·refine⟨v,w,?_,aA,World.grownBy.refl w _,.inl rfl,cT _ _⟩;rcases hown.2 with ⟨rfl,rfl⟩|⟨g,cap,cur,rfl,_,_,N,_⟩
   ·simp[Builtin.append_,run_underlying T.und,sizeOf,typeInfo,C,Builtin.lenOf,Builtin.firstCells]
   ·simp[Builtin.append_,run_underlying T.und,sizeOf,typeInfo,C,Builtin.lenOf,Builtin.firstCells,N,storeCells]
  ·obtain⟨v',w',hrun,h2,h3,_,h5⟩:=run_append_own_at (P:=P) w base t ty e i z size bytes T.und C H J I T.zsz D v n xs hown Q 0 c [] aj aj aj BW L hbase;exact aeW
 ·obtain⟨b,R,rfl,_,M⟩:=E.2 F;obtain⟨v',w',hrun,h2,h3,_,h5⟩:=run_append_own_at (P:=P) w base t ty e i z size bytes T.und C H J I T.zsz D v n xs hown ⟨b,R,none⟩ m c y E.1 (λj u O=>by rw[Addr.add_lit];exact M j u O) S BW L hbase;exact aeW
theorem iW{w ops rest o a Q}(N:o.guard=none) s x t
 (L:o.op=.call { callee:=.builtin .append,args:=#[s,x],argTypes:=#[t,t] })
 base e z size bytes (T:fY P t e z size bytes) v n xs (J:a.eval s=v) (H:w.ownsRow base e size v n xs)
 B A m c j (F:a.eval x=.slice A m c) (M:Reads w B size A m j) (S:∀u∈j,u.oneCell'=true)
 (D:(n+m)*(bytes+1)<=140737488355328) (I:base<=w.heap.size)
 (h:∀v' w',w'.ownsRow base e size v' (n+m) (xs++j)->w.grownBy w' v.ownBlock->(v'.ownBlock=v.ownBlock∨v'.ownBlock=some w.heap.size)->Below base w w'->wpList P ops Q rest (a.put o.dst v') w') :
 wpList P ops Q (o :: rest) a w:=by
 refine wpList_plain N λK E=>?_
 obtain⟨v',w',G,y,C,O,R⟩:=FR w base t o.type e z size bytes T v n xs H B A m c j M S D I
 unfold Oper.wp execOp
 simp only[L,resolve,invoke,builtin,Sem.run_bind,Sem.run_pure,Result.andThen_ok,List.map_toArray,jR,List.map_nil,J,F,G]
 exact E _ _ (h v' w' y C O R)
theorem Reads.new(w:World) cs t size n(h:cs.length=n*size):Reads (w.alloc (.cells cs.toArray t)) (w.heap.size+1) size (some ⟨w.heap.size,0,none⟩) n cs :=
 ⟨h,λ_=>⟨w.heap.size,0,rfl,af,λj u y=>by
  have A:=heap_alloc_new w (.cells cs.toArray t);simp only[World.cell?,A];simpa using y⟩⟩
end
section
open Go Go.RowKit Go.ChangeMaps
def Ed(ak:List (Int×Value))(k:Int):Option Value:=(ak.find? λp=>p.1==k).map (·.2)
def Cn(w:World)(b:Nat)(ak:List (Int×Value)):Prop :=
 ∃(es:Array MapEntry) (c:Nat),w.heap[b]?=some (.map es c)/\es.toList.map (λe=>(e.key,e.val))=ak.map λp=>(Value.int .i64 p.1,p.2)
theorem Cn.new(w:World):Cn (w.alloc (.map #[] 0)) w.heap.size []:=⟨#[],0,heap_alloc_new w _,rfl⟩
theorem UQ k:∀(es:List MapEntry) (ak:List (Int×Value)) (i:Nat),es.map (λe=>(e.key,e.val))=ak.map (λp=>(Value.int .i64 p.1,p.2)) ->
 ∃r,Instr.findNow (.int .i64) (.int .i64 k) es i=some r/\r.map (·.2)=Ed ak k
 | [],[],i,_=>⟨none,rfl,rfl⟩
 | [],_ :: _,i,h=>xy
 | _ :: _,[],i,h=>xy
 | e :: es,p :: ak,i,h=>by
  simp only[jR,List.cons.injEq,Prod.mk.injEq]at h;obtain⟨⟨A,t⟩,j⟩:=h;obtain⟨r,u,y⟩:=UQ k es ak (i+1) j;unfold Instr.findNow;rw[A];by_cases hk:p.1=k
  ·subst hk;exact⟨some (i,e.val),by simp[Instr.sameNow],by simp[Ed,t]⟩
  ·refine⟨r,?_,?_⟩
   ·have:(k==p.1)=false:=by simp;exact λe=>hk e.symm
    simp[Instr.sameNow,this,u]
   ·rw[y];unfold Ed;rw[List.find?_cons_of_neg tk]
section
variable {P:Program}
theorem aoO{K}(j:P.underlying K=some (.int .i64)) k t n w:(Instr.checkKey t (n+1) K (.int .i64 k)).run P w=.ok () w:=by simp[Instr.checkKey,run_underlying j]
theorem OK{K}(t:P.underlying K=some (.int .i64)) k j w:(Instr.checkKey j 10000 K (.int .i64 k)).run P w=.ok () w:=aoO t k j 9999 w
theorem arz{t K E}(D:P.underlying t=some (.map K E))(u:P.underlying K=some (.int .i64)){w b ak}(h:Cn w b ak) k v(hn:Ed ak k=none) :
 ∃w',(Instr.mapUpdate t (.map (some b)) (.int .i64 k) v).run P w=.ok () w'/\Cn w' b (ak++[(k,v)])/\w.grownBy w' (some b):=by
 obtain⟨es,c,j,y⟩:=h
 obtain⟨r,B,A⟩:=UQ k es.toList ak 0 y
 have F:r=none:=by
  cases r with
  | none=>rfl
  | some x=>rw[hn]at A;cases A
 subst F
 refine⟨setBlock w b (.map (es.push ⟨.int .i64 k,v,c⟩) (c+1)),?_,⟨_,_,heap_setBlock_same j _,?_⟩,⟨rfl,rfl,rfl,PK,λi _ C=>heap_setBlock_other j _ (λe=>C K8)⟩⟩
 ·simp[Instr.mapUpdate,run_underlying D,MapKept.run_getObj_map j,OK u,Instr.findKey,run_underlying u,B,MapKept.run_setObj_map _ j,Result.andThen,setBlock]
 ·simp[y]
theorem vP{t K E}(y:P.underlying t=some (.map K E))(j:P.underlying K=some (.int .i64)){w z}(hz:(zeroValue E).run P w=.ok z w){b ak}(h:Cn w b ak) k :
 (Instr.lookup t (.map (some b)) (.int .i64 k) true).run P w=.ok (.tuple #[(Ed ak k).getD z,.bool (Ed ak k).isSome]) w:=by
 obtain⟨es,c,A,B⟩:=h
 obtain⟨r,u,C⟩:=UQ k es.toList ak 0 B
 rw[<- C]
 cases r with
 | none=>simp[Instr.lookup,run_underlying y,MapKept.run_getObj_map A,OK j,Instr.findKey,run_underlying j,u,hz,Result.andThen]
 | some x=>simp[Instr.lookup,run_underlying y,MapKept.run_getObj_map A,OK j,Instr.findKey,run_underlying j,u,Result.andThen]
theorem xm w{ops rest o a Q}
 (hg:o.guard=none) m x v t (G:o.op=Op.insert t m x v) K E (F:P.underlying t=some (.map K E)) (u:P.underlying K=some (.int .i64))
 b ak (hm:a.eval m=.map (some b)) (C:Cn w b ak) k (A:a.eval x=.int .i64 k) val (D:a.eval v=val) (hn:Ed ak k=none)
 (j:∀w',Cn w' b (ak++[(k,val)])->w.grownBy w' (some b)->wpList P ops Q rest (a.put o.dst undef) w'):wpList P ops Q (o :: rest) a w:=by
 refine wpList_plain hg λJ B=>?_
 obtain⟨w',I,y,H⟩:=arz F u C k val hn
 unfold Oper.wp
 simp[execOp,G,hm,A,D,I,Result.andThen]
 exact B _ _ (j w' y H)
end
end
theorem XY:(prog.info? 5).map (λi=>(i.zero,i.size,i.bytes))=some (some (.int .u8 0),1,1):=by kernel_rfl
theorem Pn A n c l more w B(t:Reads w B 1 A n (dS l))(O:B<=w.heap.size)(hn:n<=1099511627776)(I:0<=more)(M:more<=1099511627776) :
 Calls prog 246 #[.slice A n c,.int .i64 more] w λe w' =>
  ∃g cap,e=.returned (.slice (some ⟨g,0,none⟩) n cap)/\w'.ownsRow w.heap.size 5 1 (.slice (some ⟨g,0,none⟩) n cap) n (dS l)/\Below w.heap.size w w'/\n<=cap/\cap<=2199023255552:=by
 obtain⟨m,rfl⟩:=Int.eq_ofNat_of_zero_le I
 obtain⟨i,y,G,u,hz2⟩:=info_parts XY
 have N:∀W:World,(Instr.makeSlice 94 (.int .i64 n) (.int .i64 ((n:Int)+m))).run prog W=.ok (.slice (some ⟨W.heap.size,0,none⟩) n (n+m)) (W.alloc (.cells (madeCells #[.int .u8 0] (n+m)) 5)):=by intro W;have h:=run_make (P:=prog) W 94 5 i (.int .u8 0) underlying94 y G .i64 .i64 (n:Int) ((n:Int)+m) af af VA af;rw[u]at h;simpa [Value.cells,show ((n:Int)+m).toNat=n+m from by omega]using h
 go_enter func246,ntmps246
 go_wp2_with (with_reducible refine wpList_copy_splice rfl (.tmp 13) (.tmp 14) 94 94 rfl 5 underlying94 (by rw[y];simp[u]) _ A _ _ _ _ rfl rfl w.heap.size 0 (List.replicate (n+m) (.int .u8 0)) 5 ?hg (dS l) ?hn ?hpos ?hfit (xw l) w.heap.size w ?hb (aD _) ?_)
 case hg=>rw[heap_alloc_new,<- toList_madeCells_one]
 case hn=>rw[t.len];simp
 case hpos => intro h0;obtain⟨b,Q,rfl,hb,E⟩:=t.2 La;refine⟨_,rfl,λj v F=>?_⟩;rw[Addr.add_lit,World.cell?_alloc_lt _ _ _ ba];exact E j v F
 case hfit=>rw[t.len];simp
 case hb=>exact (cT _ _).alloc (aD _) _
 intro L H J
 go_wp2
 go_ret
 refine⟨_,_,rfl,?_,J,af,af⟩
 have C:=H.aa
 have D:=t.len
 rw[show splice (List.replicate (n+m) (Value.int .u8 0)) 0 (dS l)=dS l++List.replicate m (Value.int .u8 0)from by simp only[splice];simp[show l.length=n from by simpa using D]]at C
 exact OO (aD _) C D aj BW
def fQ(n:Nat):Nat:=if n=0 then 0 else fQ (n/256)+1
decreasing_by omega
theorem Iu:fQ 0=0:=by grind [fQ]
theorem Po n(h:0<n):fQ n=fQ (n/256)+1:=by grind [fQ]
theorem K1 k:∀n,n<256^k->fQ n<=k:=by
 induction k with
 | zero => intro n h;have:n=0:=BX;subst this;simp[Iu]
 | succ k j =>
  grind [fQ]
theorem arA(n:Nat)(hn:n<18446744073709551616) w :
 Calls prog 288 #[.int .u64 n] w λe w'=>e=.returned (.int .i64 (fQ n:Nat))/\w=w':=by
 have u:=K1 8 n af
 go_enter func288,ntmps288
 go_wp2_with fail
 go_loop [0,3] (fun x c=>∃m k:Nat,m<=n/\k+fQ m=fQ n/\x=.int .u64 m/\c=.int .i64 k) (fun x _=>(intOf x).toNat)
 case atStart=>exact⟨n,0,aD _,af,rfl,rfl⟩
 case round =>
  obtain⟨m,k,hm,hk,rfl,rfl⟩:=hrel;have t:=ae hk;have y:k<=8:=af;clear hk;rcases Nat.eq_zero_or_pos m with j|j
  ·subst j;go_wp2;go_ret;have e:k=fQ n:=by have:=t.aa;rw[Iu]at this;omega
   exact⟨by rw[<- e];rfl,rfl⟩
  ·have hb:(0:Int)<(m:Int):=af;go_wp2;have A:=Po m j;go_round
   case rel=>exact⟨m/256,k+1,af,by have:=t.aa;omega,aj,bI⟩
   case measure=>simp[intOf];omega
def be:Nat->Nat->List UInt8
 | 0,_=>[]
 | k+1,n=>UInt8.ofNat (n/256^k) :: be k n
def az(n:Nat):List UInt8:=UInt8.ofNat (fQ n) :: be (fQ n) n
theorem vQ k n:(be k n).length=k:=by
 induction k generalizing n with
 | zero=>rfl
 | succ k j=>simp[be,j]
theorem ayd N n k(h:k<N):(be N n)[k]?=some (UInt8.ofNat (n/256^(N-1-k))):=by
 induction N generalizing k with
 | zero=>omega
 | succ N j =>
  cases k with
  | zero=>simp[be]
  | succ k =>
   grind [be]
theorem awG N n k(h:k<N):(be N n).take (k+1)=(be N n).take k++[UInt8.ofNat (n/256^(N-1-k))]:=by
 grind [List.take_add_one,ayd]
theorem ads(n j:Nat):((n:Int)/2^(8*j)%256)=((UInt8.ofNat (n/256^j)).toNat:Int):=by rw[show (256:Nat)^j=2^(8*j) by rw[Nat.pow_mul]];simp
theorem cS n(h:n<18446744073709551616):(az n).length<=9:=by simp_all [K1,az,vQ]
theorem TB:fY prog 94 5 (.int .u8 0) 1 1:=⟨underlying94,XY,rfl,ax⟩
theorem abY v l(n:Nat)(hn:n<18446744073709551616) w base(E:Own w base 5 v l)(t:base<=w.heap.size)(hl:l.length<=1099511627776) :
 Calls prog 245 #[v,.int .u64 n] w λe w' =>
  ∃v',e=.returned v'/\Own w' base 5 v' (l++az n)/\Below base w w':=by
 have ayY:=K1 8 n af
 go_enter func245,ntmps245
 go_wp2_with fail
 apply aM (arA n hn _)
 rintro w' rfl
 generalize D:fQ n=N at *
 have W:=ae D
 clear D
 have H:(UInt8.ofNat N).toNat=N:=ba
 have R:=ae H
 clear H
 go_wp2_with (at_builtin;refine iW rfl _ _ 94 rfl base 5 _ 1 1 TB _ _ _ rfl (E.alloc _) (w.heap.size+1) _ 1 1 (dS [UInt8.ofNat N]) rfl ?c1 ?c2 ?c3 ?c5 ?_)
 case c1 => have:=Reads.new w (dS [UInt8.ofNat N]) 5 1 1 rfl;simpa [dS,R.aa]using this
 case c2=>exact xw _
 case c3=>omega
 case c5=>simp;omega
 intro O Z C hg1 azB A
 have F:=((cT _ _).alloc t _).trans A
 have M:Own Z base 5 O (l++[UInt8.ofNat N]):=by unfold Own;rw[KL];simpa using C
 have hz1:=bn t F.size
 clear C hg1 azB A E
 go_wp2_with fail
 go_loopw [0,15] (fun u i wr=>∃k:Nat,k<=N/\i=.int .i64 k/\Own wr base 5 u (l++[UInt8.ofNat N]++(be N n).take k)/\Below base w wr) (fun _ i _=>N-(intOf i).toNat)
 case atStart=>exact⟨0,af,rfl,by simpa using M,F⟩
 case round =>
  obtain⟨k,hk,rfl,j,y⟩:=hrel;have Q:=bn t y.size;by_cases I:k<N
  ·have hi:(k:Int)<N:=af;have Y:=ae (ads n (N-1-k));have V:=ae (awG N n k I);have hlen:(l++[UInt8.ofNat N]++(be N n).take k).length<=l.length+9:=by simp[vQ];omega
   go_wp2_with (at_builtin;refine iW rfl _ _ 94 rfl base 5 _ 1 1 TB _ _ _ rfl (qG j _) (wr.heap.size+1) _ 1 1 (dS [UInt8.ofNat (n/256^(N-1-k))]) rfl ?d1 ?d2 ?d3 ?d5 ?_)
   case d1 => have:=Reads.new wr (dS [UInt8.ofNat (n/256^(N-1-k))]) 5 1 1 rfl;rw[Y.aa];exact this
   case d2=>exact xw _
   case d3=>omega
   case d5=>simp;omega
   intro S J G L X B;have U:=(y.alloc Q _).trans B;have T:Own J base 5 S (l++[UInt8.ofNat N]++(be N n).take (k+1)):=by unfold Own;rw[V.aa,<- eu,KL];simpa [Nat.add_assoc]using G
   clear G L X B;go_wp2;go_roundw
   case rel=>exact⟨k+1,af,bI,T,U⟩
   case measure=>simp[intOf];omega
  ·have hge:¬(k:Int)<N:=af;have Ho:Hid (Own wr base 5 u0 (l++az n)):=by unfold az;rw[W.aa];have:(be N n).take k=be N n:=gQ (by rw[vQ];omega);rw[this]at j;exact ae (by simpa using j)
   clear j;go_wp2;go_ret;exact⟨_,rfl,Ho.aa,y⟩
theorem xp A m c l(n:Nat)(hn:n<18446744073709551616) w B(hR:Reads w B 1 A m (dS l))(u:B<=w.heap.size)(hm:m<=1000000000) :
 Calls prog 146 #[.slice A m c,.int .u64 n] w λe w' =>
  ∃v',e=.returned v'/\Own w' w.heap.size 5 v' (l++az n)/\Below w.heap.size w w':=by
 have E:l.length=m:=FP
 go_enter func146,ntmps146
 go_wp2_with fail
 refine (Pn A m c l 9 w B hR u af af af).mono ?_
 rintro e t⟨g,cap,rfl,D,hb,_,_⟩
 go_wp2_with fail
 apply bS (abY _ l n hn t w.heap.size aA hb.size af)
 rintro v' C⟨j,y⟩
 go_wp2
 go_ret
 exact⟨_,rfl,j,hb.trans y⟩
theorem O2 A D m c k d l b w B(hR:Reads w B 1 A m (dS l))(F:Reads w B 1 D k (dS b))(E:B<=w.heap.size)(hm:m<=1000000000)(hk:k<=1000000000) :
 Calls prog 248 #[.slice A m c,.slice D k d] w λe w' =>
  ∃v',e=.returned v'/\Own w' w.heap.size 5 v' (l++az b.length++b)/\Below w.heap.size w w':=by
 have y:l.length=m:=FP
 have hb:b.length=k:=by simpa using F.len
 have hp:=cS k af
 have j:=ae y
 have C:=ae hb
 clear y hb
 go_enter func248,ntmps248
 go_wp2_with fail
 refine (Pn A m c l (9+k) w B hR E af af af).mono ?_
 rintro e N⟨g,cap,rfl,M,u,_,_⟩
 go_wp2_with fail
 apply bS (abY _ l k af N w.heap.size (by unfold Own;rw[j.aa];exact M) u.size (by have:=j.aa;omega))
 rintro v' O⟨J,H⟩
 have t:=u.trans H
 have L:=F.below t E
 go_wp2_with (at_builtin;refine iW rfl _ _ 94 rfl w.heap.size 5 _ 1 1 TB _ _ _ rfl J B _ k d (dS b) rfl L (xw _) ?d3 t.size ?_)
 case d3=>have:=j.aa;simp;omega
 intro T R G Q S I
 go_wp2
 go_ret
 refine⟨_,rfl,?_,t.trans I⟩
 unfold Own
 rw[KL,C.aa]
 simpa [C.aa,Nat.add_assoc]using G
abbrev dX(s:ByteArray):List UInt8:=s.data.toList
def iY(k n:Int)(s:ByteArray):Bool :=
 if k==1 then s.toList.isEmpty else if k==2 then n==0&&decide ((s.size:Int)<=40)else if k==3 then (n==0||n==1)&&s.toList.isEmpty else false
def mH(k n:Int)(s:ByteArray):Int:=if iY k n s then 0 else 10
def foldI(n:Int):Nat:=if n<0 then (-2*n-1).toNat else (2*n).toNat
def vU(n:Nat):Int:=if n%2=1 then -((n/2:Nat):Int)-1 else ((n/2:Nat):Int)
theorem arB n w(j:-9223372036854775808<=n)(t:n<=9223372036854775807) :
 Calls prog 336 #[.int .i64 n] w λe w'=>e=.returned (.int .u64 (foldI n:Nat))/\w=w':=by
 by_cases hn:n<0
 ·have e:(foldI n:Int)=-2*n-1:=by simp[foldI,hn];omega
  exact aeX
 ·have e:(foldI n:Int)=2*n:=by simp[foldI,hn];omega
  exact aeX
theorem abZ(n:Nat) w(hn:n<18446744073709551616) :
 Calls prog 331 #[.int .u64 n] w λe w'=>e=.returned (.int .i64 (vU n))/\w=w':=by
 by_cases hm:n%2=1
 ·have e:vU n=-((n/2:Nat):Int)-1:=by simp[vU,hm]
  have HE:=ae e;have hb:(((n:Int)%2)==1)=true:=ba;exact aeY
 ·have e:vU n=((n/2:Nat):Int):=by simp[vU,hm]
  have HE:=ae e;have hb:(((n:Int)%2)==1)=false:=ba;exact aeY
theorem O3 k n s w :
 Calls prog 283 #[.agg #[.int .i64 k,.int .i64 n,.string s]] w λe w'=>e=.returned (.int .i64 (mH k n s))/\Below w.heap.size w w':=by
 go_enter func283,ntmps283
 go_wp2
 all_goals
  go_ret
  refine⟨?_,(cT _ _).alloc (aD _) _⟩
  show Ending.returned (.int _ _)=Ending.returned (.int _ _)
  simp_all [mH,iY]
abbrev vv(k n:Int)(s:ByteArray):Value:=.agg #[.int .i64 k,.int .i64 n,.string s]
def wi(k n:Int):Nat:=if k=1 then foldI n else (n%18446744073709551616).toNat
def bf(k:Int):Nat:=(k%18446744073709551616).toNat
def nZ(k n:Int)(s:ByteArray):List UInt8:=az (bf k)++az (wi k n)++(az s.size++dX s)
theorem DK k:IntKind.u64.wrap k=(bf k:Int):=by unfold bf;show k%2^64=_;omega
theorem gP k:bf k<18446744073709551616:=by grind [bf]
theorem auR n(j:-9223372036854775808<=n)(t:n<=9223372036854775807):foldI n<18446744073709551616:=by
 grind [foldI]
theorem Lb k n(j:-9223372036854775808<=n)(t:n<=9223372036854775807):wi k n<18446744073709551616:=by
 grind [wi,auR,gP]
theorem Reads.conv(w:World) s c x e:Reads (w.alloc (.cells (bytesRow s c) e x)) (w.heap.size+1) 1 (some ⟨w.heap.size,0,none⟩) s.size (dS (dX s)) :=
 ⟨aj,λ_=>⟨w.heap.size,0,rfl,af,λj u hu=>by
  have B:=heap_alloc_new w (.cells (bytesRow s c) e x);simp only[World.cell?,B];have y:j<s.data.size:=aeZ;have A:j<s.size:=y;simp[bytesRow,Array.getElem?_append,A];simp[dS]at hu;obtain⟨a,t,rfl⟩:=hu;rw[Array.getElem?_eq_getElem y]at t;injection t with t;rw[t]⟩⟩
theorem ach A m c l k n s w B(hR:Reads w B 1 A m (dS l))(hB:B<=w.heap.size)(hm:m<=900000000)(I:s.size<=900000000)
 (y:-9223372036854775808<=n) (C:n<=9223372036854775807) :
 Calls prog 314 #[.slice A m c,vv k n s] w λe w' =>
  ∃v',e=.returned v'/\Own w' w.heap.size 5 v' (l++nZ k n s)/\Below w.heap.size w w':=by
 have hnl:=Lb k n y C
 have pY:=gP k
 have G:=cS _ pY
 have H:=cS _ hnl
 have F:=cS s.size af
 have u:l.length=m:=FP
 have Hml:=ae u
 clear u
 generalize D:wi k n=NV at *
 generalize t:bf k=KN at *
 have Zh:=ae D
 have HKN:=ae t
 clear D t
 have J:=λW=>run_bytes_of_string (P:=prog) W 9 94 5 s underlying9 underlying94 underlying5
 have aj5:Below w.heap.size w (w.alloc (.cells #[.int .i64 k,.int .i64 n,.string s] 71)):=(cT _ _).alloc (aD _) _
 by_cases hk:k=1
 rotate_left
 ·have E:(k==1)=false:=tk;have j:Hid (bf n=NV):=by rw[<- Zh.aa];exact ae (by simp[wi,hk];rfl)
  clear hk;go_enter func314,ntmps314;go_wp2_with fail
  rw[DK n,j.aa];exact ae0
 ·have E:(k==1)=true:=tk;have j:Hid (foldI n=NV):=by rw[<- Zh.aa];exact ae (by simp[wi,hk])
  clear hk;go_enter func314,ntmps314;go_wp2_with fail
  apply aM (arB n _ y C);rintro w' rfl;rw[j.aa];go_wp2_with fail
  exact ae0
def Rd(w:World)(g:Nat)(l:List UInt8)(wr:Bool):Prop :=
 ∃A c,ai w g 320 #[.slice A l.length c,.bool wr]/\Reads w g 1 A l.length (dS l)/\l.length<=c/\c<=2199023255552
def jc(l:List UInt8):Nat:=l.foldl (λn b=>n*256+b.toNat) 0
def aw(l:List UInt8)(wr:Bool):Nat×List UInt8×Bool :=
 match l with
 | []=>(0,l,true)
 | b :: r =>
  if wr||decide (8<b.toNat)||decide (r.length<b.toNat)||(decide (0<b.toNat)&&r.head?==some 0)then (0,l,true)
  else (jc (r.take b.toNat),r.drop b.toNat,false)
theorem KW A n c l w B(hR:Reads w B 1 A n (dS l))(y:B<=w.heap.size)(hn:n<=1000000000) :
 Calls prog 190 #[.slice A n c] w λe w' =>
  ∃g,e=.returned (.pointer (some ⟨g,0,none⟩))/\w.heap.size<=g/\Rd w' g l false/\Below w.heap.size w w':=by
 have D:l.length=n:=FP
 subst D
 go_enter func190,ntmps190
 go_wp2_with fail
 refine (Pn A _ c l 0 w B hR y af af af).mono ?_
 rintro e t⟨g,cap,rfl,C,hb,j,u⟩
 go_wp2
 go_ret
 refine⟨t.heap.size,rfl,hb.size,⟨_,_,ai.new _ _ _,?_,?_,?_⟩,hb.alloc hb.size _⟩
 ·exact (Reads.yH C).below (Below.alloc (cT _ _) (aD _) _) (aD _)
 ·exact j
 ·exact u
theorem yR(l:List UInt8):((l.length:Int)==0)=l.isEmpty:=by cases l <;> simp;omega
theorem KM g l wr w(h:Rd w g l wr) :
 Calls prog 199 #[.pointer (some ⟨g,0,none⟩)] w λe w'=>e=.returned (.bool (!wr&&l.isEmpty))/\w=w':=by
 obtain⟨A,c,hb,u,B,y⟩:=h
 have j:=hb.cell 1
 have t:=hb.cell 0
 simp at j t
 cases wr
 ·go_enter func199,ntmps199;go_wp2;go_ret;exact⟨by show Ending.returned (.bool _)=_;rw[yR];rfl,rfl⟩
 ·go_enter func199,ntmps199;go_wp2;go_ret;exact⟨rfl,rfl⟩
def ox(g:Nat)(l:List UInt8)(wr:Bool)(w w':World):Prop:=Rd w' g l wr/\w.grownBy w' (some g)
theorem ao7 g l wr w(h:Rd w g l wr)(t:(aw l wr).2.2=true) :
 Calls prog 192 #[.pointer (some ⟨g,0,none⟩)] w λe w'=>e=.returned (.int .u64 0)/\ox g l true w w':=by
 obtain⟨A,c,hb,E,u,I⟩:=h
 have H:=hb.cell 1
 have y:=hb.cell 0
 have N:=hb.frozen 1
 simp at H y
 have AJ:∀W:World,W=w.setCell ⟨g,1,none⟩ (.bool true)->ox g l true w W:=by rintro W rfl;refine⟨⟨A,c,hb.aQ 1 _,?_,u,I⟩,DP (BV _ _) rfl _⟩;exact E.keep λk hk=>Below.heap_setCell w _ _ k ba
 cases wr
 ·cases l with
  | nil => exact Lc
  | cons b r =>
   obtain⟨F,D,rfl,S,B⟩:=E.2 aj;have L:w.cell? ⟨F,D,none⟩=some (.int .u8 b.toNat):=B 0 _ cV;simp only[fg]at y u hb;have R:b.toNat<256:=b.toNat_lt;by_cases h8:8<b.toNat
   ·have G:(8:Int)<(b.toNat:Int):=af;exact Lc
   ·have G:¬(8:Int)<(b.toNat:Int):=af;have M:b.toNat<=8:=af;by_cases h9:r.length<b.toNat
    ·have C:(r.length:Int)+1<1+(b.toNat:Int):=af;exact Lc
    ·have C:¬(r.length:Int)+1<1+(b.toNat:Int):=af;cases r with
     | nil =>
      have J:b.toNat=0:=by simp at h9;omega
      simp[aw,J]at t
     | cons x r =>
      have j:(x==0)=true/\0<b.toNat:=by
       simp only[aw]at t;split at t
       ·grind
       ·simp at t
      obtain⟨j,Q⟩:=j;have j:x=0:=by simpa using j
      subst j;have O:w.cell? ⟨F,D+1,none⟩=some (.int .u8 0):=B 1 _ cV;clear B;have T:(0:Int)<(b.toNat:Int):=af;simp only[fg]at y u hb C h9;exact Lc
 ·exact Lc
theorem Reads.at_{w B A l n}(h:Reads w B 1 A n (dS l))(u:0<l.length) :
 ∃b t,A=some ⟨b,t,none⟩/\b<B/\∀j (hj:j<l.length),w.cell? ⟨b,t+j,none⟩=some (.int .u8 (l[j].toNat:Int)):=by
 obtain⟨b,t,e,hb,y⟩:=h.2 FQ
 grind [dS]
theorem UR l b:jc (l++[b])=jc l*256+b.toNat:=by simp[jc]
theorem Ld l:jc l<256^l.length:=by
 induction h:l.length generalizing l with
 | zero=>simp[List.eq_nil_of_length_eq_zero h,jc]
 | succ n t => have j:l≠[]:=aA;rw[<- List.dropLast_concat_getLast j,UR];have:=t l.dropLast IM;have hb:=(l.getLast j).toNat_lt;rw[Nat.pow_succ];omega
theorem ao8 g b r w(h:Rd w g (b :: r) false)(h8:b.toNat<=8)(hl:b.toNat<=r.length)(hx:0<b.toNat->∃x C,r=x :: C/\0<x.toNat) :
 Calls prog 192 #[.pointer (some ⟨g,0,none⟩)] w λe w'=>e=.returned (.int .u64 (jc (r.take b.toNat):Nat))/\ox g (r.drop b.toNat) false w w':=by
 obtain⟨A,c,hb,hr,X,O⟩:=h
 have T:=hb.cell 1
 have G:=hb.cell 0
 have hf0:=hb.frozen 0
 simp at T G
 obtain⟨F,y,rfl,pg,D⟩:=hr.at_ aj
 have Q:=D 0 aj
 simp at Q
 have B:=ae D
 clear D
 simp only[fg]at G X hb
 generalize I:b.toNat=N at *
 have HN:=ae I
 clear I
 have xN:¬(8:Int)<(N:Int):=af
 have Zi:¬(r.length:Int)+1<1+(N:Int):=af
 have AJ:∀(A':Option Addr) (m t:Nat),m=r.length-N->(0<m->A'=some ⟨F,y+(1+N),none⟩)->m<=t->t<=c->ox g (r.drop N) false w (w.setCell ⟨g,0,none⟩ (.slice A' m t)):=by
  rintro A' m t rfl hA hm hc'
  have W:=hb.aQ 0 (.slice A' (r.length-N) t)
  refine⟨⟨A',t,by simpa using W,⟨aj,λh0=>?_⟩,by simpa using hm,af⟩,DP (BV _ _) rfl _⟩
  simp at h0
  refine⟨F,y+(1+N),hA af,pg,λj u hu=>?_⟩
  rw[World.cell?_setCell_other _ _ _ _ aj]
  have J:j<(r.drop N).length:=aeZ
  rw[aeS _ _ J]at hu
  injection hu with hu
  rw[<- hu,List.getElem_drop]
  simp at J
  have:=B.aa (1+N+j) ba
  rw[show y+(1+N)+j=y+(1+N+j) by omega,this]
  grind
 by_cases xO:0<N
 ·obtain⟨x,C,rfl,dL⟩:=hx xO;have V:=B.aa 1 aj;simp at V;have hxb:((x.toNat:Int)==0)=false:=ba;have Z:(0:Int)<(N:Int):=af;generalize H:x :: C=r at *;have HR:=ae H;clear H;go_enter func192,ntmps192;go_wp2;go_step3;go_wp2_with fail
  go_loop [3,51] (fun n i=>∃k:Nat,k<=N/\i=.int .i64 k/\n=.int .u64 (jc (r.take k):Nat)) (fun _ i=>N-(intOf i).toNat)
  case atStart=>exact⟨0,af,rfl,rfl⟩
  case round =>
   obtain⟨k,hk,rfl,rfl⟩:=hrel;by_cases hlt:k<N
   ·have Y:(k:Int)<N:=af;have GF:w.cell? ⟨F,y+(1+k),none⟩=some (.int .u8 (r[k].toNat:Int)):=by have:=B.aa (1+k) ba;simpa [Nat.add_comm 1 k]using this
    have jg:jc (r.take k)<72057594037927936:=by have:=Ld (r.take k);have O:(r.take k).length<=7:=ba;have h3:256^(r.take k).length<=256^7:=Nat.pow_le_pow_right ax O;omega
    generalize E:jc (r.take k)=v at *;have L:jc (r.take (k+1))=v*256+r[k].toNat:=by rw[gJ af,UR,E]
    have ayZ:r[k].toNat<256:=r[k].toNat_lt;have M:bits BinOp.or IntKind.u64 ((v:Int)*256) (r[k].toNat:Int)=((v*256+r[k].toNat:Nat):Int):=by rw[show (v:Int)*256=((v*256:Nat):Int) by simp,u64_or_nat _ _ af af,nat_join 8 _ _ af af]
    have HV:=ae E;have U:=ae L;have S:=ae M;clear E L M;go_wp2;go_round
    case rel=>exact⟨k+1,af,bI,by rw[S.aa,U.aa]⟩
    case measure=>simp[intOf];omega
   ·have Y:¬(k:Int)<N:=af;have R:k=N:=af;subst R;exact ae1
 ·obtain rfl:N=0:=af;have Z:¬(0:Int)<((0:Nat):Int):=af;go_enter func192,ntmps192;go_wp2;go_step3;go_wp2_with fail
  refine wp_loop_rounds 1 ?_;rw[rounds_succ];exact ae1
theorem tj g l wr w(h:Rd w g l wr) :
 Calls prog 192 #[.pointer (some ⟨g,0,none⟩)] w λe w'=>e=.returned (.int .u64 ((aw l wr).1:Nat))/\ox g (aw l wr).2.1 (aw l wr).2.2 w w':=by
 by_cases j:(aw l wr).2.2=true
 ·have e:aw l wr=(0,l,true):=by
   unfold aw at j⊢
   grind
  rw[e];exact ao7 g l wr w h j
 ·match l,h,j with
  | [],_,j=>simp[aw]at j
  | b :: r,h,j =>
   have t:(wr||decide (8<b.toNat)||decide (r.length<b.toNat)||(decide (0<b.toNat)&&r.head?==some 0))=false:=by
    grind [aw]
   have e:aw (b :: r) wr=(jc (r.take b.toNat),r.drop b.toNat,false):=by grind [aw]
   rw[e]
   simp at t
   obtain⟨⟨⟨rfl,h8⟩,h9⟩,pZ⟩:=t
   refine ao8 g b r w h h8 h9 λu=>?_
   have:=pZ u
   match r,h9,this with
   | [],h9,_=>simp at h9;omega
   | x :: r',_,wL =>
    refine⟨x,r',rfl,?_⟩;rcases Nat.eq_zero_or_pos x.toNat with h|h
    ·exact absurd (by simpa using UInt8.toNat_inj.1 (show x.toNat=(0:UInt8).toNat from h)) wL
    ·exact h
