/-
  Words for memory that the walks of this claim share: a slice that reads as a list of cells, bytes, and how these facts go on when memory grows. Conditions: none.
-/
import Derived.WalkKit
import Derived.WalkLawsBesides
import Derived.WalkSpells
import Derived.Deep.Draws
import Derived.Deep.AppendLies
import Derived.Maps.AppendAt
import Derived.Laws.CopyOwn
import Derived.Lib.Hide
import Derived.ScopeJumps
import Derived.Laws.IdiomStrings
import Derived.Laws.BytesArg
import Derived.WalkMore
import Derived.Maps.OwnSet
import Derived.Carry
import Derived.Test.YtfndfpdhlbmboaaGreatProg
import Derived.BigQuiet
import Derived.Deep.QuietTactic
import Derived.ProofKit
import Derived.OpenShut
import Derived.ShutString
import Derived.ChangeOld
import Derived.Below
import Derived.Lib.SmallJoins
import Derived.Deep.Slices
import Derived.Deep.Fields
import Derived.Deep.CutRange
import Derived.Deep.LoopGhost
import Derived.Orders
import Derived.IntWalk
import Derived.Deep.RegionHeld3
import Derived.Deep.DrawnRows
import Derived.Test.YtfndfpdhlbmboaaGreatMqz
set_option maxRecDepth 100000
set_option maxHeartbeats 16000000
set_option linter.all false
namespace Go.Proofs.YtfndfpdhlbmboaaGreat
open Go Go.RowKit _root_.Go.Proofs.Tryz
section
variable {P:Program} {f:FuncId} {args:Array Value} {w w0:World} {X:Value} {R:World->Prop} {S:Value->World->Prop} {Q:Ending->World->Prop}
theorem aI(h:Calls P f args w λe w'=>e=.returned X/\R w')(k:∀w',R w'->Q (.returned X) w'):Calls P f args w Q:=h.mono λ_ w' ⟨e,r⟩=>e▸k w' r
theorem bN(h:Calls P f args w λe w'=>∃v,e=.returned v/\S v w')(k:∀v w',S v w'->Q (.returned v) w'):Calls P f args w Q:=h.mono λ_ w' ⟨v,e,r⟩=>e▸k v w' r
theorem cF(h:Calls P f args w λe w'=>e=.returned X/\Below w.heap.size w w')(j:Below w0.heap.size w0 w)(k:∀w',Below w.heap.size w w'->Below w0.heap.size w0 w'->Q (.returned X) w'):Calls P f args w Q:=aI h λw' r=>k w' r (j.trans (r.mono j.size))
theorem rr(h:Calls P f args w λe w'=>∃v,e=.returned v/\S v w'/\Below w.heap.size w w')(j:Below w0.heap.size w0 w)(k:∀v w',S v w'->Below w.heap.size w w'->Below w0.heap.size w0 w'->Q (.returned v) w'):Calls P f args w Q:=bN h λv w' r=>k v w' r.1 r.2 (j.trans (r.2.mono j.size))
end
abbrev fc(w:World)(b o:Nat):Option Value:=w.cell? ⟨b,o,none⟩
def Reads(w:World)(B size:Nat)(A:Option Addr)(n:Nat)(xs:List Value):Prop :=
 xs.length=n*size/\(0<xs.length->∃b t,A=some ⟨b,t,none⟩/\b<B/\∀j u,xs[j]?=some u->w.cell? ⟨b,t+j,none⟩=some u)
theorem K0{w:World}{a u}(h:w.cell? a=some u):a.block<w.heap.size:=World.block_lt_of_cell? w a h
section
variable {w w':World} {B B' size n:Nat} {A:Option Addr} {xs:List Value}
theorem Reads.nil w B size A:Reads w B size A 0 []:=⟨aj,λh=>absurd h aj⟩
theorem Reads.keep(h:Reads w B size A n xs)(hk:∀k,k<B->w'.heap[k]?=w.heap[k]?):Reads w' B size A n xs :=
 ⟨h.1,λhn=>by
  obtain⟨b,y,e,hb,C⟩:=h.2 hn;exact⟨b,y,e,hb,λj u t=>(World.cell?_of_block (hk b hb)).trans (C j u t)⟩⟩
theorem Reads.more(h:Reads w B size A n xs)(u:B<=B'):Reads w B' size A n xs :=
 ⟨h.1,λhn=>by
  obtain⟨b,j,e,hb,t⟩:=h.2 hn;exact⟨b,j,e,af,t⟩⟩
theorem Reads.below{C}(h:Reads w B size A n xs)(hb:Below C w w')(j:B<=C):Reads w' B size A n xs:=h.keep λ_ hk=>hb.block _ (by omega)
theorem Reads.drew(h:Reads w B size A n xs):Reads w.drew B size A n xs:=h
theorem Reads.len(h:Reads w B 1 A n xs):xs.length=n:=by simpa using h.1
theorem Reads.cut(h:Reads w B 1 A n xs) l m cap(E:l<=m)(hm:m<=n)(D:n<=cap) :
 Reads w B 1 (if cap=l then A else A.map (·.add l)) (m-l) ((xs.take m).drop l):=by
 have:=h.len
 refine⟨aB,λhn=>?_⟩
 simp at hn
 obtain⟨b,t,rfl,hb,F⟩:=h.2 af
 rw[if_neg af]
 refine⟨b,t+l,by simp[Addr.add_lit],hb,λj u y=>?_⟩
 grind
theorem Reads.yE{base e c}(h:w.ownsRow base e size (.slice A n c) n xs):Reads w w.heap.size size A n xs:=by
 refine⟨h.1,λhn=>?_⟩;rcases h.2 with ⟨_,rfl⟩|⟨g,cap,cur,y,_,hg,_,_,_,B⟩
 ·have:=h.1;simp at this;subst this;simp at hn
 ·injection y with hA;subst hA;refine⟨g,0,rfl,?_,λj u t=>?_⟩
  ·grind
  ·have:=h.cells (g:=g) rfl j u t;simpa [Addr.add_lit]using this
end
theorem B4(w:World) row:w.grownBy w row:=World.grownBy.refl w row
theorem DJ{a w:World}{row}(h:a.grownBy w row) o:a.grownBy (w.alloc o) row :=
 ⟨h.os,h.tape,h.output,bo h.size aj,λi j t=>(Below.heap_alloc w o i (bw j h.size)).trans (h.block i j t)⟩
theorem DT{a w:World}{g}(h:a.grownBy w (some g)){p}(hp:p.block=g) u:a.grownBy (w.setCell p u) (some g) :=
 ⟨h.os,h.tape,h.output,aeM,λi t j=>(Below.heap_setCell w p u i (by rintro rfl;exact j (by rw[hp]))).trans (h.block i t j)⟩
theorem yx{a w:World}{row}(h:a.grownBy w row){p}(hp:a.heap.size<=p.block) u:a.grownBy (w.setCell p u) row :=
 ⟨h.os,h.tape,h.output,aeM,λi t j=>(Below.heap_setCell w p u i af).trans (h.block i t j)⟩
theorem BU{a w}(h:Below a.heap.size a w) row:a.grownBy w row:=⟨h.os,h.tape,h.output,h.size,λi j _=>h.block i j⟩
theorem oG{a b c:World}{row}(h:a.grownBy b row)(k:b.grownBy c row):a.grownBy c row:=h.trans k
theorem ku{a w g B}(h:a.grownBy w (some g))(j:B<=g)(hz:B<=a.heap.size):Below B a w :=
 ⟨h.os,h.tape,h.output,h.size,λi t=>h.block i af (by intro e;injection e with e;omega)⟩
def dN(l:List UInt8):List Value:=l.map λb=>.int .u8 (b.toNat:Int)
@[simp] theorem aE8 (l:List UInt8):(dN l).length=l.length:=by simp[dN]
theorem KH a b:dN (a++b)=dN a++dN b:=by simp[dN]
theorem uU l:∀u∈dN l,u.oneCell'=true:=by intro u j;obtain⟨_,_,rfl⟩:=List.mem_map.1 j;rfl
theorem aeN l j(h:j<l.length):(dN l)[j]?=some (.int .u8 (l[j].toNat:Int)):=by simp[dN,h]
theorem Reads.pre{w B A n l}(h:Reads w B 1 A n (dN l)) k(hk:k<=n):Reads w B 1 A k (dN (l.take k)):=by
 have:l.length=n:=by simpa using h.len
 refine⟨aY,λj=>?_⟩
 simp at j
 obtain⟨b,t,e,hb,u⟩:=h.2 aY
 grind [dN]
theorem Reads.post{w B A A' n l}(h:Reads w B 1 A n (dN l)) k(hA:k<n->A'=A.map (·.add k)):Reads w B 1 A' (n-k) (dN (l.drop k)):=by
 have:l.length=n:=by simpa using h.len
 refine⟨aY,λC=>?_⟩;simp at C;obtain⟨b,y,rfl,hb,D⟩:=h.2 aY;refine⟨b,y+k,by rw[hA (by omega)];simp[Addr.add_lit],hb,λj u t=>?_⟩;rw[Nat.add_assoc];refine D _ u ?_;rw[<- t];unfold dN;simp
theorem aeO{P} w u t e(E:P.underlying u=some (.slice e))(F:P.underlying e=some (.int .u8))(y:P.underlying t=some .string)
 B A n c l (hR:Reads w B 1 A n (dN l)):(convert u t (.slice A n c)).run P w=.ok (.string ⟨l.toArray⟩) w:=by
 have J:l.length=n:=FI
 rcases A with _|C
 ·have H:l=[]:=by
   rcases Nat.eq_zero_or_pos l.length with h|h
   ·grind
   ·obtain⟨b,G,e,_⟩:=hR.2 FJ;cases e
  subst H;exact run_convert_bytes_nil w u e E F _ _ t y
 ·have I:∀j (D:j<l.length),w.cell? (C.add j)=some (.int .u8 (l[j].toNat:Int)):=by intro j D;obtain⟨b,G,e,_,L⟩:=hR.2 aY;injection e with e;subst e;rw[Addr.add_lit];exact L j _ (aeN l j D)
  rw[<- J];exact run_convert_bytes_back w u t e C c l E F y I
abbrev Own(w:World)(base:Nat)(e:TypeId)(v:Value)(l:List UInt8):Prop:=w.ownsRow base e 1 v l.length (dN l)
theorem tH{w:World}{base base':Nat}{e:TypeId}{v:Value}{l l':List UInt8}(hb:base<=base')(h:Own w base' e v l)(j:l=l':=by simp):Own w base e v l':=by subst j;exact aeP
theorem UN{w w' base B e v l}(_:B<=w.heap.size)(h:Own w base e v l)(hb:Below w.heap.size w w'):Own w' base e v l:=aeQ
theorem OJ{w:World}{base g cap e xs rest n}(hb:base<=g)(hg:w.heap[g]?=some (.cells (xs++rest).toArray e (0,0)))(hn:xs.length=n)(j:n+rest.length=cap)(hm:cap<=maxLen) :
 w.ownsRow base e 1 (.slice (some ⟨g,0,none⟩) n cap) n xs :=
 ⟨by simp[hn],.inr ⟨g,cap,_,rfl,hb,hg,af,hm,aY,by simp[hn]⟩⟩
theorem Own.slice{w base e v l}(h:Own w base e v l):∃A c,v=.slice A l.length c/\Reads w w.heap.size 1 A l.length (dN l):=by
 have:=h;rcases h.2 with ⟨rfl,j⟩|⟨g,cap,cur,rfl,_⟩
 ·grind [List.eq_nil_of_length_eq_zero,Reads.yE]
 ·grind [Reads.yE]
def ah(w:World)(g:Nat)(t:TypeId)(cs:Array Value):Prop:=w.heap[g]?=some (.cells cs t (0,0))
section
variable {w w':World} {g:Nat} {t:TypeId} {cs:Array Value}
theorem ah.lt(h:ah w g t cs):g<w.heap.size:=(Array.getElem?_eq_some_iff.1 h).1
theorem ah.cell(h:ah w g t cs) i:w.cell? ⟨g,i,none⟩=cs[i]?:=cell_of_row w g i cs t (0,0) h
theorem ah.frozen(h:ah w g t cs) i:w.frozen? ⟨g,i,none⟩=false:=by unfold ah at h;simp[World.frozen?,h]
theorem ah.new(w:World) t cs:ah (w.alloc (.cells cs t)) w.heap.size t cs:=heap_alloc_new w _
theorem ah.drew(h:ah w g t cs):ah w.drew g t cs:=h
theorem ah.alloc(h:ah w g t cs) o:ah (w.alloc o) g t cs:=(Below.heap_alloc w o g h.lt).trans h
theorem ah.aP(h:ah w g t cs) i u:ah (w.setCell ⟨g,i,none⟩ u) g t (cs.setIfInBounds i u):=by unfold ah at h⊢;simp[World.setCell,Array.getElem?_modify,h]
theorem ah.far(h:ah w g t cs){p}(hp:g≠p.block) u:ah (w.setCell p u) g t cs:=(Below.heap_setCell w p u g hp).trans h
theorem ah.grown{row}(h:ah w g t cs)(hb:w.grownBy w' row)(hg:some g≠row):ah w' g t cs:=(hb.block g h.lt hg).trans h
theorem ah.below{B}(h:ah w g t cs)(hb:Below B w w')(hg:g<B):ah w' g t cs:=(hb.block g hg).trans h
theorem ah.ay(h:ah w g t cs)(hb:Below w.heap.size w w'):ah w' g t cs:=h.below hb h.lt
end
theorem Kw{P a w Q c rest} l(t:findLabel c l=some rest)
 (first:c.wp P (Exit.jump l (λa w=>rest.wp P (Exit.noGoto Q) a w) Q) a w):(Code.scope c).wp P Q a w:=by
 refine wp_scope_jumps l _ (λ_ _=>0) t first ?_
 intro a w h
 refine wp_mono h ?_
 intro e a w j
 cases e <;> first|exact j|exact False.elim j
structure fS(P:Program)(t e:TypeId)(z:Value)(size bytes:Nat):Prop where
 und:P.underlying t=some (.slice e)
 info:(P.info? e).map (λi=>(i.zero,i.size,i.bytes))=some (some z,size,bytes)
 zsz:z.cells.size=size
 pos:0<size
theorem fS.fit{P t e z size bytes}(h:fS P t e z size bytes) :
 ∃i,P.info? e=some i/\i.zero=some z/\i.size=size/\i.bytes=bytes:=info_parts h.info
section
variable {P:Program}
theorem FK w base t ty e z size bytes(T:fS P t e z size bytes) v n xs(hown:w.ownsRow base e size v n xs)
 B A m c y (F:Reads w B size A m y) (O:∀u∈y,u.oneCell'=true)
 (J:(n+m)*(bytes+1)<=140737488355328) (hbase:base<=w.heap.size) :
 ∃v' w',(Builtin.append_ #[t,t] ty #[v,.slice A m c]).run P w=.ok v' w'/\w'.ownsRow base e size v' (n+m) (xs++y)/\w.grownBy w' v.ownBlock /\
  (v'.ownBlock=v.ownBlock∨v'.ownBlock=some w.heap.size)/\Below base w w':=by
 obtain⟨i,C,H,G,I⟩:=T.fit
 have D:=T.pos
 have L:=bo (Nat.mul_le_mul_left _ (Nat.le_succ _)) J
 have U:=bo (Nat.le_mul_of_pos_right _ af) J
 rcases Nat.eq_zero_or_pos y.length with E|E
 ·obtain rfl:y=[]:=List.eq_nil_of_length_eq_zero E;have hm:m=0:=by
   have:=F.1;simp only[List.length_nil]at this;rcases Nat.eq_zero_or_pos m with h|h
   ·exact h
   ·have:=Nat.mul_pos h D;omega
  subst hm;rcases A with _|S
  ·refine⟨v,w,?_,aB,World.grownBy.refl w _,.inl rfl,cP _ _⟩;rcases hown.2 with ⟨rfl,rfl⟩|⟨g,cap,cur,rfl,_,_,Q,_⟩
   ·simp[Builtin.append_,run_underlying T.und,sizeOf,typeInfo,C,Builtin.lenOf,Builtin.firstCells]
   ·simp[Builtin.append_,run_underlying T.und,sizeOf,typeInfo,C,Builtin.lenOf,Builtin.firstCells,Q,storeCells]
  ·obtain⟨v',w',hrun,h2,h3,_,h5⟩:=run_append_own_at (P:=P) w base t ty e i z size bytes T.und C H G I T.zsz D v n xs hown S 0 c [] aj aj aj B6 L hbase;exact aeR
 ·obtain⟨b,N,rfl,_,R⟩:=F.2 E;obtain⟨v',w',hrun,h2,h3,_,h5⟩:=run_append_own_at (P:=P) w base t ty e i z size bytes T.und C H G I T.zsz D v n xs hown ⟨b,N,none⟩ m c y F.1 (λj u M=>by rw[Addr.add_lit];exact R j u M) O B6 L hbase;exact aeR
theorem iM{w ops rest o a Q}(D:o.guard=none) s x t
 (y:o.op=.call { callee:=.builtin .append,args:=#[s,x],argTypes:=#[t,t] })
 base e z size bytes (T:fS P t e z size bytes) v n xs (F:a.eval s=v) (L:w.ownsRow base e size v n xs)
 B A m c j (E:a.eval x=.slice A m c) (O:Reads w B size A m j) (C:∀u∈j,u.oneCell'=true)
 (M:(n+m)*(bytes+1)<=140737488355328) (H:base<=w.heap.size)
 (h:∀v' w',w'.ownsRow base e size v' (n+m) (xs++j)->w.grownBy w' v.ownBlock->(v'.ownBlock=v.ownBlock∨v'.ownBlock=some w.heap.size)->Below base w w'->wpList P ops Q rest (a.put o.dst v') w') :
 wpList P ops Q (o :: rest) a w:=by
 refine wpList_plain D λK N=>?_
 obtain⟨v',w',G,J,R,S,I⟩:=FK w base t o.type e z size bytes T v n xs L B A m c j O C M H
 unfold Oper.wp execOp
 simp only[y,resolve,invoke,builtin,Sem.run_bind,Sem.run_pure,Result.andThen_ok,List.map_toArray,jU,List.map_nil,F,E,G]
 exact N _ _ (h v' w' J R S I)
theorem Reads.new(w:World) cs t size n(h:cs.length=n*size):Reads (w.alloc (.cells cs.toArray t)) (w.heap.size+1) size (some ⟨w.heap.size,0,none⟩) n cs :=
 ⟨h,λ_=>⟨w.heap.size,0,rfl,af,λj u A=>by
  have y:=heap_alloc_new w (.cells cs.toArray t);simp only[World.cell?,y];simpa using A⟩⟩
end
section
open Go Go.RowKit Go.ChangeMaps
def Ee(ak:List (Int×Value))(k:Int):Option Value:=(ak.find? λp=>p.1==k).map (·.2)
def Cr(w:World)(b:Nat)(ak:List (Int×Value)):Prop :=
 ∃(es:Array MapEntry) (c:Nat),w.heap[b]?=some (.map es c)/\es.toList.map (λe=>(e.key,e.val))=ak.map λp=>(Value.int .i64 p.1,p.2)
theorem Cr.new(w:World):Cr (w.alloc (.map #[] 0)) w.heap.size []:=⟨#[],0,heap_alloc_new w _,rfl⟩
theorem UO k:∀(es:List MapEntry) (ak:List (Int×Value)) (i:Nat),es.map (λe=>(e.key,e.val))=ak.map (λp=>(Value.int .i64 p.1,p.2)) ->
 ∃r,Instr.findNow (.int .i64) (.int .i64 k) es i=some r/\r.map (·.2)=Ee ak k
 | [],[],i,_=>⟨none,rfl,rfl⟩
 | [],_ :: _,i,h=>xb
 | _ :: _,[],i,h=>xb
 | e :: es,p :: ak,i,h=>by
  simp only[jU,List.cons.injEq,Prod.mk.injEq]at h;obtain⟨⟨j,u⟩,y⟩:=h;obtain⟨r,A,t⟩:=UO k es ak (i+1) y;unfold Instr.findNow;rw[j];by_cases hk:p.1=k
  ·subst hk;exact⟨some (i,e.val),by simp[Instr.sameNow],by simp[Ee,u]⟩
  ·refine⟨r,?_,?_⟩
   ·have:(k==p.1)=false:=by simp;exact λe=>hk e.symm
    simp[Instr.sameNow,this,A]
   ·rw[t];unfold Ee;rw[List.find?_cons_of_neg sN]
section
variable {P:Program}
theorem aoa{K}(j:P.underlying K=some (.int .i64)) k t n w:(Instr.checkKey t (n+1) K (.int .i64 k)).run P w=.ok () w:=by simp[Instr.checkKey,run_underlying j]
theorem OG{K}(t:P.underlying K=some (.int .i64)) k j w:(Instr.checkKey j 10000 K (.int .i64 k)).run P w=.ok () w:=aoa t k j 9999 w
theorem aq1{t K E}(B:P.underlying t=some (.map K E))(y:P.underlying K=some (.int .i64)){w b ak}(h:Cr w b ak) k v(hn:Ee ak k=none) :
 ∃w',(Instr.mapUpdate t (.map (some b)) (.int .i64 k) v).run P w=.ok () w'/\Cr w' b (ak++[(k,v)])/\w.grownBy w' (some b):=by
 obtain⟨es,c,j,u⟩:=h
 obtain⟨r,F,A⟩:=UO k es.toList ak 0 u
 have D:r=none:=by
  cases r with
  | none=>rfl
  | some x=>rw[hn]at A;cases A
 subst D
 refine⟨setBlock w b (.map (es.push ⟨.int .i64 k,v,c⟩) (c+1)),?_,⟨_,_,heap_setBlock_same j _,?_⟩,⟨rfl,rfl,rfl,PI,λi _ C=>heap_setBlock_other j _ (λe=>C FM)⟩⟩
 ·simp[Instr.mapUpdate,run_underlying B,MapKept.run_getObj_map j,OG y,Instr.findKey,run_underlying y,F,MapKept.run_setObj_map _ j,Result.andThen,setBlock]
 ·simp[u]
theorem uL{t K E}(y:P.underlying t=some (.map K E))(j:P.underlying K=some (.int .i64)){w z}(hz:(zeroValue E).run P w=.ok z w){b ak}(h:Cr w b ak) k :
 (Instr.lookup t (.map (some b)) (.int .i64 k) true).run P w=.ok (.tuple #[(Ee ak k).getD z,.bool (Ee ak k).isSome]) w:=by
 obtain⟨es,c,u,B⟩:=h
 obtain⟨r,A,C⟩:=UO k es.toList ak 0 B
 rw[<- C]
 cases r with
 | none=>simp[Instr.lookup,run_underlying y,MapKept.run_getObj_map u,OG j,Instr.findKey,run_underlying j,A,hz,Result.andThen]
 | some x=>simp[Instr.lookup,run_underlying y,MapKept.run_getObj_map u,OG j,Instr.findKey,run_underlying j,A,Result.andThen]
theorem wV w{ops rest o a Q}
 (hg:o.guard=none) m x v t (C:o.op=Op.insert t m x v) K E (D:P.underlying t=some (.map K E)) (I:P.underlying K=some (.int .i64))
 b ak (hm:a.eval m=.map (some b)) (G:Cr w b ak) k (A:a.eval x=.int .i64 k) val (y:a.eval v=val) (hn:Ee ak k=none)
 (B:∀w',Cr w' b (ak++[(k,val)])->w.grownBy w' (some b)->wpList P ops Q rest (a.put o.dst undef) w'):wpList P ops Q (o :: rest) a w:=by
 refine wpList_plain hg λJ H=>?_
 obtain⟨w',u,j,F⟩:=aq1 D I G k val hn
 unfold Oper.wp
 simp[execOp,C,hm,A,y,u,Result.andThen]
 exact H _ _ (B w' j F)
end
end
theorem XM:(prog.info? 5).map (λi=>(i.zero,i.size,i.bytes))=some (some (.int .u8 0),1,1):=by kernel_rfl
theorem Pk A n c l more w B(t:Reads w B 1 A n (dN l))(L:B<=w.heap.size)(hn:n<=1099511627776)(E:0<=more)(Q:more<=1099511627776) :
 Calls prog 246 #[.slice A n c,.int .i64 more] w λe w' =>
  ∃g cap,e=.returned (.slice (some ⟨g,0,none⟩) n cap)/\w'.ownsRow w.heap.size 5 1 (.slice (some ⟨g,0,none⟩) n cap) n (dN l)/\Below w.heap.size w w'/\n<=cap/\cap<=2199023255552:=by
 obtain⟨m,rfl⟩:=Int.eq_ofNat_of_zero_le E
 obtain⟨i,y,G,u,hz2⟩:=info_parts XM
 have:∀W:World,(Instr.makeSlice 94 (.int .i64 n) (.int .i64 ((n:Int)+m))).run prog W=.ok (.slice (some ⟨W.heap.size,0,none⟩) n (n+m)) (W.alloc (.cells (madeCells #[.int .u8 0] (n+m)) 5)):=by intro W;have h:=run_make (P:=prog) W 94 5 i (.int .u8 0) underlying94 y G .i64 .i64 (n:Int) ((n:Int)+m) af af Vv af;rw[u]at h;simpa [Value.cells,show ((n:Int)+m).toNat=n+m from by omega]using h
 go_in
 go_wp2_with (with_reducible refine wpList_copy_splice rfl (.tmp 13) (.tmp 14) 94 94 rfl 5 underlying94 (by rw[y];simp[u]) _ A _ _ _ _ rfl rfl w.heap.size 0 (List.replicate (n+m) (.int .u8 0)) 5 ?hg (dN l) ?hn ?hpos ?hfit (uU l) w.heap.size w ?hb (aD _) ?_)
 case hg=>rw[heap_alloc_new,<- toList_madeCells_one]
 case hn=>rw[t.len];simp
 case hpos => intro h0;obtain⟨b,M,rfl,hb,J⟩:=t.2 Lb;refine⟨_,rfl,λj v I=>?_⟩;rw[Addr.add_lit,World.cell?_alloc_lt _ _ _ aY];exact J j v I
 case hfit=>rw[t.len];simp
 case hb=>exact (cP _ _).alloc (aD _) _
 intro N F H
 go_wp2
 go_ret
 refine⟨_,_,rfl,?_,H,af,af⟩
 have C:=F.aa
 have D:=t.len
 rw[show splice (List.replicate (n+m) (Value.int .u8 0)) 0 (dN l)=dN l++List.replicate m (Value.int .u8 0)from by simp only[splice];simp[show l.length=n from by simpa using D]]at C
 exact OJ (aD _) C D aj B6
def fO(n:Nat):Nat:=if n=0 then 0 else fO (n/256)+1
decreasing_by omega
theorem Ic:fO 0=0:=by grind [fO]
theorem Pm n(h:0<n):fO n=fO (n/256)+1:=by grind [fO]
theorem K1 k:∀n,n<256^k->fO n<=k:=by
 induction k with
 | zero => intro n h;have:n=0:=B7;subst this;simp[Ic]
 | succ k j =>
  grind [fO]
theorem aq2(n:Nat)(hn:n<18446744073709551616) w :
 Calls prog 288 #[.int .u64 n] w λe w'=>e=.returned (.int .i64 (fO n:Nat))/\w=w':=by
 have y:=K1 8 n af
 go_in
 go_wp2_with fail
 go_loop [0,3] (fun x c=>∃m k:Nat,m<=n/\k+fO m=fO n/\x=.int .u64 m/\c=.int .i64 k) (fun x _=>(intOf x).toNat)
 case atStart=>exact⟨n,0,aD _,af,rfl,rfl⟩
 case round =>
  obtain⟨m,k,hm,hk,rfl,rfl⟩:=hrel;have t:=ae hk;have u:k<=8:=af;rcases Nat.eq_zero_or_pos m with j|j
  ·subst j;go_wp2;go_ret;have e:k=fO n:=by have:=t.aa;rw[Ic]at this;omega
   exact⟨by rw[<- e];rfl,rfl⟩
  ·have hb:(0:Int)<(m:Int):=af;go_wp2;have A:=Pm m j;go_round
   case rel=>exact⟨m/256,k+1,af,by have:=t.aa;omega,aj,bD⟩
   case measure=>simp[intOf];omega
def be:Nat->Nat->List UInt8
 | 0,_=>[]
 | k+1,n=>UInt8.ofNat (n/256^k) :: be k n
def az(n:Nat):List UInt8:=UInt8.ofNat (fO n) :: be (fO n) n
theorem uO k n:(be k n).length=k:=by
 induction k generalizing n with
 | zero=>rfl
 | succ k j=>simp[be,j]
theorem ax5 N n k(h:k<N):(be N n)[k]?=some (UInt8.ofNat (n/256^(N-1-k))):=by
 induction N generalizing k with
 | zero=>omega
 | succ N j =>
  cases k with
  | zero=>simp[be]
  | succ k =>
   grind [be]
theorem awm N n k(h:k<N):(be N n).take (k+1)=(be N n).take k++[UInt8.ofNat (n/256^(N-1-k))]:=by
 grind [List.take_add_one,ax5]
theorem adk(n j:Nat):((n:Int)/2^(8*j)%256)=((UInt8.ofNat (n/256^j)).toNat:Int):=by rw[show (256:Nat)^j=2^(8*j) by rw[Nat.pow_mul]];simp
theorem cS n(h:n<18446744073709551616):(az n).length<=9:=by simp_all [K1,az,uO]
theorem TB:fS prog 94 5 (.int .u8 0) 1 1:=⟨underlying94,XM,rfl,ax⟩
theorem abR v l(n:Nat)(hn:n<18446744073709551616) w base(M:Own w base 5 v l)(y:base<=w.heap.size)(hl:l.length<=1099511627776) :
 Calls prog 245 #[v,.int .u64 n] w λe w' =>
  ∃v',e=.returned v'/\Own w' base 5 v' (l++az n)/\Below base w w':=by
 have ayQ:=K1 8 n af
 go_in
 go_wp2_with fail
 apply aI (aq2 n hn _)
 rintro w' rfl
 generalize R:fO n=N at *
 have E:=ae R
 have J:(UInt8.ofNat N).toNat=N:=aY
 have D:=ae J
 go_wp2_with (at_builtin;refine iM rfl _ _ 94 rfl base 5 _ 1 1 TB _ _ _ rfl (M.alloc _) (w.heap.size+1) _ 1 1 (dN [UInt8.ofNat N]) rfl ?c1 ?c2 ?c3 ?c5 ?_)
 case c1 => have:=Reads.new w (dN [UInt8.ofNat N]) 5 1 1 rfl;simpa [dN,D.aa]using this
 case c2=>exact uU _
 case c3=>omega
 case c5=>simp;omega
 intro A G Y hg1 aFh C
 have Q:=((cP _ _).alloc y _).trans C
 have V:Own G base 5 A (l++[UInt8.ofNat N]):=by unfold Own;rw[KH];simpa using Y
 go_wp2_with fail
 go_loopw [0,15] (fun u i wr=>∃k:Nat,k<=N/\i=.int .i64 k/\Own wr base 5 u (l++[UInt8.ofNat N]++(be N n).take k)/\Below base w wr) (fun _ i _=>N-(intOf i).toNat)
 case atStart=>exact⟨0,af,rfl,by simpa using V,Q⟩
 case round =>
  obtain⟨k,hk,rfl,t,j⟩:=hrel;have W:=bo y j.size;by_cases B:k<N
  ·have hi:(k:Int)<N:=af;have I:=ae (adk n (N-1-k));have H:=ae (awm N n k B);have hlen:(l++[UInt8.ofNat N]++(be N n).take k).length<=l.length+9:=by simp[uO];omega
   go_wp2_with (at_builtin;refine iM rfl _ _ 94 rfl base 5 _ 1 1 TB _ _ _ rfl (p7 t _) (wr.heap.size+1) _ 1 1 (dN [UInt8.ofNat (n/256^(N-1-k))]) rfl ?d1 ?d2 ?d3 ?d5 ?_)
   case d1 => have:=Reads.new wr (dN [UInt8.ofNat (n/256^(N-1-k))]) 5 1 1 rfl;rw[I.aa];exact this
   case d2=>exact uU _
   case d3=>omega
   case d5=>simp;omega
   intro T L X Z Mg U;have F:=(j.alloc W _).trans U;have O:Own L base 5 T (l++[UInt8.ofNat N]++(be N n).take (k+1)):=by unfold Own;rw[H.aa,<- dQ,KH];simpa [Nat.add_assoc]using X
   go_wp2;go_roundw
   case rel=>exact⟨k+1,af,bD,O,F⟩
   case measure=>simp[intOf];omega
  ·have hge:¬(k:Int)<N:=af;have S:Hid (Own wr base 5 u0 (l++az n)):=by unfold az;rw[E.aa];have:(be N n).take k=be N n:=gI (by rw[uO];omega);rw[this]at t;exact ae (by simpa using t)
   go_wp2;go_ret;exact⟨_,rfl,S.aa,j⟩
theorem wW A m c l(n:Nat)(hn:n<18446744073709551616) w B(hR:Reads w B 1 A m (dN l))(j:B<=w.heap.size)(hm:m<=1000000000) :
 Calls prog 146 #[.slice A m c,.int .u64 n] w λe w' =>
  ∃v',e=.returned v'/\Own w' w.heap.size 5 v' (l++az n)/\Below w.heap.size w w':=by
 have:l.length=m:=FI
 go_in
 go_wp2_with fail
 refine (Pk A m c l 9 w B hR j af af af).mono ?_
 rintro e y⟨g,cap,rfl,C,hb,_,_⟩
 go_wp2_with fail
 apply bN (abR _ l n hn y w.heap.size aB hb.size af)
 rintro v' E⟨u,t⟩
 go_wp2
 go_ret
 exact⟨_,rfl,u,hb.trans t⟩
theorem OV A D m c k d l b w B(hR:Reads w B 1 A m (dN l))(C:Reads w B 1 D k (dN b))(E:B<=w.heap.size)(hm:m<=1000000000)(hk:k<=1000000000) :
 Calls prog 248 #[.slice A m c,.slice D k d] w λe w' =>
  ∃v',e=.returned v'/\Own w' w.heap.size 5 v' (l++az b.length++b)/\Below w.heap.size w w':=by
 have F:l.length=m:=FI
 have hb:b.length=k:=by simpa using C.len
 have hp:=cS k af
 have j:=ae F
 have y:=ae hb
 clear F hb
 go_in
 go_wp2_with fail
 refine (Pk A m c l (9+k) w B hR E af af af).mono ?_
 rintro e I⟨g,cap,rfl,G,u,_,_⟩
 go_wp2_with fail
 apply bN (abR _ l k af I w.heap.size (by unfold Own;rw[j.aa];exact G) u.size (by have:=j.aa;omega))
 rintro v' R⟨H,N⟩
 have t:=u.trans N
 have L:=C.below t E
 go_wp2_with (at_builtin;refine iM rfl _ _ 94 rfl w.heap.size 5 _ 1 1 TB _ _ _ rfl H B _ k d (dN b) rfl L (uU _) ?d3 t.size ?_)
 case d3=>have:=j.aa;simp;omega
 intro Q S J O T M
 go_wp2
 go_ret
 refine⟨_,rfl,?_,t.trans M⟩
 unfold Own
 rw[KH,y.aa]
 simpa [y.aa,Nat.add_assoc]using J
abbrev dS(s:ByteArray):List UInt8:=s.data.toList
def iP(k n:Int)(s:ByteArray):Bool :=
 if k==1 then s.toList.isEmpty else if k==2 then n==0&&decide ((s.size:Int)<=40)else if k==3 then (n==0||n==1)&&s.toList.isEmpty else false
def mc(k n:Int)(s:ByteArray):Int:=if iP k n s then 0 else 10
def foldI(n:Int):Nat:=if n<0 then (-2*n-1).toNat else (2*n).toNat
def uV(n:Nat):Int:=if n%2=1 then -((n/2:Nat):Int)-1 else ((n/2:Nat):Int)
theorem aq3 n w(t:-9223372036854775808<=n)(j:n<=9223372036854775807) :
 Calls prog 336 #[.int .i64 n] w λe w'=>e=.returned (.int .u64 (foldI n:Nat))/\w=w':=by
 by_cases hn:n<0
 ·have e:(foldI n:Int)=-2*n-1:=by simp[foldI,hn];omega
  have HE:=ae e;clear e;exact PJ
 ·have e:(foldI n:Int)=2*n:=by simp[foldI,hn];omega
  have HE:=ae e;clear e;exact PJ
theorem abS(n:Nat) w(hn:n<18446744073709551616) :
 Calls prog 331 #[.int .u64 n] w λe w'=>e=.returned (.int .i64 (uV n))/\w=w':=by
 by_cases hm:n%2=1
 ·have e:uV n=-((n/2:Nat):Int)-1:=by simp[uV,hm]
  have HE:=ae e;have hb:(((n:Int)%2)==1)=true:=aY;clear e hm;exact PJ
 ·have e:uV n=((n/2:Nat):Int):=by simp[uV,hm]
  have HE:=ae e;have hb:(((n:Int)%2)==1)=false:=aY;clear e hm;exact PJ
theorem OW k n s w :
 Calls prog 283 #[.agg #[.int .i64 k,.int .i64 n,.string s]] w λe w'=>e=.returned (.int .i64 (mc k n s))/\Below w.heap.size w w':=by
 go_in
 go_wp2
 all_goals
  go_ret
  refine⟨?_,(cP _ _).alloc (aD _) _⟩
  show Ending.returned (.int _ _)=Ending.returned (.int _ _)
  simp_all [mc,iP]
abbrev vv(k n:Int)(s:ByteArray):Value:=.agg #[.int .i64 k,.int .i64 n,.string s]
def vG(k n:Int):Nat:=if k=1 then foldI n else (n%18446744073709551616).toNat
def aZ(k:Int):Nat:=(k%18446744073709551616).toNat
def nO(k n:Int)(s:ByteArray):List UInt8:=az (aZ k)++az (vG k n)++(az s.size++dS s)
theorem DQ k:IntKind.u64.wrap k=(aZ k:Int):=by unfold aZ;show k%2^64=_;omega
theorem gH k:aZ k<18446744073709551616:=by grind [aZ]
theorem auq n(t:-9223372036854775808<=n)(j:n<=9223372036854775807):foldI n<18446744073709551616:=by
 grind [foldI]
theorem Lc k n(t:-9223372036854775808<=n)(j:n<=9223372036854775807):vG k n<18446744073709551616:=by
 grind [vG,auq,gH]
theorem Reads.conv(w:World) s c x e:Reads (w.alloc (.cells (bytesRow s c) e x)) (w.heap.size+1) 1 (some ⟨w.heap.size,0,none⟩) s.size (dN (dS s)) :=
 ⟨aj,λ_=>⟨w.heap.size,0,rfl,af,λj u hu=>by
  have A:=heap_alloc_new w (.cells (bytesRow s c) e x);simp only[World.cell?,A];have y:j<s.data.size:=aeS;have B:j<s.size:=y;simp[bytesRow,Array.getElem?_append,B];simp[dN]at hu;obtain⟨a,t,rfl⟩:=hu;rw[Array.getElem?_eq_getElem y]at t;injection t with t;rw[t]⟩⟩
theorem ab9 A m c l k n s w B(hR:Reads w B 1 A m (dN l))(hB:B<=w.heap.size)(hm:m<=900000000)(I:s.size<=900000000)
 (C:-9223372036854775808<=n) (t:n<=9223372036854775807) :
 Calls prog 314 #[.slice A m c,vv k n s] w λe w' =>
  ∃v',e=.returned v'/\Own w' w.heap.size 5 v' (l++nO k n s)/\Below w.heap.size w w':=by
 have hnl:=Lc k n C t
 have qG:=gH k
 have:=cS _ qG
 have:=cS _ hnl
 have:=cS s.size af
 have u:l.length=m:=FI
 have Hml:=ae u
 clear u
 generalize D:vG k n=NV at *
 generalize y:aZ k=KN at *
 have YZ:=ae D
 have HKN:=ae y
 clear D y
 have:=λW=>run_bytes_of_string (P:=prog) W 9 94 5 s underlying9 underlying94 underlying5
 have aka:Below w.heap.size w (w.alloc (.cells #[.int .i64 k,.int .i64 n,.string s] 71)):=(cP _ _).alloc (aD _) _
 by_cases hk:k=1
 rotate_left
 ·have E:(k==1)=false:=sN;have j:Hid (aZ n=NV):=by rw[<- YZ.aa];exact ae (by simp[vG,hk];rfl)
  clear hk;go_in;go_wp2_with fail
  rw[DQ n,j.aa];exact aeT
 ·have E:(k==1)=true:=sN;have j:Hid (foldI n=NV):=by rw[<- YZ.aa];exact ae (by simp[vG,hk])
  clear hk;go_in;go_wp2_with fail
  apply aI (aq3 n _ C t);rintro w' rfl;rw[j.aa];go_wp2_with fail
  exact aeT
def Rd(w:World)(g:Nat)(l:List UInt8)(wr:Bool):Prop :=
 ∃A c,ah w g 320 #[.slice A l.length c,.bool wr]/\Reads w g 1 A l.length (dN l)/\l.length<=c/\c<=2199023255552
def i6(l:List UInt8):Nat:=l.foldl (λn b=>n*256+b.toNat) 0
def aw(l:List UInt8)(wr:Bool):Nat×List UInt8×Bool :=
 match l with
 | []=>(0,l,true)
 | b :: r =>
  if wr||decide (8<b.toNat)||decide (r.length<b.toNat)||(decide (0<b.toNat)&&r.head?==some 0)then (0,l,true)
  else (i6 (r.take b.toNat),r.drop b.toNat,false)
theorem KV A n c l w B(hR:Reads w B 1 A n (dN l))(j:B<=w.heap.size)(hn:n<=1000000000) :
 Calls prog 190 #[.slice A n c] w λe w' =>
  ∃g,e=.returned (.pointer (some ⟨g,0,none⟩))/\w.heap.size<=g/\Rd w' g l false/\Below w.heap.size w w':=by
 have u:l.length=n:=FI
 subst u
 go_in
 go_wp2_with fail
 refine (Pk A _ c l 0 w B hR j af af af).mono ?_
 rintro e D⟨g,cap,rfl,t,hb,y,C⟩
 go_wp2
 go_ret
 refine⟨D.heap.size,rfl,hb.size,⟨_,_,ah.new _ _ _,?_,?_,?_⟩,hb.alloc hb.size _⟩
 ·exact (Reads.yE t).below (Below.alloc (cP _ _) (aD _) _) (aD _)
 ·exact y
 ·exact C
theorem yO(l:List UInt8):((l.length:Int)==0)=l.isEmpty:=by cases l <;> simp;omega
theorem KJ g l wr w(h:Rd w g l wr) :
 Calls prog 199 #[.pointer (some ⟨g,0,none⟩)] w λe w'=>e=.returned (.bool (!wr&&l.isEmpty))/\w=w':=by
 obtain⟨A,c,hb,B,u,y⟩:=h
 have t:=hb.cell 1
 have j:=hb.cell 0
 simp at t j
 cases wr
 ·go_in;go_wp2;go_ret;exact⟨by show Ending.returned (.bool _)=_;rw[yO];rfl,rfl⟩
 ·go_in;go_wp2;go_ret;exact⟨rfl,rfl⟩
def nU(g:Nat)(l:List UInt8)(wr:Bool)(w w':World):Prop:=Rd w' g l wr/\w.grownBy w' (some g)
theorem aou g l wr w(h:Rd w g l wr)(j:(aw l wr).2.2=true) :
 Calls prog 192 #[.pointer (some ⟨g,0,none⟩)] w λe w'=>e=.returned (.int .u64 0)/\nU g l true w w':=by
 obtain⟨A,c,hb,B,u,H⟩:=h
 have I:=hb.cell 1
 have t:=hb.cell 0
 have:=hb.frozen 1
 simp at I t
 have AU:∀W:World,W=w.setCell ⟨g,1,none⟩ (.bool true)->nU g l true w W:=by rintro W rfl;refine⟨⟨A,c,hb.aP 1 _,?_,u,H⟩,DT (B4 _ _) rfl _⟩;exact B.keep λk hk=>Below.heap_setCell w _ _ k aY
 cases wr
 ·cases l with
  | nil => exact Ld
  | cons b r =>
   obtain⟨C,E,rfl,N,y⟩:=B.2 aj;have:w.cell? ⟨C,E,none⟩=some (.int .u8 b.toNat):=y 0 _ cC;simp only[eQ]at t u hb;have:b.toNat<256:=b.toNat_lt;by_cases h8:8<b.toNat
   ·have G:(8:Int)<(b.toNat:Int):=af;exact Ld
   ·have G:¬(8:Int)<(b.toNat:Int):=af;have:b.toNat<=8:=af;by_cases h9:r.length<b.toNat
    ·have D:(r.length:Int)+1<1+(b.toNat:Int):=af;exact Ld
    ·have D:¬(r.length:Int)+1<1+(b.toNat:Int):=af;cases r with
     | nil =>
      have F:b.toNat=0:=by simp at h9;omega
      simp[aw,F]at j
     | cons x r =>
      have hx:(x==0)=true/\0<b.toNat:=by
       simp only[aw]at j;split at j
       ·grind
       ·simp at j
      obtain⟨hx,L⟩:=hx;have hx:x=0:=PK;subst hx;have:w.cell? ⟨C,E+1,none⟩=some (.int .u8 0):=y 1 _ cC;clear y;have:(0:Int)<(b.toNat:Int):=af;simp only[eQ]at t u hb D h9;exact Ld
 ·exact Ld
theorem Reads.at_{w B A l n}(h:Reads w B 1 A n (dN l))(u:0<l.length) :
 ∃b t,A=some ⟨b,t,none⟩/\b<B/\∀j (hj:j<l.length),w.cell? ⟨b,t+j,none⟩=some (.int .u8 (l[j].toNat:Int)):=by
 obtain⟨b,t,e,hb,y⟩:=h.2 FJ
 grind [dN]
theorem UQ l b:i6 (l++[b])=i6 l*256+b.toNat:=by simp[i6]
theorem Lf l:i6 l<256^l.length:=by
 induction h:l.length generalizing l with
 | zero=>simp[List.eq_nil_of_length_eq_zero h,i6]
 | succ n t => have j:l≠[]:=aB;rw[<- List.dropLast_concat_getLast j,UQ];have:=t l.dropLast Ix;have hb:=(l.getLast j).toNat_lt;rw[Nat.pow_succ];omega
theorem aov g b r w(h:Rd w g (b :: r) false)(h8:b.toNat<=8)(hl:b.toNat<=r.length)(T:0<b.toNat->∃x D,r=x :: D/\0<x.toNat) :
 Calls prog 192 #[.pointer (some ⟨g,0,none⟩)] w λe w'=>e=.returned (.int .u64 (i6 (r.take b.toNat):Nat))/\nU g (r.drop b.toNat) false w w':=by
 obtain⟨A,c,hb,Y,S,J⟩:=h
 have hc:=hb.cell 1
 have G:=hb.cell 0
 have hf0:=hb.frozen 0
 simp at hc G
 obtain⟨E,y,rfl,W,B⟩:=Y.at_ aj
 have X:=B 0 aj
 simp at X
 have F:=ae B
 clear B
 simp only[eQ]at G S hb
 generalize O:b.toNat=N at *
 have HN:=ae O
 clear O
 have xC:¬(8:Int)<(N:Int):=af
 have Y0:¬(r.length:Int)+1<1+(N:Int):=af
 have AU:∀(A':Option Addr) (m t:Nat),m=r.length-N->(0<m->A'=some ⟨E,y+(1+N),none⟩)->m<=t->t<=c->nU g (r.drop N) false w (w.setCell ⟨g,0,none⟩ (.slice A' m t)):=by
  rintro A' m t rfl hA hm hc'
  have U:=hb.aP 0 (.slice A' (r.length-N) t)
  refine⟨⟨A',t,by simpa using U,⟨aj,λV=>?_⟩,by simpa using hm,af⟩,DT (B4 _ _) rfl _⟩
  simp at V
  refine⟨E,y+(1+N),hA af,W,λj u hu=>?_⟩
  rw[World.cell?_setCell_other _ _ _ _ aj]
  have L:j<(r.drop N).length:=aeS
  rw[aeN _ _ L]at hu
  injection hu with hu
  rw[<- hu,List.getElem_drop]
  simp at L
  have:=F.aa (1+N+j) aY
  rw[show y+(1+N)+j=y+(1+N+j) by omega,this]
  grind
 by_cases Q:0<N
 ·obtain⟨x,D,rfl,eH⟩:=T Q;have ik:=F.aa 1 aj;simp at ik;have hxb:((x.toNat:Int)==0)=false:=aY;have R:(0:Int)<(N:Int):=af;generalize H:x :: D=r at *;have HR:=ae H;clear H;go_in;go_wp2;go_step3;go_wp2_with fail
  go_loop [3,51] (fun n i=>∃k:Nat,k<=N/\i=.int .i64 k/\n=.int .u64 (i6 (r.take k):Nat)) (fun _ i=>N-(intOf i).toNat)
  case atStart=>exact⟨0,af,rfl,rfl⟩
  case round =>
   obtain⟨k,hk,rfl,rfl⟩:=hrel;by_cases hlt:k<N
   ·have fe:(k:Int)<N:=af;have GA:w.cell? ⟨E,y+(1+k),none⟩=some (.int .u8 (r[k].toNat:Int)):=by have:=F.aa (1+k) aY;simpa [Nat.add_comm 1 k]using this
    have jm:i6 (r.take k)<72057594037927936:=by have:=Lf (r.take k);have J:(r.take k).length<=7:=aY;have h3:256^(r.take k).length<=256^7:=Nat.pow_le_pow_right ax J;omega
    generalize C:i6 (r.take k)=v at *;have I:i6 (r.take (k+1))=v*256+r[k].toNat:=by rw[gg af,UQ,C]
    have ayR:r[k].toNat<256:=r[k].toNat_lt;have M:bits BinOp.or IntKind.u64 ((v:Int)*256) (r[k].toNat:Int)=((v*256+r[k].toNat:Nat):Int):=by rw[show (v:Int)*256=((v*256:Nat):Int) by simp,u64_or_nat _ _ af af,nat_join 8 _ _ af af]
    have HV:=ae C;have Z:=ae I;have HO:=ae M;clear C I M;go_wp2;go_round
    case rel=>exact⟨k+1,af,bD,by rw[HO.aa,Z.aa]⟩
    case measure=>simp[intOf];omega
   ·have fe:¬(k:Int)<N:=af;have hkN:k=N:=af;subst hkN;exact aeU
 ·obtain rfl:N=0:=af;have R:¬(0:Int)<((0:Nat):Int):=af;go_in;go_wp2;go_step3;go_wp2_with fail
  refine wp_loop_rounds 1 ?_;rw[rounds_succ];exact aeU
theorem sM g l wr w(h:Rd w g l wr) :
 Calls prog 192 #[.pointer (some ⟨g,0,none⟩)] w λe w'=>e=.returned (.int .u64 ((aw l wr).1:Nat))/\nU g (aw l wr).2.1 (aw l wr).2.2 w w':=by
 by_cases j:(aw l wr).2.2=true
 ·have e:aw l wr=(0,l,true):=by
   unfold aw at j⊢
   grind
  rw[e];exact aou g l wr w h j
 ·match l,h,j with
  | [],_,j=>simp[aw]at j
  | b :: r,h,j =>
   have t:(wr||decide (8<b.toNat)||decide (r.length<b.toNat)||(decide (0<b.toNat)&&r.head?==some 0))=false:=by
    grind [aw]
   have e:aw (b :: r) wr=(i6 (r.take b.toNat),r.drop b.toNat,false):=by grind [aw]
   rw[e]
   simp at t
   obtain⟨⟨⟨rfl,h8⟩,h9⟩,om⟩:=t
   refine aov g b r w h h8 h9 λu=>?_
   have:=om u
   match r,h9,this with
   | [],h9,_=>simp at h9;omega
   | x :: r',_,vX =>
    refine⟨x,r',rfl,?_⟩;rcases Nat.eq_zero_or_pos x.toNat with h|h
    ·exact absurd (by simpa using UInt8.toNat_inj.1 (show x.toNat=(0:UInt8).toNat from h)) vX
    ·exact h
def aM(j:Int)(l:List UInt8)(wr:Bool):List UInt8×List UInt8×Bool :=
 if (aw l wr).2.2||decide (j<0)||decide (j.toNat<(aw l wr).1)||decide ((aw l wr).2.1.length<(aw l wr).1)then ([],(aw l wr).2.1,true)
 else ((aw l wr).2.1.take (aw l wr).1,(aw l wr).2.1.drop (aw l wr).1,false)
theorem nK l wr:(aw l wr).2.1.length<=l.length:=by
 unfold aw
 grind
theorem nM l wr:(aw l wr).1<18446744073709551616:=by
 unfold aw;split
 ·simp
 ·rename_i b r;split
  ·simp
  ·rename_i t;simp at t;have u:=Lf (r.take b.toNat);have j:(r.take b.toNat).length<=8:=aB;have y:256^(r.take b.toNat).length<=256^8:=Nat.pow_le_pow_right ax j;show i6 (r.take b.toNat)<_;omega
theorem Rd.Vw{w g l wr}(h:Rd w g l wr):nU g l true w (w.setCell ⟨g,1,none⟩ (.bool true)):=by obtain⟨A,c,hb,u,j,t⟩:=h;refine⟨⟨A,c,hb.aP 1 _,?_,j,t⟩,DT (B4 _ _) rfl _⟩;exact u.keep λk hk=>Below.heap_setCell w _ _ k aB
theorem OK g l wr t w(h:Rd w g l wr)(hl:l.length<=1000000000)(hm0:-9223372036854775808<=t)(Z:t<=9223372036854775807) :
 Calls prog 210 #[.pointer (some ⟨g,0,none⟩),.int .i64 t] w λe w' =>
  ∃v,e=.returned v/\Own w' w.heap.size 5 v (aM t l wr).1/\nU g (aM t l wr).2.1 (aM t l wr).2.2 w w':=by
 have I:=sM g l wr w h
 have O:=nK l wr
 have N:=nM l wr
 unfold aM
 generalize aw l wr=R at *
 obtain⟨n,j,C⟩:=R
 simp only at I O N⊢
 have HN:=ae I
 by_cases y:(C||decide (t<0)||decide (t.toNat<n)||decide (j.length<n))=true
 ·rw[y];have hfin:∀W,Rd W g j C->w.grownBy W (some g)->Own (W.setCell ⟨g,1,none⟩ (.bool true)) w.heap.size 5 (.slice none 0 0) []/\nU g j true w (W.setCell ⟨g,1,none⟩ (.bool true)):=by intro W oU hgr;obtain⟨B,D⟩:=oU.Vw;exact⟨jV _ _ _ _,B,oG hgr D⟩
  cases C
  ·by_cases B:t<0
   ·exact PL
   ·by_cases D:t.toNat<n
    ·obtain⟨m,rfl⟩:=Int.eq_ofNat_of_zero_le (show 0<=t by omega);have J:(m:Int)<n:=af;exact PL
    ·have H:j.length<n:=aB;obtain⟨m,rfl⟩:=Int.eq_ofNat_of_zero_le (show 0<=t by omega);have J:¬(m:Int)<n:=af;have S:(j.length:Int)<n:=af;exact PL
  ·exact PL
 ·have y:(C||decide (t<0)||decide (t.toNat<n)||decide (j.length<n))=false:=by simpa using y
  rw[y];simp at y;obtain⟨⟨⟨rfl,B⟩,D⟩,H⟩:=y;obtain⟨m,rfl⟩:=Int.eq_ofNat_of_zero_le B;simp at D;have J:(n:Int)<=m:=af;have S:(n:Int)<=j.length:=af;go_in;go_wp2;go_step3;go_wp2_with fail
  apply aI HN.aa;rintro w2⟨⟨A,c,hb,hr,hc1,ik⟩,hgr⟩;have eH:=hb.cell 0;have hx1:=hb.cell 1;simp at eH hx1;go_wp2_with fail
  refine (Pk A n c (j.take n) 0 w2 g (hr.pre n H) (Nat.le_of_lt hb.lt) af af af).mono ?_;rintro e F⟨U,M,rfl,L,G,_,_⟩;have E:=hb.ay G;have Q:=hr.below G (Nat.le_of_lt hb.lt);have T:=E.cell 0;have:=E.frozen 0;simp at T;have hfin:∀(A':Option Addr) (u:Nat),(n<j.length->A'=A.map (·.add n))->j.length-n<=u->u<=c ->
   Own (F.setCell ⟨g,0,none⟩ (.slice A' (j.length-n) u)) w.heap.size 5 (.slice (some ⟨U,0,none⟩) n M) (j.take n)/\nU g (j.drop n) false w (F.setCell ⟨g,0,none⟩ (.slice A' (j.length-n) u)):=by
   intro A' u hA h4 V
   refine⟨?_,⟨A',u,?_,?_,Iy,af⟩,DT (oG hgr (BU G _)) rfl _⟩
   ·have h6:=ownsRow_setCell_below (a:=⟨g,0,none⟩) L hb.lt (.slice A' (j.length-n) u);refine tH hgr.size ?_ rfl;unfold Own;rw[show (j.take n).length=n by simp;omega];exact h6
   ·have h7:=E.aP 0 (.slice A' (j.length-n) u);simpa using h7
   ·have h8:=Q.post (A':=A') n hA;rw[List.length_drop];exact h8.keep λk hk=>Below.heap_setCell F _ _ k aY
  go_wp2;all_goals
   go_ret
   refine⟨_,rfl,hfin _ _ (λX=>?_) af af⟩
   first|rfl|omega
def Eg(n:Nat):Int:=((n:Int)+9223372036854775808)%18446744073709551616-9223372036854775808
def uh(k n:Nat):Int:=if k=1 then uV n else Eg n
def fC(l:List UInt8)(wr:Bool):(Int×Int×List UInt8)×List UInt8×Bool :=
 let a:=aw l wr
 let b:=aw a.2.1 a.2.2
 let s:=aM 40 b.2.1 b.2.2
 if decide (3<a.1)||s.2.2||!(iP a.1 (uh a.1 b.1) ⟨s.1.toArray⟩)then ((0,0,[]),s.2.1,true)
 else ((a.1,uh a.1 b.1,s.1),s.2.1,false)
theorem DU j l wr:(aM j l wr).2.1.length<=l.length:=by
 grind [nK,aM]
abbrev vd(d:Int×Int×List UInt8):Value:=vv d.1 d.2.1 ⟨d.2.2.toArray⟩
theorem Rd.below{w w' g B l wr}(h:Rd w g l wr)(hb:Below B w w')(hg:g<B):Rd w' g l wr:=by obtain⟨A,c,hk,u,j,t⟩:=h;exact⟨A,c,hk.below hb hg,u.below hb af,j,t⟩
theorem Rd.lt{w g l wr}(h:Rd w g l wr):g<w.heap.size:=by obtain⟨_,_,hb,_⟩:=h;exact hb.lt
theorem Rd.ay{w w' g l wr}(h:Rd w g l wr)(hb:Below w.heap.size w w'):Rd w' g l wr:=h.below hb h.lt
theorem abT g l wr w(h:Rd w g l wr)(hl:l.length<=1000000000) :
 Calls prog 308 #[.pointer (some ⟨g,0,none⟩)] w λe w' =>
  e=.returned (vd (fC l wr).1)/\nU g (fC l wr).2.1 (fC l wr).2.2 w w':=by
 have hg:=h.lt
 have c1:=λW (t:Rd W g l wr)=>sM g l wr W t
 have c2:=λW (t:Rd W g (aw l wr).2.1 (aw l wr).2.2)=>sM g _ _ W t
 have c3:=λW (t:Rd W g (aw (aw l wr).2.1 (aw l wr).2.2).2.1 (aw (aw l wr).2.1 (aw l wr).2.2).2.2)=>OK g _ _ 40 W t (by have:=nK l wr;have:=nK (aw l wr).2.1 (aw l wr).2.2;omega) af af
 have:=nM l wr
 have O:=nM (aw l wr).2.1 (aw l wr).2.2
 simp only[fC]
 generalize aw l wr=a at *
 obtain⟨k,Y,T⟩:=a
 simp only at *
 generalize aw Y T=a at *
 obtain⟨n,l2,V⟩:=a
 simp only at *
 generalize aM 40 l2 V=a at *
 obtain⟨s,l3,F⟩:=a
 simp only at *
 have C1:=ae c1
 have C2:=ae c2
 have U:=ae c3
 clear c1 c2 c3
 have Z:Below w.heap.size w (w.alloc (.cells #[.int .i64 0,.int .i64 0,.string { data:=#[] }] 71)):=(cP _ _).alloc (aD _) _
 have L:=ah.new w 71 #[.int .i64 0,.int .i64 0,.string { data:=#[] }]
 have H:=h.below Z hg
 clear h
 go_in
 go_wp2
 refine Kw 0 rfl ?_
 go_wp2_with fail
 apply aI (C1.aa _ H)
 rintro W1⟨S,D⟩
 have M:=L.grown D aY
 clear L H
 go_wp2_with fail
 apply aI (C2.aa _ S)
 rintro W2⟨J,C⟩
 have Q:=M.grown C aY
 clear M S
 go_wp2_with fail
 apply bN (U.aa _ J)
 rintro v3 W3⟨I,dU,y⟩
 have E:=Q.grown y aY
 clear Q J
 obtain⟨A3,k3,rfl,xD⟩:=I.slice
 have:=aeO (P:=prog) W3 94 9 5 underlying94 underlying5 underlying9 _ A3 _ k3 s xD
 clear I
 by_cases h3:3<k
 ·have h3':(3:Int)<(k:Int):=af;have eN:=dU.below (Below.alloc (cP _ W3) (aD _) (.cells #[.int .i64 0,.int .i64 (wrap64 (n:Int)),.string { data:=s.toArray }] 71)) dU.lt;have cH:=E.alloc (.cells #[.int .i64 0,.int .i64 (wrap64 (n:Int)),.string { data:=s.toArray }] 71);have hgr:w.grownBy (W3.alloc (.cells #[.int .i64 0,.int .i64 (wrap64 (n:Int)),.string { data:=s.toArray }] 71)) (some g):=DJ (oG (oG (oG (DJ (B4 _ _) _) D) C) y) _;go_wp2;generalize W3.alloc _=W4 at *;have Jn:(if (decide (3<k)||F||!(iP (k:Int) (uh k n) ⟨s.toArray⟩))=true then (((0,0,[]),l3,true):(Int×Int×List UInt8)×List UInt8×Bool)else (((k:Int),uh k n,s),l3,false))=((0,0,[]),l3,true):=by simp[h3]
  go_step3;refine⟨rfl,?_⟩;have hy0:=cH.cell 0;have CJ:=cH.cell 1;have hy2:=cH.cell 2;have hz0:=cH.frozen 0;have hz1:=cH.frozen 1;have hz2:=cH.frozen 2;simp at hy0 CJ hy2;obtain⟨A4,c4,hb4,_⟩:=id eN;have mI:=hb4.cell 1;have s5:=hb4.frozen 1;simp at mI;go_wp2;have eB:=(((cH.far (p:=⟨g,1,none⟩) aY (.bool true)).aP 0 (.int .i64 0)).aP 1 (.int .i64 0)).aP 2 (.string { data:=#[] });have e0:=eB.cell 0;have e1:=eB.cell 1;have e2:=eB.cell 2;simp at e0 e1 e2;have hw:=eN.Vw;rw[ig];refine bodyPost_ret (v:=vd (0,0,[])) Vx rfl ?_;rw[Jn];exact aeV
 ·have h3':¬(3:Int)<(k:Int):=af;generalize R:uh k n=N at *;have HN:=ae R;clear R;by_cases A:k=1
  ·have X:((k:Int)==1)=true:=aY;have u:Hid (uV n=N):=by rw[<- HN.aa];exact ae (by simp[uh,A])
   clear A;have eN:=dU.ay (Below.alloc (cP _ W3) (aD _) (.cells #[.int .i64 k,.int .i64 N,.string { data:=s.toArray }] 71));have cH:=E.alloc (.cells #[.int .i64 k,.int .i64 N,.string { data:=s.toArray }] 71);have hgr:w.grownBy (W3.alloc (.cells #[.int .i64 k,.int .i64 N,.string { data:=s.toArray }] 71)) (some g):=DJ (oG (oG (oG (DJ (B4 _ _) _) D) C) y) _;cases hw3:F
   ·subst hw3;obtain⟨G,c5,j,_⟩:=id dU;have mI:=λo=>(j.alloc o).cell 1
    simp at mI;go_wp2_with fail
    apply aI (abS n _ O);rintro w' rfl;rw[u.aa];go_wp2_with fail
    exact aeW
   ·subst hw3;obtain⟨G,c5,j,_⟩:=id dU;have mI:=λo=>(j.alloc o).cell 1
    simp at mI;go_wp2_with fail
    apply aI (abS n _ O);rintro w' rfl;rw[u.aa];go_wp2_with fail
    exact aeX
  ·have X:((k:Int)==1)=false:=aY;have u:Hid (wrap64 (n:Int)=N):=by rw[<- HN.aa];exact ae (by simp[uh,A,Eg,wrap64])
   clear A;have eN:=dU.ay (Below.alloc (cP _ W3) (aD _) (.cells #[.int .i64 k,.int .i64 N,.string { data:=s.toArray }] 71));have cH:=E.alloc (.cells #[.int .i64 k,.int .i64 N,.string { data:=s.toArray }] 71);have hgr:w.grownBy (W3.alloc (.cells #[.int .i64 k,.int .i64 N,.string { data:=s.toArray }] 71)) (some g):=DJ (oG (oG (oG (DJ (B4 _ _) _) D) C) y) _;cases hw3:F
   ·subst hw3;obtain⟨G,c5,j,_⟩:=id dU;have mI:=λo=>(j.alloc o).cell 1
    simp at mI;go_wp2_with fail
    simp only[u.aa];exact aeW
   ·subst hw3;obtain⟨G,c5,j,_⟩:=id dU;have mI:=λo=>(j.alloc o).cell 1
    simp at mI;go_wp2_with fail
    simp only[u.aa];exact aeX
section
open Go Go.RowKit Go.ChangeShapes Go.WideShapes Go.ChangeAt
open Go.ChangeMaps (open_string shut_string)
set_option linter.unusedVariables false
abbrev azt(x:Int×Int×ByteArray):List Value:=[.int .i64 x.1,.int .i64 x.2.1,.string x.2.2]
def bR(n:Int):Prop:=-9223372036854775808<=n/\n<=9223372036854775807
theorem BV{α:Type}(C:Nat):∀(css:List (List α)),(∀cs∈css,cs.length=C)->css.flatten.length=css.length*C
 | [],_=>aj
 | c :: css,h=>by simp only[List.flatten_cons,dq,eQ];rw[h c aj,BV C css λcs j=>h cs (by simp[j]),Nat.succ_mul];omega
theorem wX{α:Type} C:∀(css:List (List α)),(∀cs∈css,cs.length=C)->∀i j,i<css.length->j<C->css.flatten[i*C+j]?=(css[i]?.getD [])[j]?
 | [],_,i,j,hi,_=>Lg
 | c :: css,h,i,j,hi,hj=>by
  have hc:=h c aj
  cases i with
  | zero=>simp;rw[List.getElem?_append_left af]
  | succ i => rw[List.flatten_cons,List.getElem?_append_right PM];simp only[List.getElem?_cons_succ];rw[<- wX C css (λcs t=>h cs (by simp[t])) i j PN hj];congr 1;rw[hc,Nat.succ_mul];omega
section
variable {H:Type} {enc:TypeId×Value->H} {w:World} {base:Nat} {r:Reach} {b0:Nat} {spare:Nat->Bool} {held:Bool} {v:Value} {d:DataW H} {p:List MemPlace}
theorem aob{T E}(J:prog.underlying T=some (.slice E)) C(hC:prog.cellsOf E=C)(t:List Value->Prop)
 (hE:∀(B:Nat) (cs:List Value) (x:DataW H×List MemPlace),cs.length=C->DataW.trod enc prog w base spare held B E cs=some x->t cs)
 (N:Value.okWide prog w r b0 T v) (h:DataW.Trod enc prog w base spare held T v d p) :
 ∃(A:Option Addr) (n c:Nat) (css:List (List Value)),v=.slice A n c/\css.length=n/\n<=c/\c<=maxLen/\(∀cs∈css,cs.length=C/\t cs)/\(0<C->Reads w w.heap.size C A n css.flatten):=by
 obtain⟨X,yO,M,rfl⟩:=okWide_slice J N
 obtain⟨B,U⟩:=h
 rcases Go.Deep.open_slice J U with ⟨hcs,_⟩|⟨a,len,cap,m,n,D,Z,hcs,hb,V,hm,hmm,hx,hi⟩
 ·simp[Value.cells]at hcs;obtain⟨rfl,rfl,rfl⟩:=hcs;exact⟨none,0,0,[],rfl,rfl,aj,aj,aj,λ_=>Reads.nil _ _ _ _⟩
 ·simp[Value.cells]at hcs;obtain⟨rfl,rfl,rfl⟩:=hcs;have hlm:yO<=m:=aB;have hex:∀i,i<yO->∃cs,cs.length=C/\t cs/\∀j,j<C->w.cell? (a.add (i*C+j))=cs[j]?:=aeY;have key:∀k,k<=yO->∃css:List (List Value),css.length=k/\(∀cs∈css,cs.length=C/\t cs)/\∀i j,i<k->j<C->w.cell? (a.add (i*C+j))=(css[i]?.getD [])[j]?:=aeZ;obtain⟨css,h1,h2,h3⟩:=key yO (aD _);refine⟨some a,yO,M,css,rfl,h1,V,hm,h2,λhC0=>?_⟩;have G:css.flatten.length=yO*C:=ae0;have hfg:∀i j,i<yO->j<C->css.flatten[i*C+j]?=(css[i]?.getD [])[j]?:=λi j Y hj=>wX C css (λcs hcs=>(h2 cs hcs).1) i j af hj
  refine⟨G,λy=>?_⟩;rw[G]at y;have W:=Nat.pos_of_mul_pos_right y;have F:∀q,q<yO*C->w.cell? (a.add q)=css.flatten[q]?:=ae1;have zj:=F 0 y;have S:∃u,css.flatten[0]?=some u:=⟨css.flatten[0]'af,List.getElem?_eq_getElem af⟩;obtain⟨u,L⟩:=S;rw[L]at zj;obtain⟨b,R,Q⟩:=a;have O:Q=none:=by simpa [Addr.add]using World.cell?_spot zj
  subst O;refine⟨b,R,rfl,?_,λj u I=>?_⟩
  ·exact ae2
  ·have hj:j<yO*C:=by have:=(List.getElem?_eq_some_iff.1 I).1;omega
   have:=F j hj;rw[Addr.add_lit]at this;rw[this,I]
theorem adl{cs G x}(h:DataW.trod enc prog w base spare held G 71 cs=some x):∃y,cs=azt y/\bR y.1/\bR y.2.1:=by
 obtain⟨xs,n,_,_,C,J,A⟩:=DataW.trod_struct underlying71 h
 have F:prog.cellsOf 71=3:=cC
 rw[F]at C
 match cs,C with
 | [c0,c1,c2],_ => have t:=A 0 _ rfl;have j:=A 1 _ rfl;have u:=A 2 _ rfl;have L:prog.cellsOf 3=1:=cC;have H:prog.cellsOf 2=1:=cC;have I:prog.cellsOf 9=1:=cC;simp[L,H,I]at t j u;have:xs.length=3:=J;rw[List.getElem?_eq_getElem af]at t j u;obtain⟨a,B,_,E⟩:=DataW.trod_int underlying3 t;obtain⟨b,D,_,wb⟩:=DataW.trod_int underlying2 j;obtain⟨s,es,_,_⟩:=DataW.trod_string underlying9 u;simp at B D es;subst B D es;have:=bounds_i64 E;have:=bounds_i64 wb;exact⟨(a,b,s),rfl,fk,fk⟩
theorem OH{α:Type} f(j:α->Prop):∀css:List (List Value),(∀cs∈css,∃y,cs=f y/\j y)->∃l:List α,l.length=css.length/\css=l.map f/\∀y∈l,j y
 | [],_=>⟨[],rfl,rfl,aj⟩
 | c :: css,h=>by
  obtain⟨y,rfl,B⟩:=h c aj;obtain⟨l,t,A,C⟩:=OH f j css λcs u=>h cs (by simp[u])
  refine⟨y :: l,by simp[t],by simp[A],?_⟩;intro z hz;rcases List.mem_cons.1 hz with rfl|hz
  ·exact B
  ·exact C z hz
end
end
section
open Go Go.RowKit Go.ChangeShapes Go.WideShapes Go.ChangeAt
open Go.ChangeMaps (open_string shut_string)
abbrev cM:=ByteArray×Int×Int×ByteArray
abbrev kJ(x:cM):List Value:=[.string x.1,.int .i64 x.2.1,.int .i64 x.2.2.1,.string x.2.2.2]
section
variable {H:Type} {enc:TypeId×Value->H} {w:World} {base:Nat} {r:Reach} {b0:Nat} {spare:Nat->Bool} {held:Bool} {v:Value} {d:DataW H} {p:List MemPlace}
theorem asu{cs C x}(h:DataW.trod enc prog w base spare held C 76 cs=some x):∃y:cM,cs=kJ y/\bR y.2.1/\bR y.2.2.1:=by
 obtain⟨xs,n,_,_,A,E,B⟩:=DataW.trod_struct underlying76 h
 have I:prog.cellsOf 76=4:=cC
 rw[I]at A
 match cs,A with
 | [c0,c1,c2,c3],_ => have t:=B 0 _ rfl;have j:=B 1 _ rfl;have G:prog.cellsOf 9=1:=cC;have D:prog.cellsOf 71=3:=cC;simp[G,D]at t j;have:xs.length=2:=E;rw[List.getElem?_eq_getElem af]at t j;obtain⟨s,es,_,_⟩:=DataW.trod_string underlying9 t;obtain⟨y,u,H,F⟩:=adl j;simp at es u;obtain⟨rfl,rfl,rfl⟩:=u;subst es;exact⟨(s,y),rfl,H,F⟩
end
end
def xm(b:UInt8):Bool:=(decide (97<=b.toNat)&&decide (b.toNat<=122))||(decide (48<=b.toNat)&&decide (b.toNat<=57))
def sO(s:ByteArray):Bool:=decide (1<=s.size)&&decide (s.size<=16)&&(dS s).all xm
theorem aur(l:List UInt8)(k:Nat)(h:k<l.length):(l.take (k+1)).all xm=((l.take k).all xm&&xm l[k]):=ae3
theorem awn(l:List UInt8) k(h:k<l.length)(hb:xm l[k]=false):l.all xm=false:=by
 grind
theorem Uz s w :
 Calls prog 282 #[.string s] w λe w'=>e=.returned (.bool (sO s))/\w=w':=by
 by_cases I:s.size<1
 ·have G:(s.size:Int)<1:=af;exact ae4
 have G:¬(s.size:Int)<1:=af
 by_cases H:16<s.size
 ·have A:(16:Int)<(s.size:Int):=af;exact ae4
 have A:¬(16:Int)<(s.size:Int):=af
 have D:(dS s).length=s.size:=cC
 go_in
 go_wp2_with fail
 go_loopw [15] (fun i wr=>∃k:Nat,k<=s.size/\i=.int .i64 k/\Hid (((dS s).take k).all xm=true)/\wr=w) (fun i _=>s.size-(intOf i).toNat)
 case atStart=>exact⟨0,af,rfl,ae aj,rfl⟩
 case round =>
  obtain⟨k,hk,rfl,u,rfl⟩:=hrel;by_cases L:k<s.size
  ·have C:(k:Int)<s.size:=af;have t:k<(dS s).length:=af;have E:=ae (aur (dS s) k t);have B:=ae (awn (dS s) k t);have M:s[k]=(dS s)[k]:=cC;generalize (dS s)[k]=x at *;have J:x.toNat<256:=x.toNat_lt;go_upto_if 34 with fail;all_goals
    go_wp2
    all_goals first
     | (go_ret
        have j:xm x=false:=by simp[xm];omega
        exact⟨by rw[show sO s=false by simp[sO,B.aa j]];rfl,rfl⟩)
     | (have j:xm x=true:=by simp[xm];omega
        have F:Hid (((dS s).take (k+1)).all xm=true):=ae (by rw[E.aa,u.aa,j];rfl)
        go_roundw
        case rel=>exact⟨k+1,af,bD,F,Lh⟩
        case measure=>simp[intOf];omega)
  ·have C:¬(k:Int)<s.size:=af;have y:k=s.size:=af;have hn:Hid (sO s=true):=by have:=u.aa;rw[y,<- D,nc]at this;exact ae (by simp only[sO,this];simp;omega)
   clear y;go_wp2;go_ret;exact⟨by rw[hn.aa];rfl,rfl⟩
theorem UR n:n<256^fO n:=by
 induction n using Nat.strongRecOn with
 | _ n j =>
  rcases Nat.eq_zero_or_pos n with h|h
  ·subst h;simp[Ic]
  ·rw[Pm n h,Nat.pow_succ];have:=j (n/256) af;omega
theorem aus n(h:0<n):256^(fO n-1)<=n:=by
 induction n using Nat.strongRecOn with
 | _ n u =>
  rw[Pm n h];simp only[Nat.add_sub_cancel];rcases Nat.eq_zero_or_pos (n/256)with j|j
  ·rw[j,Ic];simp;omega
  ·have:=u (n/256) af j;have t:fO (n/256)=(fO (n/256)-1)+1:=by have:=Pm (n/256) j;omega
   rw[t,Nat.pow_succ];omega
theorem aut n k(j:n<256^(k+1))(u:256^k<=n):fO n=k+1:=by
 have:=K1 (k+1) n j;rcases Nat.lt_or_ge (fO n) (k+1)with h|h
 ·exfalso;have:=UR n;have:256^fO n<=256^k:=Nat.pow_le_pow_right ax af;omega
 ·omega
theorem US b l:i6 (b :: l)=b.toNat*256^l.length+i6 l:=by
 have key:∀(l:List UInt8) (a:Nat),l.foldl (λn (b:UInt8)=>n*256+b.toNat) a=a*256^l.length+i6 l:=by
  intro l
  induction l with
  | nil=>intro a;simp[i6]
  | cons x l j =>
   grind [i6]
 have:=key l b.toNat;simpa [i6]using this
theorem Vy k:∀n,i6 (be k n)=n%256^k:=by
 induction k with
 | zero=>intro n;simp[be,i6,Nat.mod_one]
 | succ k j => intro n;rw[be,US,j,uO,Nat.pow_succ,Nat.mod_mul];simp;rw[Nat.mul_comm,Nat.add_comm]
theorem ax6 k:∀n m,n%256^k=m%256^k->be k n=be k m:=by
 induction k with
 | zero=>intro n m _;rfl
 | succ k u =>
  intro n m h;have hp:0<256^k:=Nat.pow_pos ax;have e:∀x:Nat,x%256^(k+1)=256^k*(x/256^k%256)+x%256^k:=by simp[Nat.pow_succ,Nat.mod_mul,Nat.add_comm]
  rw[e n,e m]at h;have A:=Nat.mod_lt n hp;have B:=Nat.mod_lt m hp;have t:n/256^k%256=m/256^k%256:=by
   have C:(256^k*(n/256^k%256)+n%256^k)/256^k=n/256^k%256:=by rw[Nat.mul_add_div hp,Nat.div_eq_of_lt A,Nat.add_zero]
   have j:(256^k*(m/256^k%256)+m%256^k)/256^k=m/256^k%256:=by rw[Nat.mul_add_div hp,Nat.div_eq_of_lt B,Nat.add_zero]
   rw[<- C,<- j,h]
  have y:n%256^k=m%256^k:=aB;rw[be,be,u n m y];congr 1;apply UInt8.toNat_inj.1;simpa using t
theorem ae5:∀l:List UInt8,be l.length (i6 l)=l
 | []=>rfl
 | b :: l=>by
  have j:=Lf l;have hp:0<256^l.length:=Nat.pow_pos ax;rw[eQ,be,US];have t:(b.toNat*256^l.length+i6 l)/256^l.length=b.toNat:=by rw[Nat.mul_comm,Nat.mul_add_div hp,Nat.div_eq_of_lt j,Nat.add_zero]
  rw[t];have u:be l.length (b.toNat*256^l.length+i6 l)=be l.length (i6 l):=ax6 _ _ _ aj;rw[u,ae5 l];simp
theorem qR n(h:n<18446744073709551616) rest:aw (az n++rest) false=(n,rest,false):=by
 have h8:=K1 8 n af;have hb:(UInt8.ofNat (fO n)).toNat=fO n:=aY;have C:=uO (fO n) n;have E:(be (fO n) n++rest).take (fO n)=be (fO n) n:=aB;have B:(be (fO n) n++rest).drop (fO n)=rest:=aB;have y:0<fO n->¬(be (fO n) n++rest).head?=some 0:=by
  intro j u;have D:0<n:=by
   grind [Nat.eq_zero_or_pos,Ic]
  have hg:=aus n D;have t:=UR n;obtain⟨k,hk⟩:∃k,fO n=k+1:=⟨fO n-1,af⟩;rw[hk]at u hg t;simp only[be,aQ,List.head?_cons,Option.some.injEq,Nat.add_sub_cancel]at u hg;have hz:n/256^k%256=0:=by have:=congrArg UInt8.toNat u;simpa using this
  have hp:0<256^k:=Nat.pow_pos ax;have G:n/256^k<256:=by rw[Nat.pow_succ]at t;exact Nat.div_lt_of_lt_mul t
  have F:=Nat.div_pos hg hp;omega
 have A:(false||decide (8<(UInt8.ofNat (fO n)).toNat)||decide ((be (fO n) n++rest).length<(UInt8.ofNat (fO n)).toNat)||(decide (0<(UInt8.ofNat (fO n)).toNat)&&(be (fO n) n++rest).head?==some 0))=false:=by
  rw[hb];simp only[Bool.false_or,Bool.or_eq_false_iff,decide_eq_false_iff_not,Bool.and_eq_false_iff];refine⟨⟨af,by simp[C]⟩,?_⟩;by_cases j:0<fO n
  ·right;exact beq_eq_false_iff_ne.2 (y j)
  ·left;exact j
 unfold az;simp only[aQ,aw];rw[A,hb,E,B,Vy,Nat.mod_eq_of_lt (UR n)];rfl
theorem tI{l wr}(h:(aw l wr).2.2=false):l=az (aw l wr).1++(aw l wr).2.1/\wr=false:=by
 match l with
 | []=>simp[aw]at h
 | b :: r =>
  simp only[aw]at h⊢;split at h
  ·simp at h
  ·rename_i u;rw[if_neg u];simp only[Bool.or_eq_true,not_or,Bool.not_eq_true,Bool.and_eq_false_iff,decide_eq_false_iff_not]at u;obtain⟨⟨⟨B,h8⟩,E⟩,t⟩:=u;refine⟨?_,B⟩;have j:(r.take b.toNat).length=b.toNat:=aY;have hk:fO (i6 (r.take b.toNat))=b.toNat:=by
    rcases Nat.eq_zero_or_pos b.toNat with hb|hb
    ·rw[hb];simp[i6,Ic]
    ·obtain⟨k,hk⟩:∃k,b.toNat=k+1:=⟨b.toNat-1,af⟩;rw[hk]at j t⊢;match r,j,t with
     | [],j,_=>simp at j
     | x :: r',j,t =>
      have C:x≠0:=by rintro rfl;simp at t
      have D:0<x.toNat:=by
       rcases Nat.eq_zero_or_pos x.toNat with h|h
       ·exact absurd (UInt8.toNat_inj.1 (show x.toNat=(0:UInt8).toNat from h)) C
       ·exact h
      simp only[Q5,eQ,Nat.add_right_cancel_iff]at j⊢;have y:=Lf (x :: r'.take k);simp only[eQ,j]at y;refine aut _ k y ?_;rw[US,j];have:1*256^k<=x.toNat*256^k:=Nat.mul_le_mul_right _ D;omega
   have A:=ae5 (r.take b.toNat);rw[j]at A;unfold az;rw[hk,A,aQ,List.take_append_drop];simp
theorem FA j b(hb:b.length<18446744073709551616)(hm:(b.length:Int)<=j) rest:aM j (az b.length++b++rest) false=(b,rest,false):=by
 rw[dQ];unfold aM;rw[qR b.length hb];have t:(false||decide (j<0)||decide (j.toNat<b.length)||decide ((b++rest).length<b.length))=false:=by simp;omega
 simp only;rw[t];simp
theorem DR{j l wr}(h:(aM j l wr).2.2=false) :
 l=az (aM j l wr).1.length++(aM j l wr).1++(aM j l wr).2.1/\((aM j l wr).1.length:Int)<=j/\wr=false:=by
 grind [aM,tI,aw,dQ,List.take_append_drop]
theorem apS n(t:-9223372036854775808<=n)(j:n<=9223372036854775807):uV (foldI n)=n:=by
 grind [uV,foldI]
theorem apT n(h:n<18446744073709551616):foldI (uV n)=n/\-9223372036854775808<=uV n/\uV n<=9223372036854775807:=by
 grind [foldI,uV]
theorem asv n(t:-9223372036854775808<=n)(j:n<=9223372036854775807):Eg (n%18446744073709551616).toNat=n:=by unfold Eg;omega
theorem asw n(h:n<18446744073709551616):(Eg n%18446744073709551616).toNat=n/\-9223372036854775808<=Eg n/\Eg n<=9223372036854775807:=by unfold Eg;omega
theorem Io{k n s}(h:iP k n s=true):(k=1∨k=2∨k=3)/\s.size<=40:=by
 unfold iP at h;split at h
 ·rename_i hk;rw[ByteArray.toList_eq]at h;simp at hk h;refine⟨.inl hk,?_⟩;show s.data.size<=40;simp[h]
 ·split at h
  ·grind
  ·split at h
   ·rename_i hk;rw[ByteArray.toList_eq]at h;simp at hk h;refine⟨.inr (.inr hk),?_⟩;show s.data.size<=40;simp[h.2]
   ·simp at h
theorem auu k n(hk:k=1∨k=2∨k=3)(t:-9223372036854775808<=n)(j:n<=9223372036854775807):uh (aZ k) (vG k n)=n:=by
 grind [uh,vG,aZ,apS,asv]
theorem aeb k n s(j:iP k n s=true)(u:-9223372036854775808<=n)(t:n<=9223372036854775807) rest :
 fC (nO k n s++rest) false=((k,n,dS s),rest,false):=by
 obtain⟨hk,F⟩:=Io j
 have B:=gH k
 have C:=Lc k n u t
 have E:(dS s).length=s.size:=aj
 unfold fC nO
 rw[dQ,dQ,qR _ B]
 simp only
 rw[qR _ C]
 simp only
 rw[<- E,FA 40 (dS s) af af]
 simp only
 rw[auu k n hk u t]
 have A:(aZ k:Int)=k:=by unfold aZ;omega
 have y:¬3<aZ k:=af
 rw[A]
 have D:(⟨(dS s).toArray⟩:ByteArray)=s:=by cases s;simp
 rw[D,j]
 simp[y]
theorem Vc{l wr}(h:(fC l wr).2.2=false) :
 l = nO (fC l wr).1.1 (fC l wr).1.2.1 ⟨(fC l wr).1.2.2.toArray⟩++(fC l wr).2.1/\iP (fC l wr).1.1 (fC l wr).1.2.1 ⟨(fC l wr).1.2.2.toArray⟩=true/\wr=false /\
  -9223372036854775808<=(fC l wr).1.2.1/\(fC l wr).1.2.1<=9223372036854775807:=by
 simp only[fC]at h⊢
 split at h
 ·simp at h
 ·rename_i j;rw[if_neg j];simp only[Bool.or_eq_true,not_or,decide_eq_true_eq,Bool.not_eq_true,Bool.not_eq_eq_eq_not]at j;obtain⟨⟨hk,E⟩,I⟩:=j;have S:=nM l wr;have y:=nM (aw l wr).2.1 (aw l wr).2.2;obtain⟨D,T,G⟩:=DR E;obtain⟨C,F⟩:=tI G;obtain⟨H,w0⟩:=tI F;have A:iP ((aw l wr).1:Int) (uh (aw l wr).1 (aw (aw l wr).2.1 (aw l wr).2.2).1) ⟨(aM 40 (aw (aw l wr).2.1 (aw l wr).2.2).2.1 (aw (aw l wr).2.1 (aw l wr).2.2).2.2).1.toArray⟩=true:=by simpa using I
  have J:=(Io A).1;simp only;generalize (aM 40 (aw (aw l wr).2.1 (aw l wr).2.2).2.1 (aw (aw l wr).2.1 (aw l wr).2.2).2.2)=c at *;generalize aw (aw l wr).2.1 (aw l wr).2.2=b at *;generalize aw l wr=a at *;obtain⟨k,L,R⟩:=a;obtain⟨n,N,O⟩:=b;obtain⟨s,M,Q⟩:=c;simp only at *;have B:aZ (k:Int)=k:=by unfold aZ;omega
  have u:vG (k:Int) (uh k n)=n/\-9223372036854775808<=uh k n/\uh k n<=9223372036854775807:=by
   unfold vG uh;by_cases t:k=1
   ·subst t;simp;exact apT n y
   ·rw[if_neg af,if_neg t];exact asw n y
  refine⟨?_,A,w0,u.2⟩;unfold nO;rw[B,u.1,H,C,D];simp[ByteArray.size,dS]
section
variable {P:Program} {Q:Exit->Act->World->Prop}
def pz(ops:Array Oper)(j:Nat):Option Tmp:=(ops[j]?).bind (·.dst)
def ahead(o:Oper):List Nat:=(o.after.toList.filter (Region.binds .any)).map (·.on)
def rT(ops:Array Oper)(n:Nat):Bool :=
 ops.toList.zipIdx.all λx =>
  (ahead x.1).all (λj=>decide (j<x.2)) &&
  (match x.1.op with | .select ..=>false|_=>true) &&
  (match x.1.dst with|some d=>decide (d<n)&&ops.toList.zipIdx.all (λy=>y.2==x.2||y.1.dst != some d)|none=>true) &&
  (match x.1.guard with|some (j,_)=>(ahead x.1).contains j&&(pz ops j).isSome|none=>true) &&
  ((x.1.looksAt ops).all λt=>ops.toList.zipIdx.all λy=>y.1.dst != some t||(y.2 != x.2&&((ahead x.1).contains y.2||(ahead y.1).contains x.2)))
def zk(ops:Array Oper)(u:Act)(V:Nat->Value)(o:Oper):Operand->Value
 | .tmp t=>match (ahead o).find? (λj=>pz ops j==some t)with
  | some j=>V j
  | none=>u.tmps.getD t undef
 | x=>u.eval x
def wants(V:Nat->Value)(o:Oper):Bool :=
 match o.guard with
 | none=>true
 | some (j,want)=>match V j with
  | .bool b=>b==want
  | _=>false
def upd(L:Nat->Bool)(i:Nat):Nat->Bool:=λj=>if j=i then true else L j
def jO(P:Program)(R:Value->World->Prop):Result Next->Prop
 | .ok (.value v) w'=>R v w'
 | .ok .skip w'=>R undef w'
 | .ok (.enter f args) w'=>Calls P f args w' λe j=>∃v,e=.returned v/\R v j
 | _=>False
def ba(V:Nat->Value)(i:Nat)(v:Value):Nat->Value:=λj=>if j=i then v else V j
def Closed(ops:Array Oper)(L:Nat->Bool):Prop:=(∀j o,ops[j]?=some o->L j=true->∀k∈ahead o,L k=true)/\∀j,L j=true->j<ops.size
def Rf(P:Program)(ops:Array Oper)(j:Act)(I:(Nat->Bool)->(Nat->Value)->World->Prop)(i:Nat)(o:Oper):Prop :=
 ∀(L:Nat->Bool) (V:Nat->Value) (w:World),L i=false->Closed ops L->(∀k∈ahead o,L k=true)->I L V w ->
  if wants V o=true then jO P (λv w'=>I (upd L i) (ba V i v) w') ((execOp (zk ops j V o) o).run P w)else I (upd L i) (ba V i undef) w
def fT(V:Nat->Value):List Oper->Nat->Act->Act
 | [],_,a=>a
 | o :: r,k,a=>fT V r (k+1) (a.put o.dst (V k))
structure Inv(ops:Array Oper)(a0:Act)(I:(Nat->Bool)->(Nat->Value)->World->Prop)(L:Array Bool)(a:Act)(w:World):Prop where
 size:L.size=ops.size
 closed:∀j o,ops[j]?=some o->L.getD j false=true->∀k∈ahead o,L.getD k false=true
 EH:a.tmps.size=a0.tmps.size
 Mi:a.defers=a0.defers
 xp:∃V:Nat->Value,(∀j d,L.getD j false=true->pz ops j=some d->a.tmps.getD d undef=V j) /\
  (∀t,(∀j,L.getD j false=true->pz ops j≠some t)->a.tmps.getD t undef=a0.tmps.getD t undef)/\I (λj=>L.getD j false) V w
theorem Fq{ops n}(h:rT ops n=true){i o}(E:ops[i]?=some o) :
 (∀j∈ahead o,j<i)/\(∀cs b,o.op≠.select cs b)/\(∀d,o.dst=some d->d<n/\∀j p,ops[j]?=some p->j≠i->p.dst≠some d) /\
 (∀j B,o.guard=some (j,B)->j∈ahead o/\∃d,pz ops j=some d) /\
 (∀t∈o.looksAt ops,∀j p,ops[j]?=some p->p.dst=some t->j≠i/\(j∈ahead o∨i∈ahead p)):=by
 have mem:∀ {j:Nat} {p:Oper},ops[j]?=some p->(p,j)∈ops.toList.zipIdx:=λ{j p} A=>List.mem_zipIdx_iff_getElem?.2 aB
 have y:=List.all_eq_true.1 h _ (mem E)
 simp only[dz]at y
 obtain⟨⟨⟨⟨y,G⟩,H⟩,u⟩,D⟩:=y
 refine⟨λj A=>aB,?_,?_,?_,?_⟩
 ·grind
 ·grind
 ·intro j B hg;rw[hg]at u;simp only[dz,List.contains_iff_mem]at u;exact⟨u.1,Option.isSome_iff_exists.1 u.2⟩
 ·intro t F j p A C;have:=List.all_eq_true.1 (List.all_eq_true.1 D t F) _ (mem A);simp only[C,Bool.or_eq_true,dz,bne_iff_ne,List.contains_iff_mem]at this;rcases this with h|h
  ·exact absurd rfl h
  ·exact h
theorem Ie{ops j d}(h:pz ops j=some d):∃p,ops[j]?=some p/\p.dst=some d:=by
 unfold pz at h
 cases hp:ops[j]? with
 | none=>rw[hp]at h;cases h
 | some p=>rw[hp]at h;exact⟨p,rfl,h⟩
theorem adm{o k}:k∈ahead o ↔ ∃e∈o.after,Region.binds .any e=true/\e.on=k:=by
 grind [ahead]
theorem auv{ops}{y a:Act}{L:Array Bool}{V i o}
 (H:rT ops y.tmps.size=true) (J:ops[i]?=some o) (M:L.getD i false=false) (hp:∀k∈ahead o,L.getD k false=true)
 (closed:∀j o,ops[j]?=some o->L.getD j false=true->∀k∈ahead o,L.getD k false=true)
 (D:∀j d,L.getD j false=true->pz ops j=some d->a.tmps.getD d undef=V j)
 (F:∀t,(∀j,L.getD j false=true->pz ops j≠some t)->a.tmps.getD t undef=y.tmps.getD t undef) :
 ∀x∈o.op.operands,a.eval x=zk ops y V o x:=by
 obtain⟨R,Q,S,O,I⟩:=Fq H J
 intro x hx
 cases x with
 | tmp t =>
  have E:t∈o.looksAt ops:=List.mem_append_left _ (List.mem_filterMap.2 ⟨.tmp t,PK,rfl⟩)
  show a.tmps.getD t undef=zk ops y V o (.tmp t)
  cases hf:(ahead o).find? (λj=>pz ops j==some t)with
  | some j => have A:=List.find?_some hf;have hm:=List.mem_of_find?_eq_some hf;simp only[beq_iff_eq]at A;simp only[zk,hf];exact D j t (hp j hm) A
  | none =>
   simp only[zk,hf];refine F t λj A C=>?_
   obtain⟨p,B,G⟩:=Ie C;obtain⟨N,u⟩:=I t E j p B G;rcases u with u|u
   ·have:=List.find?_eq_none.1 hf j u;simp[C]at this
   ·have:=closed j p B A i u;rw[M]at this;cases this
 | const v=>rfl
 | global g=>rfl
 | func f=>rfl
theorem auw{ops}{u a:Act}{L:Array Bool}{V}{i:Nat}{o}
 (y:rT ops u.tmps.size=true) (I:ops[i]?=some o) (hp:∀k∈ahead o,L.getD k false=true) (M:a.tmps.size=u.tmps.size)
 (A:∀j d,L.getD j false=true->pz ops j=some d->a.tmps.getD d undef=V j) :
 Region.wanted o (yielded ops a.tmps)=wants V o:=by
 obtain⟨P,O,Q,D,N⟩:=Fq y I
 unfold Region.wanted wants
 cases hg:o.guard with
 | none=>rfl
 | some gw =>
  obtain⟨j,J⟩:=gw;obtain⟨E,d,t⟩:=D j J hg;have C:=A j d (hp j E) t;obtain⟨p,H,G⟩:=Ie t;have B:d<a.tmps.size:=by rw[M];exact ((Fq y H).2.2.1 d G).1
  have F:yielded ops a.tmps j=match V j with | .bool b=>some b|_=>none:=by
   unfold yielded;unfold pz at t;rw[t];have:a.tmps[d]?=some (V j):=by rw[<- C];simp[B]
   show (match a.tmps[d]? with|some (.bool b)=>some b|_=>none)=_;rw[this];cases V j <;> rfl
  simp only[F];cases V j <;> simp
theorem ae6{ops}{B a:Act}{I}{L:Array Bool}{w' V i o v}
 (S:rT ops B.tmps.size=true) (C:ops[i]?=some o) (hl:L.getD i false=false) (hp:∀k∈ahead o,L.getD k false=true)
 (M:L.size=ops.size) (closed:∀j o,ops[j]?=some o->L.getD j false=true->∀k∈ahead o,L.getD k false=true)
 (EH:a.tmps.size=B.tmps.size) (Mi:a.defers=B.defers)
 (N:∀j d,L.getD j false=true->pz ops j=some d->a.tmps.getD d undef=V j)
 (R:∀t,(∀j,L.getD j false=true->pz ops j≠some t)->a.tmps.getD t undef=B.tmps.getD t undef)
 (U:I (upd (λj=>L.getD j false) i) (ba V i v) w') :
 Inv ops B I (L.setIfInBounds i true) (a.put o.dst v) w':=by
 obtain⟨Z,Y,J,W,X⟩:=Fq S C
 have O:i<L.size:=by rw[M];exact (Array.getElem?_eq_some_iff.1 C).1
 have E:∀j,(L.setIfInBounds i true).getD j false=upd (λj=>L.getD j false) i j:=by
  intro j;unfold upd;by_cases u:j=i
  ·subst u;simp[O]
  ·rw[if_neg u,getD_set_ne _ (λe=>u e.symm)]
 have H:∀j,(L.setIfInBounds i true).getD j false=true->j=i∨L.getD j false=true:=by
  intro j u;rw[E j]at u;unfold upd at u;by_cases A:j=i
  ·exact .inl A
  ·rw[if_neg A]at u;exact .inr u
 refine⟨by simpa using M,?_,?_,?_,⟨λj=>if j=i then v else V j,?_,?_,?_⟩⟩
 ·intro j p y u k hk;rcases H j u with rfl|u
  ·rw[C]at y;injection y with y;subst y;exact getD_set_true (hp k hk)
  ·exact getD_set_true (closed j p y u k hk)
 ·rw[<- EH];cases o.dst <;> simp[Act.put]
 ·rw[<- Mi];cases o.dst <;> rfl
 ·intro j d u F;by_cases A:j=i
  ·subst A;obtain⟨p,y,D⟩:=Ie F;rw[C]at y;injection y with y;subst y;have:=(J d D).1;rw[D];simp[Act.put,EH,this]
  ·show _=if j=i then v else V j
   rw[if_neg A];have T:=(H j u).resolve_left A;rw[<- N j d T F];cases ho:o.dst with
   | none=>rfl
   | some e =>
    obtain⟨p,y,D⟩:=Ie F;have hne:e≠d:=by rintro rfl;exact (J e ho).2 j p y A D
    exact Vz
 ·intro t G;have Q:=G i (by rw[E];simp[upd]);rw[<- R t λj u=>G j (getD_set_true u)];cases ho:o.dst with
  | none=>rfl
  | some e =>
   have hne:e≠t:=by rintro rfl;exact Q (by unfold pz;rw[C];exact ho)
   exact Vz
 ·have:(λj=>(L.setIfInBounds i true).getD j false)=upd (λj=>L.getD j false) i:=funext E;rw[this];exact U
theorem auy{ops y a I L w i}
 (A:rT ops y.tmps.size=true) (U:∀i o,ops[i]?=some o->Rf P ops y I i o)
 (h:Inv ops y I L a w) (S:i∈Region.ready .any ops L):wpOp P ops Q i (Inv ops y I (L.setIfInBounds i true)) a w:=by
 obtain⟨qH,o,u,X⟩:=mem_ready.1 S
 have G:=h.size
 have hlt:i<L.size:=aB
 have C:L.getD i false=false:=VA
 have hp:∀k∈ahead o,L.getD k false=true:=by intro k hk;obtain⟨e,Y,hb,rfl⟩:=adm.1 hk;exact X e Y hb
 obtain⟨V,B,E,T⟩:=h.xp
 have W:=(Fq A u).2.1
 have N:=auv A u C hp h.closed B E
 have M:=auw A u hp h.EH B
 have H:=execOp_congr o W N
 have R:∀j,L.getD j false=true->j<ops.size:=by
  intro j O;by_cases J:j<L.size
  ·omega
  ·simp[J]at O
 have t:=U i o u (λj=>L.getD j false) V w C ⟨h.closed,R⟩ hp T
 unfold wpOp
 simp only[u]
 rw[M]
 by_cases F:wants V o=true
 ·rw[if_pos F]at t⊢;refine .inl ?_;unfold Oper.wp;rw[H];generalize (execOp (zk ops y V o) o).run P w=r at *;have put:∀v w',I (upd (λj=>L.getD j false) i) (ba V i v) w'->Inv ops y I (L.setIfInBounds i true) (a.put o.dst v) w':=λv w' D =>
   ae6 A u C hp G h.closed h.EH h.Mi B E D
  cases r with
  | ok n w' =>
   cases n <;> simp only[jO]at t <;> simp only[Oper.upon]
   case value v=>exact put _ _ t
   case skip=>exact put _ _ t
   case enter f args => apply bN t;intro v Z D;exact put _ _ D
  | halt x w'=>simp only[jO]at t
 ·rw[if_neg F]at t⊢;exact ae6 A u C hp G h.closed h.EH h.Mi B E t
theorem asx V:∀(l:List Oper) (k:Nat) (a:Act),(fT V l k a).tmps.size=a.tmps.size/\(fT V l k a).defers=a.defers /\
 (∀t,(∀(j:Nat) (o:Oper),l[j]?=some o->o.dst≠some t)->(fT V l k a).tmps.getD t undef=a.tmps.getD t undef) /\
 (∀(j:Nat) (o:Oper) (t:Tmp),l[j]?=some o->o.dst=some t->t<a.tmps.size->(∀(u:Nat) (o':Oper),l[u]?=some o'->u≠j->o'.dst≠some t)->(fT V l k a).tmps.getD t undef=V (k+j)):=by
 intro l
 induction l with
 | nil=>intro k a;exact⟨rfl,rfl,λ_ _=>rfl,λj o t h=>aB⟩
 | cons o r H =>
  intro k a;obtain⟨G,J,D,F⟩:=H (k+1) (a.put o.dst (V k));have B:(a.put o.dst (V k)).tmps.size=a.tmps.size:=by cases o.dst <;> simp[Act.put]
  refine⟨G.trans B,J.trans (by cases o.dst <;> rfl),λt E=>?_,λj p t hj A C y=>?_⟩
  ·show (fT V r (k+1) (a.put o.dst (V k))).tmps.getD t undef=_;rw[D t λj p hj=>E (j+1) p DV];have I:=E 0 o aj;cases ho:o.dst with
   | none=>rfl
   | some e =>
    have hne:e≠t:=by rintro rfl;exact I ho
    exact Vz
  ·show (fT V r (k+1) (a.put o.dst (V k))).tmps.getD t undef=_;cases j with
   | zero => simp at hj;subst hj;rw[D t λj p hj=>y (j+1) p DV af,A];simp[Act.put,C]
   | succ j =>
    have:=F j p t DV A (by rw[B];exact C) λu o' hj' hne=>y (u+1) o' VB af
    rw[this];congr 1;omega
theorem aq4{ops n L}(t:rT ops n=true)(C:L.size=ops.size)(A:Region.ready .any ops L=[]):∀i,i<ops.size->L.getD i false=true:=by
 intro i
 induction i using Nat.strongRecOn with
 | _ i u =>
  intro D;by_cases h:L.getD i false=true
  ·exact h
  ·exfalso;have j:ops[i]?=some ops[i]:=aj;have:i∈Region.ready .any ops L:=by
    refine mem_ready.2 ⟨?_,_,j,λe B hb=>?_⟩
    ·grind
    ·have hk:=adm.2 ⟨e,B,hb,rfl⟩;have y:=(Fq t j).1 _ hk;exact u _ y af
   rw[A]at this;cases this
theorem awo{ops u I}
 (J:rT ops u.tmps.size=true) (owed:∀i o,ops[i]?=some o->Rf P ops u I i o)
 (fin:∀(V:Nat->Value) (w:World),I (λj=>decide (j<ops.size)) V w->Q .normal (fT V ops.toList 0 u) w) :
 ∀(A:Nat) (L:Array Bool) (a:Act) (w:World),L.toList.count false<=A->Inv ops u I L a w->wpAny P .any ops Q A L a w:=by
 have done:∀(L:Array Bool) (a:Act) (w:World),Inv ops u I L a w->Region.ready .any ops L=[]->Q .normal a w:=by
  intro L a w h B;have hall:=aq4 J h.size B;obtain⟨V,U,h2,O⟩:=h.xp;have hLf:(λj=>L.getD j false)=λj=>decide (j<ops.size):=by
   funext j;by_cases hj:j<ops.size
   ·grind
   ·have:¬j<L.size:=by rw[h.size];exact hj
    simp[hj,this]
  rw[hLf]at O;have hq:=fin V w O;obtain⟨p1,p2,p3,p4⟩:=asx V ops.toList 0 u;have ha:a=fT V ops.toList 0 u:=by
   have W:=h.Mi.trans p2.symm;have H:a.tmps=(fT V ops.toList 0 u).tmps:=by
    apply Array.ext
    ·rw[h.EH,p1]
    ·intro t M R;have g1:a.tmps[t]=a.tmps.getD t undef:=by simp[M]
     have T:(fT V ops.toList 0 u).tmps[t]=(fT V ops.toList 0 u).tmps.getD t undef:=by simp[R]
     rw[g1,T];by_cases G:∃j,j<ops.size/\pz ops j=some t
     ·obtain⟨j,hj,y⟩:=G;obtain⟨p,C,N⟩:=Ie y;rw[U j t (hall j hj) y];have X:=p4 j p t (by simpa using C) N (by rw[<- h.EH];exact M) λZ o' hj' S hd'=>(Fq J C).2.2.1 t N |>.2 Z o' VB S hd'
      rw[X,mz]
     ·rw[h2 t λj hj y=>G ⟨j,?_,y⟩,p3 t λj o hj y=>G ⟨j,?_,?_⟩]
      ·have:=(List.getElem?_eq_some_iff.1 hj).1;simpa using this
      ·unfold pz;have hj':ops[j]?=some o:=DV;rw[hj'];exact y
      ·obtain⟨p,C,_⟩:=Ie y;exact (Array.getElem?_eq_some_iff.1 C).1
   calc a=⟨a.tmps,a.defers⟩:=rfl
    _=_:=by rw[H,W]
  rw[ha];exact hq
 intro A
 induction A with
 | zero =>
  intro L a w I4 h;have B:Region.ready .any ops L=[]:=by
   apply List.eq_nil_iff_forall_not_mem.2;intro i D;obtain⟨qH,o,F,_⟩:=mem_ready.1 D;have hlt:i<L.size:=by rw[h.size];exact (Array.getElem?_eq_some_iff.1 F).1
   have E:L[i]=false:=VA;have:false∈L.toList:=by rw[<- E];simp
   have:=List.count_pos_iff.2 this;omega
  exact⟨B,done L a w h B⟩
 | succ A ih =>
  intro L a w I4 h;refine⟨done L a w h,λi D=>?_⟩;refine wpOp_mono (λa' w' Y=>ih _ a' w' ?_ Y) (auy J owed h D);obtain⟨qH,o,F,_⟩:=mem_ready.1 D;have hlt:i<L.size:=by rw[h.size];exact (Array.getElem?_eq_some_iff.1 F).1
  have E:L[i]=false:=VA;have hpos:0<L.toList.count false:=List.count_pos_iff.2 (by rw[<- E];simp);rw[Array.toList_setIfInBounds,List.count_set (by simpa using hlt)];have H:(L.toList[i]'(by simpa using hlt)==false)=true:=by simp[E]
  rw[if_pos H,if_neg ax];omega
theorem Uc{id ops u w} I
 n (hn:u.tmps.size=n) (hm:P.follows .mixedOrders=true) (A:rT ops n=true)
 (C:I (λ_=>false) (λ_=>undef) w.drew) (D:∀i o,ops[i]?=some o->Rf P ops u I i o)
 (fin:∀(V:Nat->Value) (w:World),I (λj=>decide (j<ops.size)) V w->Q .normal (fT V ops.toList 0 u) w) :
 (Code.region id ops true).wp P Q u w:=by
 subst hn
 refine wp_region_any hm (awo A D fin _ _ _ _ ?_ ⟨aj,?_,rfl,rfl,⟨λ_=>undef,?_,λ_ _=>rfl,?_⟩⟩)
 ·refine bo List.count_le_length ?_;simp
 ·intro j o B y;have t:=(Array.getElem?_eq_some_iff.1 B).1;simp[t]at y
 ·intro j d y E;by_cases t:j<ops.size <;> simp[t]at y
 ·have:(λj=>(Array.replicate ops.size false).getD j false)=λ_=>false:=by funext j;by_cases t:j<ops.size <;> simp[t]
  rw[this];exact C
def tab(l:List (Value->World->Prop))(i:Nat)(v:Value)(w:World):Prop:=(l.getD i (λ_ _=>True)) v w
theorem bV f l v w:tab (f :: l) 0 v w=f v w:=rfl
theorem bW f l n v w:tab (f :: l) (n+1) v w=tab l n v w:=rfl
theorem UA{Le:World->World->Prop}{l}(h:∀f∈l,∀v w w',f v w->Le w w'->f v w'):∀j v w w',tab l j v w->Le w w'->tab l j v w':=by
 intro j v w w' u y
 unfold tab at *
 by_cases t:j<l.length
 ·simp only[List.getD_eq_getElem?_getD,List.getElem?_eq_getElem t,Option.getD_some]at *;exact h _ (bT t) v w w' u y
 grind
def aF(rd:List (Nat×Nat))(u:Act)(V:Nat->Value):Operand->Value
 | .tmp t=>match rd.lookup t with
  | some j=>V j
  | none=>u.tmps.getD t undef
 | x=>u.eval x
def bO(V:Nat->Value):Option (Nat×Bool)->Bool
 | none=>true
 | some (j,want)=>match V j with
  | .bool b=>b==want
  | _=>false
def aG (op:Op) (ty:TypeId):Oper:={ dst:=none,op:=op,type:=ty,pos:="",after:=#[],guard:=none }
def ajS(P:Program)(ops:Array Oper)(t:Act)(I:(Nat->Bool)->(Nat->Value)->World->Prop)(k:Nat)(op:Op)(ty:TypeId)(gd:Option (Nat×Bool))(al:List Nat)(rd:List (Nat×Nat)):Prop :=
 ∀(L:Nat->Bool) (V:Nat->Value) (w:World),L k=false->Closed ops L->(∀j∈al,L j=true)->I L V w ->
  if bO V gd=true then jO P (λv w'=>I (upd L k) (ba V k v) w') ((execOp (aF rd t V) (aG op ty)).run P w)else I (upd L k) (ba V k undef) w
def L8(P:Program)(ops:Array Oper)(j:Act)(I:(Nat->Bool)->(Nat->Value)->World->Prop):Nat->List Oper->List (List Nat×List (Nat×Nat))->Prop
 | _,[],_=>True
 | _,_ :: _,[]=>False
 | k,o :: r,x :: xs=>ajS P ops j I k o.op o.type o.guard x.1 x.2/\L8 P ops j I (k+1) r xs
def tQ(ops:Array Oper)(u:List (List Nat×List (Nat×Nat))):Bool :=
 ops.toList.zipIdx.all λx=>match u[x.2]? with
  | none=>false
  | some (al,rd)=>al.all (λj=>(ahead x.1).contains j) &&
   (match x.1.op with | .select ..=>false|_=>true) &&
   (x.1.op.operands.toList.all λy=>match y with
    | .tmp t=>(ahead x.1).find? (λj=>pz ops j==some t)==rd.lookup t
    | _=>true)
theorem Uq ρ o:execOp ρ o=execOp ρ (aG o.op o.type):=by
 cases o with
 | mk u op y pos t j=>cases op <;> rfl
theorem asy{ops u I} D
 (R:tQ ops D=true) (h:L8 P ops u I 0 ops.toList D):∀i o,ops[i]?=some o->Rf P ops u I i o:=by
 have key:∀(l:List Oper) (k:Nat) (q:List (List Nat×List (Nat×Nat))),L8 P ops u I k l q->∀(i:Nat) (o:Oper),l[i]?=some o->∃x,q[i]?=some x/\ajS P ops u I (k+i) o.op o.type o.guard x.1 x.2:=by
  intro l
  induction l with
  | nil=>intro k q _ i o A;simp at A
  | cons p r U =>
   intro k q hk i o A
   cases q with
   | nil=>exact False.elim hk
   | cons x xs =>
    cases i with
    | zero=>simp at A;subst A;exact⟨x,rfl,hk.1⟩
    | succ i =>
     obtain⟨y,G,E⟩:=U (k+1) xs hk.2 i o aB
     grind
 intro i o A
 obtain⟨⟨al,rd⟩,H,E⟩:=key _ 0 D h i o aB
 rw[mz]at E
 have B:=List.all_eq_true.1 R (o,i) (List.mem_zipIdx_iff_getElem?.2 aB)
 simp only[H,dz]at B
 obtain⟨⟨B,F⟩,O⟩:=B
 intro L V w X Q N T
 have W:=λj C=>by simpa using List.all_eq_true.1 B j C
 have S:=E L V w X Q (λj C=>N j (W j C)) T
 have M:wants V o=bO V o.guard:=by unfold wants bO;rfl
 have J:execOp (zk ops u V o) o=execOp (aF rd u V) (aG o.op o.type):=by
  rw[<- Uq];refine execOp_congr o (λcs b e=>by rw[e]at F;cases F) λy G=>?_
  have h4:=List.all_eq_true.1 O y (by simpa using G);exact ae7
 rw[M,J]
 exact S
def cU(P:Program)(φ:Value->World->Prop)(w:World):Result Next->Prop
 | .ok (.value v) w'=>φ v w'/\Below w.heap.size w w'
 | .ok .skip w'=>φ undef w'/\Below w.heap.size w w'
 | .ok (.enter f args) w'=>Calls P f args w' λe j=>∃v,e=.returned v/\φ v j/\Below w.heap.size w j
 | _=>False
def ajT(P:Program)(t:Act)(C:World->Prop)(φ:Nat->Value->World->Prop)(k:Nat)(op:Op)(ty:TypeId)(gd:Option (Nat×Bool))(al:List Nat)(rd:List (Nat×Nat)):Prop :=
 ∀(V:Nat->Value) (w:World),C w->(∀j∈al,φ j (V j) w)->if bO V gd=true then cU P (φ k) w ((execOp (aF rd t V) (aG op ty)).run P w)else φ k undef w
theorem yw{L i j}(h:upd L i j=true):j=i∨L j=true:=by
 grind [upd]
def Rg(P:Program)(C t:World->Prop)(Le:World->World->Prop)(φ:Value->World->Prop)(w:World):Result Next->Prop
 | .ok (.value v) w'=>φ v w'/\C w'/\t w'/\Le w w'
 | .ok .skip w'=>φ undef w'/\C w'/\t w'/\Le w w'
 | .ok (.enter f args) w'=>Calls P f args w' λe j=>∃v,e=.returned v/\φ v j/\C j/\t j/\Le w j
 | _=>False
def ax7(P:Program)(y:Act)(C t u:World->Prop)(Le:World->World->Prop)(φ:Nat->Value->World->Prop)(k:Nat)(op:Op)(ty:TypeId)(gd:Option (Nat×Bool))(al:List Nat)(rd:List (Nat×Nat)):Prop :=
 gd=none/\∀(V:Nat->Value) (w:World),C w->t w->(∀j∈al,φ j (V j) w)->Rg P C u Le (φ k) w ((execOp (aF rd y V) (aG op ty)).run P w)
def I0(P:Program)(j:Act)(C t u:World->Prop)(Le:World->World->Prop)(φ:Nat->Value->World->Prop)(z:Nat):Nat->List Oper->List (List Nat×List (Nat×Nat))->Prop
 | _,[],_=>True
 | _,_ :: _,[]=>False
 | k,o :: r,x :: xs=>(if k=z then ax7 P j C t u Le φ k o.op o.type o.guard x.1 x.2 else ajT P j C φ k o.op o.type o.guard x.1 x.2)/\I0 P j C t u Le φ z (k+1) r xs
def Ma(C t u:World->Prop)(l:List (Value->World->Prop))(z:Nat)(L:Nat->Bool)(V:Nat->Value)(w:World):Prop:=C w/\(if L z=true then u w else t w)/\∀j,L j=true->tab l j (V j) w
def aJ(c:Value)(v:Value)(_:World):Prop:=v=c
def Rh(_:Value)(_:World):Prop:=True
def sl(l:List UInt8)(v:Value)(w:World):Prop:=∃A c,v=.slice A l.length c/\Reads w w.heap.size 1 A l.length (dN l)
theorem ax8 c:∀v w w',aJ c v w->Below w.heap.size w w'->aJ c v w':=λ_ _ _ h _=>h
theorem awp:∀v w w',Rh v w->Below w.heap.size w w'->Rh v w':=λ_ _ _ h _=>h
theorem nP l:∀v w w',sl l v w->Below w.heap.size w w'->sl l v w':=by rintro v w w'⟨A,c,h,j⟩ hb;exact⟨A,c,h,(j.below hb (aD _)).more hb.size⟩
theorem eK{w base e v l}(h:Own w base e v l):sl l v w:=by
 obtain⟨A,c,j,t⟩:=h.slice
 grind [sl]
theorem ax9{P w v l} t j e(B:P.underlying t=some (.slice e))(C:P.underlying e=some (.int .u8))(u:P.underlying j=some .string)
 (h:sl l v w):(convert t j v).run P w=.ok (.string ⟨l.toArray⟩) w:=by
 obtain⟨A,c,rfl,y⟩:=h
 grind [aeO]
end
def j8(x:cM):Bool:=sO x.1&&iP x.2.1 x.2.2.1 x.2.2.2
def mf(a b:ByteArray):Bool:=Op.bytesLess a.toList b.toList
theorem ae8:∀x y:List UInt8,Op.bytesLess x y=decide (x<y)
 | [],[]=>VC
 | _ :: _,[]=>VC
 | [],_ :: _=>VC
 | a :: x,b :: y=>by rw[Op.bytesLess,ae8 x y];simp only[List.cons_lt_cons_iff];by_cases j:a<b <;> by_cases t:a=b <;> simp[j,t]
theorem Li a b:mf a b=true↔dS a<dS b:=by
 grind [mf,ae8,ByteArray.toList_eq]
theorem VD{a b}(h:dS a=dS b):a=b:=by cases a;cases b;simp only[ByteArray.mk.injEq];exact Array.toList_inj.1 h
theorem PO(a b:ByteArray):(a.toList==b.toList)=decide (a=b):=by
 grind [ByteArray.toList_eq,VD]
theorem UB a:mf a a=false:=by simp[Bool.eq_false_iff,Li,List.lt_irrefl]
theorem adn{a b c}(h:mf a b=true)(k:mf b c=true):mf a c=true:=by
 grind [Li,List.lt_trans]
theorem ae9 a b:(Op.bytesLess a.toList b.toList||a.toList==b.toList)=!mf b a:=by
 have j:Op.bytesLess a.toList b.toList=mf a b:=rfl;rw[j,PO];by_cases e:a=b
 ·grind [UB]
 ·cases h:mf a b
  ·cases k:mf b a
   ·exfalso;have t:¬dS a<dS b:=λx=>by grind [Li]
    have u:¬dS b<dS a:=λx=>by grind [Li]
    exact e (VD (List.le_antisymm (List.not_lt.1 u) (List.not_lt.1 t)))
   ·simp[e]
  ·grind [mf,adn,UB]
def Cl:Option ByteArray->List cM->Option ByteArray
 | p,[]=>p
 | _,x :: r=>Cl (some x.1) r
def behind(p:Option ByteArray)(s:ByteArray):Bool:=match p with|none=>true|some y=>mf y s
def jF:Option ByteArray->List cM->Bool
 | _,[]=>true
 | p,x :: r=>j8 x&&behind p x.1&&jF (some x.1) r
def fN(l:List cM):Bool:=decide (1<=l.length)&&decide (l.length<=16)&&jF none l
def jX(l:List cM):Int:=if fN l then 0 else 40
theorem ao3 p a b:Cl p (a++b)=Cl (Cl p a) b:=by
 induction a generalizing p with
 | nil=>rfl
 | cons x a j=>simp only[aQ,Cl];exact j _
theorem acJ p a b:jF p (a++b)=(jF p a&&jF (Cl p a) b):=by
 induction a generalizing p with
 | nil=>simp[jF,Cl]
 | cons x a j=>simp only[aQ,jF,Cl,j,Bool.and_assoc]
theorem aq5(l:List cM) k(h:k<l.length):Cl none (l.take (k+1))=some l[k].1:=by rw[gg h,ao3];rfl
theorem auz(l:List cM)(h:0<l.length):jF none (l.take 1)=j8 l[0]:=by
 grind [gg,jF,behind]
theorem auA(l:List cM)(k:Nat)(h:k+1<l.length):jF none (l.take (k+1+1))=(jF none (l.take (k+1))&&(j8 l[k+1]&&mf (l[k]'af).1 l[k+1].1)):=by
 grind [gg,acJ,aq5,jF,behind]
theorem awq l k(h:jF none (l.take k)=false):jF none l=false:=by
 grind [acJ,List.take_append_drop]
theorem awr l k(h:jF none (l.take k)=false):jX l=40:=by grind [jX,fN,awq]
theorem auB l(j:1<=l.length)(t:l.length<=16)(h:jF none (l.take l.length)=true):jX l=0:=by
 grind [jF,jX,fN]
abbrev azv(x:cM):Value:=.agg #[.string x.1,.int .i64 x.2.1,.int .i64 x.2.2.1,.string x.2.2.2]
theorem PQ(l:List cM) k(hk:k<l.length):∀j,(t:j<4)->(l.flatMap kJ)[k*4+j]?=some ((kJ l[k])[j]'t):=by intro j t;rw[List.flatMap_def,wX 4 _ aB k j aB t];simp[hk]
theorem auC(l:List cM):(l.flatMap kJ).length=l.length*4:=by rw[List.flatMap_def,BV 4 _ aB];simp
theorem Reads.Mj{w B n A}{l:List cM}(h:Reads w B 4 A n (l.flatMap kJ))(E:0<l.length) :
 ∃b j,A=some ⟨b,j,none⟩/\b<B/\∀k (hk:k<l.length),w.cell? ⟨b,j+k*4,none⟩=some (.string l[k].1)/\w.cell? ⟨b,j+k*4+1,none⟩=some (.int .i64 l[k].2.1) /\
  w.cell? ⟨b,j+k*4+2,none⟩=some (.int .i64 l[k].2.2.1)/\w.cell? ⟨b,j+k*4+3,none⟩=some (.string l[k].2.2.2):=by
 obtain⟨b,j,e,hb,t⟩:=h.2 (by grind [auC])
 refine⟨b,j,e,hb,λk hk=>?_⟩
 have:=t _ _ (PQ l k hk 0 ax)
 have:=t _ _ (PQ l k hk 1 ax)
 have:=t _ _ (PQ l k hk 2 ax)
 have:=t _ _ (PQ l k hk 3 ax)
 grind
theorem below_drewN{B w w'}(h:Below B w w') n:Below B w (w'.drewN n):=by
 induction n with
 | zero=>exact h
 | succ n j=>exact⟨h.os,h.tape,h.output,h.size,h.block⟩
def iy(l:List cM)(v:Value)(w:World):Prop:=∃A c,v=.slice A l.length c/\Reads w w.heap.size 4 A l.length (l.flatMap kJ)
theorem mY l:∀v w w',iy l v w->Below w.heap.size w w'->iy l v w':=afa
theorem str{w v l}(h:sl l v w):(convert 94 9 v).run prog w=.ok (.string ⟨l.toArray⟩) w :=
 ax9 _ _ _ underlying94 underlying5 underlying9 h
def s6(l:List UInt8)(wr:Bool):cM×List UInt8×Bool :=
 ((⟨(aM 16 l wr).1.toArray⟩,(fC (aM 16 l wr).2.1 (aM 16 l wr).2.2).1.1,(fC (aM 16 l wr).2.1 (aM 16 l wr).2.2).1.2.1,⟨(fC (aM 16 l wr).2.1 (aM 16 l wr).2.2).1.2.2.toArray⟩),(fC (aM 16 l wr).2.1 (aM 16 l wr).2.2).2)
def fV:Nat->List UInt8->Bool->List cM×List UInt8×Bool
 | 0,l,wr=>([],l,wr)
 | k+1,l,wr=>((fV k l wr).1++[(s6 (fV k l wr).2.1 (fV k l wr).2.2).1],(s6 (fV k l wr).2.1 (fV k l wr).2.2).2)
def Gi(b:List UInt8):List cM×List UInt8×Bool:=fV (aw b false).1 (aw b false).2.1 (aw b false).2.2
def sV(b:List UInt8):Option (List cM) :=
 if decide ((aw b false).1<=16)&&!(Gi b).2.2&&(Gi b).2.1.isEmpty&&fN (Gi b).1 then some (Gi b).1 else none
def yQ(b:List UInt8):List cM:=(sV b).getD []
def yR(b:List UInt8):Int:=if (sV b).isSome then 0 else 40
theorem PR l wr:(fC l wr).2.1.length<=l.length:=by
 grind [nK,aw,DU,fC]
theorem afb l wr:bR (fC l wr).1.1/\bR (fC l wr).1.2.1:=by
 grind [fC,Vc,Io,bR]
theorem aws l wr:(s6 l wr).2.1.length<=l.length :=
 bo (PR _ _) (DU 16 l wr)
theorem Vd k l wr:(fV k l wr).2.1.length<=l.length/\(fV k l wr).1.length=k:=by
 induction k with
 | zero=>exact⟨aD _,rfl⟩
 | succ k j=>exact⟨bo (aws _ _) j.1,by grind [fV]⟩
theorem Ip j l wr:(aM j l wr).1.length<=j.toNat:=by
 grind [aM]
theorem auD k l wr:∀x∈(fV k l wr).1,(bR x.2.1/\bR x.2.2.1)/\x.1.size<=16:=by
 induction k with
 | zero=>simp[fV]
 | succ k t =>
  intro x j;rcases List.mem_append.1 j with j|j
  ·grind
  ·simp only[List.mem_singleton]at j;subst j;exact⟨afb _ _,Ip 16 _ _⟩
theorem awt:(prog.info? 76).map (λi=>(i.zero,i.size,i.bytes))=some (some (.agg #[.string { data:=#[] },.int .i64 0,.int .i64 0,.string { data:=#[] }]),4,48):=by rfl
theorem TE:fS prog 51 76 (.agg #[.string { data:=#[] },.int .i64 0,.int .i64 0,.string { data:=#[] }]) 4 48:=⟨underlying51,awt,rfl,ax⟩
abbrev qj(w:World)(base:Nat)(v:Value)(l:List cM):Prop:=w.ownsRow base 76 4 v l.length (l.flatMap kJ)
theorem qj.slice{w base v l}(h:qj w base v l):∃A c,v=.slice A l.length c/\Reads w w.heap.size 4 A l.length (l.flatMap kJ)/\l.length<=c/\c<=maxLen:=afc
theorem mo{w:World}{base base' e size n v xs}(hb:base<=base')(h:w.ownsRow base' e size v n xs):w.ownsRow base e size v n xs:=aeP
theorem pZ{w w' base e size n v xs}(h:w.ownsRow base e size v n xs)(hb:Below w.heap.size w w'):w'.ownsRow base e size v n xs:=aeQ
theorem Lj{w w':World}{base g e size n v xs}(h:w.ownsRow base e size v n xs)(hb:w.grownBy w' (some g))(hg:g<base):w'.ownsRow base e size v n xs :=
 World.ownsRow.kept h hb (.inr (by
  intro e;have:=(h.lt g e).1;omega))
theorem aec x:∀u∈kJ x,u.oneCell'=true:=by intro u j;simp at j;rcases j with rfl|rfl|rfl|rfl <;> rfl
theorem afd{w base v l}(h:qj w base v l):iy l v w:=by
 obtain⟨A,c,rfl,j,_⟩:=h.slice
 grind [iy]
section
open Go Go.RowKit Go.ChangeShapes Go.WideShapes Go.ChangeAt
abbrev cX:=ByteArray×Int×Int×Int×ByteArray
abbrev fq(x:cX):List Value:=[.string x.1,.int .i64 x.2.1,.int .i64 x.2.2.1,.int .i64 x.2.2.2.1,.string x.2.2.2.2]
abbrev ry(x:cX):Value:=.agg #[.string x.1,.int .i64 x.2.1,.int .i64 x.2.2.1,.int .i64 x.2.2.2.1,.string x.2.2.2.2]
def iB(x:cX):Prop:=bR x.2.1/\bR x.2.2.1/\bR x.2.2.2.1
theorem Lk(l:List cX) k(hk:k<l.length):∀j,(t:j<5)->(l.flatMap fq)[k*5+j]?=some ((fq l[k])[j]'t):=by intro j t;rw[List.flatMap_def,wX 5 _ afe k j aB t];simp[hk]
theorem auE(l:List cX):(l.flatMap fq).length=l.length*5:=by rw[List.flatMap_def,BV 5 _ afe];simp
theorem Reads.I5{w B n A}{l:List cX}(h:Reads w B 5 A n (l.flatMap fq))(E:0<l.length) :
 ∃b j,A=some ⟨b,j,none⟩/\b<B/\∀k (hk:k<l.length),w.cell? ⟨b,j+k*5,none⟩=some (.string l[k].1)/\w.cell? ⟨b,j+k*5+1,none⟩=some (.int .i64 l[k].2.1) /\
  w.cell? ⟨b,j+k*5+2,none⟩=some (.int .i64 l[k].2.2.1)/\w.cell? ⟨b,j+k*5+3,none⟩=some (.int .i64 l[k].2.2.2.1)/\w.cell? ⟨b,j+k*5+4,none⟩=some (.string l[k].2.2.2.2):=by
 obtain⟨b,j,e,hb,t⟩:=h.2 (by grind [auE])
 refine⟨b,j,e,hb,λk hk=>?_⟩
 have:=t _ _ (Lk l k hk 0 ax)
 have:=t _ _ (Lk l k hk 1 ax)
 have:=t _ _ (Lk l k hk 2 ax)
 have:=t _ _ (Lk l k hk 3 ax)
 have:=t _ _ (Lk l k hk 4 ax)
 grind
def eI(l:List cX)(v:Value)(w:World):Prop:=∃A c,v=.slice A l.length c/\Reads w w.heap.size 5 A l.length (l.flatMap fq)
theorem eu l:∀v w w',eI l v w->Below w.heap.size w w'->eI l v w':=afa
section
variable {H:Type} {enc:TypeId×Value->H} {w:World} {base:Nat} {r:Reach} {b0:Nat} {spare:Nat->Bool} {held:Bool} {v:Value} {d:DataW H} {p:List MemPlace}
theorem asA{cs F x}(h:DataW.trod enc prog w base spare held F 73 cs=some x):∃y:cX,cs=fq y/\iB y:=by
 obtain⟨xs,n,_,_,D,I,A⟩:=DataW.trod_struct underlying73 h
 have N:prog.cellsOf 73=5:=cC
 rw[N]at D
 match cs,D with
 | [c0,c1,c2,c3,c4],_ => have t:=A 0 _ rfl;have j:=A 1 _ rfl;have u:=A 2 _ rfl;have L:prog.cellsOf 9=1:=cC;have G:prog.cellsOf 3=1:=cC;have H:prog.cellsOf 71=3:=cC;simp[L,G,H]at t j u;have:xs.length=3:=I;rw[List.getElem?_eq_getElem af]at t j u;obtain⟨s,es,_,_⟩:=DataW.trod_string underlying9 t;obtain⟨a,B,_,E⟩:=DataW.trod_int underlying3 j;obtain⟨y,C,M,J⟩:=adl u;simp at es B C;obtain⟨rfl,rfl,rfl⟩:=C;subst es B;have hb:=bounds_i64 E;exact⟨(s,a,y),rfl,fk,M,J⟩
end
end
abbrev Bg(α:Type):=List UInt8->Bool->α×List UInt8×Bool
structure Eh{α:Type}(enc:α->List UInt8)(ok:α->Prop)(rd:Bg α):Prop where
 fwd:∀x,ok x->∀rest,rd (enc x++rest) false=(x,rest,false)
 back:∀l wr,(rd l wr).2.2=false->l=enc (rd l wr).1++(rd l wr).2.1/\wr=false
 len:∀l wr,(rd l wr).2.1.length<=l.length
def dw{α:Type}(rd:Bg α):Nat->Bg (List α)
 | 0,l,wr=>([],l,wr)
 | k+1,l,wr=>((dw rd k l wr).1++[(rd (dw rd k l wr).2.1 (dw rd k l wr).2.2).1],(rd (dw rd k l wr).2.1 (dw rd k l wr).2.2).2)
section
variable {α:Type} {enc:α->List UInt8} {ok:α->Prop} {rd:Bg α}
theorem Eh.bad(C:Eh enc ok rd) l:(rd l true).2.2=true:=by
 cases h:(rd l true).2.2 with
 | true=>rfl
 | false=>have:=(C.back l true h).2;cases this
theorem Ll(C:Eh enc ok rd) k l wr:(dw rd k l wr).2.1.length<=l.length/\(dw rd k l wr).1.length=k:=by
 induction k with
 | zero=>exact⟨aD _,rfl⟩
 | succ k j=>exact⟨bo (C.len _ _) j.1,by grind [dw]⟩
theorem VE(C:Eh enc ok rd){k l wr}(h:(dw rd k l wr).2.2=true):∀d,(dw rd (k+d) l wr).2.2=true
 | 0=>h
 | d+1=>by have:=VE C h d;show (rd (dw rd (k+d) l wr).2.1 (dw rd (k+d) l wr).2.2).2.2=true;rw[this];exact C.bad _
theorem aff(p:α->Prop)(hp:∀l wr,p (rd l wr).1) k l wr:∀x∈(dw rd k l wr).1,p x:=by
 induction k with
 | zero=>simp[dw]
 | succ k j =>
  grind [dw]
theorem afg(C:Eh enc ok rd)(l:List α)(h:∀x∈l,ok x) rest:∀k,k<=l.length->dw rd k (l.flatMap enc++rest) false=(l.take k,(l.drop k).flatMap enc++rest,false):=by
 intro k
 induction k with
 | zero=>intro _;simp[dw]
 | succ k ih => intro hk;have hk':k<l.length:=af;have hd:l.drop k=l[k] :: l.drop (k+1):=aj;have hx:=h l[k] (bT hk');show ((dw rd k (l.flatMap enc++rest) false).1++[(rd (dw rd k (l.flatMap enc++rest) false).2.1 (dw rd k (l.flatMap enc++rest) false).2.2).1],(rd (dw rd k (l.flatMap enc++rest) false).2.1 (dw rd k (l.flatMap enc++rest) false).2.2).2)=_;exact afh
theorem aed(C:Eh enc ok rd){k l wr}(h:(dw rd k l wr).2.2=false):l=(dw rd k l wr).1.flatMap enc++(dw rd k l wr).2.1/\wr=false:=by
 induction k with
 | zero=>exact⟨cC,h⟩
 | succ k j => obtain⟨e1,u⟩:=C.back (dw rd k l wr).2.1 (dw rd k l wr).2.2 h;obtain⟨e2,t⟩:=j u;refine⟨?_,t⟩;show l=((dw rd k l wr).1++[(rd (dw rd k l wr).2.1 (dw rd k l wr).2.2).1]).flatMap enc++(rd (dw rd k l wr).2.1 (dw rd k l wr).2.2).2.1;exact afi
end
def mJ(s:ByteArray)(x:cM):Bool:=decide (x.1=s)
def Cm(l:List cM)(s:ByteArray):Value:=match l.find? (mJ s)with|some x=>.tuple #[vv x.2.1 x.2.2.1 x.2.2.2,.bool true]|none=>.tuple #[vv 0 0 { data:=#[] },.bool false]
theorem aee(l:List cM) s k(hk:k<l.length)(h:mJ s l[k]=true)(j:∀x∈l.take k,mJ s x=false):l.find? (mJ s)=some l[k]:=by
 grind [List.getElem_cons_drop,List.take_append_drop,List.find?_eq_none,List.find?_cons_of_pos]
theorem asB(l:List cM) s(t:∀x∈l,mJ s x=false):l.find? (mJ s)=none:=List.find?_eq_none.2 λx j=>by simp[t x j]
theorem aef(s:ByteArray):∀l:List cM,(∃k,∃hk:k<l.length,mJ s l[k]=true/\∀x∈l.take k,mJ s x=false)∨∀x∈l,mJ s x=false
 | []=>.inr aj
 | y :: l=>by
  cases h:mJ s y with
  | true=>exact .inl ⟨0,aj,B7,aj⟩
  | false =>
   rcases aef s l with ⟨k,hk,h1,t⟩|h1
   ·refine .inl ⟨k+1,sN,B8,?_⟩;intro x j;rw[Q5]at j;rcases List.mem_cons.1 j with rfl|j
    ·exact h
    ·exact t x j
   ·refine .inr λx j=>?_
    rcases List.mem_cons.1 j with rfl|j
    ·exact h
    ·exact h1 x j
theorem KL(a b:ByteArray):a.toList=b.toList↔a=b:=by
 grind [ByteArray.toList_eq,VD]
theorem aq6 k n j u s t w d:(Op.equalIn (d+1+1) 71 (vv k n s) (vv j u t)).run prog w=.ok (decide ((k,n,s)=(j,u,t))) w:=by
 simp[go_sem,KL]
 grind
theorem awu k n j u s t w:(binOp .eql 71 (vv k n s) (vv j u t)).run prog w=.ok (.bool (decide ((k,n,s)=(j,u,t)))) w:=by rw[run_eql_struct,aq6 k n j u s t w 9998];rfl
