/-
  Words for memory that the walks of this claim share: a slice that reads as a list of cells, bytes, and how these facts go on when memory grows. Conditions: none.
-/
import Derived.WalkKit
import Derived.WalkLawsBesides
import Derived.WalkSpells
import Derived.Deep.Draws
import Derived.Deep.AppendLies
import Derived.Maps.AppendAt
import Derived.Laws.CopyOwn
import Derived.Lib.Hide
import Derived.ScopeJumps
import Derived.Laws.IdiomStrings
import Derived.Laws.BytesArg
import Derived.WalkMore
import Derived.Test.YtfndfpdhlbmboaaGreatProg
import Derived.BigQuiet
import Derived.Deep.QuietTactic
import Derived.Test.YtfndfpdhlbmboaaGreatMz
set_option maxRecDepth 100000
set_option maxHeartbeats 16000000
set_option linter.unusedVariables false
set_option linter.unusedSimpArgs false
namespace Go.Proofs.YtfndfpdhlbmboaaGreat
open Go Go.RowKit _root_.Go.Proofs.Tryz
section
variable {P:Program} {f:FuncId} {args:Array Value} {w w0:World} {X:Value} {R:World->Prop} {S:Value->World->Prop} {Q:Ending->World->Prop}
theorem bF(h:Calls P f args w λe w'=>e=.returned X/\R w')(k:∀w',R w'->Q (.returned X) w'):Calls P f args w Q:=h.mono λ_ w' ⟨e,r⟩=>e▸k w' r
theorem lQ(h:Calls P f args w λe w'=>∃v,e=.returned v/\S v w')(k:∀v w',S v w'->Q (.returned v) w'):Calls P f args w Q:=h.mono λ_ w' ⟨v,e,r⟩=>e▸k v w' r
theorem oX(h:Calls P f args w λe w'=>e=.returned X/\Below w.heap.size w w')(j:Below w0.heap.size w0 w)(k:∀w',Below w.heap.size w w'->Below w0.heap.size w0 w'->Q (.returned X) w'):Calls P f args w Q:=bF h λw' r=>k w' r (j.trans (r.mono j.size))
theorem DW(h:Calls P f args w λe w'=>∃v,e=.returned v/\S v w'/\Below w.heap.size w w')(j:Below w0.heap.size w0 w)(k:∀v w',S v w'->Below w.heap.size w w'->Below w0.heap.size w0 w'->Q (.returned v) w'):Calls P f args w Q:=lQ h λv w' r=>k v w' r.1 r.2 (j.trans (r.2.mono j.size))
end
abbrev eW(w:World)(b o:Nat):Option Value:=w.cell? ⟨b,o,none⟩
def Reads(w:World)(B size:Nat)(A:Option Addr)(n:Nat)(xs:List Value):Prop :=
 xs.length=n*size/\(0<xs.length->∃b t,A=some ⟨b,t,none⟩/\b<B/\∀j u,xs[j]?=some u->w.cell? ⟨b,t+j,none⟩=some u)
theorem Kw{w:World}{a u}(h:w.cell? a=some u):a.block<w.heap.size:=World.block_lt_of_cell? w a h
section
variable {w w':World} {B B' size n:Nat} {A:Option Addr} {xs:List Value}
theorem Reads.nil w B size A:Reads w B size A 0 []:=⟨aj,λh=>absurd h aj⟩
theorem Reads.keep(h:Reads w B size A n xs)(hk:∀k,k<B->w'.heap[k]?=w.heap[k]?):Reads w' B size A n xs :=
 ⟨h.1,λhn=>by
  obtain⟨b,t,e,hb,C⟩:=h.2 hn;exact⟨b,t,e,hb,λj u y=>(World.cell?_of_block (hk b hb)).trans (C j u y)⟩⟩
theorem Reads.more(h:Reads w B size A n xs)(u:B<=B'):Reads w B' size A n xs :=
 ⟨h.1,λhn=>by
  obtain⟨b,j,e,hb,t⟩:=h.2 hn;exact⟨b,j,e,af,t⟩⟩
theorem Reads.below{C}(h:Reads w B size A n xs)(hb:Below C w w')(j:B<=C):Reads w' B size A n xs:=h.keep λ_ hk=>hb.block _ (by omega)
theorem Reads.drew(h:Reads w B size A n xs):Reads w.drew B size A n xs:=h
theorem Reads.len(h:Reads w B 1 A n xs):xs.length=n:=by simpa using h.1
theorem Reads.cut(h:Reads w B 1 A n xs) l m cap(E:l<=m)(hm:m<=n)(y:n<=cap) :
 Reads w B 1 (if cap=l then A else A.map (·.add l)) (m-l) ((xs.take m).drop l):=by
 have C:=h.len
 refine⟨aG,λhn=>?_⟩
 simp at hn
 obtain⟨b,t,rfl,hb,D⟩:=h.2 af
 rw[if_neg af]
 refine⟨b,t+l,by simp[Addr.add_lit],hb,λj u F=>?_⟩
 grind
theorem Reads.uH{base e c}(h:w.ownsRow base e size (.slice A n c) n xs):Reads w w.heap.size size A n xs:=by
 refine⟨h.1,λhn=>?_⟩;rcases h.2 with ⟨_,rfl⟩|⟨g,cap,cur,y,_,hg,_,_,_,B⟩
 ·have:=h.1;simp at this;subst this;simp at hn
 ·injection y with hA;subst hA;refine⟨g,0,rfl,?_,λj u t=>?_⟩
  ·grind
  ·have:=h.cells (g:=g) rfl j u t;simpa [Addr.add_lit]using this
end
theorem Di(w:World) row:w.grownBy w row:=World.grownBy.refl w row
theorem Dd{a w:World}{row}(h:a.grownBy w row) o:a.grownBy (w.alloc o) row :=
 ⟨h.os,h.tape,h.output,bn h.size aj,λi j t=>(Below.heap_alloc w o i (bz j h.size)).trans (h.block i j t)⟩
theorem Fl{a w:World}{g}(h:a.grownBy w (some g)){p}(hp:p.block=g) u:a.grownBy (w.setCell p u) (some g) :=
 ⟨h.os,h.tape,h.output,aep,λi t j=>(Below.heap_setCell w p u i (by rintro rfl;exact j (by rw[hp]))).trans (h.block i t j)⟩
theorem xT{a w:World}{row}(h:a.grownBy w row){p}(hp:a.heap.size<=p.block) u:a.grownBy (w.setCell p u) row :=
 ⟨h.os,h.tape,h.output,aep,λi j t=>(Below.heap_setCell w p u i af).trans (h.block i j t)⟩
theorem Bi{a w}(h:Below a.heap.size a w) row:a.grownBy w row:=⟨h.os,h.tape,h.output,h.size,λi j _=>h.block i j⟩
theorem nT{a b c:World}{row}(h:a.grownBy b row)(k:b.grownBy c row):a.grownBy c row:=h.trans k
theorem ky{a w g B}(h:a.grownBy w (some g))(j:B<=g)(hz:B<=a.heap.size):Below B a w :=
 ⟨h.os,h.tape,h.output,h.size,λi t=>h.block i af (by intro e;injection e with e;omega)⟩
def dP(l:List UInt8):List Value:=l.map λb=>.int .u8 (b.toNat:Int)
@[simp] theorem aDN (l:List UInt8):(dP l).length=l.length:=UY
theorem Kf a b:dP (a++b)=dP a++dP b:=by simp[dP]
theorem wO l:∀u∈dP l,u.oneCell'=true:=by intro u j;obtain⟨_,_,rfl⟩:=List.mem_map.1 j;rfl
theorem UZ l j(h:j<l.length):(dP l)[j]?=some (.int .u8 (l[j].toNat:Int)):=by simp[dP,h]
theorem Reads.pre{w B A n l}(h:Reads w B 1 A n (dP l)) k(hk:k<=n):Reads w B 1 A k (dP (l.take k)):=by
 have y:l.length=n:=by simpa using h.len
 refine⟨aY,λj=>?_⟩
 simp at j
 obtain⟨b,u,e,hb,t⟩:=h.2 aY
 grind [dP]
theorem Reads.post{w B A A' n l}(h:Reads w B 1 A n (dP l)) k(hA:k<n->A'=A.map (·.add k)):Reads w B 1 A' (n-k) (dP (l.drop k)):=by
 have E:l.length=n:=by simpa using h.len
 refine⟨aY,λy=>?_⟩;simp at y;obtain⟨b,C,rfl,hb,t⟩:=h.2 aY;refine⟨b,C+k,by rw[hA (by omega)];simp[Addr.add_lit],hb,λj u D=>?_⟩;rw[Nat.add_assoc];refine t _ u ?_;rw[<- D];unfold dP;simp
theorem aeq{P} w u t e(D:P.underlying u=some (.slice e))(F:P.underlying e=some (.int .u8))(C:P.underlying t=some .string)
 B A n c l (hR:Reads w B 1 A n (dP l)):(convert u t (.slice A n c)).run P w=.ok (.string ⟨l.toArray⟩) w:=by
 have L:l.length=n:=Fm
 rcases A with _|y
 ·have H:l=[]:=by
   rcases Nat.eq_zero_or_pos l.length with h|h
   ·grind
   ·obtain⟨b,I,e,_⟩:=hR.2 Pm;cases e
  subst H;exact run_convert_bytes_nil w u e D F _ _ t C
 ·have G:∀j (E:j<l.length),w.cell? (y.add j)=some (.int .u8 (l[j].toNat:Int)):=by intro j E;obtain⟨b,I,e,_,J⟩:=hR.2 aY;injection e with e;subst e;rw[Addr.add_lit];exact J j _ (UZ l j E)
  rw[<- L];exact run_convert_bytes_back w u t e y c l D F C G
abbrev Own(w:World)(base:Nat)(e:TypeId)(v:Value)(l:List UInt8):Prop:=w.ownsRow base e 1 v l.length (dP l)
theorem sB{w:World}{base base':Nat}{e:TypeId}{v:Value}{l l':List UInt8}(hb:base<=base')(h:Own w base' e v l)(j:l=l':=by simp):Own w base e v l':=by subst j;exact aer
theorem Uf{w w' base B e v l}(_:B<=w.heap.size)(h:Own w base e v l)(hb:Below w.heap.size w w'):Own w' base e v l:=aes
theorem Oo{w:World}{base g cap e xs rest n}(hb:base<=g)(hg:w.heap[g]?=some (.cells (xs++rest).toArray e (0,0)))(hn:xs.length=n)(j:n+rest.length=cap)(hm:cap<=maxLen) :
 w.ownsRow base e 1 (.slice (some ⟨g,0,none⟩) n cap) n xs :=
 ⟨by simp[hn],.inr ⟨g,cap,_,rfl,hb,hg,af,hm,aY,by simp[hn]⟩⟩
theorem Own.slice{w base e v l}(h:Own w base e v l):∃A c,v=.slice A l.length c/\Reads w w.heap.size 1 A l.length (dP l):=by
 have t:=h;rcases h.2 with ⟨rfl,j⟩|⟨g,cap,cur,rfl,_⟩
 ·grind [List.eq_nil_of_length_eq_zero,Reads.uH]
 ·grind [Reads.uH]
def ah(w:World)(g:Nat)(t:TypeId)(cs:Array Value):Prop:=w.heap[g]?=some (.cells cs t (0,0))
section
variable {w w':World} {g:Nat} {t:TypeId} {cs:Array Value}
theorem ah.lt(h:ah w g t cs):g<w.heap.size:=(Array.getElem?_eq_some_iff.1 h).1
theorem ah.cell(h:ah w g t cs) i:w.cell? ⟨g,i,none⟩=cs[i]?:=cell_of_row w g i cs t (0,0) h
theorem ah.frozen(h:ah w g t cs) i:w.frozen? ⟨g,i,none⟩=false:=by unfold ah at h;simp[World.frozen?,h]
theorem ah.new(w:World) t cs:ah (w.alloc (.cells cs t)) w.heap.size t cs:=heap_alloc_new w _
theorem ah.drew(h:ah w g t cs):ah w.drew g t cs:=h
theorem ah.alloc(h:ah w g t cs) o:ah (w.alloc o) g t cs:=(Below.heap_alloc w o g h.lt).trans h
theorem ah.aM(h:ah w g t cs) i u:ah (w.setCell ⟨g,i,none⟩ u) g t (cs.setIfInBounds i u):=by unfold ah at h⊢;simp[World.setCell,Array.getElem?_modify,h]
theorem ah.far(h:ah w g t cs){p}(hp:g≠p.block) u:ah (w.setCell p u) g t cs:=(Below.heap_setCell w p u g hp).trans h
theorem ah.grown{row}(h:ah w g t cs)(hb:w.grownBy w' row)(hg:some g≠row):ah w' g t cs:=(hb.block g h.lt hg).trans h
theorem ah.below{B}(h:ah w g t cs)(hb:Below B w w')(hg:g<B):ah w' g t cs:=(hb.block g hg).trans h
theorem ah.av(h:ah w g t cs)(hb:Below w.heap.size w w'):ah w' g t cs:=h.below hb h.lt
end
theorem J6{P a w Q c rest} l(t:findLabel c l=some rest)
 (first:c.wp P (Exit.jump l (λa w=>rest.wp P (Exit.noGoto Q) a w) Q) a w):(Code.scope c).wp P Q a w:=by
 refine wp_scope_jumps l _ (λ_ _=>0) t first ?_
 intro a w h
 refine wp_mono h ?_
 intro e a w j
 cases e <;> first|exact j|exact False.elim j
structure fK(P:Program)(t e:TypeId)(z:Value)(size bytes:Nat):Prop where
 und:P.underlying t=some (.slice e)
 info:(P.info? e).map (λi=>(i.zero,i.size,i.bytes))=some (some z,size,bytes)
 zsz:z.cells.size=size
 pos:0<size
theorem fK.fit{P t e z size bytes}(h:fK P t e z size bytes) :
 ∃i,P.info? e=some i/\i.zero=some z/\i.size=size/\i.bytes=bytes:=info_parts h.info
section
variable {P:Program}
theorem Fo w base t ty e z size bytes(T:fK P t e z size bytes) v n xs(hown:w.ownsRow base e size v n xs)
 B A m c y (E:Reads w B size A m y) (M:∀u∈y,u.oneCell'=true)
 (L:(n+m)*(bytes+1)<=140737488355328) (hbase:base<=w.heap.size) :
 ∃v' w',(Builtin.append_ #[t,t] ty #[v,.slice A m c]).run P w=.ok v' w'/\w'.ownsRow base e size v' (n+m) (xs++y)/\w.grownBy w' v.ownBlock /\
  (v'.ownBlock=v.ownBlock∨v'.ownBlock=some w.heap.size)/\Below base w w':=by
 obtain⟨i,C,J,H,I⟩:=T.fit
 have D:=T.pos
 have G:=bn (Nat.mul_le_mul_left _ (Nat.le_succ _)) L
 have U:=bn (Nat.le_mul_of_pos_right _ af) L
 rcases Nat.eq_zero_or_pos y.length with F|F
 ·obtain rfl:y=[]:=List.eq_nil_of_length_eq_zero F;have hm:m=0:=by
   have:=E.1;simp only[List.length_nil]at this;rcases Nat.eq_zero_or_pos m with h|h
   ·exact h
   ·have:=Nat.mul_pos h D;omega
  subst hm;rcases A with _|Q
  ·refine⟨v,w,?_,aG,World.grownBy.refl w _,.inl rfl,cM _ _⟩;rcases hown.2 with ⟨rfl,rfl⟩|⟨g,cap,cur,rfl,_,_,S,_⟩
   ·simp[Builtin.append_,run_underlying T.und,sizeOf,typeInfo,C,Builtin.lenOf,Builtin.firstCells]
   ·simp[Builtin.append_,run_underlying T.und,sizeOf,typeInfo,C,Builtin.lenOf,Builtin.firstCells,S,storeCells]
  ·obtain⟨v',w',hrun,h2,h3,_,h5⟩:=run_append_own_at (P:=P) w base t ty e i z size bytes T.und C J H I T.zsz D v n xs hown Q 0 c [] aj aj aj Bn G hbase;exact aet
 ·obtain⟨b,R,rfl,_,N⟩:=E.2 F;obtain⟨v',w',hrun,h2,h3,_,h5⟩:=run_append_own_at (P:=P) w base t ty e i z size bytes T.und C J H I T.zsz D v n xs hown ⟨b,R,none⟩ m c y E.1 (λj u O=>by rw[Addr.add_lit];exact N j u O) M Bn G hbase;exact aet
theorem iF{w ops rest o a Q}(N:o.guard=none) s x t
 (I:o.op=.call { callee:=.builtin .append,args:=#[s,x],argTypes:=#[t,t] })
 base e z size bytes (T:fK P t e z size bytes) v n xs (L:a.eval s=v) (H:w.ownsRow base e size v n xs)
 B A m c j (J:a.eval x=.slice A m c) (C:Reads w B size A m j) (y:∀u∈j,u.oneCell'=true)
 (R:(n+m)*(bytes+1)<=140737488355328) (D:base<=w.heap.size)
 (h:∀v' w',w'.ownsRow base e size v' (n+m) (xs++j)->w.grownBy w' v.ownBlock->(v'.ownBlock=v.ownBlock∨v'.ownBlock=some w.heap.size)->Below base w w'->wpList P ops Q rest (a.put o.dst v') w') :
 wpList P ops Q (o :: rest) a w:=by
 refine wpList_plain N λK M=>?_
 obtain⟨v',w',S,E,O,F,G⟩:=Fo w base t o.type e z size bytes T v n xs H B A m c j C y R D
 unfold Oper.wp execOp
 simp only[I,resolve,invoke,builtin,Sem.run_bind,Sem.run_pure,Result.andThen_ok,List.map_toArray,jU,List.map_nil,L,J,S]
 exact M _ _ (h v' w' E O F G)
theorem Reads.new(w:World) cs t size n(h:cs.length=n*size):Reads (w.alloc (.cells cs.toArray t)) (w.heap.size+1) size (some ⟨w.heap.size,0,none⟩) n cs :=
 ⟨h,λ_=>⟨w.heap.size,0,rfl,af,λj u A=>by
  have y:=heap_alloc_new w (.cells cs.toArray t);simp only[World.cell?,y];simpa using A⟩⟩
end
theorem Xw:(prog.info? 5).map (λi=>(i.zero,i.size,i.bytes))=some (some (.int .u8 0),1,1):=by kernel_rfl
theorem OV A n c l more w B(t:Reads w B 1 A n (dP l))(L:B<=w.heap.size)(hn:n<=1099511627776)(G:0<=more)(M:more<=1099511627776) :
 Calls prog 246 #[.slice A n c,.int .i64 more] w λe w' =>
  ∃g cap,e=.returned (.slice (some ⟨g,0,none⟩) n cap)/\w'.ownsRow w.heap.size 5 1 (.slice (some ⟨g,0,none⟩) n cap) n (dP l)/\Below w.heap.size w w'/\n<=cap/\cap<=2199023255552:=by
 obtain⟨m,rfl⟩:=Int.eq_ofNat_of_zero_le G
 obtain⟨i,C,I,y,hz2⟩:=info_parts Xw
 have N:∀W:World,(Instr.makeSlice 94 (.int .i64 n) (.int .i64 ((n:Int)+m))).run prog W=.ok (.slice (some ⟨W.heap.size,0,none⟩) n (n+m)) (W.alloc (.cells (madeCells #[.int .u8 0] (n+m)) 5)):=by intro W;have h:=run_make (P:=prog) W 94 5 i (.int .u8 0) underlying94 C I .i64 .i64 (n:Int) ((n:Int)+m) af af U0 af;rw[y]at h;simpa [Value.cells,show ((n:Int)+m).toNat=n+m from by omega]using h
 go_enter func246,ntmps246
 go_wp2_with (with_reducible refine wpList_copy_splice rfl (.tmp 13) (.tmp 14) 94 94 rfl 5 underlying94 (by rw[C];simp[y]) _ A _ _ _ _ rfl rfl w.heap.size 0 (List.replicate (n+m) (.int .u8 0)) 5 ?hg (dP l) ?hn ?hpos ?hfit (wO l) w.heap.size w ?hb (aC _) ?_)
 case hg=>rw[heap_alloc_new,<- toList_madeCells_one]
 case hn=>rw[t.len];simp
 case hpos => intro h0;obtain⟨b,Q,rfl,hb,E⟩:=t.2 Ia;refine⟨_,rfl,λj v H=>?_⟩;rw[Addr.add_lit,World.cell?_alloc_lt _ _ _ aY];exact E j v H
 case hfit=>rw[t.len];simp
 case hb=>exact (cM _ _).alloc (aC _) _
 intro O F J
 go_wp2
 go_ret
 refine⟨_,_,rfl,?_,J,af,af⟩
 have u:=F.aa
 have D:=t.len
 rw[show splice (List.replicate (n+m) (Value.int .u8 0)) 0 (dP l)=dP l++List.replicate m (Value.int .u8 0)from by simp only[splice];simp[show l.length=n from by simpa using D]]at u
 exact Oo (aC _) u D aj Bn
def fL(n:Nat):Nat:=if n=0 then 0 else fL (n/256)+1
decreasing_by omega
theorem E7:fL 0=0:=by unfold fL;simp
theorem Kq n(h:0<n):fL n=fL (n/256)+1:=by rw[fL];simp;omega
theorem Kx k:∀n,n<256^k->fL n<=k:=by
 induction k with
 | zero => intro n h;have:n=0:=zw;subst this;simp[E7]
 | succ k t =>
  intro n h;rcases Nat.eq_zero_or_pos n with j|j
  ·subst j;simp[E7]
  ·rw[Kq n j];have:=t (n/256) (by rw[Nat.pow_succ]at h;omega);omega
theorem aq2(n:Nat)(hn:n<18446744073709551616) w :
 Calls prog 288 #[.int .u64 n] w λe w'=>e=.returned (.int .i64 (fL n:Nat))/\w=w':=by
 have u:=Kx 8 n af
 go_enter func288,ntmps288
 go_wp2_with fail
 go_loop [0,3] (fun x c=>∃m k:Nat,m<=n/\k+fL m=fL n/\x=.int .u64 m/\c=.int .i64 k) (fun x _=>(intOf x).toNat)
 case atStart=>exact⟨n,0,aC _,af,rfl,rfl⟩
 case round =>
  obtain⟨m,k,hm,hk,rfl,rfl⟩:=hrel;have t:=ae hk;have A:k<=8:=af;clear hk;rcases Nat.eq_zero_or_pos m with j|j
  ·subst j;go_wp2;go_ret;have e:k=fL n:=by have:=t.aa;rw[E7]at this;omega
   exact⟨by rw[<- e];rfl,rfl⟩
  ·go_wp2;have y:=Kq m j;go_round
   case rel=>exact⟨m/256,k+1,af,by have:=t.aa;omega,aj,bJ⟩
   case measure=>simp[intOf];omega
def be:Nat->Nat->List UInt8
 | 0,_=>[]
 | k+1,n=>UInt8.ofNat (n/256^k) :: be k n
def az(n:Nat):List UInt8:=UInt8.ofNat (fL n) :: be (fL n) n
theorem uz k n:(be k n).length=k:=by
 induction k generalizing n with
 | zero=>rfl
 | succ k j=>simp[be,j]
theorem axJ N n k(h:k<N):(be N n)[k]?=some (UInt8.ofNat (n/256^(N-1-k))):=by
 induction N generalizing k with
 | zero=>omega
 | succ N j =>
  cases k with
  | zero=>simp[be]
  | succ k => rw[be,List.getElem?_cons_succ,j k af];congr 4;omega
theorem av7 N n k(h:k<N):(be N n).take (k+1)=(be N n).take k++[UInt8.ofNat (n/256^(N-1-k))]:=by rw[List.take_add_one,axJ N n k h];rfl
theorem acY(n j:Nat):((n:Int)/2^(8*j)%256)=((UInt8.ofNat (n/256^j)).toNat:Int):=by rw[show (256:Nat)^j=2^(8*j) by rw[Nat.pow_mul]];simp
theorem cI n(h:n<18446744073709551616):(az n).length<=9:=by have:=Kx 8 n af;simp[az,uz];omega
theorem TB:fK prog 94 5 (.int .u8 0) 1 1:=⟨underlying94,Xw,rfl,ay⟩
theorem aby v l(n:Nat)(hn:n<18446744073709551616) w base(B:Own w base 5 v l)(y:base<=w.heap.size)(hl:l.length<=1099511627776) :
 Calls prog 245 #[v,.int .u64 n] w λe w' =>
  ∃v',e=.returned v'/\Own w' base 5 v' (l++az n)/\Below base w w':=by
 have ayx:=Kx 8 n af
 go_enter func245,ntmps245
 go_wp2_with fail
 refine (aq2 n hn _).mono ?_
 rintro e w'⟨rfl,rfl⟩
 generalize A:fL n=N at *
 have T:=ae A
 clear A
 have E:(UInt8.ofNat N).toNat=N:=aY
 have W:=ae E
 clear E
 go_wp2_with (at_builtin;refine iF rfl _ _ 94 rfl base 5 _ 1 1 TB _ _ _ rfl (B.alloc _) (w.heap.size+1) _ 1 1 (dP [UInt8.ofNat N]) rfl ?c1 ?c2 ?c3 ?c5 ?_)
 case c1 => have:=Reads.new w (dP [UInt8.ofNat N]) 5 1 1 rfl;simpa [dP,W.aa]using this
 case c2=>exact wO _
 case c3=>omega
 case c5=>simp;omega
 intro R w1 F X Q D
 have O:=((cM _ _).alloc y _).trans D
 have M:Own w1 base 5 R (l++[UInt8.ofNat N]):=by unfold Own;rw[Kf];simpa using F
 clear F X Q D B
 go_wp2_with fail
 go_loopw [0,15] (fun u i wr=>∃k:Nat,k<=N/\i=.int .i64 k/\Own wr base 5 u (l++[UInt8.ofNat N]++(be N n).take k)/\Below base w wr) (fun _ i _=>N-(intOf i).toNat)
 case atStart=>exact⟨0,af,rfl,by simpa using M,O⟩
 case round =>
  obtain⟨k,hk,rfl,j,t⟩:=hrel;have Z:=bn y t.size;by_cases hlt:k<N
  ·have hi:(k:Int)<N:=af;have hcell:=ae (acY n (N-1-k));have S:=ae (av7 N n k hlt);have hlen:(l++[UInt8.ofNat N]++(be N n).take k).length<=l.length+9:=by simp[uz];omega
   go_wp2_with (at_builtin;refine iF rfl _ _ 94 rfl base 5 _ 1 1 TB _ _ _ rfl (pH j _) (wr.heap.size+1) _ 1 1 (dP [UInt8.ofNat (n/256^(N-1-k))]) rfl ?d1 ?d2 ?d3 ?d5 ?_)
   case d1 => have:=Reads.new wr (dP [UInt8.ofNat (n/256^(N-1-k))]) 5 1 1 rfl;rw[hcell.aa];exact this
   case d2=>exact wO _
   case d3=>omega
   case d5=>simp;omega
   intro J U G V L C;have Y:=(t.alloc Z _).trans C;have H:Own U base 5 J (l++[UInt8.ofNat N]++(be N n).take (k+1)):=by unfold Own;rw[S.aa,<- dY,Kf];simpa [Nat.add_assoc]using G
   clear G V L C;go_wp2;go_roundw
   case rel=>exact⟨k+1,af,bJ,H,Y⟩
   case measure=>simp[intOf];omega
  ·have hge:¬(k:Int)<N:=af;have I:Hid (Own wr base 5 u0 (l++az n)):=by unfold az;rw[T.aa];have:(be N n).take k=be N n:=fM (by rw[uz];omega);rw[this]at j;exact ae (by simpa using j)
   clear j;go_wp2;go_ret;exact⟨_,rfl,I.aa,t⟩
theorem wJ A m c l(n:Nat)(hn:n<18446744073709551616) w B(hR:Reads w B 1 A m (dP l))(j:B<=w.heap.size)(hm:m<=1000000000) :
 Calls prog 146 #[.slice A m c,.int .u64 n] w λe w' =>
  ∃v',e=.returned v'/\Own w' w.heap.size 5 v' (l++az n)/\Below w.heap.size w w':=by
 have y:l.length=m:=Fm
 go_enter func146,ntmps146
 go_wp2_with fail
 refine (OV A m c l 9 w B hR j af af af).mono ?_
 rintro e C⟨g,cap,rfl,D,hb,_,_⟩
 go_wp2_with fail
 refine (aby _ l n hn C w.heap.size (by unfold Own;rw[y];exact D) hb.size af).mono ?_
 rintro e E⟨v',rfl,t,u⟩
 go_wp2
 go_ret
 exact⟨_,rfl,t,hb.trans u⟩
theorem OA A D m c k d l b w B(hR:Reads w B 1 A m (dP l))(u:Reads w B 1 D k (dP b))(y:B<=w.heap.size)(hm:m<=1000000000)(hk:k<=1000000000) :
 Calls prog 248 #[.slice A m c,.slice D k d] w λe w' =>
  ∃v',e=.returned v'/\Own w' w.heap.size 5 v' (l++az b.length++b)/\Below w.heap.size w w':=by
 have E:l.length=m:=Fm
 have hb:b.length=k:=by simpa using u.len
 have hp:=cI k af
 have t:=ae E
 have C:=ae hb
 clear E hb
 go_enter func248,ntmps248
 go_wp2_with fail
 refine (OV A m c l (9+k) w B hR y af af af).mono ?_
 rintro e M⟨g,cap,rfl,N,F,_,_⟩
 go_wp2_with fail
 refine (aby _ l k af M w.heap.size (by unfold Own;rw[t.aa];exact N) F.size (by have:=t.aa;omega)).mono ?_
 rintro e Q⟨v',rfl,G,L⟩
 have j:=F.trans L
 have I:=u.below j y
 go_wp2_with (at_builtin;refine iF rfl _ _ 94 rfl w.heap.size 5 _ 1 1 TB _ _ _ rfl G B _ k d (dP b) rfl I (wO _) ?d3 j.size ?_)
 case d3=>have:=t.aa;simp;omega
 intro T S H R O J
 go_wp2
 go_ret
 refine⟨_,rfl,?_,j.trans J⟩
 unfold Own
 rw[Kf,C.aa]
 simpa [C.aa,Nat.add_assoc]using H
abbrev dK(s:ByteArray):List UInt8:=s.data.toList
def iH(k n:Int)(s:ByteArray):Bool :=
 if k==1 then s.toList.isEmpty else if k==2 then n==0&&decide ((s.size:Int)<=40)else if k==3 then (n==0||n==1)&&s.toList.isEmpty else false
def lW(k n:Int)(s:ByteArray):Int:=if iH k n s then 0 else 10
def foldI(n:Int):Nat:=if n<0 then (-2*n-1).toNat else (2*n).toNat
def uD(n:Nat):Int:=if n%2=1 then -((n/2:Nat):Int)-1 else ((n/2:Nat):Int)
theorem aq3 n w(t:-9223372036854775808<=n)(j:n<=9223372036854775807) :
 Calls prog 336 #[.int .i64 n] w λe w'=>e=.returned (.int .u64 (foldI n:Nat))/\w=w':=by
 by_cases hn:n<0
 ·have e:(foldI n:Int)=-2*n-1:=by simp[foldI,hn];omega
  exact aeu
 ·have e:(foldI n:Int)=2*n:=by simp[foldI,hn];omega
  exact aeu
theorem abz(n:Nat) w(hn:n<18446744073709551616) :
 Calls prog 331 #[.int .u64 n] w λe w'=>e=.returned (.int .i64 (uD n))/\w=w':=by
 by_cases hm:n%2=1
 ·have e:uD n=-((n/2:Nat):Int)-1:=by simp[uD,hm]
  have HE:=ae e;have hb:(((n:Int)%2)==1)=true:=aY;exact aev
 ·have e:uD n=((n/2:Nat):Int):=by simp[uD,hm]
  have HE:=ae e;have hb:(((n:Int)%2)==1)=false:=aY;exact aev
theorem OB k n s w :
 Calls prog 283 #[.agg #[.int .i64 k,.int .i64 n,.string s]] w λe w'=>e=.returned (.int .i64 (lW k n s))/\Below w.heap.size w w':=by
 go_enter func283,ntmps283
 go_wp2
 all_goals
  go_ret
  refine⟨?_,(cM _ _).alloc (aC _) _⟩
  show Ending.returned (.int _ _)=Ending.returned (.int _ _)
  simp_all [lW,iH]
abbrev vv(k n:Int)(s:ByteArray):Value:=.agg #[.int .i64 k,.int .i64 n,.string s]
def vu(k n:Int):Nat:=if k=1 then foldI n else (n%18446744073709551616).toNat
def bf(k:Int):Nat:=(k%18446744073709551616).toNat
def nB(k n:Int)(s:ByteArray):List UInt8:=az (bf k)++az (vu k n)++(az s.size++dK s)
theorem Dj k:IntKind.u64.wrap k=(bf k:Int):=by unfold bf;show k%2^64=_;omega
theorem fW k:bf k<18446744073709551616:=by unfold bf;omega
theorem auj n(j:-9223372036854775808<=n)(t:n<=9223372036854775807):foldI n<18446744073709551616:=by unfold foldI;split <;> omega
theorem KE k n(j:-9223372036854775808<=n)(t:n<=9223372036854775807):vu k n<18446744073709551616:=by
 unfold vu;split
 ·exact auj n j t
 ·exact fW n
theorem Reads.conv(w:World) s c x e:Reads (w.alloc (.cells (bytesRow s c) e x)) (w.heap.size+1) 1 (some ⟨w.heap.size,0,none⟩) s.size (dP (dK s)) :=
 ⟨aj,λ_=>⟨w.heap.size,0,rfl,af,λj u hu=>by
  have A:=heap_alloc_new w (.cells (bytesRow s c) e x);simp only[World.cell?,A];have y:j<s.data.size:=aew;have B:j<s.size:=y;simp[bytesRow,Array.getElem?_append,B];simp[dP]at hu;obtain⟨a,t,rfl⟩:=hu;rw[Array.getElem?_eq_getElem y]at t;injection t with t;rw[t]⟩⟩
theorem abP A m c l k n s w B(hR:Reads w B 1 A m (dP l))(hB:B<=w.heap.size)(hm:m<=900000000)(H:s.size<=900000000)
 (y:-9223372036854775808<=n) (t:n<=9223372036854775807) :
 Calls prog 314 #[.slice A m c,vv k n s] w λe w' =>
  ∃v',e=.returned v'/\Own w' w.heap.size 5 v' (l++nB k n s)/\Below w.heap.size w w':=by
 have hnl:=KE k n y t
 have pg:=fW k
 have G:=cI _ pg
 have F:=cI _ hnl
 have D:l.length=m:=Fm
 have Hml:=ae D
 clear D
 generalize C:vu k n=NV at *
 generalize u:bf k=KN at *
 have YN:=ae C
 have HKN:=ae u
 clear C u
 have I:=λW=>run_bytes_of_string (P:=prog) W 9 94 5 s underlying9 underlying94 underlying5
 have ajK:Below w.heap.size w (w.alloc (.cells #[.int .i64 k,.int .i64 n,.string s] 71)):=(cM _ _).alloc (aC _) _
 by_cases hk:k=1
 rotate_left
 ·have E:(k==1)=false:=sE;have j:Hid (bf n=NV):=by rw[<- YN.aa];exact ae (by simp[vu,hk];rfl)
  clear hk;go_enter func314,ntmps314;go_wp2_with fail
  rw[Dj n,j.aa];exact aex
 ·have E:(k==1)=true:=sE;have j:Hid (foldI n=NV):=by rw[<- YN.aa];exact ae (by simp[vu,hk])
  clear hk;go_enter func314,ntmps314;go_wp2_with fail
  refine (aq3 n _ y t).mono ?_;rintro e w'⟨rfl,rfl⟩;rw[j.aa];go_wp2_with fail
  exact aex
def Rd(w:World)(g:Nat)(l:List UInt8)(wr:Bool):Prop :=
 ∃A c,ah w g 320 #[.slice A l.length c,.bool wr]/\Reads w g 1 A l.length (dP l)/\l.length<=c/\c<=2199023255552
def iG(l:List UInt8):Nat:=l.foldl (λn b=>n*256+b.toNat) 0
def ax(l:List UInt8)(wr:Bool):Nat×List UInt8×Bool :=
 match l with
 | []=>(0,l,true)
 | b :: r =>
  if wr||decide (8<b.toNat)||decide (r.length<b.toNat)||(decide (0<b.toNat)&&r.head?==some 0)then (0,l,true)
  else (iG (r.take b.toNat),r.drop b.toNat,false)
theorem Kr A n c l w B(hR:Reads w B 1 A n (dP l))(t:B<=w.heap.size)(hn:n<=1000000000) :
 Calls prog 190 #[.slice A n c] w λe w' =>
  ∃g,e=.returned (.pointer (some ⟨g,0,none⟩))/\w.heap.size<=g/\Rd w' g l false/\Below w.heap.size w w':=by
 have y:l.length=n:=Fm
 subst y
 go_enter func190,ntmps190
 go_wp2_with fail
 refine (OV A _ c l 0 w B hR t af af af).mono ?_
 rintro e C⟨g,cap,rfl,D,hb,u,j⟩
 go_wp2
 go_ret
 refine⟨C.heap.size,rfl,hb.size,⟨_,_,ah.new _ _ _,?_,?_,?_⟩,hb.alloc hb.size _⟩
 ·exact (Reads.uH D).below (Below.alloc (cM _ _) (aC _) _) (aC _)
 ·exact u
 ·exact j
theorem aze(l:List UInt8):((l.length:Int)==0)=l.isEmpty:=by cases l <;> simp;omega
theorem Kg g l wr w(h:Rd w g l wr) :
 Calls prog 199 #[.pointer (some ⟨g,0,none⟩)] w λe w'=>e=.returned (.bool (!wr&&l.isEmpty))/\w=w':=by
 obtain⟨A,c,hb,y,u,B⟩:=h
 have j:=hb.cell 1
 have t:=hb.cell 0
 simp at j t
 cases wr
 ·go_enter func199,ntmps199;go_wp2;go_ret;exact⟨by show Ending.returned (.bool _)=_;rw[aze];rfl,rfl⟩
 ·go_enter func199,ntmps199;go_wp2;go_ret;exact⟨rfl,rfl⟩
def nD(g:Nat)(l:List UInt8)(wr:Bool)(w w':World):Prop:=Rd w' g l wr/\w.grownBy w' (some g)
theorem aoJ g l wr w(h:Rd w g l wr)(u:(ax l wr).2.2=true) :
 Calls prog 192 #[.pointer (some ⟨g,0,none⟩)] w λe w'=>e=.returned (.int .u64 0)/\nD g l true w w':=by
 obtain⟨A,c,hb,hr,h1,h2⟩:=h
 have F:=hb.cell 1
 have B:=hb.cell 0
 have L:=hb.frozen 1
 simp at F B
 have zM:∀W:World,W=w.setCell ⟨g,1,none⟩ (.bool true)->nD g l true w W:=by rintro W rfl;exact aey
 cases wr
 ·cases l with
  | nil => exact KF
  | cons b r =>
   obtain⟨E,C,rfl,O,y⟩:=hr.2 aj;have J:w.cell? ⟨E,C,none⟩=some (.int .u8 b.toNat):=y 0 _ UY;simp only[eQ]at B h1 hb;have N:b.toNat<256:=b.toNat_lt;by_cases h8:8<b.toNat
   ·have H:(8:Int)<(b.toNat:Int):=af;exact KF
   ·have H:¬(8:Int)<(b.toNat:Int):=af;by_cases h9:r.length<b.toNat
    ·have D:(r.length:Int)+1<1+(b.toNat:Int):=af;exact KF
    ·have D:¬(r.length:Int)+1<1+(b.toNat:Int):=af;cases r with
     | nil =>
      have G:b.toNat=0:=by simp at h9;omega
      simp[ax,G]at u
     | cons x r =>
      have j:(x==0)=true/\0<b.toNat:=by
       simp only[ax]at u;split at u
       ·rename_i t;simp[h8]at t;rcases t with t|t
        ·simp at h9;omega
        ·simp[t.2];omega
       ·simp at u
      obtain⟨j,M⟩:=j;have j:x=0:=by simpa using j
      subst j;have I:w.cell? ⟨E,C+1,none⟩=some (.int .u8 0):=y 1 _ UY;clear y;simp only[eQ]at B h1 hb D h9;exact KF
 ·exact KF
theorem Reads.at_{w B A l n}(h:Reads w B 1 A n (dP l))(h0:0<l.length) :
 ∃b t,A=some ⟨b,t,none⟩/\b<B/\∀j (u:j<l.length),w.cell? ⟨b,t+j,none⟩=some (.int .u8 (l[j].toNat:Int)):=by
 obtain⟨b,t,e,hb,y⟩:=h.2 Ia
 exact⟨b,t,e,hb,λj u=>y j _ (UZ l j u)⟩
theorem Ug l b:iG (l++[b])=iG l*256+b.toNat:=by simp[iG]
theorem KH l:iG l<256^l.length:=by
 induction h:l.length generalizing l with
 | zero=>simp[List.eq_nil_of_length_eq_zero h,iG]
 | succ n t =>
  have j:l≠[]:=by rintro rfl;simp at h
  rw[<- List.dropLast_concat_getLast j,Ug];have:=t l.dropLast Ib;have hb:=(l.getLast j).toNat_lt;rw[Nat.pow_succ];omega
theorem aoK g b r w(h:Rd w g (b :: r) false)(h8:b.toNat<=8)(hl:b.toNat<=r.length)(T:0<b.toNat->∃x B,r=x :: B/\0<x.toNat) :
 Calls prog 192 #[.pointer (some ⟨g,0,none⟩)] w λe w'=>e=.returned (.int .u64 (iG (r.take b.toNat):Nat))/\nD g (r.drop b.toNat) false w w':=by
 obtain⟨A,c,hb,O,V,H⟩:=h
 have hc:=hb.cell 1
 have M:=hb.cell 0
 have hf0:=hb.frozen 0
 simp at hc M
 obtain⟨D,y,rfl,ox,E⟩:=O.at_ aj
 have S:=E 0 aj
 simp at S
 have C:=ae E
 clear E
 simp only[eQ]at M V hb
 generalize G:b.toNat=N at *
 have HN:=ae G
 clear G
 have xe:¬(8:Int)<(N:Int):=af
 have YO:¬(r.length:Int)+1<1+(N:Int):=af
 have zM:∀(A':Option Addr) (m t:Nat),m=r.length-N->(0<m->A'=some ⟨D,y+(1+N),none⟩)->m<=t->t<=c->nD g (r.drop N) false w (w.setCell ⟨g,0,none⟩ (.slice A' m t)):=by rintro A' m t rfl hA hm hc';have Z:=hb.aM 0 (.slice A' (r.length-N) t);refine⟨⟨A',t,by simpa using Z,⟨aj,λQ=>?_⟩,by simpa using hm,af⟩,Fl (Di _ _) rfl _⟩;simp at Q;refine⟨D,y+(1+N),hA af,ox,λj u hu=>?_⟩;rw[World.cell?_setCell_other _ _ _ _ (by intro e;injection e;omega)];have J:j<(r.drop N).length:=aew;rw[UZ _ _ J]at hu;injection hu with hu;rw[<- hu,List.getElem_drop];simp at J;have:=C.aa (1+N+j) aY;rw[show y+(1+N)+j=y+(1+N+j) by omega,this];simp[show 1+N+j=(N+j)+1 by omega]
 by_cases xf:0<N
 ·obtain⟨x,B,rfl,dL⟩:=T xf;have gS:=C.aa 1 aj;simp at gS;have hxb:((x.toNat:Int)==0)=false:=aY;have Y:(0:Int)<(N:Int):=af;generalize W:x :: B=r at *;clear W;go_enter func192,ntmps192;go_wp2;go_step3;go_wp2_with fail
  go_loop [3,51] (fun n i=>∃k:Nat,k<=N/\i=.int .i64 k/\n=.int .u64 (iG (r.take k):Nat)) (fun _ i=>N-(intOf i).toNat)
  case atStart=>exact⟨0,af,rfl,rfl⟩
  case round =>
   obtain⟨k,hk,rfl,rfl⟩:=hrel;by_cases hlt:k<N
   ·have fA:(k:Int)<N:=af;have Gd:w.cell? ⟨D,y+(1+k),none⟩=some (.int .u8 (r[k].toNat:Int)):=by have:=C.aa (1+k) aY;simpa [Nat.add_comm 1 k]using this
    have iT:iG (r.take k)<72057594037927936:=by have:=KH (r.take k);have H:(r.take k).length<=7:=aY;have h3:256^(r.take k).length<=256^7:=Nat.pow_le_pow_right ay H;omega
    generalize F:iG (r.take k)=v at *;have I:iG (r.take (k+1))=v*256+r[k].toNat:=by rw[gj af,Ug,F]
    have ayy:r[k].toNat<256:=r[k].toNat_lt;have L:bits BinOp.or IntKind.u64 ((v:Int)*256) (r[k].toNat:Int)=((v*256+r[k].toNat:Nat):Int):=by rw[show (v:Int)*256=((v*256:Nat):Int) by simp,u64_or_nat _ _ af af,nat_join 8 _ _ af af]
    have R:=ae I;have X:=ae L;clear F I L;go_wp2;go_round
    case rel=>exact⟨k+1,af,bJ,by rw[X.aa,R.aa]⟩
    case measure=>simp[intOf];omega
   ·have fA:¬(k:Int)<N:=af;have U:k=N:=af;subst U;exact aez
 ·obtain rfl:N=0:=af;have Y:¬(0:Int)<((0:Nat):Int):=af;go_enter func192,ntmps192;go_wp2;go_step3;go_wp2_with fail
  refine wp_loop_rounds 1 ?_;rw[rounds_succ];exact aez
theorem sA g l wr w(h:Rd w g l wr) :
 Calls prog 192 #[.pointer (some ⟨g,0,none⟩)] w λe w'=>e=.returned (.int .u64 ((ax l wr).1:Nat))/\nD g (ax l wr).2.1 (ax l wr).2.2 w w':=by
 by_cases j:(ax l wr).2.2=true
 ·have e:ax l wr=(0,l,true):=by
   unfold ax at j⊢;split at j
   ·rfl
   ·split at j
    ·rename_i t;simp[t]
    ·simp at j
  rw[e];exact aoJ g l wr w h j
 ·match l,h,j with
  | [],_,j=>simp[ax]at j
  | b :: r,h,j =>
   have t:(wr||decide (8<b.toNat)||decide (r.length<b.toNat)||(decide (0<b.toNat)&&r.head?==some 0))=false:=by
    cases t:(wr||decide (8<b.toNat)||decide (r.length<b.toNat)||(decide (0<b.toNat)&&r.head?==some 0))
    ·rfl
    ·simp only[ax,t]at j;simp at j
   have e:ax (b :: r) wr=(iG (r.take b.toNat),r.drop b.toNat,false):=by simp only[ax,t];rfl
   rw[e]
   simp at t
   obtain⟨⟨⟨rfl,h8⟩,h9⟩,ph⟩:=t
   refine aoK g b r w h h8 h9 λu=>?_
   have:=ph u
   match r,h9,this with
   | [],h9,_=>simp at h9;omega
   | x :: r',_,vM =>
    refine⟨x,r',rfl,?_⟩;rcases Nat.eq_zero_or_pos x.toNat with h|h
    ·exact absurd (by simpa using UInt8.toNat_inj.1 (show x.toNat=(0:UInt8).toNat from h)) vM
    ·exact h
