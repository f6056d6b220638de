/-
  Words for memory that the walks of this claim share: a slice that reads as a list of cells, bytes, and how these facts go on when memory grows. Conditions: none.
-/
import Derived.WalkKit
import Derived.WalkLawsBesides
import Derived.WalkSpells
import Derived.Deep.Draws
import Derived.Deep.AppendLies
import Derived.Maps.AppendAt
import Derived.Laws.CopyOwn
import Derived.Lib.Hide
import Derived.ScopeJumps
import Derived.Laws.IdiomStrings
import Derived.Laws.BytesArg
import Derived.WalkMore
import Derived.Test.YtoeiinllelipoaaGreatProg
import Derived.BigQuiet
import Derived.Deep.QuietTactic
import Derived.Test.YtoeiinllelipoaaGreatMz
set_option maxRecDepth 100000
set_option maxHeartbeats 16000000
set_option linter.unusedVariables false
set_option linter.unusedSimpArgs false
namespace Go.Proofs.YtoeiinllelipoaaGreat
open Go Go.RowKit Tryz
def Reads(w:World)(B size:Nat)(A:Option Addr)(n:Nat)(xs:List Value):Prop :=
 xs.length=n*size/\(0<xs.length->∃b h,A=some ⟨b,h,none⟩/\b<B/\∀j u,xs[j]?=some u->w.cell? ⟨b,h+j,none⟩=some u)
theorem Ka{w:World}{a:Addr}{u:Value}(h:w.cell? a=some u):a.block<w.heap.size:=World.block_lt_of_cell? w a h
section
variable {w w':World} {B B' size n:Nat} {A:Option Addr} {xs:List Value}
theorem Reads.nil(w:World)(B size:Nat)(A:Option Addr):Reads w B size A 0 []:=⟨aj,λh=>absurd h aj⟩
theorem Reads.keep(h:Reads w B size A n xs)(hk:∀k,k<B->w'.heap[k]?=w.heap[k]?):Reads w' B size A n xs :=
 ⟨h.1,λhn=>by
  obtain⟨b,i,e,hb,s⟩:=h.2 hn;exact⟨b,i,e,hb,λj u t=>(World.cell?_of_block (hk b hb)).trans (s j u t)⟩⟩
theorem Reads.more(h:Reads w B size A n xs)(s:B<=B'):Reads w B' size A n xs :=
 ⟨h.1,λhn=>by
  obtain⟨b,j,e,hb,i⟩:=h.2 hn;exact⟨b,j,e,af,i⟩⟩
theorem Reads.below{C:Nat}(h:Reads w B size A n xs)(hb:Below C w w')(i:B<=C):Reads w' B size A n xs:=h.keep λ_ hk=>hb.block _ (by omega)
theorem Reads.drew(h:Reads w B size A n xs):Reads w.drew B size A n xs:=h
theorem Reads.len(h:Reads w B 1 A n xs):xs.length=n:=by simpa using h.1
theorem Reads.cut(h:Reads w B 1 A n xs)(l m cap:Nat)(C:l<=m)(hm:m<=n)(D:n<=cap) :
 Reads w B 1 (if cap=l then A else A.map (·.add l)) (m-l) ((xs.take m).drop l):=by
 have y:=h.len
 refine⟨aU,λhn=>?_⟩
 simp at hn
 obtain⟨b,i,rfl,hb,s⟩:=h.2 af
 rw[if_neg af]
 refine⟨b,i+l,by simp[Addr.add_lit],hb,λj u hu=>?_⟩
 rw[List.getElem?_drop]at hu
 have t:l+j<m:=by exact UG
 rw[List.getElem?_take_of_lt t]at hu
 rw[Nat.add_assoc]
 exact s _ u hu
theorem Reads.xz{base:Nat}{e:TypeId}{c:Nat}(h:w.ownsRow base e size (.slice A n c) n xs):Reads w w.heap.size size A n xs:=by
 refine⟨h.1,λhn=>?_⟩;rcases h.2 with ⟨_,rfl⟩|⟨g,cap,y,i,_,hg,_,_,_,t⟩
 ·have:=h.1;simp at this;subst this;simp at hn
 ·injection i with hA;subst hA;refine⟨g,0,rfl,?_,λj u s=>?_⟩
  ·exact (Array.getElem?_eq_some_iff.1 hg).1
  ·have:=h.cells (g:=g) rfl j u s;simpa [Addr.add_lit]using this
end
theorem Dl(w:World)(row:Option Nat):w.grownBy w row:=World.grownBy.refl w row
theorem Dh{a w:World}{row:Option Nat}(h:a.grownBy w row)(o:Obj):a.grownBy (w.alloc o) row :=
 ⟨h.os,h.tape,h.output,bq h.size aj,λi j s=>(Below.heap_alloc w o i (bB j h.size)).trans (h.block i j s)⟩
theorem E3{a w:World}{g:Nat}(h:a.grownBy w (some g)){p:Addr}(t:p.block=g)(u:Value):a.grownBy (w.setCell p u) (some g) :=
 ⟨h.os,h.tape,h.output,adP,λi s j=>(Below.heap_setCell w p u i (by rintro rfl;exact j (by rw[t]))).trans (h.block i s j)⟩
theorem xv{a w:World}{row:Option Nat}(h:a.grownBy w row){p:Addr}(t:a.heap.size<=p.block)(u:Value):a.grownBy (w.setCell p u) row :=
 ⟨h.os,h.tape,h.output,adP,λi s j=>(Below.heap_setCell w p u i af).trans (h.block i s j)⟩
theorem Ht{a w:World}(h:Below a.heap.size a w)(row:Option Nat):a.grownBy w row:=⟨h.os,h.tape,h.output,h.size,λi j _=>h.block i j⟩
theorem nU{a b c:World}{row:Option Nat}(h:a.grownBy b row)(k:b.grownBy c row):a.grownBy c row:=h.trans k
theorem lC{a w:World}{g B:Nat}(h:a.grownBy w (some g))(s:B<=g)(hz:B<=a.heap.size):Below B a w :=
 ⟨h.os,h.tape,h.output,h.size,λi j=>h.block i af adQ⟩
def dy(l:List UInt8):List Value:=l.map λb=>.int .u8 (b.toNat:Int)
@[simp] theorem aCX (l:List UInt8):(dy l).length=l.length:=UH
theorem JY(a b:List UInt8):dy (a++b)=dy a++dy b:=by simp[dy]
theorem xw(l:List UInt8):∀u∈dy l,u.oneCell'=true:=by intro u h;obtain⟨_,_,rfl⟩:=List.mem_map.1 h;rfl
theorem UI(l:List UInt8)(j:Nat)(h:j<l.length):(dy l)[j]?=some (.int .u8 (l[j].toNat:Int)):=by simp[dy,h]
theorem Reads.pre{w:World}{B:Nat}{A:Option Addr}{n:Nat}{l:List UInt8}(h:Reads w B 1 A n (dy l))(k:Nat)(hk:k<=n):Reads w B 1 A k (dy (l.take k)):=by
 have y:l.length=n:=by simpa using h.len
 refine⟨aU,λi=>?_⟩;simp at i;obtain⟨b,s,e,hb,t⟩:=h.2 aU;refine⟨b,s,e,hb,λj u hu=>t j u ?_⟩;rw[<- hu];unfold dy;rw[List.map_take,List.getElem?_take_of_lt];exact UG
theorem Reads.post{w:World}{B:Nat}{A A':Option Addr}{n:Nat}{l:List UInt8}(h:Reads w B 1 A n (dy l))(k:Nat)(C:k<n->A'=A.map (·.add k)):Reads w B 1 A' (n-k) (dy (l.drop k)):=by
 have D:l.length=n:=by simpa using h.len
 refine⟨aU,λi=>?_⟩;simp at i;obtain⟨b,s,rfl,hb,t⟩:=h.2 aU;refine⟨b,s+k,by rw[C (by omega)];simp[Addr.add_lit],hb,λj u y=>?_⟩;rw[Nat.add_assoc];refine t _ u ?_;rw[<- y];unfold dy;rw[List.map_drop,List.getElem?_drop]
theorem adR{P:Program}(w:World)(i s e:TypeId)(y:P.underlying i=some (.slice e))(u:P.underlying e=some (.int .u8))(D:P.underlying s=some .string)
 (B:Nat) (A:Option Addr) (n c:Nat) (l:List UInt8) (hR:Reads w B 1 A n (dy l)):(convert i s (.slice A n c)).run P w=.ok (.string ⟨l.toArray⟩) w:=by
 have G:l.length=n:=E4
 rcases A with _|t
 ·have E:l=[]:=by
   rcases Nat.eq_zero_or_pos l.length with h|h
   ·exact List.eq_nil_of_length_eq_zero h
   ·obtain⟨b,F,e,_⟩:=hR.2 rT;cases e
  subst E;exact run_convert_bytes_nil w i e y u _ _ s D
 ·have H:∀j (C:j<l.length),w.cell? (t.add j)=some (.int .u8 (l[j].toNat:Int)):=by intro j C;obtain⟨b,F,e,_,I⟩:=hR.2 aU;injection e with e;subst e;rw[Addr.add_lit];exact I j _ (UI l j C)
  rw[<- G];exact run_convert_bytes_back w i s e t c l y u D H
abbrev Own(w:World)(base:Nat)(e:TypeId)(v:Value)(l:List UInt8):Prop:=w.ownsRow base e 1 v l.length (dy l)
theorem rS{w:World}{base base':Nat}{e:TypeId}{v:Value}{l i:List UInt8}(hb:base<=base')(h:Own w base' e v l)(j:l=i:=by simp):Own w base e v i:=by subst j;exact adS
theorem TQ{w w':World}{base B:Nat}{e:TypeId}{v:Value}{l:List UInt8}(_:B<=w.heap.size)(h:Own w base e v l)(hb:Below w.heap.size w w'):Own w' base e v l:=by exact adT
theorem Tg{w:World}{base g cap:Nat}{e:TypeId}{xs rest:List Value}{n:Nat}(hb:base<=g)(hg:w.heap[g]?=some (.cells (xs++rest).toArray e (0,0)))(hn:xs.length=n)(i:n+rest.length=cap)(hm:cap<=maxLen) :
 w.ownsRow base e 1 (.slice (some ⟨g,0,none⟩) n cap) n xs :=
 ⟨by simp[hn],.inr ⟨g,cap,_,rfl,hb,hg,af,hm,aU,by simp[hn]⟩⟩
theorem Own.slice{w:World}{base:Nat}{e:TypeId}{v:Value}{l:List UInt8}(h:Own w base e v l):∃A c,v=.slice A l.length c/\Reads w w.heap.size 1 A l.length (dy l):=by
 have i:=h;rcases h.2 with ⟨rfl,j⟩|⟨g,cap,s,rfl,_⟩
 ·obtain rfl:l=[]:=List.eq_nil_of_length_eq_zero j;exact⟨none,0,rfl,Reads.xz i⟩
 ·exact⟨_,_,rfl,Reads.xz i⟩
def ai(w:World)(g:Nat)(t:TypeId)(cs:Array Value):Prop:=w.heap[g]?=some (.cells cs t (0,0))
section
variable {w w':World} {g:Nat} {t:TypeId} {cs:Array Value}
theorem ai.lt(h:ai w g t cs):g<w.heap.size:=(Array.getElem?_eq_some_iff.1 h).1
theorem ai.cell(h:ai w g t cs)(i:Nat):w.cell? ⟨g,i,none⟩=cs[i]?:=cell_of_row w g i cs t (0,0) h
theorem ai.frozen(h:ai w g t cs)(i:Nat):w.frozen? ⟨g,i,none⟩=false:=by unfold ai at h;simp[World.frozen?,h]
theorem ai.new(w:World)(t:TypeId)(cs:Array Value):ai (w.alloc (.cells cs t)) w.heap.size t cs:=heap_alloc_new w _
theorem ai.drew(h:ai w g t cs):ai w.drew g t cs:=h
theorem ai.alloc(h:ai w g t cs)(o:Obj):ai (w.alloc o) g t cs:=(Below.heap_alloc w o g h.lt).trans h
theorem ai.aR(h:ai w g t cs)(i:Nat)(u:Value):ai (w.setCell ⟨g,i,none⟩ u) g t (cs.setIfInBounds i u):=by unfold ai at h⊢;simp[World.setCell,Array.getElem?_modify,h]
theorem ai.far(h:ai w g t cs){p:Addr}(i:g≠p.block)(u:Value):ai (w.setCell p u) g t cs:=(Below.heap_setCell w p u g i).trans h
theorem ai.grown{row:Option Nat}(h:ai w g t cs)(hb:w.grownBy w' row)(hg:some g≠row):ai w' g t cs:=(hb.block g h.lt hg).trans h
theorem ai.below{B:Nat}(h:ai w g t cs)(hb:Below B w w')(hg:g<B):ai w' g t cs:=(hb.block g hg).trans h
end
theorem JT{P:Program}{a:Act}{w:World}{Q:Exit->Act->World->Prop}{c rest:Code}(l:Nat)(j:findLabel c l=some rest)
 (first:c.wp P (Exit.jump l (λa w=>rest.wp P (Exit.noGoto Q) a w) Q) a w):(Code.scope c).wp P Q a w:=by
 refine wp_scope_jumps l _ (λ_ _=>0) j first ?_
 intro a w h
 refine wp_mono h ?_
 intro e a w i
 cases e <;> first|exact i|exact False.elim i
structure gJ(P:Program)(t e:TypeId)(z:Value)(size bytes:Nat):Prop where
 und:P.underlying t=some (.slice e)
 info:(P.info? e).map (λi=>(i.zero,i.size,i.bytes))=some (some z,size,bytes)
 zsz:z.cells.size=size
 pos:0<size
theorem gJ.fit{P:Program}{t e:TypeId}{z:Value}{size bytes:Nat}(h:gJ P t e z size bytes) :
 ∃i,P.info? e=some i/\i.zero=some z/\i.size=size/\i.bytes=bytes:=info_parts h.info
section
variable {P:Program}
theorem Bb(w:World)(base:Nat)(t ty e:TypeId)(z:Value)(size bytes:Nat)(T:gJ P t e z size bytes)(v:Value)(n:Nat)(xs:List Value)(hown:w.ownsRow base e size v n xs)
 (B:Nat) (A:Option Addr) (m c:Nat) (s:List Value) (C:Reads w B size A m s) (R:∀u∈s,u.oneCell'=true)
 (J:(n+m)*(bytes+1)<=140737488355328) (hbase:base<=w.heap.size) :
 ∃v' w',(Builtin.append_ #[t,t] ty #[v,.slice A m c]).run P w=.ok v' w'/\w'.ownsRow base e size v' (n+m) (xs++s)/\w.grownBy w' v.ownBlock /\
  (v'.ownBlock=v.ownBlock∨v'.ownBlock=some w.heap.size)/\Below base w w':=by
 obtain⟨i,y,F,I,G⟩:=T.fit
 have D:=T.pos
 have H:(n+m)*bytes<=140737488355328:=bq (Nat.mul_le_mul_left _ (Nat.le_succ _)) J
 have S:n+m<=140737488355328:=bq (Nat.le_mul_of_pos_right _ af) J
 rcases Nat.eq_zero_or_pos s.length with E|E
 ·obtain rfl:s=[]:=List.eq_nil_of_length_eq_zero E;have hm:m=0:=by
   have:=C.1;simp only[List.length_nil]at this;rcases Nat.eq_zero_or_pos m with h|h
   ·exact h
   ·have:=Nat.mul_pos h D;omega
  subst hm;rcases A with _|M
  ·refine⟨v,w,?_,by simpa using hown,World.grownBy.refl w _,.inl rfl,aN _ _⟩;rcases hown.2 with ⟨rfl,rfl⟩|⟨g,cap,U,rfl,_,_,Q,_⟩
   ·simp[Builtin.append_,run_underlying T.und,sizeOf,typeInfo,y,Builtin.lenOf,Builtin.firstCells]
   ·simp[Builtin.append_,run_underlying T.und,sizeOf,typeInfo,y,Builtin.lenOf,Builtin.firstCells,Q,storeCells]
  ·obtain⟨v',w',hrun,h2,h3,_,h5⟩:=run_append_own_at (P:=P) w base t ty e i z size bytes T.und y F I G T.zsz D v n xs hown M 0 c [] aj aj aj Dp H hbase;exact adU
 ·obtain⟨b,L,rfl,_,N⟩:=C.2 E;obtain⟨v',w',hrun,h2,h3,_,h5⟩:=run_append_own_at (P:=P) w base t ty e i z size bytes T.und y F I G T.zsz D v n xs hown ⟨b,L,none⟩ m c s C.1 (λj u O=>by rw[Addr.add_lit];exact N j u O) R Dp H hbase;exact adU
theorem iC{w:World}{ops:Array Oper}{rest:List Oper}{o:Oper}{a:Act}{Q:Exit->Act->World->Prop}(L:o.guard=none)(s x:Operand)(t:TypeId)
 (N:o.op=.call { callee:=.builtin .append,args:=#[s,x],argTypes:=#[t,t] })
 (base:Nat) (e:TypeId) (z:Value) (size bytes:Nat) (T:gJ P t e z size bytes) (v:Value) (n:Nat) (xs:List Value) (S:a.eval s=v) (E:w.ownsRow base e size v n xs)
 (B:Nat) (A:Option Addr) (m c:Nat) (j:List Value) (y:a.eval x=.slice A m c) (D:Reads w B size A m j) (O:∀u∈j,u.oneCell'=true)
 (R:(n+m)*(bytes+1)<=140737488355328) (H:base<=w.heap.size)
 (h:∀i w',w'.ownsRow base e size i (n+m) (xs++j)->w.grownBy w' v.ownBlock->(i.ownBlock=v.ownBlock∨i.ownBlock=some w.heap.size)->Below base w w'->wpList P ops Q rest (a.put o.dst i) w') :
 wpList P ops Q (o :: rest) a w:=by
 refine wpList_plain L λK G=>?_
 obtain⟨i,w',F,C,I,J,M⟩:=Bb w base t o.type e z size bytes T v n xs E B A m c j D O R H
 unfold Oper.wp execOp
 simp only[N,resolve,invoke,builtin,Sem.run_bind,Sem.run_pure,Result.andThen_ok,List.map_toArray,j9,List.map_nil,S,y,F]
 exact G _ _ (h i w' C I J M)
theorem Reads.new(w:World)(cs:List Value)(t:TypeId)(size n:Nat)(h:cs.length=n*size):Reads (w.alloc (.cells cs.toArray t)) (w.heap.size+1) size (some ⟨w.heap.size,0,none⟩) n cs :=
 ⟨h,λ_=>⟨w.heap.size,0,rfl,af,λj u s=>by
  have i:=heap_alloc_new w (.cells cs.toArray t);simp only[World.cell?,i];simpa using s⟩⟩
end
theorem Xu:(prog.info? 5).map (λi=>(i.zero,i.size,i.bytes))=some (some (.int .u8 0),1,1):=by kernel_rfl
theorem Ol(A:Option Addr)(n c:Nat)(l:List UInt8)(more:Int)(w:World)(B:Nat)(s:Reads w B 1 A n (dy l))(O:B<=w.heap.size)(hn:n<=1099511627776)(H:0<=more)(L:more<=1099511627776) :
 Calls prog 96 #[.slice A n c,.int .i64 more] w λe w' =>
  ∃g cap,e=.returned (.slice (some ⟨g,0,none⟩) n cap)/\w'.ownsRow w.heap.size 5 1 (.slice (some ⟨g,0,none⟩) n cap) n (dy l)/\Below w.heap.size w w'/\n<=cap/\cap<=2199023255552:=by
 obtain⟨m,rfl⟩:=Int.eq_ofNat_of_zero_le H
 obtain⟨i,C,F,t,hz2⟩:=info_parts Xu
 have N:∀W:World,(Instr.makeSlice 42 (.int .i64 (n:Int)) (.int .i64 ((n:Int)+(m:Int)))).run prog W=.ok (.slice (some ⟨W.heap.size,0,none⟩) n (n+m)) (W.alloc (.cells (madeCells #[.int .u8 0] (n+m)) 5)):=by intro W;have h:=run_make (P:=prog) W 42 5 i (.int .u8 0) underlying42 C F .i64 .i64 (n:Int) ((n:Int)+(m:Int)) af af UJ af;rw[t]at h;simpa [Value.cells,show ((n:Int)+(m:Int)).toNat=n+m from by omega]using h
 go_enter func96,ntmps96
 go_wp2_with (with_reducible refine wpList_copy_splice rfl (.tmp 13) (.tmp 14) 42 42 rfl 5 underlying42 (by rw[C];simp[t]) _ A _ _ _ _ rfl rfl w.heap.size 0 (List.replicate (n+m) (.int .u8 0)) 5 ?hg (dy l) ?hn ?hpos ?hfit (xw l) w.heap.size w ?hb (aG _) ?_)
 case hg=>rw[heap_alloc_new,<- toList_madeCells_one]
 case hn=>rw[s.len];simp
 case hpos => intro h0;obtain⟨b,J,rfl,hb,G⟩:=s.2 OJ;refine⟨_,rfl,λj v I=>?_⟩;rw[Addr.add_lit,World.cell?_alloc_lt _ _ _ aU];exact G j v I
 case hfit=>rw[s.len];simp
 case hb=>exact (aN _ _).alloc (aG _) _
 intro M E D
 go_wp2
 go_ret
 refine⟨_,_,rfl,?_,D,af,af⟩
 have u:=E.aa
 have y:=s.len
 rw[show splice (List.replicate (n+m) (Value.int .u8 0)) 0 (dy l)=dy l++List.replicate m (Value.int .u8 0)from by simp only[splice];simp[show l.length=n from by simpa using y]]at u
 exact Tg (aG _) u y aj Dp
def fJ(n:Nat):Nat:=if n=0 then 0 else fJ (n/256)+1
decreasing_by omega
theorem ES:fJ 0=0:=by unfold fJ;simp
theorem J4(n:Nat)(h:0<n):fJ n=fJ (n/256)+1:=by rw[fJ];simp;omega
theorem Kb(k:Nat):∀n,n<256^k->fJ n<=k:=by
 induction k with
 | zero => intro n h;have:n=0:=rT;subst this;simp[ES]
 | succ k j =>
  intro n h;rcases Nat.eq_zero_or_pos n with i|i
  ·subst i;simp[ES]
  ·rw[J4 n i];have:=j (n/256) (by rw[Nat.pow_succ]at h;omega);omega
theorem aqK(n:Nat)(hn:n<18446744073709551616)(w:World) :
 Calls prog 170 #[.int .u64 (n:Int)] w λe w'=>e=.returned (.int .i64 (fJ n:Nat))/\w=w':=by
 have s:=Kb 8 n af
 go_enter func170,ntmps170
 go_wp2_with fail
 go_loop [0,3] (fun x c=>∃m k:Nat,m<=n/\k+fJ m=fJ n/\x=.int .u64 (m:Int)/\c=.int .i64 (k:Int)) (fun x _=>(intOf x).toNat)
 case atStart=>exact⟨n,0,aG _,af,rfl,rfl⟩
 case round =>
  obtain⟨m,k,hm,hk,rfl,rfl⟩:=hrel;have j:=ae hk;have u:k<=8:=af;clear hk;rcases Nat.eq_zero_or_pos m with i|i
  ·subst i;go_wp2;go_ret;have e:k=fJ n:=by have:=j.aa;rw[ES]at this;omega
   exact⟨by rw[<- e];rfl,rfl⟩
  ·go_wp2;have t:=J4 m i;go_round
   case rel=>exact⟨m/256,k+1,af,by have:=j.aa;omega,aj,bO⟩
   case measure=>simp[intOf];omega
def be:Nat->Nat->List UInt8
 | 0,_=>[]
 | k+1,n=>UInt8.ofNat (n/256^k) :: be k n
def aD(n:Nat):List UInt8:=UInt8.ofNat (fJ n) :: be (fJ n) n
theorem tL(k n:Nat):(be k n).length=k:=by
 induction k generalizing n with
 | zero=>rfl
 | succ k h=>simp[be,h]
theorem awV(N n k:Nat)(h:k<N):(be N n)[k]?=some (UInt8.ofNat (n/256^(N-1-k))):=by
 induction N generalizing k with
 | zero=>omega
 | succ N i =>
  cases k with
  | zero=>simp[be]
  | succ k => rw[be,List.getElem?_cons_succ,i k af];congr 4;omega
theorem avr(N n k:Nat)(h:k<N):(be N n).take (k+1)=(be N n).take k++[UInt8.ofNat (n/256^(N-1-k))]:=by rw[List.take_add_one,awV N n k h];rfl
theorem aco(n j:Nat):((n:Int)/2^(8*j)%256)=((UInt8.ofNat (n/256^j)).toNat:Int):=by rw[show (256:Nat)^j=2^(8*j) by rw[Nat.pow_mul]];simp
theorem cG(n:Nat)(h:n<18446744073709551616):(aD n).length<=9:=by have:=Kb 8 n af;simp[aD,tL];omega
theorem TB:gJ prog 42 5 (.int .u8 0) 1 1:=⟨underlying42,Xu,rfl,au⟩
theorem aa3(v:Value)(l:List UInt8)(n:Nat)(hn:n<18446744073709551616)(w:World)(base:Nat)(A:Own w base 5 v l)(B:base<=w.heap.size)(hl:l.length<=1099511627776) :
 Calls prog 95 #[v,.int .u64 (n:Int)] w λe w' =>
  ∃H,e=.returned H/\Own w' base 5 H (l++aD n)/\Below base w w':=by
 have axD:=Kb 8 n af
 go_enter func95,ntmps95
 go_wp2_with fail
 refine (aqK n hn _).mono ?_
 rintro e w'⟨rfl,rfl⟩
 generalize t:fJ n=N at *
 have Y:=ae t
 clear t
 have F:(UInt8.ofNat N).toNat=N:=aU
 have X:=ae F
 clear F
 go_wp2_with (at_builtin;refine iC rfl _ _ 42 rfl base 5 _ 1 1 TB _ _ _ rfl (A.alloc _) (w.heap.size+1) _ 1 1 (dy [UInt8.ofNat N]) rfl ?c1 ?c2 ?c3 ?c5 ?_)
 case c1 => have:=Reads.new w (dy [UInt8.ofNat N]) 5 1 1 rfl;simpa [dy,X.aa]using this
 case c2=>exact xw _
 case c3=>omega
 case c5=>simp;omega
 intro M D E V L I
 have dI:Below base w D:=((aN _ _).alloc B _).trans I
 have Lq:Own D base 5 M (l++[UInt8.ofNat N]):=by unfold Own;rw[JY];simpa using E
 clear E V L I A
 go_wp2_with fail
 go_loopw [0,15] (fun u i wr=>∃k:Nat,k<=N/\i=.int .i64 (k:Int)/\Own wr base 5 u (l++[UInt8.ofNat N]++(be N n).take k)/\Below base w wr) (fun _ i _=>N-(intOf i).toNat)
 case atStart=>exact⟨0,af,rfl,by simpa using Lq,dI⟩
 case round =>
  obtain⟨k,hk,rfl,j,s⟩:=hrel;have O:base<=wr.heap.size:=bq B s.size;by_cases W:k<N
  ·have hi:(k:Int)<(N:Int):=af;have hcell:=ae (aco n (N-1-k));have U:=ae (avr N n k W);have hlen:(l++[UInt8.ofNat N]++(be N n).take k).length<=l.length+9:=by simp[tL];omega
   go_wp2_with (at_builtin;refine iC rfl _ _ 42 rfl base 5 _ 1 1 TB _ _ _ rfl (pg j _) (wr.heap.size+1) _ 1 1 (dy [UInt8.ofNat (n/256^(N-1-k))]) rfl ?d1 ?d2 ?d3 ?d5 ?_)
   case d1 => have:=Reads.new wr (dy [UInt8.ofNat (n/256^(N-1-k))]) 5 1 1 rfl;rw[hcell.aa];exact this
   case d2=>exact xw _
   case d3=>omega
   case d5=>simp;omega
   intro J G C Q T y;have S:Below base w G:=(s.alloc O _).trans y;have Z:Own G base 5 J (l++[UInt8.ofNat N]++(be N n).take (k+1)):=by unfold Own;rw[U.aa,<- dG,JY];simpa [Nat.add_assoc]using C
   clear C Q T y;go_wp2;go_roundw
   case rel=>exact⟨k+1,af,bO,Z,S⟩
   case measure=>simp[intOf];omega
  ·have hge:¬(k:Int)<(N:Int):=af;have R:Hid (Own wr base 5 u0 (l++aD n)):=by unfold aD;rw[Y.aa];have:(be N n).take k=be N n:=eT (by rw[tL];omega);rw[this]at j;exact ae (by simpa using j)
   clear j;go_wp2;go_ret;exact⟨_,rfl,R.aa,s⟩
theorem vJ(A:Option Addr)(m c:Nat)(l:List UInt8)(n:Nat)(hn:n<18446744073709551616)(w:World)(B:Nat)(hR:Reads w B 1 A m (dy l))(y:B<=w.heap.size)(hm:m<=1000000000) :
 Calls prog 46 #[.slice A m c,.int .u64 (n:Int)] w λe w' =>
  ∃i,e=.returned i/\Own w' w.heap.size 5 i (l++aD n)/\Below w.heap.size w w':=by
 have u:l.length=m:=E4
 go_enter func46,ntmps46
 go_wp2_with fail
 refine (Ol A m c l 9 w B hR y af af af).mono ?_
 rintro e t⟨g,cap,rfl,s,hb,_,_⟩
 go_wp2_with fail
 refine (aa3 _ l n hn t w.heap.size (by unfold Own;rw[u];exact s) hb.size af).mono ?_
 rintro e D⟨i,rfl,C,j⟩
 go_wp2
 go_ret
 exact⟨_,rfl,C,hb.trans j⟩
theorem N0(A D:Option Addr)(m c k d:Nat)(l b:List UInt8)(w:World)(B:Nat)(hR:Reads w B 1 A m (dy l))(y:Reads w B 1 D k (dy b))(t:B<=w.heap.size)(hm:m<=1000000000)(hk:k<=1000000000) :
 Calls prog 98 #[.slice A m c,.slice D k d] w λe w' =>
  ∃j,e=.returned j/\Own w' w.heap.size 5 j (l++aD b.length++b)/\Below w.heap.size w w':=by
 have u:l.length=m:=E4
 have hb:b.length=k:=by simpa using y.len
 have T:=cG k af
 have i:=ae u
 have E:=ae hb
 clear u hb
 go_enter func98,ntmps98
 go_wp2_with fail
 refine (Ol A m c l (9+k) w B hR t af af af).mono ?_
 rintro e G⟨g,cap,rfl,J,C,_,_⟩
 go_wp2_with fail
 refine (aa3 _ l k af G w.heap.size (by unfold Own;rw[i.aa];exact J) C.size (by have:=i.aa;omega)).mono ?_
 rintro e S⟨j,rfl,M,H⟩
 have s:=C.trans H
 have I:=y.below s t
 go_wp2_with (at_builtin;refine iC rfl _ _ 42 rfl w.heap.size 5 _ 1 1 TB _ _ _ rfl M B _ k d (dy b) rfl I (xw _) ?d3 s.size ?_)
 case d3=>have:=i.aa;simp;omega
 intro N R L O Q F
 go_wp2
 go_ret
 refine⟨_,rfl,?_,s.trans F⟩
 unfold Own
 rw[JY,E.aa]
 simpa [E.aa,Nat.add_assoc]using L
abbrev dh(s:ByteArray):List UInt8:=s.data.toList
def iU(k n:Int)(s:ByteArray):Bool :=
 if k==1 then s.toList.isEmpty else if k==2 then n==0&&decide ((s.size:Int)<=40)else if k==3 then (n==0||n==1)&&s.toList.isEmpty else false
def mH(k n:Int)(s:ByteArray):Int:=if iU k n s then 0 else 10
def foldI(n:Int):Nat:=if n<0 then (-2*n-1).toNat else (2*n).toNat
def tP(n:Nat):Int:=if n%2=1 then -((n/2:Nat):Int)-1 else ((n/2:Nat):Int)
theorem aqL(n:Int)(w:World)(i:-9223372036854775808<=n)(j:n<=9223372036854775807) :
 Calls prog 250 #[.int .i64 n] w λe w'=>e=.returned (.int .u64 (foldI n:Nat))/\w=w':=by
 by_cases hn:n<0
 ·have e:(foldI n:Int)=-2*n-1:=by simp[foldI,hn];omega
  exact adV
 ·have e:(foldI n:Int)=2*n:=by simp[foldI,hn];omega
  exact adV
theorem aa4(n:Nat)(w:World)(hn:n<18446744073709551616) :
 Calls prog 269 #[.int .u64 (n:Int)] w λe w'=>e=.returned (.int .i64 (tP n))/\w=w':=by
 by_cases hm:n%2=1
 ·have e:tP n=-((n/2:Nat):Int)-1:=by simp[tP,hm]
  have HE:=ae e;have hb:(((n:Int)%2)==1)=true:=aU;exact adW
 ·have e:tP n=((n/2:Nat):Int):=by simp[tP,hm]
  have HE:=ae e;have hb:(((n:Int)%2)==1)=false:=aU;exact adW
theorem N4(k n:Int)(s:ByteArray)(w:World) :
 Calls prog 207 #[.agg #[.int .i64 k,.int .i64 n,.string s]] w λe w'=>e=.returned (.int .i64 (mH k n s))/\Below w.heap.size w w':=by
 go_enter func207,ntmps207
 go_wp2
 all_goals
  go_ret
  refine⟨?_,(aN _ _).alloc (aG _) _⟩
  show Ending.returned (.int _ _)=Ending.returned (.int _ _)
  simp_all [mH,iU]
abbrev vv(k n:Int)(s:ByteArray):Value:=.agg #[.int .i64 k,.int .i64 n,.string s]
def ue(k n:Int):Nat:=if k=1 then foldI n else (n%18446744073709551616).toNat
def bf(k:Int):Nat:=(k%18446744073709551616).toNat
def nC(k n:Int)(s:ByteArray):List UInt8:=aD (bf k)++aD (ue k n)++(aD s.size++dh s)
theorem AY(k:Int):IntKind.u64.wrap k=(bf k:Int):=by unfold bf;show k%2^64=_;omega
theorem fI(k:Int):bf k<18446744073709551616:=by unfold bf;omega
theorem atQ(n:Int)(h:-9223372036854775808<=n)(i:n<=9223372036854775807):foldI n<18446744073709551616:=by unfold foldI;split <;> omega
theorem Kl(k n:Int)(h:-9223372036854775808<=n)(i:n<=9223372036854775807):ue k n<18446744073709551616:=by
 unfold ue;split
 ·exact atQ n h i
 ·exact fI n
theorem Reads.conv(w:World)(s:ByteArray)(c:Nat)(x:Nat×Nat)(e:TypeId):Reads (w.alloc (.cells (bytesRow s c) e x)) (w.heap.size+1) 1 (some ⟨w.heap.size,0,none⟩) s.size (dy (dh s)) :=
 ⟨aj,λ_=>⟨w.heap.size,0,rfl,af,λj u hu=>by
  have y:=heap_alloc_new w (.cells (bytesRow s c) e x);simp only[World.cell?,y];have t:j<s.data.size:=by exact UK
  have A:j<s.size:=t;simp[bytesRow,Array.getElem?_append,A];simp[dy]at hu;obtain⟨a,i,rfl⟩:=hu;rw[Array.getElem?_eq_getElem t]at i;injection i with i;rw[i]⟩⟩
theorem abh(A:Option Addr)(m c:Nat)(l:List UInt8)(k n:Int)(s:ByteArray)(w:World)(B:Nat)(hR:Reads w B 1 A m (dy l))(hB:B<=w.heap.size)(hm:m<=900000000)(H:s.size<=900000000)
 (j:-9223372036854775808<=n) (y:n<=9223372036854775807) :
 Calls prog 225 #[.slice A m c,vv k n s] w λe w' =>
  ∃u,e=.returned u/\Own w' w.heap.size 5 u (l++nC k n s)/\Below w.heap.size w w':=by
 have hnl:=Kl k n j y
 have oU:=fI k
 have I:=cG _ oU
 have G:=cG _ hnl
 have C:l.length=m:=E4
 have Hml:=ae C
 clear C
 generalize t:ue k n=NV at *
 generalize D:bf k=KN at *
 have YM:=ae t
 have HKN:=ae D
 clear t D
 have F:=λW=>run_bytes_of_string (P:=prog) W 9 42 5 s underlying9 underlying42 underlying5
 have ake:Below w.heap.size w (w.alloc (.cells #[.int .i64 k,.int .i64 n,.string s] 79)):=(aN _ _).alloc (aG _) _
 by_cases hk:k=1
 rotate_left
 ·have E:(k==1)=false:=pc;have i:Hid (bf n=NV):=by rw[<- YM.aa];exact ae (by simp[ue,hk];rfl)
  clear hk;go_enter func225,ntmps225;go_wp2_with fail
  rw[AY n,i.aa];exact adX
 ·have E:(k==1)=true:=pc;have i:Hid (foldI n=NV):=by rw[<- YM.aa];exact ae (by simp[ue,hk])
  clear hk;go_enter func225,ntmps225;go_wp2_with fail
  refine (aqL n _ j y).mono ?_;rintro e w'⟨rfl,rfl⟩;rw[i.aa];go_wp2_with fail
  exact adX
def Rd(w:World)(g:Nat)(l:List UInt8)(wr:Bool):Prop :=
 ∃A c,ai w g 244 #[.slice A l.length c,.bool wr]/\Reads w g 1 A l.length (dy l)/\l.length<=c/\c<=2199023255552
def iG(l:List UInt8):Nat:=l.foldl (λn b=>n*256+b.toNat) 0
def aC(l:List UInt8)(wr:Bool):Nat×List UInt8×Bool :=
 match l with
 | []=>(0,l,true)
 | b :: r =>
  if wr||decide (8<b.toNat)||decide (r.length<b.toNat)||(decide (0<b.toNat)&&r.head?==some 0)then (0,l,true)
  else (iG (r.take b.toNat),r.drop b.toNat,false)
theorem Om(A:Option Addr)(n c:Nat)(l:List UInt8)(w:World)(B:Nat)(hR:Reads w B 1 A n (dy l))(y:B<=w.heap.size)(hn:n<=1000000000) :
 Calls prog 101 #[.slice A n c] w λe w' =>
  ∃g,e=.returned (.pointer (some ⟨g,0,none⟩))/\w.heap.size<=g/\Rd w' g l false/\Below w.heap.size w w':=by
 have t:l.length=n:=E4
 subst t
 go_enter func101,ntmps101
 go_wp2_with fail
 refine (Ol A _ c l 0 w B hR y af af af).mono ?_
 rintro e s⟨g,cap,rfl,i,hb,j,u⟩
 go_wp2
 go_ret
 refine⟨s.heap.size,rfl,hb.size,⟨_,_,ai.new _ _ _,?_,?_,?_⟩,hb.alloc hb.size _⟩
 ·exact (Reads.xz i).below (Below.alloc (aN _ _) (aG _) _) (aG _)
 ·exact j
 ·exact u
theorem vY(l:List UInt8):((l.length:Int)==0)=l.isEmpty:=by cases l <;> simp;omega
theorem Oa(g:Nat)(l:List UInt8)(wr:Bool)(w:World)(h:Rd w g l wr) :
 Calls prog 110 #[.pointer (some ⟨g,0,none⟩)] w λe w'=>e=.returned (.bool (!wr&&l.isEmpty))/\w=w':=by
 obtain⟨A,c,hb,u,s,t⟩:=h
 have i:=hb.cell 1
 have j:=hb.cell 0
 simp at i j
 cases wr
 ·go_enter func110,ntmps110;go_wp2;go_ret;exact⟨by show Ending.returned (.bool _)=_;rw[vY];rfl,rfl⟩
 ·go_enter func110,ntmps110;go_wp2;go_ret;exact⟨rfl,rfl⟩
def nD(g:Nat)(l:List UInt8)(wr:Bool)(w w':World):Prop:=Rd w' g l wr/\w.grownBy w' (some g)
theorem aox(g:Nat)(l:List UInt8)(wr:Bool)(w:World)(h:Rd w g l wr)(s:(aC l wr).2.2=true) :
 Calls prog 103 #[.pointer (some ⟨g,0,none⟩)] w λe w'=>e=.returned (.int .u64 0)/\nD g l true w w':=by
 obtain⟨A,c,hb,hr,h1,h2⟩:=h
 have E:=hb.cell 1
 have t:=hb.cell 0
 have L:=hb.frozen 1
 simp at E t
 have ze:∀W:World,W=w.setCell ⟨g,1,none⟩ (.bool true)->nD g l true w W:=by rintro W rfl;exact adY
 cases wr
 ·cases l with
  | nil => exact Km
  | cons b r =>
   obtain⟨y,B,rfl,H,u⟩:=hr.2 aj;have M:w.cell? ⟨y,B,none⟩=some (.int .u8 (b.toNat:Int)):=u 0 _ UH;simp only[iE]at t h1 hb;have J:b.toNat<256:=b.toNat_lt;by_cases h8:8<b.toNat
   ·have F:(8:Int)<(b.toNat:Int):=af;exact Km
   ·have F:¬(8:Int)<(b.toNat:Int):=af;by_cases h9:r.length<b.toNat
    ·have C:(r.length:Int)+1<1+(b.toNat:Int):=af;exact Km
    ·have C:¬(r.length:Int)+1<1+(b.toNat:Int):=af;cases r with
     | nil =>
      have D:b.toNat=0:=by simp at h9;omega
      simp[aC,D]at s
     | cons x r =>
      have i:(x==0)=true/\0<b.toNat:=by
       simp only[aC]at s;split at s
       ·rename_i j;simp[h8]at j;rcases j with j|j
        ·simp at h9;omega
        ·simp[j.2];omega
       ·simp at s
      obtain⟨i,G⟩:=i;have i:x=0:=by simpa using i
      subst i;have I:w.cell? ⟨y,B+1,none⟩=some (.int .u8 0):=u 1 _ UH;clear u;simp only[iE]at t h1 hb C h9;exact Km
 ·exact Km
theorem Reads.at_{w:World}{B:Nat}{A:Option Addr}{l:List UInt8}{n:Nat}(h:Reads w B 1 A n (dy l))(h0:0<l.length) :
 ∃b i,A=some ⟨b,i,none⟩/\b<B/\∀j (s:j<l.length),w.cell? ⟨b,i+j,none⟩=some (.int .u8 (l[j].toNat:Int)):=by
 obtain⟨b,i,e,hb,t⟩:=h.2 OJ
 exact⟨b,i,e,hb,λj s=>t j _ (UI l j s)⟩
theorem TR(l:List UInt8)(b:UInt8):iG (l++[b])=iG l*256+b.toNat:=by simp[iG]
theorem Kn(l:List UInt8):iG l<256^l.length:=by
 induction h:l.length generalizing l with
 | zero=>simp[List.eq_nil_of_length_eq_zero h,iG]
 | succ n j =>
  have i:l≠[]:=by rintro rfl;simp at h
  rw[<- List.dropLast_concat_getLast i,TR];have:=j l.dropLast tQ;have hb:=(l.getLast i).toNat_lt;rw[Nat.pow_succ];omega
theorem aoy(g:Nat)(b:UInt8)(r:List UInt8)(w:World)(h:Rd w g (b :: r) false)(h8:b.toNat<=8)(hl:b.toNat<=r.length)(M:0<b.toNat->∃x D,r=x :: D/\0<x.toNat) :
 Calls prog 103 #[.pointer (some ⟨g,0,none⟩)] w λe w'=>e=.returned (.int .u64 (iG (r.take b.toNat):Nat))/\nD g (r.drop b.toNat) false w w':=by
 obtain⟨A,c,hb,Q,h1,F⟩:=h
 have W:=hb.cell 1
 have G:=hb.cell 0
 have QW:=hb.frozen 0
 simp at W G
 obtain⟨y,t,rfl,S,C⟩:=Q.at_ aj
 have hc1:=C 0 aj
 simp at hc1
 have B:=ae C
 clear C
 simp only[iE]at G h1 hb
 generalize E:b.toNat=N at *
 have HN:=ae E
 clear E
 have wI:¬(8:Int)<(N:Int):=af
 have Me:¬(r.length:Int)+1<1+(N:Int):=af
 have ze:∀(A':Option Addr) (m s:Nat),m=r.length-N->(0<m->A'=some ⟨y,t+(1+N),none⟩)->m<=s->s<=c->nD g (r.drop N) false w (w.setCell ⟨g,0,none⟩ (.slice A' m s)):=by
  rintro A' m s rfl U hm hc';have hb':=hb.aR 0 (.slice A' (r.length-N) s);refine⟨⟨A',s,by simpa using hb',⟨aj,λR=>?_⟩,by simpa using hm,af⟩,E3 (Dl _ _) rfl _⟩;simp at R;refine⟨y,t+(1+N),U af,S,λj u hu=>?_⟩;rw[World.cell?_setCell_other _ _ _ _ (by intro e;injection e;omega)];have L:j<(r.drop N).length:=by exact UK
  rw[UI _ _ L]at hu;injection hu with hu;rw[<- hu,List.getElem_drop];simp at L;have:=B.aa (1+N+j) aU;rw[show t+(1+N)+j=t+(1+N+j) by omega,this];simp[show 1+N+j=(N+j)+1 by omega]
 by_cases V:0<N
 ·obtain⟨x,D,rfl,dC⟩:=M V;have Y:=B.aa 1 aj;simp at Y;have hxb:((x.toNat:Int)==0)=false:=aU;have X:(0:Int)<(N:Int):=af;generalize hR:x :: D=r at *;clear hR;go_enter func103,ntmps103;go_wp2;go_step3;go_wp2_with fail
  go_loop [3,51] (fun n i=>∃k:Nat,k<=N/\i=.int .i64 (k:Int)/\n=.int .u64 (iG (r.take k):Nat)) (fun _ i=>N-(intOf i).toNat)
  case atStart=>exact⟨0,af,rfl,rfl⟩
  case round =>
   obtain⟨k,hk,rfl,rfl⟩:=hrel;by_cases hlt:k<N
   ·have eF:(k:Int)<(N:Int):=af;have BQ:w.cell? ⟨y,t+(1+k),none⟩=some (.int .u8 (r[k].toNat:Int)):=by have:=B.aa (1+k) aU;simpa [Nat.add_comm 1 k]using this
    have ix:iG (r.take k)<72057594037927936:=by have:=Kn (r.take k);have F:(r.take k).length<=7:=aU;have h3:256^(r.take k).length<=256^7:=Nat.pow_le_pow_right au F;omega
    generalize J:iG (r.take k)=v at *;have H:iG (r.take (k+1))=v*256+r[k].toNat:=by rw[gE af,TR,J]
    have axE:r[k].toNat<256:=r[k].toNat_lt;have I:bits BinOp.or IntKind.u64 ((v:Int)*256) (r[k].toNat:Int)=((v*256+r[k].toNat:Nat):Int):=by rw[show (v:Int)*256=((v*256:Nat):Int) by simp,u64_or_nat _ _ af af,nat_join 8 _ _ af af]
    have O:=ae H;have Z:=ae I;clear J H I;go_wp2;go_round
    case rel=>exact⟨k+1,af,bO,by rw[Z.aa,O.aa]⟩
    case measure=>simp[intOf];omega
   ·have eF:¬(k:Int)<(N:Int):=af;have T:k=N:=af;subst T;exact adZ
 ·obtain rfl:N=0:=af;have X:¬(0:Int)<((0:Nat):Int):=af;go_enter func103,ntmps103;go_wp2;go_step3;go_wp2_with fail
  refine wp_loop_rounds 1 ?_;rw[rounds_succ];exact adZ
theorem sQ(g:Nat)(l:List UInt8)(wr:Bool)(w:World)(h:Rd w g l wr) :
 Calls prog 103 #[.pointer (some ⟨g,0,none⟩)] w λe w'=>e=.returned (.int .u64 ((aC l wr).1:Nat))/\nD g (aC l wr).2.1 (aC l wr).2.2 w w':=by
 by_cases i:(aC l wr).2.2=true
 ·have e:aC l wr=(0,l,true):=by
   unfold aC at i⊢;split at i
   ·rfl
   ·split at i
    ·rename_i j;simp[j]
    ·simp at i
  rw[e];exact aox g l wr w h i
 ·match l,h,i with
  | [],_,i=>simp[aC]at i
  | b :: r,h,i =>
   have j:(wr||decide (8<b.toNat)||decide (r.length<b.toNat)||(decide (0<b.toNat)&&r.head?==some 0))=false:=by
    cases j:(wr||decide (8<b.toNat)||decide (r.length<b.toNat)||(decide (0<b.toNat)&&r.head?==some 0))
    ·rfl
    ·simp only[aC,j]at i;simp at i
   have e:aC (b :: r) wr=(iG (r.take b.toNat),r.drop b.toNat,false):=by simp only[aC,j];rfl
   rw[e]
   simp at j
   obtain⟨⟨⟨rfl,h8⟩,h9⟩,nf⟩:=j
   refine aoy g b r w h h8 h9 λs=>?_
   have:=nf s
   match r,h9,this with
   | [],h9,_=>simp at h9;omega
   | x :: r',_,uz =>
    refine⟨x,r',rfl,?_⟩;rcases Nat.eq_zero_or_pos x.toNat with h|h
    ·exact absurd (by simpa using UInt8.toNat_inj.1 (show x.toNat=(0:UInt8).toNat from h)) uz
    ·exact h
