/-
  Words for memory that the walks of this claim share: a slice that reads as a list of cells, bytes, and how these facts go on when memory grows. Conditions: none.
-/
import Derived.Test.YtcjlnlcpodcldaaGreatProg
import Derived.Test.YtcjlnlcpodcldaaGreatMsz
set_option maxRecDepth 100000
set_option maxHeartbeats 16000000
set_option linter.all false
namespace Go.Proofs.YtcjlnlcpodcldaaGreat
open Go Go.RowKit _root_.Go.Proofs.Tryz
open List renaming length→Z
open _root_.Array renaming size→D
open Go.World renaming heap→L,alloc→aU,setCell→aV
open Go.Value renaming ownBlock→aW
open Go.Value renaming int→G,slice→F,pointer→aj,bool→ar,tuple→au,agg→av,string→aw
open Go.IntKind renaming i64→J,u64→E
open Option renaming none→U,some→I
open Go.Ending renaming returned→ak
open Go.Obj renaming cells→aq
open Go.World renaming setCell→ax,alloc→ay
open Bool renaming false→az,true→aA
open And renaming intro→aB
open List renaming lookup→aC,getElem?_eq_getElem→aE,getElem?_eq_some_iff→aF
open _root_.Array renaming getElem?_toList→aD,getElem?_eq_some_iff→aG
open Nat renaming le_succ→aH
open Or renaming inl→aI,inr→aJ
open Go renaming Calls→aK,execOp→aL,bodyPost_ret→aM,World→aP,Value→aQ
open Go.RowKit renaming Below→aN,intOf→aO
open _root_.Go.Proofs.Tryz renaming prog→aR
section
variable {P:Program}{f:FuncId}{args:Array aQ}{w w0:aP}{X:aQ}{R:aP->Prop}{S:aQ->aP->Prop}{Q:Ending->aP->Prop}
theorem bW(h:aK P f args w λe w'=>e=ak X/\R w')(k:∀w',R w'->Q (ak X) w'):aK P f args w Q:=h.mono λ_ w' ⟨e,r⟩=>e▸k w' r
theorem dP(h:aK P f args w λe w'=>∃v,e=ak v/\S v w')(k:∀v w',S v w'->Q (ak v) w'):aK P f args w Q:=h.mono λ_ w' ⟨v,e,r⟩=>e▸k v w' r
theorem eu(h:aK P f args w λe w'=>e=ak X/\aN (D (L w)) w w')(j:aN (D (L w0)) w0 w)(k:∀w',aN (D (L w)) w w'->aN (D (L w0)) w0 w'->Q (ak X) w'):aK P f args w Q:=bW h λw' r=>k w' r (j.trans (r.mono j.size))
theorem tY(h:aK P f args w λe w'=>∃v,e=ak v/\S v w'/\aN (D (L w)) w w')(j:aN (D (L w0)) w0 w)(k:∀v w',S v w'->aN (D (L w)) w w'->aN (D (L w0)) w0 w'->Q (ak v) w'):aK P f args w Q:=dP h λv w' r=>k v w' r.1 r.2 (j.trans (r.2.mono j.size))
end
abbrev im(w:aP)(b o:Nat):Option aQ:=w.cell? ⟨b,o,U⟩
def Reads(w:aP)(B size:Nat)(A:Option Addr)(n:Nat)(xs:List aQ):Prop :=
 (Z xs)=n*size/\(0<Z xs->∃b t,A=I ⟨b,t,U⟩/\b<B/\∀j u,xs[j]?=I u->w.cell? ⟨b,t+j,U⟩=I u)
theorem KP{w:aP}{a u}(h:w.cell? a=I u):a.block<D (L w):=World.block_lt_of_cell? w a h
section
variable {w w':aP}{B B' size n:Nat}{A:Option Addr}{xs:List aQ}
theorem Reads.nil w B size A:Reads w B size A 0 []:=⟨bu,λh=>absurd h bu⟩
theorem Reads.keep(h:Reads w B size A n xs)(hk:∀k,k<B->w'.heap[k]?=w.heap[k]?):Reads w' B size A n xs :=⟨h.1,λH=>by
 obtain⟨b,y,e,t,C⟩:=h.2 H;exact⟨b,y,e,t,λj u z=>(World.cell?_of_block (hk b t)).trans (C j u z)⟩⟩
theorem Reads.more(h:Reads w B size A n xs)(z:B<=B'):Reads w B' size A n xs :=⟨h.1,λy=>by
 obtain⟨b,j,e,C,t⟩:=h.2 y;exact⟨b,j,e,aZ,t⟩⟩
theorem Reads.below{C}(h:Reads w B size A n xs)(hb:aN C w w')(t:B<=C):Reads w' B size A n xs:=h.keep λ_ j=>hb.block _ (by omega)
theorem Reads.drew(h:Reads w B size A n xs):Reads w.drew B size A n xs:=h
theorem Reads.len(h:Reads w B 1 A n xs):Z xs=n:=by simpa using h.1
theorem Reads.cut(h:Reads w B 1 A n xs) l m cap(C:l<=m)(hm:m<=n)(N:n<=cap) :Reads w B 1 (if cap=l then A else A.map (·.add l)) (m-l) ((xs.take m).drop l):=by have:=h.len;refine⟨bL,λz=>?_⟩;simp at z;obtain⟨b,t,rfl,y,O⟩:=h.2 aZ;rw[bQ aZ];refine⟨b,t+l,by simp[Addr.add_lit],y,λj u H=>?_⟩;grind
theorem Reads.B4{base e c}(h:w.ownsRow base e size (F A n c) n xs):Reads w (D (L w)) size A n xs:=by
 refine⟨h.1,λz=>?_⟩;rcases h.2 with ⟨_,rfl⟩|⟨g,B,cur,t,_,C,_,_,_,H⟩;have:=h.1;simp at this;subst this;simp at z;injection t with hA;subst hA;refine⟨g,0,rfl,?_,λj u y=>?_⟩
 .grind
 have:=h.cells (g:=g) rfl j u y;simpa [Addr.add_lit]using this
end
theorem E2(w:aP) row:w.grownBy w row:=World.grownBy.refl w row
theorem Gu{a w:aP}{row}(h:a.grownBy w row) o:a.grownBy (aU w o) row :=
 ⟨h.os,h.tape,h.output,cQ h.size bu,λi j t=>(Below.heap_alloc w o i (cZ j h.size)).trans (h.block i j t)⟩
theorem Gz{a w:aP}{g}(h:a.grownBy w (I g)){p}(t:p.block=g) u:a.grownBy (aV w p u) (I g) :=
 ⟨h.os,h.tape,h.output,aid,λi y j=>(Below.heap_setCell w p u i (by rintro rfl;exact j (by rw[t]))).trans (h.block i y j)⟩
theorem BN{a w:aP}{row}(h:a.grownBy w row){p}(y:D (L a)<=p.block) u:a.grownBy (aV w p u) row :=
 ⟨h.os,h.tape,h.output,aid,λi j t=>(Below.heap_setCell w p u i aZ).trans (h.block i j t)⟩
theorem zC{a w}(h:aN (D (L a)) a w) row:a.grownBy w row:=⟨h.os,h.tape,h.output,h.size,λi j _=>h.block i j⟩
theorem rm{a b c:aP}{row}(h:a.grownBy b row)(k:b.grownBy c row):a.grownBy c row:=h.trans k
theorem nj{a w g B}(h:a.grownBy w (I g))(t:B<=g)(hz:B<=D (L a)):aN B a w :=
 ⟨h.os,h.tape,h.output,h.size,λi j=>h.block i aZ (by intro e;injection e with e;omega)⟩
def fW(l:List UInt8):List aQ:=l.map λb=>G .u8 (b.toNat:Int)
@[simp] theorem aJ5 (l:List UInt8):Z (fW l)=Z l:=by simp[fW]
theorem Nl a b:fW (a++b)=fW a++fW b:=by simp[fW]
theorem yd l:∀u∈fW l,u.oneCell'=true:=by intro u j;obtain⟨_,_,rfl⟩:=List.mem_map.1 j;rfl
theorem aie l j(h:j<Z l):(fW l)[j]?=I (G .u8 (l[j].toNat:Int)):=by simp[fW,h]
theorem Reads.pre{w B A n l}(h:Reads w B 1 A n (fW l)) k(hk:k<=n):Reads w B 1 A k (fW (l.take k)):=by
 have:Z l=n:=by simpa using h.len
 refine⟨cN,λj=>?_⟩;simp at j;obtain⟨b,t,e,z,C⟩:=h.2 cN;grind [fW]
theorem Reads.post{w B A A' n l}(h:Reads w B 1 A n (fW l)) k(hA:k<n->A'=A.map (·.add k)):Reads w B 1 A' (n-k) (fW (l.drop k)):=by
 have:Z l=n:=by simpa using h.len
 refine⟨cN,λz=>?_⟩;simp at z;obtain⟨b,t,rfl,C,H⟩:=h.2 cN;refine⟨b,t+k,by rw[hA (by omega)];simp[Addr.add_lit],C,λj u y=>?_⟩;rw[Nat.add_assoc];refine H _ u ?_;rw[<- y];unfold fW;simp
theorem aif{P} w y t e(M:P.underlying y=some (.slice e))(H:P.underlying e=some (.int .u8))(z:P.underlying t=some .string) B A n c l(hR:Reads w B 1 A n (fW l)):(convert y t (F A n c)).run P w=.ok (aw ⟨l.toArray⟩) w:=by
 have Q:Z l=n:=IL;rcases A with _|N
 .have h0:l=[]:=by
   rcases Nat.eq_zero_or_pos (Z l)with h|h
   .grind
   obtain⟨b,O,e,_⟩:=hR.2 GA;cases e
  subst h0;exact run_convert_bytes_nil w y e M H _ _ t z
 have R:∀j (C:j<Z l),w.cell? (N.add j)=I (G .u8 (l[j].toNat:Int)):=by intro j C;obtain⟨b,O,e,_,S⟩:=hR.2 cN;injection e with e;subst e;rw[Addr.add_lit];exact S j _ (aie l j C)
 rw[<- Q];exact run_convert_bytes_back w y t e N c l M H z R
abbrev Own(w:aP)(base:Nat)(e:TypeId)(v:aQ)(l:List UInt8):Prop:=w.ownsRow base e 1 v (Z l) (fW l)
theorem wZ{w:aP}{base base':Nat}{e:TypeId}{v:aQ}{l l':List UInt8}(hb:base<=base')(h:Own w base' e v l)(j:l=l':=by simp):Own w base e v l':=by subst j;exact aih
theorem Xt{w w' base B e v l}(_:B<=D (L w))(h:Own w base e v l)(hb:aN (D (L w)) w w'):Own w' base e v l:=aii
theorem Rj{w:aP}{base g cap e xs rest n}(hb:base<=g)(hg:w.heap[g]?=I (aq (xs++rest).toArray e (0,0)))(hn:Z xs=n)(j:n+Z rest=cap)(hm:cap<=maxLen) :
 w.ownsRow base e 1 (F (I ⟨g,0,U⟩) n cap) n xs :=
 ⟨by simp[hn],aJ ⟨g,cap,_,rfl,hb,hg,aZ,hm,cN,by simp[hn]⟩⟩
theorem Own.slice{w base e v l}(h:Own w base e v l):∃A c,v=F A (Z l) c/\Reads w (D (L w)) 1 A (Z l) (fW l):=by
 have:=h;rcases h.2 with ⟨rfl,t⟩|⟨g,j,cur,rfl,_⟩
 .grind [List.eq_nil_of_length_eq_zero,Reads.B4]
 grind [Reads.B4]
def bn(w:aP)(g:Nat)(t:TypeId)(cs:Array aQ):Prop:=w.heap[g]?=I (aq cs t (0,0))
section
variable {w w':aP}{g:Nat}{t:TypeId}{cs:Array aQ}
theorem bn.lt(h:bn w g t cs):g<D (L w):=(aG.1 h).1
theorem bn.cell(h:bn w g t cs) i:w.cell? ⟨g,i,U⟩=cs[i]?:=cell_of_row w g i cs t (0,0) h
theorem bn.frozen(h:bn w g t cs) i:w.frozen? ⟨g,i,U⟩=false:=by unfold bn at h;simp[World.frozen?,h]
theorem bn.new(w:aP) t cs:bn (aU w (aq cs t)) (D (L w)) t cs:=heap_alloc_new w _
theorem bn.drew(h:bn w g t cs):bn w.drew g t cs:=h
theorem bn.alloc(h:bn w g t cs) o:bn (aU w o) g t cs:=(Below.heap_alloc w o g h.lt).trans h
theorem bn.cH(h:bn w g t cs) i u:bn (aV w ⟨g,i,U⟩ u) g t (cs.setIfInBounds i u):=by unfold bn at h|-;simp[ax,Array.getElem?_modify,h]
theorem bn.far(h:bn w g t cs){p}(j:g≠p.block) u:bn (aV w p u) g t cs:=(Below.heap_setCell w p u g j).trans h
theorem bn.grown{row}(h:bn w g t cs)(hb:w.grownBy w' row)(hg:I g≠row):bn w' g t cs:=(hb.block g h.lt hg).trans h
theorem bn.below{B}(h:bn w g t cs)(hb:aN B w w')(hg:g<B):bn w' g t cs:=(hb.block g hg).trans h
theorem bn.bM(h:bn w g t cs)(hb:aN (D (L w)) w w'):bn w' g t cs:=h.below hb h.lt
end
theorem Na{P a w Q c rest} l(t:findLabel c l=I rest)(first:c.wp P (Exit.jump l (λa w=>rest.wp P (Exit.noGoto Q) a w) Q) a w):(Code.scope c).wp P Q a w:=by
 refine wp_scope_jumps l _ (λ_ _=>0) t first ?_
 intro a w h;refine wp_mono h ?_;intro e a w j;cases e <;> first|exact j|exact False.elim j
structure gQ(P:Program)(t e:TypeId)(z:aQ)(size bytes:Nat):Prop where
 und:P.underlying t=some (.slice e)
 info:(P.info? e).map (λi=>(i.zero,i.size,i.bytes))=I (I z,size,bytes)
 zsz:z.cells.size=size
 pos:0<size
theorem gQ.fit{P t e z size bytes}(h:gQ P t e z size bytes) :
 ∃i,P.info? e=I i/\i.zero=I z/\i.size=size/\i.bytes=bytes:=info_parts h.info
section
variable {P:Program}
theorem GC w base t ty e z size bytes(T:gQ P t e z size bytes) v n xs(hown:w.ownsRow base e size v n xs) B A m c y(N:Reads w B size A m y)(W:∀u∈y,u.oneCell'=aA)(V:(n+m)*(bytes+1)<=140737488355328)(hbase:base<=D (L w)) :∃v' w',(Builtin.append_ #[t,t] ty #[v,F A m c]).run P w=.ok v' w'/\w'.ownsRow base e size v' (n+m) (xs++y)/\w.grownBy w' (aW v) /\(aW v'=aW v\/aW v'=I (D (L w)))/\aN base w w':=by
 obtain⟨i,C,O,R,S⟩:=T.fit;have M:=T.pos;have Q:=cQ (Nat.mul_le_mul_left _ (aH _)) V;have sF:=cQ (Nat.le_mul_of_pos_right _ aZ) V;rcases Nat.eq_zero_or_pos (Z y)with H|H
 .obtain rfl:y=[]:=List.eq_nil_of_length_eq_zero H;have hm:m=0:=by have:=N.1;simp only[List.length_nil]at this;rcases Nat.eq_zero_or_pos m with h|h;exact h;have:=Nat.mul_pos h M;omega
  subst hm;rcases A with _|X
  .refine⟨v,w,?_,bL,World.grownBy.refl w _,aI rfl,eP _ _⟩;rcases hown.2 with ⟨rfl,rfl⟩|⟨g,cap,cur,rfl,_,_,hnc,_⟩
   .simp[Builtin.append_,run_underlying T.und,sizeOf,typeInfo,C,Builtin.lenOf,Builtin.firstCells]
   simp[Builtin.append_,run_underlying T.und,sizeOf,typeInfo,C,Builtin.lenOf,Builtin.firstCells,hnc,storeCells]
  obtain⟨v',w',hrun,h2,h3,_,h5⟩:=run_append_own_at (P:=P) w base t ty e i z size bytes T.und C O R S T.zsz M v n xs hown X 0 c [] bu bu bu E3 Q hbase;exact aij
 obtain⟨b,Y,rfl,_,hc⟩:=N.2 H;obtain⟨v',w',hrun,h2,h3,_,h5⟩:=run_append_own_at (P:=P) w base t ty e i z size bytes T.und C O R S T.zsz M v n xs hown ⟨b,Y,U⟩ m c y N.1 (λj u hu=>by rw[Addr.add_lit];exact hc j u hu) W E3 Q hbase;exact aij
theorem nZ{w ops rest o a Q}(y:o.guard=U) s x t(N:o.op=.call { callee:=.builtin .append,args:=#[s,x],argTypes:=#[t,t] }) base e z size bytes(T:gQ P t e z size bytes) v n xs(hs:a.eval s=v)(C:w.ownsRow base e size v n xs) B A m c j(hx:a.eval x=F A m c)(S:Reads w B size A m j)(W:∀u∈j,u.oneCell'=aA)(hbytes:(n+m)*(bytes+1)<=140737488355328)(H:base<=D (L w))(h:∀v' w',w'.ownsRow base e size v' (n+m) (xs++j)->w.grownBy w' (aW v)->(aW v'=aW v\/aW v'=I (D (L w)))->aN base w w'->wpList P ops Q rest (a.put o.dst v') w') :wpList P ops Q (o :: rest) a w:=by
 refine wpList_plain y λK V=>?_
 obtain⟨v',w',M,O,Y,R,X⟩:=GC w base t o.type e z size bytes T v n xs C B A m c j S W hbytes H;unfold Oper.wp aL;simp only[N,resolve,invoke,builtin,Sem.run_bind,Sem.run_pure,Result.andThen_ok,List.map_toArray,mN,List.map_nil,hs,hx,M];exact V _ _ (h v' w' O Y R X)
theorem Reads.new(w:aP) cs t size n(h:Z cs=n*size):Reads (aU w (aq cs.toArray t)) (D (L w)+1) size (I ⟨D (L w),0,U⟩) n cs :=⟨h,λ_=>⟨D (L w),0,rfl,aZ,λj u y=>by
 have z:=heap_alloc_new w (aq cs.toArray t);simp only[World.cell?,z];simpa using y⟩⟩
end
theorem aaS:(prog.info? 5).map (λi=>(i.zero,i.size,i.bytes))=I (I (G .u8 0),1,1):=by kernel_rfl
theorem RT A n c l more w B(y:Reads w B 1 A n (fW l))(hB:B<=D (L w))(hn:n<=1099511627776)(S:0<=more)(Y:more<=1099511627776) :aK aR 196 #[F A n c,G J more] w λe z =>∃g t,e=ak (F (I ⟨g,0,U⟩) n t)/\z.ownsRow (D (L w)) 5 1 (F (I ⟨g,0,U⟩) n t) n (fW l)/\aN (D (L w)) w z/\n<=t/\t<=2199023255552:=by
 obtain⟨m,rfl⟩:=Int.eq_ofNat_of_zero_le S;obtain⟨i,O,Q,M,hz2⟩:=info_parts aaS;have:∀W:aP,(Instr.makeSlice 118 (G J n) (G J ((n:Int)+m))).run aR W=.ok (F (I ⟨D (L W),0,U⟩) n (n+m)) (aU W (aq (madeCells #[G .u8 0] (n+m)) 5)):=by intro W;have h:=run_make (P:=aR) W 118 5 i (G .u8 0) underlying118 O Q J J (n:Int) ((n:Int)+m) aZ aZ Ym aZ;rw[M]at h;simpa [Value.cells,show ((n:Int)+m).toNat=n+m from by omega]using h
 go_in;go_wp2_with (with_reducible refine wpList_copy_splice rfl (.tmp 13) (.tmp 14) 118 118 rfl 5 underlying118 (by rw[O];simp[M]) _ A _ _ _ _ rfl rfl (D (L w)) 0 (List.replicate (n+m) (G .u8 0)) 5 ?hg (fW l) ?hn ?hpos ?hfit (yd l) (D (L w)) w ?H (bP _) ?_)
 case hg=>rw[heap_alloc_new,<- toList_madeCells_one]
 case hn=>rw[y.len];simp
 case hpos => intro h0;obtain⟨b,off,rfl,H,X⟩:=y.2 NR;refine⟨_,rfl,λj v V=>?_⟩;rw[Addr.add_lit,World.cell?_alloc_lt _ _ _ cN];exact X j v V
 case hfit=>rw[y.len];simp
 case H=>exact (eP _ _).alloc (bP _) _
 intro w2 R T;go_wp2;go_ret;refine⟨_,_,rfl,?_,T,aZ,aZ⟩;have C:=R.aX;have N:=y.len;rw[show splice (List.replicate (n+m) (G .u8 0)) 0 (fW l)=fW l++List.replicate m (G .u8 0)from by simp only[splice];simp[show Z l=n from by simpa using N]]at C;exact Rj (bP _) C N bu E3
def iP(n:Nat):Nat:=if n=0 then 0 else iP (n/256)+1
decreasing_by omega
theorem KE:iP 0=0:=by grind [iP]
theorem RU n(h:0<n):iP n=iP (n/256)+1:=by grind [iP]
theorem NI k:∀n,n<256^k->iP n<=k:=by
 induction k with
 | zero => intro n h;have:n=0:=Dz;subst this;simp[KE]
 | succ k j => grind [iP]
theorem avK(n:Nat)(hn:n<18446744073709551616) w :aK aR 304 #[G E n] w λe z=>e=ak (G J (iP n:Nat))/\w=z:=by
 have A:=NI 8 n aZ;go_in;go_wp2_with fail
 go_loop [0,3] (fun x c=>∃m k:Nat,m<=n/\k+iP m=iP n/\x=G E m/\c=G J k) (fun x _=>(aO x).toNat)
 case atStart=>exact⟨n,0,bP _,aZ,rfl,rfl⟩
 case round =>
  obtain⟨m,k,hm,y,rfl,rfl⟩:=hrel;have t:=aY y;have C:k<=8:=aZ;rcases Nat.eq_zero_or_pos m with j|j
  .subst j;go_wp2;go_ret;have e:k=iP n:=by have:=t.aX;rw[KE]at this;omega
   exact⟨by rw[<- e];rfl,rfl⟩
  go_wp2;have B:=RU m j;go_round
  case rel=>exact⟨m/256,k+1,aZ,by have:=t.aX;omega,bu,dh⟩
  case measure=>simp[aO];omega
def be:Nat->Nat->List UInt8
 | 0,_=>[]
 | k+1,n=>UInt8.ofNat (n/256^k) :: be k n
def bO(n:Nat):List UInt8:=UInt8.ofNat (iP n) :: be (iP n) n
theorem xW k n:Z (be k n)=k:=by
 induction k generalizing n with
 | zero=>rfl
 | succ k j=>simp[be,j]
theorem aCF N n k(h:k<N):(be N n)[k]?=I (UInt8.ofNat (n/256^(N-1-k))):=by
 induction N generalizing k with
 | zero=>omega
 | succ N j =>
  cases k with
  | zero=>simp[be]
  | succ k => grind [be]
theorem aA6 N n k(h:k<N):(be N n).take (k+1)=(be N n).take k++[UInt8.ofNat (n/256^(N-1-k))]:=by grind [List.take_add_one,aCF]
theorem agy(n j:Nat):((n:Int)/2^(8*j)%256)=((UInt8.ofNat (n/256^j)).toNat:Int):=by rw[show (256:Nat)^j=2^(8*j) by rw[Nat.pow_mul]];simp
theorem fu n(h:n<18446744073709551616):Z (bO n)<=9:=by simp_all [NI,bO,xW]
theorem TB:gQ aR 118 5 (G .u8 0) 1 1:=⟨underlying118,aaS,rfl,bG⟩
theorem ae2 v l(n:Nat)(hn:n<18446744073709551616) w base(C:Own w base 5 v l)(A:base<=D (L w))(hl:Z l<=1099511627776) :aK aR 262 #[v,G E n] w λe j =>∃z,e=ak z/\Own j base 5 z (l++bO n)/\aN base w j:=by
 have aDu:=NI 8 n aZ;go_in;go_wp2_with fail
 apply bW (avK n hn _);rintro j rfl;generalize hN:iP n=N at *;have HN:=aY hN;have hNu:(UInt8.ofNat N).toNat=N:=cN;have Q:=aY hNu;go_wp2_with (at_builtin;refine nZ rfl _ _ 118 rfl base 5 _ 1 1 TB _ _ _ rfl (C.alloc _) (D (L w)+1) _ 1 1 (fW [UInt8.ofNat N]) rfl ?c1 ?c2 ?c3 ?c5 ?_)
 case c1 => have:=Reads.new w (fW [UInt8.ofNat N]) 5 1 1 rfl;simpa [fW,Q.aX]using this
 case c2=>exact yd _
 case c3=>omega
 case c5=>simp;omega
 intro T B X hg1 aKb O;have fY:=((eP _ _).alloc A _).trans O;have Y:Own B base 5 T (l++[UInt8.ofNat N]):=by unfold Own;rw[Nl];simpa using X
 go_wp2_with fail
 go_loopw [0,15] (fun u i wr=>∃k:Nat,k<=N/\i=G J k/\Own wr base 5 u (l++[UInt8.ofNat N]++(be N n).take k)/\aN base w wr) (fun _ i _=>N-(aO i).toNat)
 case atStart=>exact⟨0,aZ,rfl,by simpa using Y,fY⟩
 case round =>
  obtain⟨k,hk,rfl,y,t⟩:=hrel;have R:=cQ A t.size;by_cases H:k<N
  .have hi:(k:Int)<N:=aZ;have V:=aY (agy n (N-1-k));have LM:=aY (aA6 N n k H);have hlen:Z (l++[UInt8.ofNat N]++(be N n).take k)<=Z l+9:=by simp[xW];omega
   go_wp2_with (at_builtin;refine nZ rfl _ _ 118 rfl base 5 _ 1 1 TB _ _ _ rfl (xj y _) (D (L wr)+1) _ 1 1 (fW [UInt8.ofNat (n/256^(N-1-k))]) rfl ?d1 ?d2 ?d3 ?d5 ?_)
   case d1 => have:=Reads.new wr (fW [UInt8.ofNat (n/256^(N-1-k))]) 5 1 1 rfl;rw[V.aX];exact this
   case d2=>exact yd _
   case d3=>omega
   case d5=>simp;omega
   intro v2 w2 GM kJ O5 dB;have S:=(t.alloc R _).trans dB;have M:Own w2 base 5 v2 (l++[UInt8.ofNat N]++(be N n).take (k+1)):=by unfold Own;rw[LM.aX,<- gA,Nl];simpa [Nat.add_assoc]using GM
   go_wp2;go_roundw
   case rel=>exact⟨k+1,aZ,dh,M,S⟩
   case measure=>simp[aO];omega
  have hge:¬(k:Int)<N:=aZ;have W:Hid (Own wr base 5 u0 (l++bO n)):=by unfold bO;rw[HN.aX];have:(be N n).take k=be N n:=jq (by rw[xW];omega);rw[this]at y;exact aY (by simpa using y)
  go_wp2;go_ret;exact⟨_,rfl,W.aX,t⟩
theorem zD A m c l(n:Nat)(hn:n<18446744073709551616) w B(hR:Reads w B 1 A m (fW l))(H:B<=D (L w))(hm:m<=1000000000) :aK aR 202 #[F A m c,G E n] w λe t =>∃j,e=ak j/\Own t (D (L w)) 5 j (l++bO n)/\aN (D (L w)) w t:=by
 have:Z l=m:=IL;go_in;go_wp2_with fail
 refine (RT A m c l 9 w B hR H aZ aZ aZ).mono ?_;rintro e C⟨g,Q,rfl,N,y,_,_⟩;go_wp2_with fail
 apply dP (ae2 _ l n hn C (D (L w)) bL y.size aZ);rintro j R⟨z,M⟩;go_wp2;go_ret;exact⟨_,rfl,z,y.trans M⟩
theorem Rs A O m c k d l b w B(hR:Reads w B 1 A m (fW l))(Q:Reads w B 1 O k (fW b))(R:B<=D (L w))(hm:m<=1000000000)(hk:k<=1000000000) :aK aR 204 #[F A m c,F O k d] w λe z =>∃j,e=ak j/\Own z (D (L w)) 5 j (l++bO (Z b)++b)/\aN (D (L w)) w z:=by
 have N:Z l=m:=IL;have C:Z b=k:=by simpa using Q.len
 have:=fu k aZ;have t:=aY N;have M:=aY C;clear N C;go_in;go_wp2_with fail
 refine (RT A m c l (9+k) w B hR R aZ aZ aZ).mono ?_;rintro e S⟨g,cap,rfl,W,H,_,_⟩;go_wp2_with fail
 apply dP (ae2 _ l k aZ S (D (L w)) (by unfold Own;rw[t.aX];exact W) H.size (by have:=t.aX;omega));rintro j w2⟨T,X⟩;have y:=H.trans X;have V:=Q.below y R;go_wp2_with (at_builtin;refine nZ rfl _ _ 118 rfl (D (L w)) 5 _ 1 1 TB _ _ _ rfl T B _ k d (fW b) rfl V (yd _) ?d3 y.size ?_)
 case d3=>have:=t.aX;simp;omega
 intro v3 w3 jk kJ O5 Y;go_wp2;go_ret;refine⟨_,rfl,?_,y.trans Y⟩;unfold Own;rw[Nl,M.aX];simpa [M.aX,Nat.add_assoc]using jk
abbrev gE(s:ByteArray):List UInt8:=s.data.toList
def kK(k n:Int)(s:ByteArray):Bool :=
 if k==1 then s.toList.isEmpty else if k==2 then n==0&&decide ((s.size:Int)<=40)else if k==3 then (n==0||n==1)&&s.toList.isEmpty else az
def oG(k n:Int)(s:ByteArray):Int:=if kK k n s then 0 else 10
def foldI(n:Int):Nat:=if n<0 then (-2*n-1).toNat else (2*n).toNat
def ye(n:Nat):Int:=if n%2=1 then -((n/2:Nat):Int)-1 else ((n/2:Nat):Int)
theorem avL n w(z:-9223372036854775808<=n)(y:n<=9223372036854775807) :aK aR 334 #[G J n] w λe t=>e=ak (G E (foldI n:Nat))/\w=t:=by
 by_cases j:n<0;have e:(foldI n:Int)=-2*n-1:=by simp[foldI,j];omega
 have HE:=aY e;clear e;exact Sk;have e:(foldI n:Int)=2*n:=by simp[foldI,j];omega
 have HE:=aY e;clear e;exact Sk
theorem ae3(n:Nat) w(hn:n<18446744073709551616) :aK aR 302 #[G E n] w λe j=>e=ak (G J (ye n))/\w=j:=by
 by_cases hm:n%2=1;have e:ye n=-((n/2:Nat):Int)-1:=by simp[ye,hm]
 have HE:=aY e;have t:(((n:Int)%2)==1)=true:=cN;clear e hm;exact Sk;have e:ye n=((n/2:Nat):Int):=by simp[ye,hm]
 have HE:=aY e;have t:(((n:Int)%2)==1)=false:=cN;clear e hm;exact Sk
theorem Rt k n s w :aK aR 297 #[av #[G J k,G J n,aw s]] w λe j=>e=ak (G J (oG k n s))/\aN (D (L w)) w j:=by
 go_in;go_wp2;all_goals
  go_ret
  refine⟨?_,(eP _ _).alloc (bP _) _⟩
  show ak (G _ _)=ak (G _ _)
  simp_all [oG,kK]
abbrev vv(k n:Int)(s:ByteArray):aQ:=av #[G J k,G J n,aw s]
def yB(k n:Int):Nat:=if k=1 then foldI n else (n%18446744073709551616).toNat
def cO(k:Int):Nat:=(k%18446744073709551616).toNat
def qJ(k n:Int)(s:ByteArray):List UInt8:=bO (cO k)++bO (yB k n)++(bO s.size++gE s)
theorem Gw k:E.wrap k=(cO k:Int):=by unfold cO;show k%2^64=_;omega
theorem jm k:cO k<18446744073709551616:=by grind [cO]
theorem azb n(t:-9223372036854775808<=n)(j:n<=9223372036854775807):foldI n<18446744073709551616:=by grind [foldI]
theorem NS k n(t:-9223372036854775808<=n)(j:n<=9223372036854775807):yB k n<18446744073709551616:=by grind [yB,azb,jm]
theorem Reads.conv(w:aP) s c x e:Reads (aU w (aq (bytesRow s c) e x)) (D (L w)+1) 1 (I ⟨D (L w),0,U⟩) s.size (fW (gE s)) :=⟨bu,λ_=>⟨D (L w),0,rfl,aZ,λj u hu=>by
 have A:=heap_alloc_new w (aq (bytesRow s c) e x);simp only[World.cell?,A];have y:j<s.data.size:=aik;have z:j<s.size:=y;simp[bytesRow,Array.getElem?_append,z];simp[fW]at hu;obtain⟨a,t,rfl⟩:=hu;rw[Array.getElem?_eq_getElem y]at t;injection t with t;rw[t]⟩⟩
theorem afl A m c l k n s w B(hR:Reads w B 1 A m (fW l))(hB:B<=D (L w))(hm:m<=900000000)(T:s.size<=900000000)(H:-9223372036854775808<=n)(C:n<=9223372036854775807) :aK aR 305 #[F A m c,vv k n s] w λe j =>∃y,e=ak y/\Own j (D (L w)) 5 y (l++qJ k n s)/\aN (D (L w)) w j:=by
 have hnl:=NS k n H C;have tv:=jm k;have:=fu _ tv;have:=fu _ hnl;have M:Z l=m:=IL;have Hml:=aY M;clear M;generalize z:yB k n=NV at *;generalize N:cO k=KN at *;have HNV:=aY z;have HKN:=aY N;clear z N;have:=λW=>run_bytes_of_string (P:=aR) W 9 118 5 s underlying9 underlying118 underlying5
 have an9:aN (D (L w)) w (aU w (aq #[G J k,G J n,aw s] 83)):=(eP _ _).alloc (bP _) _;by_cases hk:k=1;rotate_left
 .have O:(k==1)=false:=vP;have t:Hid (cO n=NV):=by rw[<- HNV.aX];exact aY (by simp[yB,hk];rfl)
  clear hk;go_in;go_wp2_with fail
  rw[Gw n,t.aX];exact ail
 have O:(k==1)=true:=vP;have t:Hid (foldI n=NV):=by rw[<- HNV.aX];exact aY (by simp[yB,hk])
 clear hk;go_in;go_wp2_with fail
 apply bW (avL n _ H C);rintro j rfl;rw[t.aX];go_wp2_with fail
 exact ail
def Rd(w:aP)(g:Nat)(l:List UInt8)(wr:Bool):Prop :=
 ∃A c,bn w g 275 #[F A (Z l) c,ar wr]/\Reads w g 1 A (Z l) (fW l)/\Z l<=c/\c<=2199023255552
def kT(l:List UInt8):Nat:=l.foldl (λn b=>n*256+b.toNat) 0
def bJ(l:List UInt8)(wr:Bool):Nat×List UInt8×Bool :=
 match l with
 | []=>(0,l,aA)
 | b :: r =>
  if wr||decide (8<b.toNat)||decide (Z r<b.toNat)||(decide (0<b.toNat)&&r.head?==I 0)then (0,l,aA)
  else (kT (r.take b.toNat),r.drop b.toNat,az)
theorem Ny A n c l w B(hR:Reads w B 1 A n (fW l))(M:B<=D (L w))(hn:n<=1000000000) :aK aR 132 #[F A n c] w λe t =>∃g,e=ak (aj (I ⟨g,0,U⟩))/\D (L w)<=g/\Rd t g l az/\aN (D (L w)) w t:=by
 have C:Z l=n:=IL;subst C;go_in;go_wp2_with fail
 refine (RT A _ c l 0 w B hR M aZ aZ aZ).mono ?_;rintro e y⟨g,O,rfl,z,j,N,H⟩;go_wp2;go_ret;refine⟨D (L y),rfl,j.size,⟨_,_,bn.new _ _ _,?_,?_,?_⟩,j.alloc j.size _⟩;exact (Reads.B4 z).below (Below.alloc (eP _ _) (bP _) _) (bP _);exact N;exact H
theorem Cf(l:List UInt8):((Z l:Int)==0)=l.isEmpty:=by cases l <;> simp;omega
theorem Nn g l wr w(h:Rd w g l wr) :aK aR 138 #[aj (I ⟨g,0,U⟩)] w λe t=>e=ak (ar (!wr&&l.isEmpty))/\w=t:=by
 obtain⟨A,c,j,C,H,B⟩:=h;have z:=j.cell 1;have y:=j.cell 0;simp at z y;cases wr
 .go_in;go_wp2;go_ret;exact⟨by show ak (ar _)=_;rw[Cf];rfl,rfl⟩
 exact DC
def qL(g:Nat)(l:List UInt8)(wr:Bool)(w w':aP):Prop:=Rd w' g l wr/\w.grownBy w' (I g)
theorem asX g l wr w(h:Rd w g l wr)(t:(bJ l wr).2.2=aA) :aK aR 134 #[aj (I ⟨g,0,U⟩)] w λe Q=>e=ak (G E 0)/\qL g l aA w Q:=by
 obtain⟨A,c,j,N,z,R⟩:=h;have V:=j.cell 1;have y:=j.cell 0;have:=j.frozen 1;simp at V y;have DZ:∀W:aP,W=w.setCell ⟨g,1,U⟩ (ar aA)->qL g l aA w W:=by rintro W rfl;refine⟨⟨A,c,j.cH 1 _,?_,z,R⟩,Gz (E2 _ _) rfl _⟩;exact N.keep λk hk=>Below.heap_setCell w _ _ k cN
 cases wr
 .cases l with
  | nil => exact NT
  | cons b r =>
   obtain⟨H,M,rfl,rG,B⟩:=N.2 bu;have:w.cell? ⟨H,M,U⟩=I (G .u8 b.toNat):=B 0 _ dH;simp only[gH]at y z j;have:b.toNat<256:=b.toNat_lt;by_cases h8:8<b.toNat;have T:(8:Int)<(b.toNat:Int):=aZ;exact NT;have T:¬(8:Int)<(b.toNat:Int):=aZ;by_cases O:Z r<b.toNat;have C:(Z r:Int)+1<1+(b.toNat:Int):=aZ;exact NT;have C:¬(Z r:Int)+1<1+(b.toNat:Int):=aZ;cases r with
   | nil =>
    have S:b.toNat=0:=by simp at O;omega
    simp[bJ,S]at t
   | cons x r =>
    have hx:(x==0)=aA/\0<b.toNat:=by
     simp only[bJ]at t;split at t
     .grind
     simp at t
    obtain⟨hx,hb0⟩:=hx;have hx:x=0:=Sl;subst hx;have:w.cell? ⟨H,M+1,U⟩=I (G .u8 0):=B 1 _ dH;clear B;simp only[gH]at y z j C O;exact NT
 exact NT
theorem Reads.at_{w B A l n}(h:Reads w B 1 A n (fW l))(y:0<Z l) :∃b t,A=I ⟨b,t,U⟩/\b<B/\∀j (hj:j<Z l),w.cell? ⟨b,t+j,U⟩=I (G .u8 (l[j].toNat:Int)):=by obtain⟨b,t,e,z,C⟩:=h.2 GA;grind [fW]
theorem Xu l b:kT (l++[b])=kT l*256+b.toNat:=by simp[kT]
theorem NU l:kT l<256^Z l:=by
 induction h:Z l generalizing l with
 | zero=>simp[List.eq_nil_of_length_eq_zero h,kT]
 | succ n t => have j:l≠[]:=bL;rw[<- List.dropLast_concat_getLast j,Xu];have:=t l.dropLast KZ;have:=(l.getLast j).toNat_lt;rw[Nat.pow_succ];omega
theorem asY g b r w(h:Rd w g (b :: r) az)(h8:b.toNat<=8)(hl:b.toNat<=Z r)(hx:0<b.toNat->∃x C,r=x :: C/\0<x.toNat) :aK aR 134 #[aj (I ⟨g,0,U⟩)] w λe w'=>e=ak (G E (kT (r.take b.toNat):Nat))/\qL g (r.drop b.toNat) az w w':=by
 obtain⟨A,c,y,hr,h1,R⟩:=h;have hc:=y.cell 1;have Q:=y.cell 0;have hf0:=y.frozen 0;simp at hc Q;obtain⟨H,B,rfl,rG,M⟩:=hr.at_ bu;have hc1:=M 0 bu;simp at hc1;have O:=aY M;clear M;simp only[gH]at Q h1 y;generalize W:b.toNat=N at *;have HN:=aY W;clear W;have AJ:¬(8:Int)<(N:Int):=aZ;have h9':¬(Z r:Int)+1<1+(N:Int):=aZ;have DZ:∀(z:Option Addr) (m t:Nat),m=Z r-N->(0<m->z=I ⟨H,B+(1+N),U⟩)->m<=t->t<=c->qL g (r.drop N) az w (aV w ⟨g,0,U⟩ (F z m t)):=by rintro z m t rfl hA hm hc';have hb':=y.cH 0 (F z (Z r-N) t);refine⟨⟨z,t,by simpa using hb',⟨bu,λh0=>?_⟩,by simpa using hm,aZ⟩,Gz (E2 _ _) rfl _⟩;simp at h0;refine⟨H,B+(1+N),hA aZ,rG,λj u hu=>?_⟩;rw[World.cell?_setCell_other _ _ _ _ bu];have S:j<Z (r.drop N):=aik;rw[aie _ _ S]at hu;injection hu with hu;rw[<- hu,List.getElem_drop];simp at S;have:=O.aX (1+N+j) cN;rw[show B+(1+N)+j=B+(1+N+j) by omega,this];grind
 by_cases FD:0<N
 .obtain⟨x,C,rfl,gI⟩:=hx FD;have jR:=O.aX 1 bu;simp at jR;have hxb:((x.toNat:Int)==0)=false:=cN;have hNi:(0:Int)<(N:Int):=aZ;generalize hR:x :: C=r at *;clear hR;go_in;go_wp2;go_step3;go_wp2_with fail
  go_loop [3,51] (fun n i=>∃k:Nat,k<=N/\i=G J k/\n=G E (kT (r.take k):Nat)) (fun _ i=>N-(aO i).toNat)
  case atStart=>exact⟨0,aZ,rfl,rfl⟩
  case round =>
   obtain⟨k,hk,rfl,rfl⟩:=hrel;by_cases hlt:k<N
   .have Y:(k:Int)<N:=aZ;have Ee:w.cell? ⟨H,B+(1+k),U⟩=I (G .u8 (r[k].toNat:Int)):=by have:=O.aX (1+k) cN;simpa [Nat.add_comm 1 k]using this
    have jS:kT (r.take k)<72057594037927936:=by have:=NU (r.take k);have R:Z (r.take k)<=7:=cN;have h3:256^Z (r.take k)<=256^7:=Nat.pow_le_pow_right bG R;omega
    generalize T:kT (r.take k)=v at *;have X:kT (r.take (k+1))=v*256+r[k].toNat:=by rw[iY aZ,Xu,T]
    have aDv:r[k].toNat<256:=r[k].toNat_lt;have V:bits BinOp.or E ((v:Int)*256) (r[k].toNat:Int)=((v*256+r[k].toNat:Nat):Int):=by rw[show (v:Int)*256=((v*256:Nat):Int) by simp,u64_or_nat _ _ aZ aZ,nat_join 8 _ _ aZ aZ]
    have HT:=aY X;have HO:=aY V;clear T X V;go_wp2;go_round
    case rel=>exact⟨k+1,aZ,dh,by rw[HO.aX,HT.aX]⟩
    case measure=>simp[aO];omega
   have Y:¬(k:Int)<N:=aZ;have hkN:k=N:=aZ;subst hkN;exact aim
 obtain rfl:N=0:=aZ;have hNi:¬(0:Int)<((0:Nat):Int):=aZ;go_in;go_wp2;go_step3;go_wp2_with fail
 refine wp_loop_rounds 1 ?_;rw[rounds_succ];exact aim
theorem vN g l wr w(h:Rd w g l wr) :aK aR 134 #[aj (I ⟨g,0,U⟩)] w λe B=>e=ak (G E ((bJ l wr).1:Nat))/\qL g (bJ l wr).2.1 (bJ l wr).2.2 w B:=by
 by_cases j:(bJ l wr).2.2=aA
 have e:bJ l wr=(0,l,aA):=by unfold bJ at j|-;grind
 rw[e]
 exact asX g l wr w h j
 match l,h,j with
 | [],_,j=>simp[bJ]at j
 | b :: r,h,j =>
  have y:(wr||decide (8<b.toNat)||decide (Z r<b.toNat)||(decide (0<b.toNat)&&r.head?==I 0))=false:=by grind [bJ]
  have e:bJ (b :: r) wr=(kT (r.take b.toNat),r.drop b.toNat,az):=by grind [bJ]
  rw[e]
  simp at y
  obtain⟨⟨⟨rfl,A⟩,t⟩,z⟩:=y
  refine asY g b r w h A t λC=>?_
  have:=z C
  match r,t,this with
  | [],t,_=>simp at t;omega
  | x :: r',_,tz => refine⟨x,r',rfl,?_⟩;rcases Nat.eq_zero_or_pos x.toNat with h|h;exact absurd (by simpa using UInt8.toNat_inj.1 (show x.toNat=(0:UInt8).toNat from h)) tz;exact h
def cD(j:Int)(l:List UInt8)(wr:Bool):List UInt8×List UInt8×Bool :=
 if (bJ l wr).2.2||decide (j<0)||decide (j.toNat<(bJ l wr).1)||decide (Z (bJ l wr).2.1<(bJ l wr).1)then ([],(bJ l wr).2.1,aA)
 else ((bJ l wr).2.1.take (bJ l wr).1,(bJ l wr).2.1.drop (bJ l wr).1,az)
theorem qF l wr:Z (bJ l wr).2.1<=Z l:=by unfold bJ;grind
theorem qG l wr:(bJ l wr).1<18446744073709551616:=by unfold bJ;split;simp;rename_i b r;split;simp;rename_i t;simp at t;have y:=NU (r.take b.toNat);have j:Z (r.take b.toNat)<=8:=bL;have z:256^Z (r.take b.toNat)<=256^8:=Nat.pow_le_pow_right bG j;show kT (r.take b.toNat)<_;omega
theorem Rd.Yn{w g l wr}(h:Rd w g l wr):qL g l aA w (aV w ⟨g,1,U⟩ (ar aA)):=by obtain⟨A,c,z,t,y,j⟩:=h;refine⟨⟨A,c,z.cH 1 _,?_,y,j⟩,Gz (E2 _ _) rfl _⟩;exact t.keep λk B=>Below.heap_setCell w _ _ k bL
theorem Rk g l wr t w(h:Rd w g l wr)(hl:Z l<=1000000000)(hm0:-9223372036854775808<=t)(pg:t<=9223372036854775807) :aK aR 136 #[aj (I ⟨g,0,U⟩),G J t] w λe Q =>∃v,e=ak v/\Own Q (D (L w)) 5 v (cD t l wr).1/\qL g (cD t l wr).2.1 (cD t l wr).2.2 w Q:=by
 have V:=vN g l wr w h;have hlen:=qF l wr;have X:=qG l wr;unfold cD;generalize bJ l wr=R at *;obtain⟨n,j,B⟩:=R;simp only at V hlen X|-;have HN:=aY V;by_cases z:(B||decide (t<0)||decide (t.toNat<n)||decide (Z j<n))=aA;rw[z];have hfin:∀W,Rd W g j B->w.grownBy W (I g)->Own (aV W ⟨g,1,U⟩ (ar aA)) (D (L w)) 5 (F U 0 0) []/\qL g j aA w (aV W ⟨g,1,U⟩ (ar aA)):=by intro W rH hgr;obtain⟨H,C⟩:=rH.Yn;exact⟨oV _ _ _ _,H,rm hgr C⟩
 cases B;by_cases H:t<0;exact Sm;by_cases C:t.toNat<n;obtain⟨m,rfl⟩:=Int.eq_ofNat_of_zero_le (show 0<=t by omega);have T:(m:Int)<n:=aZ;exact Sm;have S:Z j<n:=bL;obtain⟨m,rfl⟩:=Int.eq_ofNat_of_zero_le (show 0<=t by omega);have T:¬(m:Int)<n:=aZ;have h3':(Z j:Int)<n:=aZ;exact Sm;exact Sm;have z:(B||decide (t<0)||decide (t.toNat<n)||decide (Z j<n))=false:=by simpa using z
 rw[z];simp at z;obtain⟨⟨⟨rfl,H⟩,C⟩,S⟩:=z;obtain⟨m,rfl⟩:=Int.eq_ofNat_of_zero_le H;simp at C;have T:(n:Int)<=m:=aZ;have h3':(n:Int)<=Z j:=aZ;go_in;go_wp2;go_step3;go_wp2_with fail
 apply bW HN.aX;rintro w2⟨⟨A,c,hb,hr,hc1,jR⟩,hgr⟩;have gI:=hb.cell 0;have hx1:=hb.cell 1;simp at gI hx1;go_wp2_with fail
 refine (RT A n c (j.take n) 0 w2 g (hr.pre n S) (Nat.le_of_lt hb.lt) aZ aZ aZ).mono ?_;rintro e M⟨g3,aD8,rfl,ho,O,_,_⟩;have N:=hb.bM O;have Y:=hr.below O (Nat.le_of_lt hb.lt);have hy0:=N.cell 0;have:=N.frozen 0;simp at hy0;have hfin:∀(A':Option Addr) (y:Nat),(n<Z j->A'=A.map (·.add n))->Z j-n<=y->y<=c ->Own (aV M ⟨g,0,U⟩ (F A' (Z j-n) y)) (D (L w)) 5 (F (I ⟨g3,0,U⟩) n aD8) (j.take n)/\qL g (j.drop n) az w (aV M ⟨g,0,U⟩ (F A' (Z j-n) y)):=by intro A' y hA h4 h5;refine⟨?_,⟨A',y,?_,?_,IM,aZ⟩,Gz (rm hgr (zC O _)) rfl _⟩;have h6:=ownsRow_setCell_below (a:=⟨g,0,U⟩) ho hb.lt (F A' (Z j-n) y);refine wZ hgr.size ?_ rfl;unfold Own;rw[show Z (j.take n)=n by simp;omega];exact h6;have h7:=N.cH 0 (F A' (Z j-n) y);simpa using h7;have h8:=Y.post (A':=A') n hA;rw[List.length_drop];exact h8.keep λk hk=>Below.heap_setCell M _ _ k cN
 go_wp2;all_goals
  go_ret
  refine⟨_,rfl,hfin _ _ (λyC=>?_) aZ aZ⟩
  first|rfl|omega
def GN(n:Nat):Int:=((n:Int)+9223372036854775808)%18446744073709551616-9223372036854775808
def xC(k n:Nat):Int:=if k=1 then ye n else GN n
def iz(l:List UInt8)(wr:Bool):(Int×Int×List UInt8)×List UInt8×Bool :=
 let a:=bJ l wr
 let b:=bJ a.2.1 a.2.2
 let s:=cD 40 b.2.1 b.2.2
 if decide (3<a.1)||s.2.2||!(kK a.1 (xC a.1 b.1) ⟨s.1.toArray⟩)then ((0,0,[]),s.2.1,aA)
 else ((a.1,xC a.1 b.1,s.1),s.2.1,az)
theorem GD j l wr:Z (cD j l wr).2.1<=Z l:=by grind [qF,cD]
abbrev vd(d:Int×Int×List UInt8):aQ:=vv d.1 d.2.1 ⟨d.2.2.toArray⟩
theorem Rd.below{w w' g B l wr}(h:Rd w g l wr)(hb:aN B w w')(hg:g<B):Rd w' g l wr:=by obtain⟨A,c,j,y,z,t⟩:=h;exact⟨A,c,j.below hb hg,y.below hb aZ,z,t⟩
theorem Rd.lt{w g l wr}(h:Rd w g l wr):g<D (L w):=by obtain⟨_,_,j,_⟩:=h;exact j.lt
theorem Rd.bM{w w' g l wr}(h:Rd w g l wr)(hb:aN (D (L w)) w w'):Rd w' g l wr:=h.below hb h.lt
theorem ae4 g l wr w(h:Rd w g l wr)(hl:Z l<=1000000000) :aK aR 260 #[aj (I ⟨g,0,U⟩)] w λe M =>e=ak (vd (iz l wr).1)/\qL g (iz l wr).2.1 (iz l wr).2.2 w M:=by
 have hg:=h.lt;have c1:=λW (t:Rd W g l wr)=>vN g l wr W t
 have c2:=λW (t:Rd W g (bJ l wr).2.1 (bJ l wr).2.2)=>vN g _ _ W t
 have c3:=λW (t:Rd W g (bJ (bJ l wr).2.1 (bJ l wr).2.2).2.1 (bJ (bJ l wr).2.1 (bJ l wr).2.2).2.2)=>Rk g _ _ 40 W t (by have:=qF l wr;have:=qF (bJ l wr).2.1 (bJ l wr).2.2;omega) aZ aZ
 have:=qG l wr;have Y:=qG (bJ l wr).2.1 (bJ l wr).2.2;simp only[iz];generalize bJ l wr=a at *;obtain⟨k,l1,w1⟩:=a;simp only at *;generalize bJ l1 w1=a at *;obtain⟨n,l2,w2⟩:=a;simp only at *;generalize cD 40 l2 w2=a at *;obtain⟨s,l3,O⟩:=a;simp only at *;have C1:=aY c1;have C2:=aY c2;have C3:=aY c3;clear c1 c2 c3;have hW0:aN (D (L w)) w (aU w (aq #[G J 0,G J 0,aw { data:=#[] }] 83)):=(eP _ _).alloc (bP _) _;have X:=bn.new w 83 #[G J 0,G J 0,aw { data:=#[] }];have T:=h.below hW0 hg;clear h;go_in;go_wp2;refine Na 0 rfl ?_;go_wp2_with fail
 apply bW (C1.aX _ T);rintro W1⟨hr1,A⟩;have V:=X.grown A cN;clear X T;go_wp2_with fail
 apply bW (C2.aX _ hr1);rintro W2⟨dC,H⟩;have S:=V.grown H cN;clear V hr1;go_wp2_with fail
 apply dP (C3.aX _ dC);rintro v3 W3⟨jk,gX,C⟩;have Q:=S.grown C cN;clear S dC;obtain⟨A3,k3,rfl,AK⟩:=jk.slice;have:=aif (P:=aR) W3 118 9 5 underlying118 underlying5 underlying9 _ A3 _ k3 s AK;clear jk;by_cases h3:3<k
 .have h3':(3:Int)<(k:Int):=aZ;have iq:=gX.below (Below.alloc (eP _ W3) (bP _) (aq #[G J 0,G J (wrap64 (n:Int)),aw { data:=s.toArray }] 83)) gX.lt;have eF:=Q.alloc (aq #[G J 0,G J (wrap64 (n:Int)),aw { data:=s.toArray }] 83);have hgr:w.grownBy (aU W3 (aq #[G J 0,G J (wrap64 (n:Int)),aw { data:=s.toArray }] 83)) (I g):=Gu (rm (rm (rm (Gu (E2 _ _) _) A) H) C) _;go_wp2;generalize W3.alloc _=W4 at *;have LN:(if (decide (3<k)||O||!(kK (k:Int) (xC k n) ⟨s.toArray⟩))=aA then (((0,0,[]),l3,aA):(Int×Int×List UInt8)×List UInt8×Bool)else (((k:Int),xC k n,s),l3,az))=((0,0,[]),l3,aA):=by simp[h3]
  go_step3;refine⟨rfl,?_⟩;have hy0:=eF.cell 0;have FF:=eF.cell 1;have hy2:=eF.cell 2;have hz0:=eF.frozen 0;have hz1:=eF.frozen 1;have hz2:=eF.frozen 2;simp at hy0 FF hy2;obtain⟨A4,c4,hb4,_⟩:=id iq;have js:=hb4.cell 1;have wq:=hb4.frozen 1;simp at js;go_wp2;have gJ:=(((eF.far (p:=⟨g,1,U⟩) cN (ar aA)).cH 0 (G J 0)).cH 1 (G J 0)).cH 2 (aw { data:=#[] });have e0:=gJ.cell 0;have e1:=gJ.cell 1;have e2:=gJ.cell 2;simp at e0 e1 e2;have hw:=iq.Yn;rw[jE];refine aM (v:=vd (0,0,[])) Yo rfl ?_;rw[LN];exact ain
 have h3':¬(3:Int)<(k:Int):=aZ;generalize hN:xC k n=N at *;have HN:=aY hN;clear hN;by_cases z:k=1
 .have h1':((k:Int)==1)=true:=cN;have y:Hid (ye n=N):=by rw[<- HN.aX];exact aY (by simp[xC,z])
  clear z;have iq:=gX.bM (Below.alloc (eP _ W3) (bP _) (aq #[G J k,G J N,aw { data:=s.toArray }] 83));have eF:=Q.alloc (aq #[G J k,G J N,aw { data:=s.toArray }] 83);have hgr:w.grownBy (aU W3 (aq #[G J k,G J N,aw { data:=s.toArray }] 83)) (I g):=Gu (rm (rm (rm (Gu (E2 _ _) _) A) H) C) _;cases hw3:O
  .subst hw3;obtain⟨R,c5,j,_⟩:=id gX;have js:=λo=>(j.alloc o).cell 1
   simp at js;go_wp2_with fail
   apply bW (ae3 n _ Y);rintro M rfl;rw[y.aX];go_wp2_with fail
   exact aio
  subst hw3;obtain⟨R,c5,j,_⟩:=id gX;have js:=λo=>(j.alloc o).cell 1
  simp at js;go_wp2_with fail
  apply bW (ae3 n _ Y);rintro M rfl;rw[y.aX];go_wp2_with fail
  exact aip
 have h1':((k:Int)==1)=false:=cN;have y:Hid (wrap64 (n:Int)=N):=by rw[<- HN.aX];exact aY (by simp[xC,z,GN,wrap64])
 clear z;have iq:=gX.bM (Below.alloc (eP _ W3) (bP _) (aq #[G J k,G J N,aw { data:=s.toArray }] 83));have eF:=Q.alloc (aq #[G J k,G J N,aw { data:=s.toArray }] 83);have hgr:w.grownBy (aU W3 (aq #[G J k,G J N,aw { data:=s.toArray }] 83)) (I g):=Gu (rm (rm (rm (Gu (E2 _ _) _) A) H) C) _;cases hw3:O
 .subst hw3;obtain⟨R,c5,j,_⟩:=id gX;have js:=λo=>(j.alloc o).cell 1
  simp at js;go_wp2_with fail
  simp only[y.aX];exact aio
 subst hw3;obtain⟨R,c5,j,_⟩:=id gX;have js:=λo=>(j.alloc o).cell 1
 simp at js;go_wp2_with fail
 simp only[y.aX];exact aip
section
open Go Go.RowKit Go.ChangeShapes Go.WideShapes Go.ChangeAt
open Go.ChangeMaps (open_string shut_string)
set_option linter.unusedVariables false
abbrev aD9(x:Int×Int×ByteArray):List aQ:=[G J x.1,G J x.2.1,aw x.2.2]
def dA(n:Int):Prop:=-9223372036854775808<=n/\n<=9223372036854775807
theorem EX{α:Type}(C:Nat):∀(bw:List (List α)),(∀j∈bw,Z j=C)->Z bw.flatten=Z bw*C
 | [],_=>bu
 | c :: bw,h=>by simp only[List.flatten_cons,fg,gH];rw[h c bu,EX C bw λj t=>h j (by simp[t]),Nat.succ_mul];omega
theorem zE{α:Type} C:∀(bw:List (List α)),(∀t∈bw,Z t=C)->∀i j,i<Z bw->j<C->bw.flatten[i*C+j]?=(bw[i]?.getD [])[j]?
 | [],_,i,j,hi,_=>NW
 | c :: bw,h,i,j,hi,hj=>by
  have hc:=h c bu;cases i with
  | zero=>simp;rw[List.getElem?_append_left aZ]
  | succ i => rw[List.flatten_cons,List.getElem?_append_right Sn];simp only[List.getElem?_cons_succ];rw[<- zE C bw (λt y=>h t (by simp[y])) i j Sq hj];congr 1;rw[hc,Nat.succ_mul];omega
section
variable {H:Type}{enc:TypeId×aQ->H}{w:aP}{base:Nat}{r:Reach}{b0:Nat}{spare:Nat->Bool}{held:Bool}{v:aQ}{d:DataW H}{p:List MemPlace}
theorem asD{T y}(B:prog.underlying T=some (.slice y)) C(hC:prog.cellsOf y=C)(t:List aQ->Prop)(hE:∀(Q:Nat) (cs:List aQ) (x:DataW H×List MemPlace),Z cs=C->DataW.trod enc aR w base spare held Q y cs=I x->t cs)(hv:Value.okWide aR w r b0 T v)(h:DataW.Trod enc aR w base spare held T v d p) :∃(A:Option Addr) (n c:Nat) (bw:List (List aQ)),v=F A n c/\Z bw=n/\n<=c/\c<=maxLen/\(∀cs∈bw,Z cs=C/\t cs)/\(0<C->Reads w (D (L w)) C A n bw.flatten):=by
 obtain⟨a0,Cf,V,rfl⟩:=okWide_slice B hv;obtain⟨Q,W⟩:=h;rcases Go.Deep.open_slice B W with ⟨hcs,_⟩|⟨a,len,cap,m,n,aS,Pl,hcs,hb,Y,hm,hmm,hx,hi⟩;simp[Value.cells]at hcs;obtain⟨rfl,rfl,rfl⟩:=hcs;exact⟨U,0,0,[],rfl,rfl,bu,bu,bu,λ_=>Reads.nil _ _ _ _⟩;simp[Value.cells]at hcs;obtain⟨rfl,rfl,rfl⟩:=hcs;have hlm:Cf<=m:=bL;have hex:∀i,i<Cf->∃cs,Z cs=C/\t cs/\∀j,j<C->w.cell? (a.add (i*C+j))=cs[j]?:=aiq;have key:∀k,k<=Cf->∃bw:List (List aQ),Z bw=k/\(∀cs∈bw,Z cs=C/\t cs)/\∀i j,i<k->j<C->w.cell? (a.add (i*C+j))=(bw[i]?.getD [])[j]?:=air;obtain⟨bw,h1,h2,h3⟩:=key Cf (bP _);refine⟨I a,Cf,V,bw,rfl,h1,Y,hm,h2,λhC0=>?_⟩;have N:Z bw.flatten=Cf*C:=ais;have hfg:∀i j,i<Cf->j<C->bw.flatten[i*C+j]?=(bw[i]?.getD [])[j]?:=λi j hi' hj=>zE C bw (λcs hcs=>(h2 cs hcs).1) i j aZ hj
 refine⟨N,λz=>?_⟩;rw[N]at z;have M:∀q,q<Cf*C->w.cell? (a.add q)=bw.flatten[q]?:=ait;have Cx:=M 0 z;have R:∃u,bw.flatten[0]?=I u:=⟨bw.flatten[0]'aZ,aE aZ⟩;obtain⟨u,hu⟩:=R;rw[hu]at Cx;obtain⟨b,X,S⟩:=a;have hs:S=none:=by simpa [Addr.add]using World.cell?_spot Cx
 subst hs;refine⟨b,X,rfl,?_,λj u O=>?_⟩;exact aiu;have hj:j<Cf*C:=by have:=(aF.1 O).1;omega
 have:=M j hj;rw[Addr.add_lit]at this;rw[this,O]
theorem agz{cs R x}(h:DataW.trod enc aR w base spare held R 83 cs=I x):∃y,cs=aD9 y/\dA y.1/\dA y.2.1:=by
 obtain⟨Q,n,_,_,B,H,A⟩:=DataW.trod_struct underlying83 h
 have M:prog.cellsOf 83=3:=dH
 rw[M]at B
 match cs,B with
 | [c0,c1,c2],_ => have t:=A 0 _ rfl;have z:=A 1 _ rfl;have j:=A 2 _ rfl;have S:prog.cellsOf 3=1:=dH;have O:prog.cellsOf 2=1:=dH;have T:prog.cellsOf 9=1:=dH;simp[S,O,T]at t z j;have:Z Q=3:=H;rw[aE aZ]at t z j;obtain⟨a,C,_,V⟩:=DataW.trod_int underlying3 t;obtain⟨b,eb,_,N⟩:=DataW.trod_int underlying2 z;obtain⟨s,es,_,_⟩:=DataW.trod_string underlying9 j;simp at C eb es;subst C eb es;have:=bounds_i64 V;have:=bounds_i64 N;exact⟨(a,b,s),rfl,iF,iF⟩
theorem Ri{α:Type} f(A:α->Prop):∀j:List (List aQ),(∀t∈j,∃y,t=f y/\A y)->∃l:List α,Z l=Z j/\j=l.map f/\∀y∈l,A y
 | [],_=>⟨[],rfl,rfl,bu⟩
 | c :: j,h=>by
  obtain⟨y,rfl,B⟩:=h c bu;obtain⟨l,C,h2,H⟩:=Ri f A j λt M=>h t (by simp[M])
  refine⟨y :: l,by simp[C],NX,?_⟩;intro z hz;rcases List.mem_cons.1 hz with rfl|hz;exact B;exact H z hz
end
end
section
open Go Go.RowKit Go.ChangeShapes Go.WideShapes Go.ChangeAt
open Go.ChangeMaps (open_string shut_string)
abbrev eD:=ByteArray×Int×Int×ByteArray
abbrev nu(x:eD):List aQ:=[aw x.1,G J x.2.1,G J x.2.2.1,aw x.2.2.2]
section
variable {H:Type}{enc:TypeId×aQ->H}{w:aP}{base:Nat}{r:Reach}{b0:Nat}{spare:Nat->Bool}{held:Bool}{v:aQ}{d:DataW H}{p:List MemPlace}
theorem axg{cs C x}(h:DataW.trod enc aR w base spare held C 88 cs=I x):∃y:eD,cs=nu y/\dA y.2.1/\dA y.2.2.1:=by
 obtain⟨Q,n,_,_,B,M,z⟩:=DataW.trod_struct underlying88 h
 have N:prog.cellsOf 88=4:=dH
 rw[N]at B
 match cs,B with
 | [c0,c1,c2,c3],_ => have t:=z 0 _ rfl;have j:=z 1 _ rfl;have O:prog.cellsOf 9=1:=dH;have S:prog.cellsOf 83=3:=dH;simp[O,S]at t j;have:Z Q=2:=M;rw[aE aZ]at t j;obtain⟨s,es,_,_⟩:=DataW.trod_string underlying9 t;obtain⟨y,A,H,R⟩:=agz j;simp at es A;obtain⟨rfl,rfl,rfl⟩:=A;subst es;exact⟨(s,y),rfl,H,R⟩
end
end
def zW(b:UInt8):Bool:=(decide (97<=b.toNat)&&decide (b.toNat<=122))||(decide (48<=b.toNat)&&decide (b.toNat<=57))
def vQ(s:ByteArray):Bool:=decide (1<=s.size)&&decide (s.size<=16)&&(gE s).all zW
theorem azc(l:List UInt8)(k:Nat)(h:k<Z l):(l.take (k+1)).all zW=((l.take k).all zW&&zW l[k]):=aiv
theorem aA7(l:List UInt8) k(h:k<Z l)(hb:zW l[k]=az):l.all zW=false:=by grind
theorem Xd s w :aK aR 296 #[aw s] w λe B=>e=ak (ar (vQ s))/\w=B:=by
 by_cases W:s.size<1;have N:(s.size:Int)<1:=aZ;exact aiw;have N:¬(s.size:Int)<1:=aZ;by_cases V:16<s.size;have O:(16:Int)<(s.size:Int):=aZ;exact aiw;have O:¬(16:Int)<(s.size:Int):=aZ;have M:Z (gE s)=s.size:=dH;go_in;go_wp2_with fail
 go_loopw [15] (fun i wr=>∃k:Nat,k<=s.size/\i=G J k/\Hid (((gE s).take k).all zW=aA)/\wr=w) (fun i _=>s.size-(aO i).toNat)
 case atStart=>exact⟨0,aZ,rfl,aY bu,rfl⟩
 case round =>
  obtain⟨k,R,rfl,t,rfl⟩:=hrel;by_cases S:k<s.size
  .have A:(k:Int)<s.size:=aZ;have y:k<Z (gE s):=aZ;have C:=aY (azc (gE s) k y);have Q:=aY (aA7 (gE s) k y);have T:s[k]=(gE s)[k]:=dH;generalize (gE s)[k]=x at *;have X:x.toNat<256:=x.toNat_lt;go_upto_if 34 with fail;all_goals
    go_wp2
    all_goals first
     | (go_ret
        have j:zW x=false:=by simp[zW];omega
        exact⟨by rw[show vQ s=az by simp[vQ,Q.aX j]];rfl,rfl⟩)
     | (have j:zW x=true:=by simp[zW];omega
        have H:Hid (((gE s).take (k+1)).all zW=aA):=aY (by rw[C.aX,t.aX,j];rfl)
        go_roundw
        case rel=>exact⟨k+1,aZ,dh,H,NY⟩
        case measure=>simp[aO];omega)
  have A:¬(k:Int)<s.size:=aZ;have z:k=s.size:=aZ;have hn:Hid (vQ s=aA):=by have:=t.aX;rw[z,<- M,pL]at this;exact aY (by simp only[vQ,this];simp;omega)
  go_wp2;go_ret;exact⟨by rw[hn.aX];rfl,rfl⟩
theorem Xv n:n<256^iP n:=by
 induction n using Nat.strongRecOn with
 | _ n j => rcases Nat.eq_zero_or_pos n with h|h;subst h;simp[KE];rw[RU n h,Nat.pow_succ];have:=j (n/256) aZ;omega
theorem azd n(h:0<n):256^(iP n-1)<=n:=by
 induction n using Nat.strongRecOn with
 | _ n t =>
  rw[RU n h];simp only[Nat.add_sub_cancel];rcases Nat.eq_zero_or_pos (n/256)with j|j;rw[j,KE];simp;omega;have:=t (n/256) aZ j;have y:iP (n/256)=(iP (n/256)-1)+1:=by have:=RU (n/256) j;omega
  rw[y,Nat.pow_succ];omega
theorem aze n k(j:n<256^(k+1))(t:256^k<=n):iP n=k+1:=by have:=NI (k+1) n j;rcases Nat.lt_or_ge (iP n) (k+1)with h|h;exfalso;have:=Xv n;have:256^iP n<=256^k:=Nat.pow_le_pow_right bG aZ;omega;omega
theorem Xw b l:kT (b :: l)=b.toNat*256^Z l+kT l:=by
 have key:∀(l:List UInt8) (a:Nat),l.foldl (λn (b:UInt8)=>n*256+b.toNat) a=a*256^Z l+kT l:=by
  intro l;induction l with
  | nil=>intro a;simp[kT]
  | cons x l j => grind [kT]
 have:=key l b.toNat;simpa [kT]using this
theorem Yp k:∀n,kT (be k n)=n%256^k:=by
 induction k with
 | zero=>intro n;simp[be,kT,Nat.mod_one]
 | succ k j => intro n;rw[be,Xw,j,xW,Nat.pow_succ,Nat.mod_mul];simp;rw[Nat.mul_comm,Nat.add_comm]
theorem aCG k:∀n m,n%256^k=m%256^k->be k n=be k m:=by
 induction k with
 | zero=>intro n m _;rfl
 | succ k t =>
  intro n m h;have j:0<256^k:=Nat.pow_pos bG;have e:∀x:Nat,x%256^(k+1)=256^k*(x/256^k%256)+x%256^k:=by simp[Nat.pow_succ,Nat.mod_mul,Nat.add_comm]
  rw[e n,e m]at h;have z:=Nat.mod_lt n j;have A:=Nat.mod_lt m j;have H:n/256^k%256=m/256^k%256:=by
   have y:(256^k*(n/256^k%256)+n%256^k)/256^k=n/256^k%256:=by rw[Nat.mul_add_div j,Nat.div_eq_of_lt z,Nat.add_zero]
   have B:(256^k*(m/256^k%256)+m%256^k)/256^k=m/256^k%256:=by rw[Nat.mul_add_div j,Nat.div_eq_of_lt A,Nat.add_zero]
   rw[<- y,<- B,h]
  have C:n%256^k=m%256^k:=bL;rw[be,be,t n m C];congr 1;apply UInt8.toNat_inj.1;simpa using H
theorem aix:∀l:List UInt8,be (Z l) (kT l)=l
 | []=>rfl
 | b :: l=>by
  have j:=NU l;have t:0<256^Z l:=Nat.pow_pos bG;rw[gH,be,Xw];have z:(b.toNat*256^Z l+kT l)/256^Z l=b.toNat:=by rw[Nat.mul_comm,Nat.mul_add_div t,Nat.div_eq_of_lt j,Nat.add_zero]
  rw[z];have y:be (Z l) (b.toNat*256^Z l+kT l)=be (Z l) (kT l):=aCG _ _ _ bu;rw[y,aix l];simp
theorem tO n(h:n<18446744073709551616) rest:bJ (bO n++rest) az=(n,rest,az):=by
 have S:=NI 8 n aZ;have A:(UInt8.ofNat (iP n)).toNat=iP n:=cN;have Q:=xW (iP n) n;have M:(be (iP n) n++rest).take (iP n)=be (iP n) n:=bL;have R:(be (iP n) n++rest).drop (iP n)=rest:=bL;have B:0<iP n->¬(be (iP n) n++rest).head?=I 0:=by
  intro y t;have O:0<n:=by grind [Nat.eq_zero_or_pos,KE]
  have z:=azd n O;have j:=Xv n;obtain⟨k,H⟩:∃k,iP n=k+1:=⟨iP n-1,aZ⟩;rw[H]at t z j;simp only[be,cC,List.head?_cons,Option.some.injEq,Nat.add_sub_cancel]at t z;have hz:n/256^k%256=0:=by have:=congrArg UInt8.toNat t;simpa using this
  have C:0<256^k:=Nat.pow_pos bG;have V:n/256^k<256:=by rw[Nat.pow_succ]at j;exact Nat.div_lt_of_lt_mul j
  have T:=Nat.div_pos z C;omega
 have N:(az||decide (8<(UInt8.ofNat (iP n)).toNat)||decide (Z (be (iP n) n++rest)<(UInt8.ofNat (iP n)).toNat)||(decide (0<(UInt8.ofNat (iP n)).toNat)&&(be (iP n) n++rest).head?==I 0))=false:=by rw[A];simp only[Bool.false_or,Bool.or_eq_false_iff,decide_eq_false_iff_not,Bool.and_eq_false_iff];refine⟨⟨aZ,by simp[Q]⟩,?_⟩;by_cases y:0<iP n;right;exact beq_eq_false_iff_ne.2 (B y);left;exact y
 unfold bO;simp only[cC,bJ];rw[N,A,M,R,Yp,Nat.mod_eq_of_lt (Xv n)];rfl
theorem xa{l wr}(h:(bJ l wr).2.2=az):l=bO (bJ l wr).1++(bJ l wr).2.1/\wr=false:=by
 match l with
 | []=>simp[bJ]at h
 | b :: r =>
  simp only[bJ]at h|-;split at h;simp at h;rename_i z;rw[bQ z];simp only[Bool.or_eq_true,not_or,Bool.not_eq_true,Bool.and_eq_false_iff,decide_eq_false_iff_not]at z;obtain⟨⟨⟨M,O⟩,Q⟩,t⟩:=z;refine⟨?_,M⟩;have j:Z (r.take b.toNat)=b.toNat:=cN;have y:iP (kT (r.take b.toNat))=b.toNat:=by
   rcases Nat.eq_zero_or_pos b.toNat with C|C
   rw[C];simp[kT,KE]
   obtain⟨k,y⟩:∃k,b.toNat=k+1:=⟨b.toNat-1,aZ⟩
   rw[y]at j t|-
   match r,j,t with
   | [],j,_=>simp at j
   | x :: r',j,t =>
    have H:x≠0:=by rintro rfl;simp at t
    have N:0<x.toNat:=by rcases Nat.eq_zero_or_pos x.toNat with h|h;exact absurd (UInt8.toNat_inj.1 (show x.toNat=(0:UInt8).toNat from h)) H;exact h
    simp only[TP,gH,Nat.add_right_cancel_iff]at j|-;have A:=NU (x :: r'.take k);simp only[gH,j]at A;refine aze _ k A ?_;rw[Xw,j];have:1*256^k<=x.toNat*256^k:=Nat.mul_le_mul_right _ N;omega
  have B:=aix (r.take b.toNat);rw[j]at B;unfold bO;rw[y,B,cC,List.take_append_drop];simp
theorem IG j b(hb:Z b<18446744073709551616)(hm:(Z b:Int)<=j) rest:cD j (bO (Z b)++b++rest) az=(b,rest,az):=by
 rw[gA];unfold cD;rw[tO (Z b) hb];have t:(az||decide (j<0)||decide (j.toNat<Z b)||decide (Z (b++rest)<Z b))=false:=by simp;omega
 simp only;rw[t];simp
theorem Gx{j l wr}(h:(cD j l wr).2.2=az) :l=bO (Z (cD j l wr).1)++(cD j l wr).1++(cD j l wr).2.1/\(Z (cD j l wr).1:Int)<=j/\wr=false:=by grind [cD,xa,bJ,gA,List.take_append_drop]
theorem auv n(t:-9223372036854775808<=n)(j:n<=9223372036854775807):ye (foldI n)=n:=by grind [ye,foldI]
theorem auw n(h:n<18446744073709551616):foldI (ye n)=n/\-9223372036854775808<=ye n/\ye n<=9223372036854775807:=by grind [foldI,ye]
theorem axh n(t:-9223372036854775808<=n)(j:n<=9223372036854775807):GN (n%18446744073709551616).toNat=n:=by unfold GN;omega
theorem axi n(h:n<18446744073709551616):(GN n%18446744073709551616).toNat=n/\-9223372036854775808<=GN n/\GN n<=9223372036854775807:=by unfold GN;omega
theorem KQ{k n s}(h:kK k n s=aA):(k=1\/k=2\/k=3)/\s.size<=40:=by
 unfold kK at h;split at h
 .rename_i hk;rw[ByteArray.toList_eq]at h;simp at hk h;refine⟨aI hk,?_⟩;show s.data.size<=40;simp[h]
 split at h
 .grind
 split at h
 .rename_i hk;rw[ByteArray.toList_eq]at h;simp at hk h;refine⟨aJ (aJ hk),?_⟩;show s.data.size<=40;simp[h.2]
 simp at h
theorem azf k n(hk:k=1\/k=2\/k=3)(t:-9223372036854775808<=n)(j:n<=9223372036854775807):xC (cO k) (yB k n)=n:=by grind [xC,yB,cO,auv,axh]
theorem ahy k n s(j:kK k n s=aA)(y:-9223372036854775808<=n)(t:n<=9223372036854775807) rest :iz (qJ k n s++rest) az=((k,n,gE s),rest,az):=by
 obtain⟨B,O⟩:=KQ j;have A:=jm k;have C:=NS k n y t;have z:Z (gE s)=s.size:=bu;unfold iz qJ;rw[gA,gA,tO _ A];simp only;rw[tO _ C];simp only;rw[<- z,IG 40 (gE s) aZ aZ];simp only;rw[azf k n B y t];have N:(cO k:Int)=k:=by unfold cO;omega
 have M:¬3<cO k:=aZ;rw[N];have H:(⟨(gE s).toArray⟩:ByteArray)=s:=by cases s;simp
 rw[H,j];simp[M]
theorem XN{l wr}(h:(iz l wr).2.2=az) :l = qJ (iz l wr).1.1 (iz l wr).1.2.1 ⟨(iz l wr).1.2.2.toArray⟩++(iz l wr).2.1/\kK (iz l wr).1.1 (iz l wr).1.2.1 ⟨(iz l wr).1.2.2.toArray⟩=aA/\wr=az /\-9223372036854775808<=(iz l wr).1.2.1/\(iz l wr).1.2.1<=9223372036854775807:=by
 simp only[iz]at h|-;split at h;simp at h;rename_i j;rw[bQ j];simp only[Bool.or_eq_true,not_or,decide_eq_true_eq,Bool.not_eq_true,Bool.not_eq_eq_eq_not]at j;obtain⟨⟨X,M⟩,O⟩:=j;have l1:=qG l wr;have A:=qG (bJ l wr).2.1 (bJ l wr).2.2;obtain⟨R,T,S⟩:=Gx M;obtain⟨H,B⟩:=xa S;obtain⟨Q,N⟩:=xa B;have z:kK ((bJ l wr).1:Int) (xC (bJ l wr).1 (bJ (bJ l wr).2.1 (bJ l wr).2.2).1) ⟨(cD 40 (bJ (bJ l wr).2.1 (bJ l wr).2.2).2.1 (bJ (bJ l wr).2.1 (bJ l wr).2.2).2.2).1.toArray⟩=true:=by simpa using O
 have Y:=(KQ z).1;simp only;generalize (cD 40 (bJ (bJ l wr).2.1 (bJ l wr).2.2).2.1 (bJ (bJ l wr).2.1 (bJ l wr).2.2).2.2)=c at *;generalize bJ (bJ l wr).2.1 (bJ l wr).2.2=b at *;generalize bJ l wr=a at *;obtain⟨k,W,w1'⟩:=a;obtain⟨n,l2',w2'⟩:=b;obtain⟨s,l3',V⟩:=c;simp only at *;have C:cO (k:Int)=k:=by unfold cO;omega
 have t:yB (k:Int) (xC k n)=n/\-9223372036854775808<=xC k n/\xC k n<=9223372036854775807:=by unfold yB xC;by_cases y:k=1;subst y;simp;exact auw n A;rw[bQ aZ,bQ y];exact axi n A
 refine⟨?_,z,N,t.2⟩;unfold qJ;rw[C,t.1,Q,H,R];simp[ByteArray.size,gE]
section
variable {P:Program}{Q:Exit->Act->aP->Prop}
def rZ(ops:Array Oper)(j:Nat):Option Tmp:=(ops[j]?).bind (·.dst)
def ahead(o:Oper):List Nat:=(o.after.toList.filter (Region.binds .any)).map (·.on)
def rV(ops:Array Oper)(n:Nat):Bool :=
 ops.toList.zipIdx.all λx =>
  (ahead x.1).all (λj=>decide (j<x.2)) &&
  (match x.1.op with | .select ..=>az|_=>aA) &&
  (match x.1.dst with|some d=>decide (d<n)&&ops.toList.zipIdx.all (λy=>y.2==x.2||y.1.dst != I d)|none=>aA) &&
  (match x.1.guard with|some (j,_)=>(ahead x.1).contains j&&(rZ ops j).isSome|none=>aA) &&
  ((x.1.looksAt ops).all λt=>ops.toList.zipIdx.all λy=>y.1.dst != I t||(y.2 != x.2&&((ahead x.1).contains y.2||(ahead y.1).contains x.2)))
def Cy(ops:Array Oper)(y:Act)(V:Nat->aQ)(o:Oper):Operand->aQ
 | .tmp t=>match (ahead o).find? (λj=>rZ ops j==I t)with
  | some j=>V j
  | none=>y.tmps.getD t undef
 | x=>y.eval x
def wants(V:Nat->aQ)(o:Oper):Bool :=
 match o.guard with
 | none=>aA
 | some (j,want)=>match V j with
  | ar b=>b==want
  | _=>az
def upd(t:Nat->Bool)(i:Nat):Nat->Bool:=λj=>if j=i then aA else t j
def lZ(P:Program)(R:aQ->aP->Prop):Result Next->Prop
 | .ok (.value v) w'=>R v w'
 | .ok .skip w'=>R undef w'
 | .ok (.enter f args) w'=>aK P f args w' λe j=>∃v,e=ak v/\R v j
 | _=>False
def cP(V:Nat->aQ)(i:Nat)(v:aQ):Nat->aQ:=λj=>if j=i then v else V j
def Closed(ops:Array Oper)(t:Nat->Bool):Prop:=(∀j o,ops[j]?=I o->t j=aA->∀k∈ahead o,t k=aA)/\∀j,t j=aA->j<ops.size
def T2(P:Program)(ops:Array Oper)(y:Act)(j:(Nat->Bool)->(Nat->aQ)->aP->Prop)(i:Nat)(o:Oper):Prop :=
 ∀(aT:Nat->Bool) (V:Nat->aQ) (w:aP),aT i=az->Closed ops aT->(∀k∈ahead o,aT k=aA)->j aT V w ->
  if wants V o=aA then lZ P (λv t=>j (upd aT i) (cP V i v) t) ((aL (Cy ops y V o) o).run P w)else j (upd aT i) (cP V i undef) w
def iO(V:Nat->aQ):List Oper->Nat->Act->Act
 | [],_,a=>a
 | o :: r,k,a=>iO V r (k+1) (a.put o.dst (V k))
structure Inv(ops:Array Oper)(a0:Act)(ah:(Nat->Bool)->(Nat->aQ)->aP->Prop)(aT:Array Bool)(a:Act)(w:aP):Prop where
 size:aT.size=ops.size
 closed:∀j o,ops[j]?=I o->aT.getD j az=aA->∀k∈ahead o,aT.getD k az=aA
 He:a.tmps.size=a0.tmps.size
 O7:a.defers=a0.defers
 zX:∃V:Nat->aQ,(∀j d,aT.getD j az=aA->rZ ops j=I d->a.tmps.getD d undef=V j) /\
  (∀t,(∀j,aT.getD j az=aA->rZ ops j≠I t)->a.tmps.getD t undef=a0.tmps.getD t undef)/\ah (λj=>aT.getD j az) V w
theorem Ix{ops n}(h:rV ops n=aA){i o}(Q:ops[i]?=I o) :(∀j∈ahead o,j<i)/\(∀H b,o.op≠.select H b)/\(∀d,o.dst=I d->d<n/\∀j p,ops[j]?=I p->j≠i->p.dst≠I d) /\(∀j B,o.guard=I (j,B)->j∈ahead o/\∃d,rZ ops j=I d) /\(∀t∈o.looksAt ops,∀j p,ops[j]?=I p->p.dst=I t->j≠i/\(j∈ahead o\/i∈ahead p)):=by
 have mem:∀ {j:Nat} {p:Oper},ops[j]?=I p->(p,j)∈ops.toList.zipIdx:=λ{j p} z=>List.mem_zipIdx_iff_getElem?.2 bL
 have A:=List.all_eq_true.1 h _ (mem Q);simp only[fI]at A;obtain⟨⟨⟨⟨A,R⟩,S⟩,y⟩,M⟩:=A;refine⟨λj z=>bL,?_,?_,?_,?_⟩
 .grind
 .grind
 intro j B O;rw[O]at y;simp only[fI,List.contains_iff_mem]at y;exact⟨y.1,Option.isSome_iff_exists.1 y.2⟩;intro t N j p z C;have:=List.all_eq_true.1 (List.all_eq_true.1 M t N) _ (mem z);simp only[C,Bool.or_eq_true,fI,bne_iff_ne,List.contains_iff_mem]at this;rcases this with h|h;exact absurd rfl h;exact h
theorem KF{ops j d}(h:rZ ops j=I d):∃p,ops[j]?=I p/\p.dst=I d:=by
 unfold rZ at h;cases hp:ops[j]? with
 | none=>rw[hp]at h;cases h
 | some p=>rw[hp]at h;exact⟨p,rfl,h⟩
theorem agA{o k}:k∈ahead o ↔ ∃e∈o.after,Region.binds .any e=aA/\e.on=k:=by grind [ahead]
theorem azg{ops}{A a:Act}{y:Array Bool}{V i o}(X:rV ops A.tmps.size=aA)(W:ops[i]?=I o)(T:y.getD i az=az)(S:∀k∈ahead o,y.getD k az=aA)(closed:∀j o,ops[j]?=I o->y.getD j az=aA->∀k∈ahead o,y.getD k az=aA)(O:∀j d,y.getD j az=aA->rZ ops j=I d->a.tmps.getD d undef=V j)(M:∀t,(∀j,y.getD j az=aA->rZ ops j≠I t)->a.tmps.getD t undef=A.tmps.getD t undef) :∀x∈o.op.operands,a.eval x=Cy ops A V o x:=by
 obtain⟨k1,k2,k3,k4,R⟩:=Ix X W;intro x hx;cases x with
 | tmp t =>
  have N:t∈o.looksAt ops:=List.mem_append_left _ (List.mem_filterMap.2 ⟨.tmp t,Sl,rfl⟩);show a.tmps.getD t undef=Cy ops A V o (.tmp t);cases hf:(ahead o).find? (λj=>rZ ops j==I t)with
  | some j => have B:=List.find?_some hf;have hm:=List.mem_of_find?_eq_some hf;simp only[beq_iff_eq]at B;simp only[Cy,hf];exact O j t (S j hm) B
  | none =>
   simp only[Cy,hf];refine M t λj B C=>?_
   obtain⟨p,H,Q⟩:=KF C;obtain⟨Y,z⟩:=R t N j p H Q;rcases z with z|z;have:=List.find?_eq_none.1 hf j z;simp[C]at this;have:=closed j p H B i z;rw[T]at this;cases this
 | const v=>rfl
 | global g=>rfl
 | func f=>rfl
theorem azh{ops}{A a:Act}{y:Array Bool}{V}{i:Nat}{o}(z:rV ops A.tmps.size=aA)(R:ops[i]?=I o)(P:∀k∈ahead o,y.getD k az=aA)(O:a.tmps.size=A.tmps.size)(H:∀j d,y.getD j az=aA->rZ ops j=I d->a.tmps.getD d undef=V j) :Region.wanted o (yielded ops a.tmps)=wants V o:=by
 obtain⟨k1,k2,X,W,Y⟩:=Ix z R;unfold Region.wanted wants;cases hg:o.guard with
 | none=>rfl
 | some gw =>
  obtain⟨j,C⟩:=gw;obtain⟨T,d,t⟩:=W j C hg;have S:=H j d (P j T) t;obtain⟨p,M,N⟩:=KF t;have B:d<a.tmps.size:=by rw[O];exact ((Ix z M).2.2.1 d N).1
  have Q:yielded ops a.tmps j=match V j with|ar b=>I b|_=>none:=by
   unfold yielded;unfold rZ at t;rw[t];have:a.tmps[d]?=I (V j):=by rw[<- S];simp[B]
   show (match a.tmps[d]? with|some (ar b)=>I b|_=>U)=_;rw[this];cases V j <;> rfl
  simp only[Q];cases V j <;> simp
theorem aiy{ops}{H a:Act}{S}{y:Array Bool}{w' V i o v}(hok:rV ops H.tmps.size=aA)(C:ops[i]?=I o)(hl:y.getD i az=az)(hp:∀k∈ahead o,y.getD k az=aA)(R:y.size=ops.size)(closed:∀j o,ops[j]?=I o->y.getD j az=aA->∀k∈ahead o,y.getD k az=aA)(He:a.tmps.size=H.tmps.size)(O7:a.defers=H.defers)(Y:∀j d,y.getD j az=aA->rZ ops j=I d->a.tmps.getD d undef=V j)(X:∀t,(∀j,y.getD j az=aA->rZ ops j≠I t)->a.tmps.getD t undef=H.tmps.getD t undef)(hI:S (upd (λj=>y.getD j az) i) (cP V i v) w') :Inv ops H S (y.setIfInBounds i aA) (a.put o.dst v) w':=by
 obtain⟨k1,k2,Q,k4,k5⟩:=Ix hok C;have W:i<y.size:=by rw[R];exact (aG.1 C).1
 have N:∀j,(y.setIfInBounds i aA).getD j az=upd (λj=>y.getD j az) i j:=by intro j;unfold upd;by_cases z:j=i;subst z;simp[W];rw[bQ z,getD_set_ne _ (λe=>z e.symm)]
 have T:∀j,(y.setIfInBounds i aA).getD j az=aA->j=i\/y.getD j az=true:=by intro j z;rw[N j]at z;unfold upd at z;by_cases B:j=i;exact aI B;rw[bQ B]at z;exact aJ z
 refine⟨by simpa using R,?_,?_,?_,⟨λj=>if j=i then v else V j,?_,?_,?_⟩⟩;intro j p A z k O;rcases T j z with rfl|z;rw[C]at A;injection A with A;subst A;exact getD_set_true (hp k O);exact getD_set_true (closed j p A z k O);rw[<- He];cases o.dst <;> simp[Act.put]
 rw[<- O7];cases o.dst <;> rfl
 .intro j d z hd;by_cases B:j=i;subst B;obtain⟨p,A,M⟩:=KF hd;rw[C]at A;injection A with A;subst A;have:=(Q d M).1;rw[M];simp[Act.put,He,this];show _=if j=i then v else V j
  rw[bQ B];have hj2:=(T j z).resolve_left B;rw[<- Y j d hj2 hd];cases ho:o.dst with
  | none=>rfl
  | some e =>
   obtain⟨p,A,M⟩:=KF hd;have hne:e≠d:=by rintro rfl;exact (Q e ho).2 j p A B M
   exact Yq
 .intro t ht;have yM:=ht i (by rw[N];simp[upd]);rw[<- X t λj z=>ht j (getD_set_true z)];cases ho:o.dst with
  | none=>rfl
  | some e =>
   have hne:e≠t:=by rintro rfl;exact yM (by unfold rZ;rw[C];exact ho)
   exact Yq
 have:(λj=>(y.setIfInBounds i aA).getD j az)=upd (λj=>y.getD j az) i:=funext N;rw[this];exact hI
theorem azi{ops A a H t w i}(M:rV ops A.tmps.size=aA)(X:∀i o,ops[i]?=I o->T2 P ops A H i o)(h:Inv ops A H t a w)(hr:i∈Region.ready .any ops t):wpOp P ops Q i (Inv ops A H (t.setIfInBounds i aA)) a w:=by
 obtain⟨tA,o,z,Hf⟩:=mem_ready.1 hr;have T:=h.size;have hlt:i<t.size:=bL;have O:t.getD i az=false:=Yr;have C:∀k∈ahead o,t.getD k az=true:=by intro k hk;obtain⟨e,he,Y,rfl⟩:=agA.1 hk;exact Hf e he Y
 obtain⟨V,N,R,h3⟩:=h.zX;have k2:=(Ix M z).2.1;have jH:=azg M z O C h.closed N R;have hw:=azh M z C h.He N;have hex:=execOp_congr o k2 jH;have yC:∀j,t.getD j az=aA->j<ops.size:=by intro j hj;by_cases h5:j<t.size;omega;simp[h5]at hj
 have y:=X i o z (λj=>t.getD j az) V w O ⟨h.closed,yC⟩ C h3;unfold wpOp;simp only[z];rw[hw];by_cases W:wants V o=aA
 .rw[bV W]at y|-;refine aI ?_;unfold Oper.wp;rw[hex];generalize (aL (Cy ops A V o) o).run P w=r at *;have put:∀v B,H (upd (λj=>t.getD j az) i) (cP V i v) B->Inv ops A H (t.setIfInBounds i aA) (a.put o.dst v) B:=λv B S =>
   aiy M z O C T h.closed h.He h.O7 N R S
  cases r with
  | ok n B =>
   cases n <;> simp only[lZ]at y <;> simp only[Oper.upon]
   case value v=>exact put _ _ y
   case skip=>exact put _ _ y
   case enter f args => apply dP y;intro v w'' S;exact put _ _ S
  | halt x B=>simp only[lZ]at y
 rw[bQ W]at y|-;exact aiy M z O C T h.closed h.He h.O7 N R y
theorem axj V:∀(l:List Oper) (k:Nat) (a:Act),(iO V l k a).tmps.size=a.tmps.size/\(iO V l k a).defers=a.defers /\(∀t,(∀(j:Nat) (o:Oper),l[j]?=I o->o.dst≠I t)->(iO V l k a).tmps.getD t undef=a.tmps.getD t undef) /\(∀(j:Nat) (o:Oper) (t:Tmp),l[j]?=I o->o.dst=I t->t<a.tmps.size->(∀(y:Nat) (z:Oper),l[y]?=I z->y≠j->z.dst≠I t)->(iO V l k a).tmps.getD t undef=V (k+j)):=by
 intro l;induction l with
 | nil=>intro k a;exact⟨rfl,rfl,λ_ _=>rfl,λj o t h=>bL⟩
 | cons o r Q =>
  intro k a;obtain⟨O,S,C,R⟩:=Q (k+1) (a.put o.dst (V k));have H:(a.put o.dst (V k)).tmps.size=a.tmps.size:=by cases o.dst <;> simp[Act.put]
  refine⟨O.trans H,S.trans (by cases o.dst <;> rfl),λt N=>?_,λj p t hj A B M=>?_⟩
  .show (iO V r (k+1) (a.put o.dst (V k))).tmps.getD t undef=_;rw[C t λj p hj=>N (j+1) p GF];have T:=N 0 o bu;cases ho:o.dst with
   | none=>rfl
   | some e =>
    have hne:e≠t:=by rintro rfl;exact T ho
    exact Yq
  show (iO V r (k+1) (a.put o.dst (V k))).tmps.getD t undef=_;cases j with
  | zero => simp at hj;subst hj;rw[C t λj p hj=>M (j+1) p GF aZ,A];simp[Act.put,B]
  | succ j =>
   have:=R j p t GF A (by rw[H];exact B) λy z hj' hne=>M (y+1) z Yt aZ
   rw[this];congr 1;omega
theorem avM{ops n j}(y:rV ops n=aA)(O:j.size=ops.size)(H:Region.ready .any ops j=[]):∀i,i<ops.size->j.getD i az=true:=by
 intro i;induction i using Nat.strongRecOn with
 | _ i C =>
  intro N;by_cases h:j.getD i az=aA;exact h;exfalso;have t:ops[i]?=I ops[i]:=bu;have:i∈Region.ready .any ops j:=by
   refine mem_ready.2 ⟨?_,_,t,λe B M=>?_⟩
   .grind
   have z:=agA.2 ⟨e,B,M,rfl⟩;have A:=(Ix y t).1 _ z;exact C _ A aZ
  rw[H]at this;cases this
theorem aA8{ops z N}(T:rV ops z.tmps.size=aA)(owed:∀i o,ops[i]?=I o->T2 P ops z N i o)(fin:∀(V:Nat->aQ) (w:aP),N (λj=>decide (j<ops.size)) V w->Q .normal (iO V ops.toList 0 z) w) :∀(B:Nat) (y:Array Bool) (a:Act) (w:aP),y.toList.count az<=B->Inv ops z N y a w->wpAny P .any ops Q B y a w:=by
 have X:∀(y:Array Bool) (a:Act) (w:aP),Inv ops z N y a w->Region.ready .any ops y=[]->Q .normal a w:=by
  intro y a w h M;have hall:=avM T h.size M;obtain⟨V,h1,h2,h3⟩:=h.zX;have hLf:(λj=>y.getD j az)=λj=>decide (j<ops.size):=by
   funext j;by_cases hj:j<ops.size
   .grind
   have:¬j<y.size:=by rw[h.size];exact hj
   simp[hj,this]
  rw[hLf]at h3;have hq:=fin V w h3;obtain⟨p1,p2,p3,p4⟩:=axj V ops.toList 0 z;have ha:a=iO V ops.toList 0 z:=by
   have e2:=h.O7.trans p2.symm;have W:a.tmps=(iO V ops.toList 0 z).tmps:=by
    apply Array.ext;rw[h.He,p1];intro t ht1 ht2;have g1:a.tmps[t]=a.tmps.getD t undef:=by simp[ht1]
    have g2:(iO V ops.toList 0 z).tmps[t]=(iO V ops.toList 0 z).tmps.getD t undef:=by simp[ht2]
    rw[g1,g2];by_cases S:∃j,j<ops.size/\rZ ops j=I t;obtain⟨j,hj,A⟩:=S;obtain⟨p,C,Y⟩:=KF A;rw[h1 j t (hall j hj) A];have h5:=p4 j p t (by simpa using C) Y (by rw[<- h.He];exact ht1) λj' o' hj' hne hd'=>(Ix T C).2.2.1 t Y |>.2 j' o' Yt hne hd'
    rw[h5,mr];rw[h2 t λj hj A=>S ⟨j,?_,A⟩,p3 t λj o hj A=>S ⟨j,?_,?_⟩];have:=(aF.1 hj).1;simpa using this;unfold rZ;have hj':ops[j]?=I o:=GF;rw[hj'];exact A;obtain⟨p,C,_⟩:=KF A;exact (aG.1 C).1
   calc a=⟨a.tmps,a.defers⟩:=rfl
    _=_:=by rw[W,e2]
  rw[ha];exact hq
 intro B;induction B with
 | zero =>
  intro y a w Lp h;have M:Region.ready .any ops y=[]:=by
   apply List.eq_nil_iff_forall_not_mem.2;intro i O;obtain⟨tA,o,R,_⟩:=mem_ready.1 O;have hlt:i<y.size:=by rw[h.size];exact (aG.1 R).1
   have H:y[i]=false:=Yr;have:az∈y.toList:=by rw[<- H];simp
   have:=List.count_pos_iff.2 this;omega
  exact⟨M,X y a w h M⟩
 | succ B ih =>
  intro y a w Lp h;refine⟨X y a w h,λi O=>?_⟩;refine wpOp_mono (λa' w' h'=>ih _ a' w' ?_ h') (azi T owed h O);obtain⟨tA,o,R,_⟩:=mem_ready.1 O;have hlt:i<y.size:=by rw[h.size];exact (aG.1 R).1
  have H:y[i]=false:=Yr;have hpos:0<y.toList.count false:=List.count_pos_iff.2 (by rw[<- H];simp);rw[Array.toList_setIfInBounds,List.count_set (by simpa using hlt)];have W:(y.toList[i]'(by simpa using hlt)==az)=true:=by simp[H]
  rw[bV W,bQ bG];omega
theorem WE{id ops y w} A n(hn:y.tmps.size=n)(hm:P.follows .mixedOrders=aA)(B:rV ops n=aA)(H:A (λ_=>az) (λ_=>undef) w.drew)(M:∀i o,ops[i]?=I o->T2 P ops y A i o)(fin:∀(V:Nat->aQ) (w:aP),A (λj=>decide (j<ops.size)) V w->Q .normal (iO V ops.toList 0 y) w) :(Code.region id ops aA).wp P Q y w:=by
 subst hn;refine wp_region_any hm (aA8 B M fin _ _ _ _ ?_ ⟨bu,?_,rfl,rfl,⟨λ_=>undef,?_,λ_ _=>rfl,?_⟩⟩);refine cQ List.count_le_length ?_;simp;intro j o C z;have t:=(aG.1 C).1;simp[t]at z;intro j d z N;by_cases t:j<ops.size <;> simp[t]at z
 have:(λj=>(Array.replicate ops.size az).getD j az)=λ_=>false:=by funext j;by_cases t:j<ops.size <;> simp[t]
 rw[this];exact H
def tab(l:List (aQ->aP->Prop))(i:Nat)(v:aQ)(w:aP):Prop:=(l.getD i (λ_ _=>True)) v w
theorem dK f l v w:tab (f :: l) 0 v w=f v w:=rfl
theorem dL f l n v w:tab (f :: l) (n+1) v w=tab l n v w:=rfl
theorem Xe{Le:aP->aP->Prop}{l}(h:∀f∈l,∀v w w',f v w->Le w w'->f v w'):∀j v w w',tab l j v w->Le w w'->tab l j v w':=by intro j v w w' y z;unfold tab at *;by_cases t:j<Z l;simp only[List.getD_eq_getElem?_getD,aE t,Option.getD_some]at *;exact h _ (dJ t) v w w' y z;grind
def bR(rd:List (Nat×Nat))(y:Act)(V:Nat->aQ):Operand->aQ
 | .tmp t=>match rd.lookup t with
  | some j=>V j
  | none=>y.tmps.getD t undef
 | x=>y.eval x
def dI(V:Nat->aQ):Option (Nat×Bool)->Bool
 | none=>aA
 | some (j,want)=>match V j with
  | ar b=>b==want
  | _=>az
def bT (op:Op) (ty:TypeId):Oper:={ dst:=U,op:=op,type:=ty,pos:="",after:=#[],guard:=U }
def anJ(P:Program)(ops:Array Oper)(z:Act)(t:(Nat->Bool)->(Nat->aQ)->aP->Prop)(k:Nat)(op:Op)(ty:TypeId)(gd:Option (Nat×Bool))(al:List Nat)(rd:List (Nat×Nat)):Prop :=
 ∀(aT:Nat->Bool) (V:Nat->aQ) (w:aP),aT k=az->Closed ops aT->(∀j∈al,aT j=aA)->t aT V w ->
  if dI V gd=aA then lZ P (λv y=>t (upd aT k) (cP V k v) y) ((aL (bR rd z V) (bT op ty)).run P w)else t (upd aT k) (cP V k undef) w
def OV(P:Program)(ops:Array Oper)(j:Act)(t:(Nat->Bool)->(Nat->aQ)->aP->Prop):Nat->List Oper->List (List Nat×List (Nat×Nat))->Prop
 | _,[],_=>True
 | _,_ :: _,[]=>False
 | k,o :: r,x :: xs=>anJ P ops j t k o.op o.type o.guard x.1 x.2/\OV P ops j t (k+1) r xs
def tR(ops:Array Oper)(z:List (List Nat×List (Nat×Nat))):Bool :=
 ops.toList.zipIdx.all λx=>match z[x.2]? with
  | none=>az
  | some (al,rd)=>al.all (λj=>(ahead x.1).contains j) &&
   (match x.1.op with | .select ..=>az|_=>aA) &&
   (x.1.op.operands.toList.all λy=>match y with
    | .tmp t=>(ahead x.1).find? (λj=>rZ ops j==I t)==rd.lookup t
    | _=>aA)
theorem WT ρ o:aL ρ o=aL ρ (bT o.op o.type):=by
 cases o with
 | mk j op y pos t z=>cases op <;> rfl
theorem axk{ops z C} M(hok:tR ops M=aA)(h:OV P ops z C 0 ops.toList M):∀i o,ops[i]?=I o->T2 P ops z C i o:=by
 have key:∀(l:List Oper) (k:Nat) (q:List (List Nat×List (Nat×Nat))),OV P ops z C k l q->∀(i:Nat) (o:Oper),l[i]?=I o->∃x,q[i]?=I x/\anJ P ops z C (k+i) o.op o.type o.guard x.1 x.2:=by
  intro l;induction l with
  | nil=>intro k q _ i o A;simp at A
  | cons p r ih =>
   intro k q H i o A;cases q with
   | nil=>exact False.elim H
   | cons x xs =>
    cases i with
    | zero=>simp at A;subst A;exact⟨x,rfl,H.1⟩
    | succ i => obtain⟨y,R,N⟩:=ih (k+1) xs H.2 i o bL;grind
 intro i o A;obtain⟨⟨al,rd⟩,hx,N⟩:=key _ 0 M h i o bL;rw[mr]at N;have B:=List.all_eq_true.1 hok (o,i) (List.mem_zipIdx_iff_getElem?.2 bL);simp only[hx,fI]at B;obtain⟨⟨B,Q⟩,h3⟩:=B;intro S V w Y hcl W hc;have hal:=λj O=>by simpa using List.all_eq_true.1 B j O
 have T:=N S V w Y hcl (λj O=>W j (hal j O)) hc;have X:wants V o=dI V o.guard:=by unfold wants dI;rfl
 have hex:aL (Cy ops z V o) o=aL (bR rd z V) (bT o.op o.type):=by
  rw[<- WT];refine execOp_congr o (λcs b e=>by rw[e]at Q;cases Q) λy R=>?_
  have h4:=List.all_eq_true.1 h3 y (by simpa using R);exact aiz
 rw[X,hex];exact T
def fk(P:Program)(φ:aQ->aP->Prop)(w:aP):Result Next->Prop
 | .ok (.value v) w'=>φ v w'/\aN (D (L w)) w w'
 | .ok .skip w'=>φ undef w'/\aN (D (L w)) w w'
 | .ok (.enter f args) w'=>aK P f args w' λe j=>∃v,e=ak v/\φ v j/\aN (D (L w)) w j
 | _=>False
def anK(P:Program)(t:Act)(C:aP->Prop)(φ:Nat->aQ->aP->Prop)(k:Nat)(op:Op)(ty:TypeId)(gd:Option (Nat×Bool))(al:List Nat)(rd:List (Nat×Nat)):Prop :=
 ∀(V:Nat->aQ) (w:aP),C w->(∀j∈al,φ j (V j) w)->if dI V gd=aA then fk P (φ k) w ((aL (bR rd t V) (bT op ty)).run P w)else φ k undef w
theorem BL{t i j}(h:upd t i j=aA):j=i\/t j=true:=by grind [upd]
def T3(P:Program)(C t:aP->Prop)(Le:aP->aP->Prop)(φ:aQ->aP->Prop)(w:aP):Result Next->Prop
 | .ok (.value v) w'=>φ v w'/\C w'/\t w'/\Le w w'
 | .ok .skip w'=>φ undef w'/\C w'/\t w'/\Le w w'
 | .ok (.enter f args) w'=>aK P f args w' λe j=>∃v,e=ak v/\φ v j/\C j/\t j/\Le w j
 | _=>False
def aCH(P:Program)(t:Act)(C z y:aP->Prop)(Le:aP->aP->Prop)(φ:Nat->aQ->aP->Prop)(k:Nat)(op:Op)(ty:TypeId)(gd:Option (Nat×Bool))(al:List Nat)(rd:List (Nat×Nat)):Prop :=
 gd=U/\∀(V:Nat->aQ) (w:aP),C w->z w->(∀j∈al,φ j (V j) w)->T3 P C y Le (φ k) w ((aL (bR rd t V) (bT op ty)).run P w)
def Lk(P:Program)(j:Act)(C t y:aP->Prop)(Le:aP->aP->Prop)(φ:Nat->aQ->aP->Prop)(z:Nat):Nat->List Oper->List (List Nat×List (Nat×Nat))->Prop
 | _,[],_=>True
 | _,_ :: _,[]=>False
 | k,o :: r,x :: xs=>(if k=z then aCH P j C t y Le φ k o.op o.type o.guard x.1 x.2 else anK P j C φ k o.op o.type o.guard x.1 x.2)/\Lk P j C t y Le φ z (k+1) r xs
def OW(C y A:aP->Prop)(l:List (aQ->aP->Prop))(z:Nat)(t:Nat->Bool)(V:Nat->aQ)(w:aP):Prop:=C w/\(if t z=aA then A w else y w)/\∀j,t j=aA->tab l j (V j) w
def bS(c:aQ)(v:aQ)(_:aP):Prop:=v=c
def T4(_:aQ)(_:aP):Prop:=True
def sl(l:List UInt8)(v:aQ)(w:aP):Prop:=∃A c,v=F A (Z l) c/\Reads w (D (L w)) 1 A (Z l) (fW l)
theorem aCI c:∀v w j,bS c v w->aN (D (L w)) w j->bS c v j:=λ_ _ _ h _=>h
theorem aA9:∀v w j,T4 v w->aN (D (L w)) w j->T4 v j:=λ_ _ _ h _=>h
theorem qK l:∀v w j,sl l v w->aN (D (L w)) w j->sl l v j:=by rintro v w j⟨A,c,h,y⟩ t;exact⟨A,c,h,(y.below t (bP _)).more t.size⟩
theorem gS{w base e v l}(h:Own w base e v l):sl l v w:=by obtain⟨A,c,j,t⟩:=h.slice;grind [sl]
theorem aCJ{P w v l} t j e(C:P.underlying t=some (.slice e))(z:P.underlying e=some (.int .u8))(y:P.underlying j=some .string)(h:sl l v w):(convert t j v).run P w=.ok (aw ⟨l.toArray⟩) w:=by obtain⟨A,c,rfl,B⟩:=h;grind [aif]
end
def mX(x:eD):Bool:=vQ x.1&&kK x.2.1 x.2.2.1 x.2.2.2
def oH(a b:ByteArray):Bool:=Op.bytesLess a.toList b.toList
theorem aiA:∀x y:List UInt8,Op.bytesLess x y=decide (x<y)
 | [],[]=>Yu
 | _ :: _,[]=>Yu
 | [],_ :: _=>Yu
 | a :: x,b :: y=>by rw[Op.bytesLess,aiA x y];simp only[List.cons_lt_cons_iff];by_cases j:a<b <;> by_cases t:a=b <;> simp[j,t]
theorem NZ a b:oH a b=aA↔gE a<gE b:=by grind [oH,aiA,ByteArray.toList_eq]
theorem Yv{a b}(h:gE a=gE b):a=b:=by cases a;cases b;simp only[ByteArray.mk.injEq];exact Array.toList_inj.1 h
theorem Sr(a b:ByteArray):(a.toList==b.toList)=decide (a=b):=by grind [ByteArray.toList_eq,Yv]
theorem Xf a:oH a a=false:=by simp[Bool.eq_false_iff,NZ,List.lt_irrefl]
theorem agB{a b c}(h:oH a b=aA)(k:oH b c=aA):oH a c=true:=by grind [NZ,List.lt_trans]
theorem aiB a b:(Op.bytesLess a.toList b.toList||a.toList==b.toList)=!oH b a:=by
 have j:Op.bytesLess a.toList b.toList=oH a b:=rfl;rw[j,Sr];by_cases e:a=b
 .grind [Xf]
 cases h:oH a b;cases k:oH b a;exfalso;have t:¬gE a<gE b:=λx=>by grind [NZ]
 have y:¬gE b<gE a:=λx=>by grind [NZ]
 exact e (Yv (List.le_antisymm (List.not_lt.1 y) (List.not_lt.1 t)));simp[e];grind [oH,agB,Xf]
def Fk:Option ByteArray->List eD->Option ByteArray
 | p,[]=>p
 | _,x :: r=>Fk (I x.1) r
def behind(p:Option ByteArray)(s:ByteArray):Bool:=match p with|none=>aA|some y=>oH y s
def mc:Option ByteArray->List eD->Bool
 | _,[]=>aA
 | p,x :: r=>mX x&&behind p x.1&&mc (I x.1) r
def iM(l:List eD):Bool:=decide (1<=Z l)&&decide (Z l<=16)&&mc U l
def mP(l:List eD):Int:=if iM l then 0 else 40
theorem atC p a b:Fk p (a++b)=Fk (Fk p a) b:=by
 induction a generalizing p with
 | nil=>rfl
 | cons x a j=>simp only[cC,Fk];exact j _
theorem afV p a b:mc p (a++b)=(mc p a&&mc (Fk p a) b):=by
 induction a generalizing p with
 | nil=>simp[mc,Fk]
 | cons x a j=>simp only[cC,mc,Fk,j,Bool.and_assoc]
theorem avN(l:List eD) k(h:k<Z l):Fk U (l.take (k+1))=I l[k].1:=by rw[iY h,atC];rfl
theorem azj(l:List eD)(h:0<Z l):mc U (l.take 1)=mX l[0]:=by grind [iY,mc,behind]
theorem azk(l:List eD)(k:Nat)(h:k+1<Z l):mc U (l.take (k+1+1))=(mc U (l.take (k+1))&&(mX l[k+1]&&oH (l[k]'aZ).1 l[k+1].1)):=by grind [iY,afV,avN,mc,behind]
theorem aBa l k(h:mc U (l.take k)=az):mc U l=false:=by grind [afV,List.take_append_drop]
theorem aBb l k(h:mc U (l.take k)=az):mP l=40:=by grind [mP,iM,aBa]
theorem azl l(j:1<=Z l)(t:Z l<=16)(h:mc U (l.take (Z l))=aA):mP l=0:=by grind [mc,mP,iM]
abbrev aEb(x:eD):aQ:=av #[aw x.1,G J x.2.1,G J x.2.2.1,aw x.2.2.2]
theorem Ss(l:List eD) k(hk:k<Z l):∀j,(t:j<4)->(l.flatMap nu)[k*4+j]?=I ((nu l[k])[j]'t):=by intro j t;rw[List.flatMap_def,zE 4 _ bL k j bL t];simp[hk]
theorem azm(l:List eD):Z (l.flatMap nu)=Z l*4:=by rw[List.flatMap_def,EX 4 _ bL];simp
theorem Reads.Je{w B n A}{l:List eD}(h:Reads w B 4 A n (l.flatMap nu))(C:0<Z l) :∃b j,A=I ⟨b,j,U⟩/\b<B/\∀k (t:k<Z l),w.cell? ⟨b,j+k*4,U⟩=I (aw l[k].1)/\w.cell? ⟨b,j+k*4+1,U⟩=I (G J l[k].2.1) /\w.cell? ⟨b,j+k*4+2,U⟩=I (G J l[k].2.2.1)/\w.cell? ⟨b,j+k*4+3,U⟩=I (aw l[k].2.2.2):=by obtain⟨b,j,e,z,y⟩:=h.2 (by grind [azm]);refine⟨b,j,e,z,λk t=>?_⟩;have:=y _ _ (Ss l k t 0 bG);have:=y _ _ (Ss l k t 1 bG);have:=y _ _ (Ss l k t 2 bG);have:=y _ _ (Ss l k t 3 bG);grind
theorem below_drewN{B w w'}(h:aN B w w') n:aN B w (w'.drewN n):=by
 induction n with
 | zero=>exact h
 | succ n j=>exact⟨h.os,h.tape,h.output,h.size,h.block⟩
def iI(l:List eD)(v:aQ)(w:aP):Prop:=∃A c,v=F A (Z l) c/\Reads w (D (L w)) 4 A (Z l) (l.flatMap nu)
theorem mq l:∀v w w',iI l v w->aN (D (L w)) w w'->iI l v w':=aiC
theorem str{w v l}(h:sl l v w):(convert 118 9 v).run aR w=.ok (aw ⟨l.toArray⟩) w :=
 aCJ _ _ _ underlying118 underlying5 underlying9 h
def wu(l:List UInt8)(wr:Bool):eD×List UInt8×Bool :=
 ((⟨(cD 16 l wr).1.toArray⟩,(iz (cD 16 l wr).2.1 (cD 16 l wr).2.2).1.1,(iz (cD 16 l wr).2.1 (cD 16 l wr).2.2).1.2.1,⟨(iz (cD 16 l wr).2.1 (cD 16 l wr).2.2).1.2.2.toArray⟩),(iz (cD 16 l wr).2.1 (cD 16 l wr).2.2).2)
def iZ:Nat->List UInt8->Bool->List eD×List UInt8×Bool
 | 0,l,wr=>([],l,wr)
 | k+1,l,wr=>((iZ k l wr).1++[(wu (iZ k l wr).2.1 (iZ k l wr).2.2).1],(wu (iZ k l wr).2.1 (iZ k l wr).2.2).2)
def Jf(b:List UInt8):List eD×List UInt8×Bool:=iZ (bJ b az).1 (bJ b az).2.1 (bJ b az).2.2
def vY(b:List UInt8):Option (List eD) :=
 if decide ((bJ b az).1<=16)&&!(Jf b).2.2&&(Jf b).2.1.isEmpty&&iM (Jf b).1 then I (Jf b).1 else U
def Ch(b:List UInt8):List eD:=(vY b).getD []
def Ci(b:List UInt8):Int:=if (vY b).isSome then 0 else 40
theorem St l wr:Z (iz l wr).2.1<=Z l:=by grind [qF,bJ,GD,iz]
theorem aiD l wr:dA (iz l wr).1.1/\dA (iz l wr).1.2.1:=by grind [iz,XN,KQ,dA]
theorem aBc l wr:Z (wu l wr).2.1<=Z l :=
 cQ (St _ _) (GD 16 l wr)
theorem XP k l wr:Z (iZ k l wr).2.1<=Z l/\Z (iZ k l wr).1=k:=by
 induction k with
 | zero=>exact⟨bP _,rfl⟩
 | succ k j=>exact⟨cQ (aBc _ _) j.1,by grind [iZ]⟩
theorem KR j l wr:Z (cD j l wr).1<=j.toNat:=by grind [cD]
theorem azn k l wr:∀x∈(iZ k l wr).1,(dA x.2.1/\dA x.2.2.1)/\x.1.size<=16:=by
 induction k with
 | zero=>simp[iZ]
 | succ k t =>
  intro x j;rcases List.mem_append.1 j with j|j
  .grind
  simp only[List.mem_singleton]at j;subst j;exact⟨aiD _ _,KR 16 _ _⟩
theorem aBd:(prog.info? 88).map (λi=>(i.zero,i.size,i.bytes))=I (I (av #[aw { data:=#[] },G J 0,G J 0,aw { data:=#[] }]),4,48):=by rfl
theorem TE:gQ aR 35 88 (av #[aw { data:=#[] },G J 0,G J 0,aw { data:=#[] }]) 4 48:=⟨underlying35,aBd,rfl,bG⟩
abbrev s8(w:aP)(base:Nat)(v:aQ)(l:List eD):Prop:=w.ownsRow base 88 4 v (Z l) (l.flatMap nu)
theorem s8.slice{w base v l}(h:s8 w base v l):∃A c,v=F A (Z l) c/\Reads w (D (L w)) 4 A (Z l) (l.flatMap nu)/\Z l<=c/\c<=maxLen:=aiE
theorem pF{w:aP}{base base' e size n v xs}(hb:base<=base')(h:w.ownsRow base' e size v n xs):w.ownsRow base e size v n xs:=aih
theorem sU{w w' base e size n v xs}(h:w.ownsRow base e size v n xs)(hb:aN (D (L w)) w w'):w'.ownsRow base e size v n xs:=aii
theorem N0{w w':aP}{base g e size n v xs}(h:w.ownsRow base e size v n xs)(hb:w.grownBy w' (I g))(hg:g<base):w'.ownsRow base e size v n xs :=World.ownsRow.kept h hb (aJ (by
 intro e;have:=(h.lt g e).1;omega))
theorem ahz x:∀u∈nu x,u.oneCell'=true:=by intro u j;simp at j;rcases j with rfl|rfl|rfl|rfl <;> rfl
theorem aiF{w base v l}(h:s8 w base v l):iI l v w:=by obtain⟨A,c,rfl,j,_⟩:=h.slice;grind [iI]
section
open Go Go.RowKit Go.ChangeShapes Go.WideShapes Go.ChangeAt
abbrev fo:=ByteArray×Int×Int×Int×ByteArray
abbrev je(x:fo):List aQ:=[aw x.1,G J x.2.1,G J x.2.2.1,G J x.2.2.2.1,aw x.2.2.2.2]
abbrev ua(x:fo):aQ:=av #[aw x.1,G J x.2.1,G J x.2.2.1,G J x.2.2.2.1,aw x.2.2.2.2]
def jN(x:fo):Prop:=dA x.2.1/\dA x.2.2.1/\dA x.2.2.2.1
theorem N4(l:List fo) k(hk:k<Z l):∀j,(t:j<5)->(l.flatMap je)[k*5+j]?=I ((je l[k])[j]'t):=by intro j t;rw[List.flatMap_def,zE 5 _ aiG k j bL t];simp[hk]
theorem azo(l:List fo):Z (l.flatMap je)=Z l*5:=by rw[List.flatMap_def,EX 5 _ aiG];simp
theorem Reads.Lq{w B n A}{l:List fo}(h:Reads w B 5 A n (l.flatMap je))(C:0<Z l) :∃b j,A=I ⟨b,j,U⟩/\b<B/\∀k (t:k<Z l),w.cell? ⟨b,j+k*5,U⟩=I (aw l[k].1)/\w.cell? ⟨b,j+k*5+1,U⟩=I (G J l[k].2.1) /\w.cell? ⟨b,j+k*5+2,U⟩=I (G J l[k].2.2.1)/\w.cell? ⟨b,j+k*5+3,U⟩=I (G J l[k].2.2.2.1)/\w.cell? ⟨b,j+k*5+4,U⟩=I (aw l[k].2.2.2.2):=by obtain⟨b,j,e,z,y⟩:=h.2 (by grind [azo]);refine⟨b,j,e,z,λk t=>?_⟩;have:=y _ _ (N4 l k t 0 bG);have:=y _ _ (N4 l k t 1 bG);have:=y _ _ (N4 l k t 2 bG);have:=y _ _ (N4 l k t 3 bG);have:=y _ _ (N4 l k t 4 bG);grind
def fZ(l:List fo)(v:aQ)(w:aP):Prop:=∃A c,v=F A (Z l) c/\Reads w (D (L w)) 5 A (Z l) (l.flatMap je)
theorem fO l:∀v w w',fZ l v w->aN (D (L w)) w w'->fZ l v w':=aiC
section
variable {H:Type}{enc:TypeId×aQ->H}{w:aP}{base:Nat}{r:Reach}{b0:Nat}{spare:Nat->Bool}{held:Bool}{v:aQ}{d:DataW H}{p:List MemPlace}
theorem axl{cs S x}(h:DataW.trod enc aR w base spare held S 85 cs=I x):∃y:fo,cs=je y/\jN y:=by
 obtain⟨R,n,_,_,B,N,A⟩:=DataW.trod_struct underlying85 h
 have O:prog.cellsOf 85=5:=dH
 rw[O]at B
 match cs,B with
 | [c0,c1,c2,c3,c4],_ => have t:=A 0 _ rfl;have z:=A 1 _ rfl;have j:=A 2 _ rfl;have T:prog.cellsOf 9=1:=dH;have Q:prog.cellsOf 3=1:=dH;have V:prog.cellsOf 83=3:=dH;simp[T,Q,V]at t z j;have:Z R=3:=N;rw[aE aZ]at t z j;obtain⟨s,es,_,_⟩:=DataW.trod_string underlying9 t;obtain⟨a,H,_,X⟩:=DataW.trod_int underlying3 z;obtain⟨y,C,M,W⟩:=agz j;simp at es H C;obtain⟨rfl,rfl,rfl⟩:=C;subst es H;have:=bounds_i64 X;exact⟨(s,a,y),rfl,iF,M,W⟩
end
end
abbrev Eg(α:Type):=List UInt8->Bool->α×List UInt8×Bool
structure GP{α:Type}(enc:α->List UInt8)(ok:α->Prop)(rd:Eg α):Prop where
 fwd:∀x,ok x->∀rest,rd (enc x++rest) az=(x,rest,az)
 back:∀l wr,(rd l wr).2.2=az->l=enc (rd l wr).1++(rd l wr).2.1/\wr=az
 len:∀l wr,Z (rd l wr).2.1<=Z l
def fH{α:Type}(rd:Eg α):Nat->Eg (List α)
 | 0,l,wr=>([],l,wr)
 | k+1,l,wr=>((fH rd k l wr).1++[(rd (fH rd k l wr).2.1 (fH rd k l wr).2.2).1],(rd (fH rd k l wr).2.1 (fH rd k l wr).2.2).2)
section
variable {α:Type}{enc:α->List UInt8}{ok:α->Prop}{rd:Eg α}
theorem GP.bad(C:GP enc ok rd) l:(rd l aA).2.2=true:=by
 cases h:(rd l aA).2.2 with
 | true=>rfl
 | false=>have:=(C.back l aA h).2;cases this
theorem N5(C:GP enc ok rd) k l wr:Z (fH rd k l wr).2.1<=Z l/\Z (fH rd k l wr).1=k:=by
 induction k with
 | zero=>exact⟨bP _,rfl⟩
 | succ k j=>exact⟨cQ (C.len _ _) j.1,by grind [fH]⟩
theorem Yw(C:GP enc ok rd){k l wr}(h:(fH rd k l wr).2.2=aA):∀d,(fH rd (k+d) l wr).2.2=aA
 | 0=>h
 | d+1=>by have:=Yw C h d;show (rd (fH rd (k+d) l wr).2.1 (fH rd (k+d) l wr).2.2).2.2=aA;rw[this];exact C.bad _
theorem aiH(p:α->Prop)(j:∀l wr,p (rd l wr).1) k l wr:∀x∈(fH rd k l wr).1,p x:=by
 induction k with
 | zero=>simp[fH]
 | succ k t => grind [fH]
theorem aiI(C:GP enc ok rd)(l:List α)(h:∀x∈l,ok x) rest:∀k,k<=Z l->fH rd k (l.flatMap enc++rest) az=(l.take k,(l.drop k).flatMap enc++rest,az):=by
 intro k;induction k with
 | zero=>intro _;simp[fH]
 | succ k ih => intro j;have hk':k<Z l:=aZ;have hd:l.drop k=l[k] :: l.drop (k+1):=bu;have hx:=h l[k] (dJ hk');show ((fH rd k (l.flatMap enc++rest) az).1++[(rd (fH rd k (l.flatMap enc++rest) az).2.1 (fH rd k (l.flatMap enc++rest) az).2.2).1],(rd (fH rd k (l.flatMap enc++rest) az).2.1 (fH rd k (l.flatMap enc++rest) az).2.2).2)=_;exact aiJ
theorem ahA(C:GP enc ok rd){k l wr}(h:(fH rd k l wr).2.2=az):l=(fH rd k l wr).1.flatMap enc++(fH rd k l wr).2.1/\wr=false:=by
 induction k with
 | zero=>exact⟨dH,h⟩
 | succ k j => obtain⟨e1,t⟩:=C.back (fH rd k l wr).2.1 (fH rd k l wr).2.2 h;obtain⟨e2,y⟩:=j t;refine⟨?_,y⟩;show l=((fH rd k l wr).1++[(rd (fH rd k l wr).2.1 (fH rd k l wr).2.2).1]).flatMap enc++(rd (fH rd k l wr).2.1 (fH rd k l wr).2.2).2.1;exact aiK
end
def ph(s:ByteArray)(x:eD):Bool:=decide (x.1=s)
def Fl(l:List eD)(s:ByteArray):aQ:=match l.find? (ph s)with|some x=>au #[vv x.2.1 x.2.2.1 x.2.2.2,ar aA]|none=>au #[vv 0 0 { data:=#[] },ar az]
theorem ahB(l:List eD) s k(hk:k<Z l)(h:ph s l[k]=aA)(j:∀x∈l.take k,ph s x=az):l.find? (ph s)=I l[k]:=by grind [List.getElem_cons_drop,List.take_append_drop,List.find?_eq_none,List.find?_cons_of_pos]
theorem axm(l:List eD) s(j:∀x∈l,ph s x=az):l.find? (ph s)=none:=List.find?_eq_none.2 λx t=>by simp[j x t]
theorem ahC(s:ByteArray):∀l:List eD,(∃k,∃hk:k<Z l,ph s l[k]=aA/\∀x∈l.take k,ph s x=az)\/∀x∈l,ph s x=az
 | []=>aJ bu
 | y :: l=>by
  cases h:ph s y with
  | true=>exact aI ⟨0,bu,Dz,bu⟩
  | false =>
   rcases ahC s l with ⟨k,hk,h1,t⟩|h1;refine aI ⟨k+1,vP,E4,?_⟩;intro x j;rw[TP]at j;rcases List.mem_cons.1 j with rfl|j;exact h;exact t x j;refine aJ λx j=>?_
   rcases List.mem_cons.1 j with rfl|j;exact h;exact h1 x j
theorem Np(a b:ByteArray):a.toList=b.toList↔a=b:=by grind [ByteArray.toList_eq,Yv]
theorem avO k n j t s y w d:(Op.equalIn (d+1+1) 83 (vv k n s) (vv j t y)).run aR w=.ok (decide ((k,n,s)=(j,t,y))) w:=by simp[go_sem,Np];grind
theorem aBe k n j t s y w:(binOp .eql 83 (vv k n s) (vv j t y)).run aR w=.ok (ar (decide ((k,n,s)=(j,t,y)))) w:=by rw[run_eql_struct,avO k n j t s y w 9998];rfl
abbrev Vl:=Int×Int×ByteArray
def kU(a b:Int):Int:=if a<b then -1 else if b<a then 1 else 0
def Cj(a b:ByteArray):Int:=if oH a b then -1 else if oH b a then 1 else 0
def iQ(a b:Vl):Int:=if kU a.1 b.1 != 0 then kU a.1 b.1 else if kU a.2.1 b.2.1 != 0 then kU a.2.1 b.2.1 else Cj a.2.2 b.2.2
def preB(a b:ByteArray):Bool:=decide (b.size<=a.size)&&((a.extract 0 b.size).toList==b.toList)
def my(a b:Vl):Bool:=a.1==2&&b.1==2&&preB a.2.2 b.2.2
def lq(t:fo)(v:Vl):Bool :=
 if t.2.1==8 then aA else
 (v.1==t.2.2.1)&&(if t.2.1==1 then iQ v t.2.2==0 else if t.2.1==2 then iQ v t.2.2 != 0 else if t.2.1==3 then decide (iQ v t.2.2<0)else if t.2.1==4 then decide (iQ v t.2.2<=0)
  else if t.2.1==5 then decide (0<iQ v t.2.2)else if t.2.1==6 then decide (0<=iQ v t.2.2)else if t.2.1==7 then my v t.2.2 else az)
def sV(t:fo)(e:List eD):Bool:=match e.find? (ph t.1)with|some x=>lq t x.2|none=>az
def oQ(f:List fo)(e:List eD):Bool:=f.all λt=>sV t e
def jh(t:fo):Bool :=
 vQ t.1&&(if t.2.1==8 then decide (t.2.2=(0,0,⟨#[]⟩))else if t.2.1==7 then kK t.2.2.1 t.2.2.2.1 t.2.2.2.2&&t.2.2.1==2 else decide (1<=t.2.1)&&decide (t.2.1<=8)&&kK t.2.2.1 t.2.2.2.1 t.2.2.2.2)
def okF(l:List fo):Bool:=decide (Z l<=8)&&l.all jh
def GY(t:fo):Int:=if jh t then 0 else 50
def pT(l:List fo):Int:=if okF l then 0 else 50
def mz(t:fo):List UInt8:=(bO t.1.size++gE t.1)++(bO (cO t.2.1)++(if t.2.1==8 then []else qJ t.2.2.1 t.2.2.2.1 t.2.2.2.2))
def lK(l:List fo):List UInt8:=bO (Z l)++l.flatMap mz
def Fm(l:List fo):List UInt8:=if okF l then lK l else []
def i7:Eg fo:=λl j =>
 if 8<(bJ (cD 16 l j).2.1 (cD 16 l j).2.2).1 then ((⟨#[]⟩,0,0,0,⟨#[]⟩),(bJ (cD 16 l j).2.1 (cD 16 l j).2.2).2.1,aA)
 else if (bJ (cD 16 l j).2.1 (cD 16 l j).2.2).1=8 then ((⟨(cD 16 l j).1.toArray⟩,8,0,0,⟨#[]⟩),(bJ (cD 16 l j).2.1 (cD 16 l j).2.2).2)
 else ((⟨(cD 16 l j).1.toArray⟩,((bJ (cD 16 l j).2.1 (cD 16 l j).2.2).1:Int),(iz (bJ (cD 16 l j).2.1 (cD 16 l j).2.2).2.1 (bJ (cD 16 l j).2.1 (cD 16 l j).2.2).2.2).1.1,
  (iz (bJ (cD 16 l j).2.1 (cD 16 l j).2.2).2.1 (bJ (cD 16 l j).2.1 (cD 16 l j).2.2).2.2).1.2.1,⟨(iz (bJ (cD 16 l j).2.1 (cD 16 l j).2.2).2.1 (bJ (cD 16 l j).2.1 (cD 16 l j).2.2).2.2).1.2.2.toArray⟩),
  (iz (bJ (cD 16 l j).2.1 (cD 16 l j).2.2).2.1 (bJ (cD 16 l j).2.1 (cD 16 l j).2.2).2.2).2)
def GQ(b:List UInt8):List fo×List UInt8×Bool:=fH i7 (bJ b az).1 (bJ b az).2.1 (bJ b az).2.2
def tU(b:List UInt8):Option (List fo) :=
 if decide ((bJ b az).1<=8)&&!(GQ b).2.2&&(GQ b).2.1.isEmpty&&okF (GQ b).1 then I (GQ b).1 else U
def ym(b:List UInt8):List fo:=(tU b).getD []
def yo(b:List UInt8):Int:=if (tU b).isSome then 0 else 50
theorem Gv{l}(h:okF l=aA):Z l<=8/\∀x∈l,jh x=true:=by grind [okF,jh]
theorem IB{t}(h:jh t=aA):t.1.size<=16/\1<=t.2.1/\t.2.1<=8/\(t.2.1=8->t.2.2=(0,0,⟨#[]⟩))/\(t.2.1≠8->kK t.2.2.1 t.2.2.2.1 t.2.2.2.2=aA):=by grind [jh,kK,vQ]
theorem aBf l wr:Z (i7 l wr).2.1<=Z l:=by grind [GD,qF,cD,St,bJ,i7]
theorem aBg t(h:jh t=aA/\jN t) rest:i7 (mz t++rest) az=(t,rest,az):=by
 obtain⟨z,j⟩:=h;obtain⟨M,N,B,H,y⟩:=IB z;obtain⟨s,op,k,n,x⟩:=t;simp only at M N B H y j;have R:cO op=op.toNat:=by grind [cO]
 have A:cD 16 (mz (s,op,k,n,x)++rest) az=(gE s,bO (cO op)++(if op==8 then []else qJ k n x)++rest,az):=by have:=IG 16 (gE s) cN cN (bO (cO op)++(if op==8 then []else qJ k n x)++rest);rw[show Z (gE s)=s.size by simp]at this;unfold mz;grind
 have Q:=tO (cO op) (jm op) ((if op==8 then []else qJ k n x)++rest);unfold i7;rw[A];simp only;rw[gA (bO (cO op)),Q];simp only;rw[bQ aZ];by_cases O:op=8
 .simp_all
 rw[bQ aZ,bQ bL];have C:=ahy k n x (y O) j.2.2.1 j.2.2.2 rest;rw[C];cases s;grind [Prod.mk.injEq]
theorem azp l wr(h:(i7 l wr).2.2=az):l=mz (i7 l wr).1++(i7 l wr).2.1/\wr=false:=by
 have N:=qG (cD 16 l wr).2.1 (cD 16 l wr).2.2;unfold i7 at h|-;split at h;cases h;rename_i C;rw[bQ C];split at h
 .rename_i j;rw[bV j];obtain⟨B,z⟩:=xa h;obtain⟨y,_,t⟩:=Gx z;refine⟨?_,t⟩;unfold mz;simp only;have A:(⟨(cD 16 l wr).1.toArray⟩:ByteArray).size=Z (cD 16 l wr).1:=Yx;rw[A,show gE ⟨(cD 16 l wr).1.toArray⟩=(cD 16 l wr).1 by simp[gE]];rw[show cO (8:Int)=(bJ (cD 16 l wr).2.1 (cD 16 l wr).2.2).1 by rw[j];rfl];rw[bV bG,List.append_nil,gA,<- B];exact y
 rename_i j;rw[bQ j];obtain⟨H,_,M,_⟩:=XN h;obtain⟨B,z⟩:=xa M;obtain⟨y,_,t⟩:=Gx z;refine⟨?_,t⟩;unfold mz;simp only;have A:(⟨(cD 16 l wr).1.toArray⟩:ByteArray).size=Z (cD 16 l wr).1:=Yx;rw[A,show gE ⟨(cD 16 l wr).1.toArray⟩=(cD 16 l wr).1 by simp[gE]];rw[show cO ((bJ (cD 16 l wr).2.1 (cD 16 l wr).2.2).1:Int)=(bJ (cD 16 l wr).2.1 (cD 16 l wr).2.2).1 by unfold cO;omega];rw[bQ cN,gA,gA (bO (bJ (cD 16 l wr).2.1 (cD 16 l wr).2.2).1),<- H,<- B];exact y
theorem KL:GP mz (λt=>jh t=aA/\jN t) i7:=⟨aBg,azp,aBf⟩
theorem aBh l wr:jN (i7 l wr).1/\(i7 l wr).1.1.size<=16:=by grind [KR,aiD,bJ,cD,i7,jN,dA,ByteArray.size]
theorem avP l(z:okF l=aA)(t:∀x∈l,jN x) rest:bJ (lK l++rest) az=(Z l,l.flatMap mz++rest,az)/\GQ (lK l++rest)=(l,rest,az):=by
 obtain⟨B,A⟩:=Gv z;have y:bJ (lK l++rest) az=(Z l,l.flatMap mz++rest,az):=by grind [lK,gA,tO]
 refine⟨y,?_⟩;have:=aiI KL l (λx j=>⟨A x j,t x j⟩) rest (Z l) (bP _);unfold GQ;grind
theorem azq l(j:okF l=aA)(t:∀x∈l,jN x):tU (lK l)=I l:=by have h:=avP l j t [];rw[List.append_nil]at h;have:=(Gv j).1;unfold tU;grind
theorem agC{b y}(h:tU b=I y):b=lK y/\okF y=aA/\∀x∈y,jN x:=by
 unfold tU at h;split at h
 .rename_i hq;injection h with h;simp only[fI,Bool.not_eq_true',List.isEmpty_iff,decide_eq_true_eq]at hq;obtain⟨⟨⟨O,z⟩,B⟩,j⟩:=hq;unfold GQ at z B j h;obtain⟨t,M⟩:=ahA KL z;obtain⟨H,_⟩:=xa M;have C:=(N5 KL (bJ b az).1 (bJ b az).2.1 (bJ b az).2.2).2;have A:=aiH (λx:fo=>jN x/\x.1.size<=16) aBh (bJ b az).1 (bJ b az).2.1 (bJ b az).2.2;rw[h]at t C j A;rw[B,List.append_nil]at t;refine⟨?_,j,λx N=>(A x N).1⟩;unfold lK;rw[C,<- t];exact H
 cases h
theorem axn t w :aK aR 303 #[ua t] w λe B=>e=ak (G J (GY t))/\aN (D (L w)) w B:=by
 obtain⟨s,op,k,n,x⟩:=t;have hb0:aN (D (L w)) w (aU w (aq #[aw s,G J op,G J k,G J n,aw x] 85)):=(eP _ _).alloc (bP _) _;have S:=bn.new w 85 #[aw s,G J op,G J k,G J n,aw x];have HT:Hid (jh (s,op,k,n,x)=(vQ s&&(if op==8 then decide ((k,n,x)=(0,0,(⟨#[]⟩:ByteArray)))else if op==7 then kK k n x&&k==2 else decide (1<=op)&&decide (op<=8)&&kK k n x))):=aY rfl;have tZ:Hid (jh (s,op,k,n,x)=az->GY (s,op,k,n,x)=50):=aY (λh=>by simp[GY,h]);have z:Hid (jh (s,op,k,n,x)=aA->GY (s,op,k,n,x)=0):=aY (λh=>by simp[GY,h]);go_in;go_wp2_with fail
 apply bW (Xd s _);rintro B rfl;cases hn:vQ s
 .have HE:=aY (tZ.aX (by rw[HT.aX,hn];rfl));go_wp2;go_ret;exact⟨ki,hb0⟩
 by_cases W:op<1;exact aiL;by_cases X:8<op;exact aiL;go_wp2_with fail
 apply bW (Rt k n x _);intro w2 H;have j:=S.bM H;have fY:=hb0.trans (H.mono hb0.size);have V:=j.cell 1;have T:=j.cell 2;have Q:=j.cell 3;have O:=j.cell 4;simp at V T Q O;have HC:Hid ((oG k n x==0)=kK k n x):=aY (by unfold oG;cases kK k n x <;> rfl);by_cases y:op=7
 .have HE:Hid (jh (s,op,k,n,x)=(kK k n x&&k==2)):=by simp_all
  have R:(op==7)=true:=by simp[y]
  have M:(op==8)=false:=by simp[y]
  cases hv:kK k n x;have A:(oG k n x==0)=false:=Su;have HF:=aY (tZ.aX (by rw[HE.aX,hv];rfl));exact IP;have A:(oG k n x==0)=true:=Su;cases hk:(k==2);have HF:=aY (tZ.aX aiM);exact IP;have HF:=aY (z.aX aiM);exact IP
 have R:(op==7)=false:=by simp[y]
 by_cases C:op=8
 .have HE:Hid (jh (s,op,k,n,x)=decide ((k,n,x)=(0,0,(⟨#[]⟩:ByteArray)))):=by simp_all
  have M:(op==8)=true:=by simp[C]
  have:=aBe k n 0 0 x ⟨#[]⟩;generalize N:decide ((k,n,x)=(0,0,(⟨#[]⟩:ByteArray)))=d at *;have:=aY N;cases d;have HF:=aY (tZ.aX N6);exact IP;have HF:=aY (z.aX N6);exact IP
 have HE:Hid (jh (s,op,k,n,x)=kK k n x):=by simp_all
 have M:(op==8)=false:=by simp[C]
 cases hv:kK k n x;have A:(oG k n x==0)=false:=Su;have HF:=aY (tZ.aX (by rw[HE.aX,hv]));exact IP;have A:(oG k n x==0)=true:=Su;have HF:=aY (z.aX (by rw[HE.aX,hv]));exact IP
theorem aBi l k(h:k<Z l)(hb:jh l[k]=az):pT l=50:=by grind [jh,pT,okF]
theorem azr l(h8:Z l<=8)(h:∀x∈l.take (Z l),jh x=aA):pT l=0:=by grind [jh,pT,okF]
theorem axo(l:List fo)(k:Nat)(h:k<Z l)(ha:∀x∈l.take k,jh x=aA)(hb:jh l[k]=aA):∀x∈l.take (k+1),jh x=true:=aiN
theorem avQ t:(GY t=0/\jh t=aA)\/(GY t=50/\jh t=az):=by grind [GY,jh]
theorem WM A c l w B(hR:Reads w B 5 A (Z l) (l.flatMap je))(hB:B<=D (L w)) :aK aR 261 #[F A (Z l) c] w λe Y=>e=ak (G J (pT l))/\aN (D (L w)) w Y:=by
 by_cases h8:8<Z l
 .have AJ:(8:Int)<(Z l:Int):=aZ;have HE:Hid (pT l=50):=aY (by simp[pT,okF,show ¬Z l<=8 by omega]);generalize Z l=n at *;go_in;go_wp2;go_ret;exact⟨ki,eP _ _⟩
 have AJ:¬(8:Int)<(Z l:Int):=aZ;have HA:=aY hR;go_in;go_wp2_with fail
 go_loopw [11] (fun i wr=>∃k:Nat,k<=Z l/\i=G J k/\Hid (∀x∈l.take k,jh x=aA)/\aN (D (L w)) w wr) (fun i _=>Z l-(aO i).toNat)
 case atStart=>exact⟨0,aZ,rfl,aY bu,eP _ _⟩
 case round =>
  obtain⟨k,hk,rfl,Q,hb⟩:=hrel;by_cases y:k<Z l
  .have W:(k:Int)<Z l:=aZ;obtain⟨b,j,rfl,gY,hcell⟩:=HA.aX.Lq aZ;obtain⟨T,e1,e2,e3,e4⟩:=hcell k y;have t:=cZ gY hB;have d0:=(hb.cell (p:=⟨b,j+k*5,U⟩) t).trans T;have d1:=(hb.cell (p:=⟨b,j+k*5+1,U⟩) t).trans e1;have V:=(hb.cell (p:=⟨b,j+k*5+2,U⟩) t).trans e2;have X:=(hb.cell (p:=⟨b,j+k*5+3,U⟩) t).trans e3;have d4:=(hb.cell (p:=⟨b,j+k*5+4,U⟩) t).trans e4;have HT:=aY (axo l k y Q.aX);have Hg:=aY (aBi l k y);have hz:=hb.size;generalize l[k]=x at *;obtain⟨M,R,O,C,N⟩:=x;simp only at d0 d1 V X d4;go_wp2_with fail
   apply bW (axn (M,R,O,C,N) _);intro w2 hb2;have H:=(hb.alloc hz _).trans (hb2.mono cN);rcases avQ (M,R,O,C,N)with ⟨S,z⟩|⟨S,z⟩
   .have hr:=aY (HT.aX z);go_wp2;go_roundw
    case rel=>exact⟨k+1,aZ,dh,hr,H⟩
    case measure=>simp[aO];omega
   have HE:=aY (Hg.aX z);have HC:=aY S;go_wp2;go_ret;exact⟨by rw[HE.aX,<- HC.aX];rfl,H⟩
  have W:¬(k:Int)<Z l:=aZ;have HE:=aY (azr l aZ (by
   have:=Q.aX;rwa [show k=Z l by omega]at this))
  go_wp2;exact Sv
theorem afW{l v w}(h:fZ l v w):aK aR 261 #[v] w λe j=>e=ak (G J (pT l))/\aN (D (L w)) w j:=by obtain⟨A,c,rfl,t⟩:=h;exact WM A c l w _ t (bP _)
theorem azs:(prog.info? 85).map (λi=>(i.zero,i.size,i.bytes))=I (I (av #[aw { data:=#[] },G J 0,G J 0,G J 0,aw { data:=#[] }]),5,56):=by rfl
theorem TF:gQ aR 37 85 (av #[aw { data:=#[] },G J 0,G J 0,G J 0,aw { data:=#[] }]) 5 56:=⟨underlying37,azs,rfl,bG⟩
abbrev lV(w:aP)(base:Nat)(v:aQ)(l:List fo):Prop:=w.ownsRow base 85 5 v (Z l) (l.flatMap je)
theorem lV.slice{w base v l}(h:lV w base v l):∃A c,v=F A (Z l) c/\Reads w (D (L w)) 5 A (Z l) (l.flatMap je)/\Z l<=c/\c<=maxLen:=aiE
theorem ahD x:∀u∈je x,u.oneCell'=true:=by intro u hu;exact Yy
theorem BQ{w base v l}(h:lV w base v l):fZ l v w:=by obtain⟨A,c,rfl,j,_⟩:=h.slice;grind [fZ]
theorem axp b k(hk:k<=(bJ b az).1)(h:(fH i7 k (bJ b az).2.1 (bJ b az).2.2).2.2=aA):yo b=50/\ym b=[]:=by
 have:(GQ b).2.2=true:=by have:=Yw KL h ((bJ b az).1-k);rwa [show k+((bJ b az).1-k)=(bJ b az).1 by omega]at this
 have j:tU b=none:=by grind [tU]
 simp[yo,ym,j]
theorem azt l wr(h:8<(bJ (cD 16 l wr).2.1 (cD 16 l wr).2.2).1):(i7 l wr).2.2=true:=by grind [bJ,cD,i7]
theorem axq l wr(h:(bJ (cD 16 l wr).2.1 (cD 16 l wr).2.2).1=8):i7 l wr=((⟨(cD 16 l wr).1.toArray⟩,8,0,0,⟨#[]⟩),(bJ (cD 16 l wr).2.1 (cD 16 l wr).2.2).2):=by grind [bJ,cD,i7]
theorem azu l wr(h:(bJ (cD 16 l wr).2.1 (cD 16 l wr).2.2).1<8):i7 l wr=((⟨(cD 16 l wr).1.toArray⟩,((bJ (cD 16 l wr).2.1 (cD 16 l wr).2.2).1:Int),(iz (bJ (cD 16 l wr).2.1 (cD 16 l wr).2.2).2.1 (bJ (cD 16 l wr).2.1 (cD 16 l wr).2.2).2.2).1.1,(iz (bJ (cD 16 l wr).2.1 (cD 16 l wr).2.2).2.1 (bJ (cD 16 l wr).2.1 (cD 16 l wr).2.2).2.2).1.2.1,⟨(iz (bJ (cD 16 l wr).2.1 (cD 16 l wr).2.2).2.1 (bJ (cD 16 l wr).2.1 (cD 16 l wr).2.2).2.2).1.2.2.toArray⟩),(iz (bJ (cD 16 l wr).2.1 (cD 16 l wr).2.2).2.1 (bJ (cD 16 l wr).2.1 (cD 16 l wr).2.2).2.2).2):=by grind [bJ,cD,i7,iz]
theorem azv k l bad s(j:fH i7 k l bad=s):fH i7 (k+1) l bad=(s.1++[(i7 s.2.1 s.2.2).1],(i7 s.2.1 s.2.2).2):=by subst j;rfl
theorem asZ A n c b w B(hR:Reads w B 1 A n (fW b))(hB:B<=D (L w))(hn:n<=1000000000) :aK aR 198 #[F A n c] w λe V =>∃v',e=ak (au #[v',G J (yo b)])/\lV V (D (L w)) v' (ym b)/\aN (D (L w)) w V:=by
 have dR:Z b=n:=IL;have hle:Z b<=1000000000:=aZ;clear dR;go_in;go_wp2_with fail
 refine (Ny A n c b w B hR hB hn).mono ?_;rintro e w1⟨g,rfl,hg,hr1,cK⟩;go_wp2_with fail
 refine (vN g b az w1 hr1).mono ?_;rintro e w2⟨rfl,dC,gh⟩;have jg:=hr1.lt;have hz2:=gh.size;have fY:=cK.trans (nj gh hg cK.size);have hlt:=qG b az;have abb:=qF b az;have HB:=aY (axp b);have HD:Hid (tU b=if decide ((bJ b az).1<=8)&&!(fH i7 (bJ b az).1 (bJ b az).2.1 (bJ b az).2.2).2.2&&(fH i7 (bJ b az).1 (bJ b az).2.1 (bJ b az).2.2).2.1.isEmpty&&okF (fH i7 (bJ b az).1 (bJ b az).2.1 (bJ b az).2.2).1 then I (fH i7 (bJ b az).1 (bJ b az).2.1 (bJ b az).2.2).1 else U):=aY rfl;generalize bJ b az=a at *;obtain⟨m,l,bad⟩:=a;simp only at dC hlt abb HD HB|-;clear hr1 cK hR;by_cases lF:m<=8;rotate_left;have Cg:(8:Int)<(m:Int):=aZ;have HE:Hid (yo b=50):=aY (by have:=HD.aX;simp[lF]at this;simp[yo,this]);have HL:Hid (ym b=[]):=aY (by have:=HD.aX;simp[lF]at this;simp[ym,this]);exact aiO;have Cg:¬(8:Int)<(m:Int):=aZ;go_wp2_with fail
 go_loopw [6,7,8,16] (fun v _ _ i j=>∃k:Nat,k<=m/\i=G E k/\lV j (D (L w1)) v (fH i7 k l bad).1/\Rd j g (fH i7 k l bad).2.1 (fH i7 k l bad).2.2/\aN (D (L w)) w j/\D (L w1)<=D (L j)) (fun _ _ _ i _=>m-(aO i).toNat)
 case atStart=>exact⟨0,aZ,rfl,oV _ _ _ _,dC,fY,hz2⟩
 case round =>
  obtain⟨k,hk,rfl,hown,rH,hb,hz⟩:=hrel;by_cases hlt:k<m
  .have gW:(k:Int)<m:=aZ;have hlk:=N5 KL k l bad;have T:=azv k l bad;have LO:=HB.aX (k+1) aZ;generalize hs:fH i7 k l bad=s at *;replace T:=T s rfl;obtain⟨M,t,j⟩:=s;simp only at hown rH hlk T;rw[T]at LO;obtain⟨aEc,abc⟩:=hlk;have aEd:Z M<=8:=aZ;clear abc;have C1:=aY (Rk g t j 16 wr rH aZ aZ aZ);have lM:=GD 16 t j;have F8:=aY λh=>LO (azt t j h)
   have FE:=aY λh=>T.trans (show ((M,t,j).1++[(i7 t j).1],(i7 t j).2)=_ by rw[axq t j h])
   have FL:=aY λh=>T.trans (show ((M,t,j).1++[(i7 t j).1],(i7 t j).2)=_ by rw[azu t j h])
   clear T hs LO;have gK:=qF (cD 16 t j).2.1 (cD 16 t j).2.2;have yC:=qG (cD 16 t j).2.1 (cD 16 t j).2.2;have C2:Hid (∀W,Rd W g (cD 16 t j).2.1 (cD 16 t j).2.2->aK aR 134 #[aj (I ⟨g,0,U⟩)] W λe V=>e=ak (G E ((bJ (cD 16 t j).2.1 (cD 16 t j).2.2).1:Nat))/\qL g (bJ (cD 16 t j).2.1 (cD 16 t j).2.2).2.1 (bJ (cD 16 t j).2.1 (cD 16 t j).2.2).2.2 W V):=aY λW hW=>vN g _ _ W hW
   generalize cD 16 t j=sb at *;obtain⟨R,lb,wb⟩:=sb;simp only at C1 C2 F8 FE FL lM gK yC;generalize bJ lb wb=sn at *;obtain⟨op,lo,wo⟩:=sn;simp only at C2 F8 FE FL gK yC;have mf:=St lo wo;have C3:Hid (∀W,Rd W g lo wo->aK aR 260 #[aj (I ⟨g,0,U⟩)] W λe V=>e=ak (vd (iz lo wo).1)/\qL g (iz lo wo).2.1 (iz lo wo).2.2 W V):=aY λW hW=>ae4 g _ _ W hW aZ
   generalize iz lo wo=sv at *;obtain⟨⟨vk,vn,vt⟩,lv,wv⟩:=sv;simp only[vd]at C3 FL mf;have CI:g<D (L wr):=aZ;go_wp2_with fail
   refine C1.aX.mono ?_;rintro e y⟨v3,rfl,jk,gX,kJ⟩;have hst:=str (gS jk);have mg:=kJ.size;have GM:=N0 hown kJ jg;have dB:=hb.trans (nj kJ hg hb.size);clear hown rH kJ hb C1;go_wp2_with fail
   have jX:=bn.new y 85 #[aw ⟨R.toArray⟩,G J 0,G J 0,G J 0,aw ⟨#[]⟩];have T5:aN (D (L y)) y (aU y (aq #[aw ⟨R.toArray⟩,G J 0,G J 0,G J 0,aw ⟨#[]⟩] 85)):=(eP _ _).alloc (bP _) _;have aob:=gX.below T5 aZ;have ano:=sU GM T5;have abd:=dB.trans (T5.mono dB.size);have hhz:D (L y)<D (L (aU y (aq #[aw ⟨R.toArray⟩,G J 0,G J 0,G J 0,aw ⟨#[]⟩] 85))):=bu;have UE:g≠D (L y):=aZ;have hh1:D (L w1)<=D (L y):=aZ;have hhw:=dB.size;have wy:aW u6≠I (D (L y)):=by intro e;have:=(GM.lt _ e).2;omega
   clear gX T5 GM dB hst jk;generalize y.alloc (aq #[aw ⟨R.toArray⟩,G J 0,G J 0,G J 0,aw ⟨#[]⟩] 85)=w3a at *;generalize D (L y)=h at *;refine (C2.aX _ aob).mono ?_;rintro e w4⟨rfl,iq,hg4⟩;have lr:=hg4.size;have I4:=N0 ano hg4 jg;have hb4:=abd.trans (nj hg4 hg abd.size);have S:=jX.grown hg4 aiP;clear ano aob hg4 abd C2 jX;by_cases h8:8<op
   .have AJ:(8:Int)<(op:Int):=aZ;obtain⟨hC,hL⟩:=F8.aX h8;have HC:=aY hC;have HL:=aY hL;clear hC hL h8;go_wp2;go_ret2;exact⟨_,by rw[HC.aX];rfl,Sw,hb4⟩
   have AJ:¬(8:Int)<(op:Int):=aZ;have N:=S.cell 0;have O:=S.cell 1;have H:=S.cell 2;have z:=S.cell 3;have Q:=S.cell 4;have z1:=S.frozen 1;simp at N O H z Q;go_upto_region 13 with fail;have pY:w4.grownBy (aV w4 ⟨h,1,U⟩ (G J op)) (I h):=Gz (E2 w4 _) rfl _;have tB:=pY.size;have X:=S.cH 1 (G J op);have iU:=hb4.trans (nj pY hhw hb4.size);have lG:=iq.below (nj pY (bP h) aZ) aZ;have OX:lV _ _ _ _:=World.ownsRow.kept I4 pY (aJ wy);clear pY S hb4 iq I4 N O H z Q z1;generalize w4.setCell ⟨h,1,U⟩ (G J op)=w5 at *;have N:=X.cell 0;have O:=X.cell 1;have H:=X.cell 2;have z:=X.cell 3;have Q:=X.cell 4;simp at N O H z Q;by_cases he:op=8
   .have HF:=aY (FE.aX he);subst he;have aKd:D (L w1)<=D (L w5):=aZ;go_wp2_with (at_builtin;refine nZ rfl _ _ 37 rfl (D (L w1)) 85 _ 5 56 TF _ _ _ rfl (xj OX _) (D (L w5)+1) _ 1 1 (je ((⟨R.toArray⟩,8,0,0,⟨#[]⟩):fo)) rfl ?c1 ?c2 ?c3 ?c5 ?_)
    case c1=>exact Reads.new w5 (je ((⟨R.toArray⟩,8,0,0,⟨#[]⟩):fo)) 85 5 1 rfl
    case c2=>first|exact ahD _|exact⟨rfl,rfl,rfl,rfl,rfl⟩|exact⟨rfl,rfl,rfl,rfl⟩
    case c3=>omega
    case c5=>first|omega|(simp;omega)
    intro v9 w9 mw dW gD cV;have anp:lV w9 (D (L w1)) v9 (fH i7 (k+1) l bad).1:=aiQ;have fF:Rd w9 g (fH i7 (k+1) l bad).2.1 (fH i7 (k+1) l bad).2.2:=by rw[HF.aX];exact (lG.bM (Below.alloc (eP _ _) (bP _) _)).below cV jg
    have aoc:=(iU.alloc iU.size _).trans (cV.mono aZ);exact aiR
   have HF:=aY (FL.aX aZ);have hne:¬(op:Int)=8:=aZ;go_wp2_with fail
   refine (C3.aX _ lG).mono ?_;rintro e w6⟨rfl,um,Eh⟩;have AL:=Eh.size;have TQ:=N0 OX Eh jg;have Y:=iU.trans (nj Eh hg iU.size);have C:=X.grown Eh aiP;clear OX lG Eh iU C3 X N O H z Q;have N:=C.cell 0;have O:=C.cell 1;have H:=C.cell 2;have z:=C.cell 3;have Q:=C.cell 4;have z2:=C.frozen 2;have z3:=C.frozen 3;have z4:=C.frozen 4;simp at N O H z Q;go_upto_region 15 with fail;have yN:=Gz (Gz (Gz (E2 w6 (I h)) (p:=⟨h,2,U⟩) rfl (G J vk)) (p:=⟨h,3,U⟩) rfl (G J vn)) (p:=⟨h,4,U⟩) rfl (aw ⟨vt.toArray⟩);have UG:=yN.size;have sG:=((C.cH 2 (G J vk)).cH 3 (G J vn)).cH 4 (aw ⟨vt.toArray⟩);have jS:=Y.trans (nj yN hhw Y.size);have nz:=um.below (nj yN (bP h) aZ) aZ;have aDx:lV _ _ _ _:=World.ownsRow.kept TQ yN (aJ wy);clear yN C Y um TQ N O H z Q z2 z3 z4;generalize ((aV w6 ⟨h,2,U⟩ (G J vk)).setCell ⟨h,3,U⟩ (G J vn)).setCell ⟨h,4,U⟩ (aw ⟨vt.toArray⟩)=w7 at *;have N:=sG.cell 0;have O:=sG.cell 1;have H:=sG.cell 2;have z:=sG.cell 3;have Q:=sG.cell 4;simp at N O H z Q;have aKe:D (L w1)<=D (L w7):=aZ;go_wp2_with (at_builtin;refine nZ rfl _ _ 37 rfl (D (L w1)) 85 _ 5 56 TF _ _ _ rfl (xj aDx _) (D (L w7)+1) _ 1 1 (je ((⟨R.toArray⟩,(op:Int),vk,vn,⟨vt.toArray⟩):fo)) rfl ?c1 ?c2 ?c3 ?c5 ?_)
   case c1=>exact Reads.new w7 (je ((⟨R.toArray⟩,(op:Int),vk,vn,⟨vt.toArray⟩):fo)) 85 5 1 rfl
   case c2=>first|exact ahD _|exact⟨rfl,rfl,rfl,rfl,rfl⟩|exact⟨rfl,rfl,rfl,rfl⟩
   case c3=>omega
   case c5=>first|omega|(simp;omega)
   intro v9 w9 mw dW gD cV;have anp:lV w9 (D (L w1)) v9 (fH i7 (k+1) l bad).1:=aiQ;have fF:Rd w9 g (fH i7 (k+1) l bad).2.1 (fH i7 (k+1) l bad).2.2:=by rw[HF.aX];exact (nz.bM (Below.alloc (eP _ _) (bP _) _)).below cV jg
   have aoc:=(jS.alloc jS.size _).trans (cV.mono aZ);exact aiR
  have gW:¬(k:Int)<m:=aZ;obtain rfl:k=m:=aZ;clear hlt hk;have hlk:=(N5 KL k l bad).2;generalize fH i7 k l bad=s at *;obtain⟨M,t,j⟩:=s;simp only at hown rH HD hlk;clear hlk;have OY:∀x:Bool,x=(!j&&t.isEmpty&&okF M)->Hid (yo b=(if x then 0 else 50))/\Hid (ym b=if x then M else []):=by
   intro x hx;have h:=HD.aX;rw[show (decide (k<=8))=aA by simp;omega]at h;cases x with
   | true=>rw[Bool.true_and,<- hx]at h;exact⟨aY (by simp[yo,h]),aY (by simp[ym,h])⟩
   | false=>rw[Bool.true_and,<- hx]at h;exact⟨aY (by simp[yo,h]),aY (by simp[ym,h])⟩
  have UH:=aY OY;clear OY;go_wp2_with fail
  refine (Nn g _ _ wr rH).mono ?_;rintro e V⟨rfl,rfl⟩;cases hd:(!j&&t.isEmpty);exact aiS;obtain⟨A',c',rfl,hR',_,_⟩:=hown.slice;have hrow:=pF (cQ hg (Nat.le_of_lt jg)) hown;go_wp2_with fail
  refine (WM A' c' M wr (D (L wr)) hR' (bP _)).mono ?_;rintro e w6⟨rfl,Y⟩;have abe:=hb.trans (Y.mono hb.size);have TR:=sU hrow Y;cases hok:okF M;have hne:(pT M != 0)=true:=Sy;exact aiT;have hne:(pT M != 0)=false:=Sy;exact aiU
theorem avR{b v w}(h:sl b v w)(hn:Z b<=1000000000):aK aR 198 #[v] w λe j =>∃t,e=ak (au #[t,G J (yo b)])/\lV j (D (L w)) t (ym b)/\aN (D (L w)) w j:=by obtain⟨A,c,rfl,y⟩:=h;exact asZ A _ c b w _ y (bP _) hn
abbrev K(w W:aP):Prop:=aN (D (L w)) w W
section
variable {a b c w w' w'':aP}{B g base lo:Nat}{row:Option Nat}
theorem K.rf w:K w w:=eP _ _
theorem _root_.Go.RowKit.Below.tr(h:aN (D (L a)) a b)(k:aN (D (L b)) b c):aN (D (L a)) a c:=h.trans (k.mono h.size)
theorem _root_.Go.RowKit.Below.al(h:aN (D (L a)) a b)(o:Obj):aN (D (L a)) a (b.alloc o):=h.alloc h.size o
theorem K.new w o:K w (aU w o):=(K.rf w).al o
theorem K.ou w j t:K w ((aU w j).alloc t):=(K.new w j).al _
theorem K.T6 w t j y:K w (((aU w t).alloc j).alloc y):=(K.ou w t j).al _
theorem K.aod w j y t z:K w ((((aU w j).alloc y).alloc t).alloc z):=(K.T6 w j y t).al _
theorem K.aEe w t y z j A:K w (((((aU w t).alloc y).alloc z).alloc j).alloc A):=(K.aod w t y z j).al _
theorem bn.cG{w g t cs}(_:bn (aU w (aq cs t)) g t cs):K w (aU w (aq cs t)):=(K.rf w).al _
theorem bn.cells{t cs}(h:bn w g t cs):∀W,K w W->∀i,W.cell? ⟨g,i,U⟩=cs[i]?:=λ_ k i=>(h.bM k).cell i
structure cI(lo:Nat)(row:Option Nat)(w w':aP):Prop where
 os:w'.os=w.os
 tape:w'.tape=w.tape
 output:w'.output=w.output
 size:D (L w)<=D (L w')
 block:∀k,lo<=k->k<D (L w)->I k≠row->w'.heap[k]?=w.heap[k]?
theorem cI.rf lo row w:cI lo row w w:=⟨rfl,rfl,rfl,bP _,λ_ _ _ _=>rfl⟩
theorem cI.tr(h:cI lo row a b)(k:cI lo row b c):cI lo row a c :=
 ⟨k.os.trans h.os,k.tape.trans h.tape,k.output.trans h.output,cQ h.size k.size,λi j t y=>(k.block i j (cZ t h.size) y).trans (h.block i j t y)⟩
theorem cI.cz(h:K w w') lo row:cI lo row w w':=⟨h.os,h.tape,h.output,h.size,λi _ j _=>h.block i j⟩
theorem cI.gy(h:w.grownBy w' row) lo:cI lo row w w':=⟨h.os,h.tape,h.output,h.size,λi _ j t=>h.block i j t⟩
theorem cI.more{j t}(h:cI lo row w w')(C:lo<=j)(A:∀k,j<=k->I k≠t->I k≠row):cI j t w w' :=
 ⟨h.os,h.tape,h.output,h.size,λi z y B=>h.block i aZ y (A i z B)⟩
theorem cI.k(h:cI 0 row w w')(j:K a w)(y:∀k,row=I k->D (L a)<=k):K a w' :=
 j.trans ⟨h.os,h.tape,h.output,h.size,λi t=>h.block i (fw _) (cZ t j.size) (by rintro rfl;have:=y i rfl;omega)⟩
theorem cI.app(h:w.grownBy w' row){j}(A:j=row\/j=I (D (L w)))(k:cI lo j w' w''):cI lo row w w'':=by refine⟨k.os.trans h.os,k.tape.trans h.tape,k.output.trans h.output,cQ h.size k.size,λi y t z=>(k.block i y (cZ t h.size) ?_).trans (h.block i t z)⟩;grind
theorem TS{α:Type}(l:List α):((Z l:Int)==0)=l.isEmpty:=by
 cases l with
 | nil=>rfl
 | cons x l=>simp;omega
structure fy(α:Type) where
 size:Nat
 rel:α->List aQ->aP->Prop
 len:∀ {x cs w},rel x cs w->Z cs=size
 one:∀ {x cs w},rel x cs w->∀u∈cs,u.oneCell'=aA
 st:∀ {x cs w w'},rel x cs w->K w w'->rel x cs w'
variable {α:Type}{S:fy α}{l:List α}{v:aQ}{A:Option Addr}
def Each(S:fy α)(l:List α)(j:List (List aQ))(w:aP):Prop:=Z j=Z l/\∀i (h:i<Z l) (h':i<Z j),S.rel l[i] j[i] w
theorem Each.lens{j}(h:Each S l j w):∀t∈j,Z t=S.size:=by intro t z;obtain⟨i,y,rfl⟩:=List.mem_iff_getElem.1 z;exact S.len (h.2 i Yz y)
theorem Each.ones{t}(h:Each S l t w):∀u∈t.flatten,u.oneCell'=true:=by intro u j;obtain⟨A,y,j⟩:=List.mem_flatten.1 j;obtain⟨i,z,rfl⟩:=List.mem_iff_getElem.1 y;exact S.one (h.2 i Yz z) u j
theorem Each.st{j}(h:Each S l j w)(k:K w w'):Each S l j w':=⟨h.1,λi y t=>S.st (h.2 i y t) k⟩
theorem Each.D2{j}(h:Each S l j w):Z j.flatten=Z l*S.size:=by rw[EX S.size j h.lens,h.1]
theorem Each.get{t}(h:Each S l t w) i(C:i<Z l):∃z,t[i]?=I z/\Z z=S.size/\S.rel l[i] z w/\∀j,j<S.size->t.flatten[i*S.size+j]?=z[j]?:=by have y:i<Z t:=Yz;have A:=h.2 i C y;refine⟨t[i],aE y,S.len A,A,λj B=>?_⟩;rw[zE S.size t h.lens i j y B,aE y];rfl
theorem Each.nil(S:fy α) w:Each S [] [] w:=⟨rfl,λi hi=>NW⟩
theorem Each.snoc{j}(h:Each S l j w){x cs}(B:S.rel x cs w):Each S (l++[x]) (j++[cs]) w:=by
 refine⟨N7,λi A z=>?_⟩;have:=h.1;by_cases t:i<Z l
 .have:=h.2 i t aZ;grind
 grind
theorem Each.one{x cs}(j:S.rel x cs w):Each S [x] [cs] w:=by simpa using (Each.nil S w).snoc j
theorem Each.take{j}(h:Each S l j w) k:Each S (l.take k) (j.take k) w:=by refine⟨N7,λi y t=>?_⟩;simp only[List.getElem_take];exact h.2 i bL bL
theorem Each.drop{j}(h:Each S l j w) k:Each S (l.drop k) (j.drop k) w:=by refine⟨N7,λi y t=>?_⟩;simp only[List.getElem_drop];exact h.2 (k+i) bL bL
theorem Each.append{t z y}(h:Each S l z w)(k:Each S t y w):Each S (l++t) (z++y) w:=by refine⟨by simp[h.1,k.1],λi C B=>?_⟩;have A:=h.1;by_cases j:i<Z l;rw[List.getElem_append_left j,List.getElem_append_left aZ];exact h.2 i j aZ;rw[List.getElem_append_right aZ,List.getElem_append_right aZ];have:=k.2 (i-Z l) bL bL;simpa [A]using this
def yO(S:fy α)(l:List α)(A:Option Addr)(w:aP):Prop:=∃j,Each S l j w/\Reads w (D (L w)) S.size A (Z l) j.flatten
theorem aaT(h:yO S l A w)(k:K w w'):yO S l A w':=by obtain⟨y,j,t⟩:=h;exact⟨y,j.st k,(t.below k (bP _)).more k.size⟩
theorem YA(S:fy α) A w:yO S [] A w:=⟨[],Each.nil _ _,Reads.nil _ _ _ _⟩
theorem Lg(h:yO S l A w) i(O:i<Z l)(V:0<S.size):∃b y t,A=I ⟨b,y,U⟩/\b<D (L w)/\Z t=S.size/\S.rel l[i] t w/\∀j,j<S.size->w.cell? ⟨b,y+i*S.size+j,U⟩=t[j]?:=by obtain⟨Q,H,B⟩:=h;obtain⟨t,W,z,C,X⟩:=H.get i O;have M:0<Z Q.flatten:=bL;obtain⟨b,y,rfl,N,T⟩:=B.2 M;refine⟨b,y,t,rfl,N,z,C,λj R=>?_⟩;grind
def bD(S:fy α)(l:List α)(v:aQ)(w:aP):Prop:=∃A c,v=F A (Z l) c/\yO S l A w/\Z l<=c
theorem cM(h:bD S l v w)(k:K w w'):bD S l v w':=by obtain⟨A,c,j,t,y⟩:=h;exact⟨A,c,j,aaT t k,y⟩
theorem anq(h:bD S l v w):∀W,K w W->bD S l v W:=λ_ k=>cM h k
theorem iJ(S:fy α) w:bD S [] (F U 0 0) w:=⟨U,0,rfl,YA _ _ _,bP _⟩
def abf(S:fy α):fy (List α) where
 size:=1
 rel l cs w:=∃v,cs=[v]/\bD S l v w
 len:=by rintro _ _ _⟨v,rfl,_⟩;rfl
 one:=by rintro _ _ _⟨v,rfl,A,c,rfl,_⟩ u j;simp at j;subst j;rfl
 st:=by rintro _ _ _ _⟨v,rfl,h⟩ k;exact⟨v,rfl,cM h k⟩
def cW(base lo:Nat)(e:TypeId)(S:fy α)(l:List α)(v:aQ)(w:aP):Prop :=
 ∃j,w.ownsRow base e S.size v (Z l) j.flatten/\Z j=Z l/\∀t,cI lo (aW v) w t->Each S l j t
theorem cW.nil base lo e(S:fy α) w:cW base lo e S [] (F U 0 0) w:=⟨[],oV _ _ _ _,rfl,λ_ _=>Each.nil _ _⟩
theorem cW.st{e}(h:cW base lo e S l v w)(k:K w w'):cW base lo e S l v w':=by obtain⟨A,t,j,y⟩:=h;exact⟨A,sU t k,j,λz u=>y z ((cI.cz k lo _).tr u)⟩
theorem cW.up{e}(h:cW base lo e S l v w)(Q:lo<=base)(u:cI lo U w w'):cW base lo e S l v w':=by obtain⟨M,j,B,H⟩:=h;refine⟨M,⟨j.1,j.2.imp id ?_⟩,B,λN O=>H N (cI.tr (u.more (bP _) (λ_ _ _=>bu)) O)⟩;rintro ⟨g,C,cur,A,z,t,y⟩;exact⟨g,C,cur,A,z,(u.block g aZ (aG.1 t).1 bu).trans t,y⟩
theorem cW.low{e base'}(h:cW base' lo e S l v w)(hb:base<=base'):cW base lo e S l v w:=aiV
theorem cW.slice{e}(h:cW base lo e S l v w):∃A c,v=F A (Z l) c/\yO S l A w/\Z l<=c/\(∀g,aW v=I g->base<=g/\g<D (L w)):=by
 obtain⟨C,j,M,B⟩:=h;have z:=j;have y:=B w (cI.rf _ _ _);have t:=λg t=>j.lt g t
 rcases j.2 with ⟨rfl,O⟩|⟨g,N,cur,rfl,_,_,H,_⟩
 .grind [List.eq_nil_of_length_eq_zero,YA]
 exact⟨_,_,rfl,⟨C,y,Reads.B4 z⟩,H,t⟩
theorem cW.blk{e}(h:cW base lo e S l v w):∀g,aW v=I g->base<=g/\g<D (L w):=by obtain⟨y,j,_,_⟩:=h;exact λg t=>j.lt g t
theorem cW.bD{e:TypeId}(h:cW base lo e S l v w):bD S l v w:=by obtain⟨A,c,j,t,y,_⟩:=h.slice;grind [bD]
theorem cW.snoc{e j}(C:Z j=Z l)(y:∀w',cI lo (aW v) w w'->Each S l j w'){x cs v'}(B:w'.ownsRow base e S.size v' (Z l+1) (j.flatten++cs))(hg:w.grownBy w' (aW v))(z:aW v'=aW v\/aW v'=I (D (L w)))(A:∀w',cI lo (aW v) w w'->S.rel x cs w'):cW base lo e S (l++[x]) v' w':=by refine⟨j++[cs],bL,bL,λH u=>?_⟩;have t:=cI.app hg z u;exact (y _ t).snoc (A _ t)
end
def mQ(x:eD):List UInt8:=(bO x.1.size++gE x.1)++qJ x.2.1 x.2.2.1 x.2.2.2
def lW(l:List eD):List UInt8:=bO (Z l)++l.flatMap mQ
def Fs(l:List eD):List UInt8:=if iM l then lW l else []
theorem YB{p l}(h:mc p l=aA):∀x∈l,mX x=true:=by
 induction l generalizing p with
 | nil=>simp
 | cons y l j => grind [mc,mX]
theorem Xx{x}(h:mX x=aA):x.1.size<=16/\x.2.2.2.size<=40:=by simp only[mX,vQ,fI,decide_eq_true_eq]at h;exact⟨h.1.1.2,(KQ h.2).2⟩
theorem RV{l}(h:iM l=aA):1<=Z l/\Z l<=16/\mc U l=true:=by grind [iM,mc]
theorem azw{x}(h:mX x=aA)(t:-9223372036854775808<=x.2.2.1)(j:x.2.2.1<=9223372036854775807):Z (mQ x)<=92:=by obtain⟨a,b⟩:=Xx h;have:=fu x.1.size aZ;have:=fu (cO x.2.1) (jm _);have:=fu (yB x.2.1 x.2.2.1) (NS _ _ t j);have:=fu x.2.2.2.size aZ;simp[mQ,qJ];omega
theorem azx(l:List eD)(hk:∀x∈l,Z (mQ x)<=92):Z (l.flatMap mQ)<=92*Z l:=by
 induction l with
 | nil=>simp
 | cons y l j => grind
theorem ahE l k(y:iM l=aA)(t:∀x∈l,dA x.2.1/\dA x.2.2.1):Z (bO (Z l)++(l.take k).flatMap mQ)<=2000:=by
 obtain⟨C,A,z⟩:=RV y;have:=fu (Z l) aZ;have:=azx (l.take k) λx j=>azw (YB z x (oW j)) (t x (oW j)).2.1 (t x (oW j)).2.2
 grind
theorem axr(l:List eD) k(h:k<Z l):bO (Z l)++(l.take (k+1)).flatMap mQ=bO (Z l)++(l.take k).flatMap mQ++(bO l[k].1.size++gE l[k].1)++qJ l[k].2.1 l[k].2.2.1 l[k].2.2.2:=by grind [iY,mQ,gA]
theorem Reads.anL(w:aP) s c x e n(hn:D (L w)=n):Reads (aU w (aq (bytesRow s c) e x)).drew (n+1) 1 (I ⟨n,0,U⟩) s.size (fW (gE s)):=by grind [Reads.drew,Reads.conv]
def nv(x:eD):Prop:=dA x.2.1/\dA x.2.2.1
theorem aCK l:gE ⟨l.toArray⟩=l:=by rfl
theorem YC s:Z (gE s)=s.size:=by simp
theorem aBj x(z:mX x=aA)(j:nv x) rest:wu (mQ x++rest) az=(x,rest,az):=by
 obtain⟨C,A⟩:=Xx z;obtain⟨s,k,n,t⟩:=x;have y:kK k n t=true:=by grind [mX]
 have B:cD 16 (mQ (s,k,n,t)++rest) az=(gE s,qJ k n t++rest,az):=by have:=IG 16 (gE s) (by grind [YC]) (by grind [YC]) (qJ k n t++rest);rw[YC]at this;simp only[mQ];grind
 have H:=ahy k n t y j.2.1 j.2.2 rest;unfold wu;simp_all
theorem azy(l:List eD)(h:∀x∈l,mX x=aA/\nv x) rest:∀k,k<=Z l->iZ k (l.flatMap mQ++rest) az=(l.take k,(l.drop k).flatMap mQ++rest,az):=by
 intro k;induction k with
 | zero=>intro _;simp[iZ]
 | succ k z => intro A;have j:k<Z l:=aZ;have y:l.drop k=l[k] :: l.drop (k+1):=bu;have t:=h l[k] (dJ j);show ((iZ k (l.flatMap mQ++rest) az).1++[(wu (iZ k (l.flatMap mQ++rest) az).2.1 (iZ k (l.flatMap mQ++rest) az).2.2).1],(wu (iZ k (l.flatMap mQ++rest) az).2.1 (iZ k (l.flatMap mQ++rest) az).2.2).2)=_;rw[z aZ];simp only;rw[y,yp,gA,aBj _ t.1 t.2,iY j]
theorem axs l(z:iM l=aA)(t:∀x∈l,nv x) rest:bJ (lW l++rest) az=(Z l,l.flatMap mQ++rest,az)/\Jf (lW l++rest)=(l,rest,az):=by
 obtain⟨C,B,A⟩:=RV z;have y:bJ (lW l++rest) az=(Z l,l.flatMap mQ++rest,az):=by grind [lW,gA,tO]
 refine⟨y,?_⟩;have:=azy l (λx j=>⟨YB A x j,t x j⟩) rest (Z l) (bP _);unfold Jf;grind
theorem azz l(j:iM l=aA)(t:∀x∈l,nv x):vY (lW l)=I l:=by have h:=axs l j t [];rw[List.append_nil]at h;have:=(RV j).2.1;unfold vY;grind
theorem azA{l wr}(h:(wu l wr).2.2=az):l=mQ (wu l wr).1++(wu l wr).2.1/\wr=false:=by obtain⟨A,_,y,_⟩:=XN (l:=(cD 16 l wr).2.1) (wr:=(cD 16 l wr).2.2) h;obtain⟨t,_,j⟩:=Gx y;refine⟨?_,j⟩;unfold wu mQ;simp only;rw[aCK];have z:(⟨(cD 16 l wr).1.toArray⟩:ByteArray).size=Z (cD 16 l wr).1:=Yx;rw[z,gA,<- A];exact t
theorem axt{k l wr}(h:(iZ k l wr).2.2=az):l=(iZ k l wr).1.flatMap mQ++(iZ k l wr).2.1/\wr=false:=by
 induction k with
 | zero=>exact⟨dH,h⟩
 | succ k j => obtain⟨e1,t⟩:=azA (l:=(iZ k l wr).2.1) (wr:=(iZ k l wr).2.2) h;obtain⟨e2,y⟩:=j t;refine⟨?_,y⟩;show l=((iZ k l wr).1++[(wu (iZ k l wr).2.1 (iZ k l wr).2.2).1]).flatMap mQ++(wu (iZ k l wr).2.1 (iZ k l wr).2.2).2.1;exact aiK
theorem agD{b y}(h:vY b=I y):b=lW y/\iM y=aA/\∀x∈y,nv x:=by
 unfold vY at h;split at h
 .rename_i hq;injection h with h;simp only[fI,Bool.not_eq_true',List.isEmpty_iff,decide_eq_true_eq]at hq;obtain⟨⟨⟨O,z⟩,B⟩,j⟩:=hq;unfold Jf at z B j h;obtain⟨t,M⟩:=axt z;obtain⟨H,_⟩:=xa M;have C:=(XP (bJ b az).1 (bJ b az).2.1 (bJ b az).2.2).2;have A:=azn (bJ b az).1 (bJ b az).2.1 (bJ b az).2.2;rw[h]at t C j A;rw[B,List.append_nil]at t;refine⟨?_,j,λx N=>(A x N).1⟩;unfold lW;rw[C,<- t];exact H
 cases h
theorem XQ{l}(h:iM l=aA)(j:∀x∈l,nv x):Z (lW l)<=2000:=by have:=ahE l (Z l) h j;rwa [pL]at this
structure bU where
 bA:Int
 br:Int
 life:Nat
 eY:Nat
 cl:Int
 sub:Nat
 f:List fo
 es:List (List eD)
 deriving DecidableEq
def fS:bU:=⟨0,0,0,0,0,0,[],[]⟩
def dZ(x:bU):Prop:=dA x.bA/\dA x.br/\dA x.cl/\x.life<18446744073709551616/\x.eY<18446744073709551616/\x.sub<18446744073709551616/\(∀t∈x.f,jN t)/\∀e∈x.es,∀a∈e,nv a
def tV(b:Int):Bool:=decide (0<=b)&&decide (b<16)
def dE(x:bU):Bool :=
 tV x.br&&decide (0<=x.cl)&&decide (x.cl<32) &&
  (if x.bA=1 then decide (x.sub=0)&&x.f.isEmpty&&decide (Z x.es<=8)&&x.es.all iM
   else if x.bA=3 then x.f.isEmpty&&x.es.isEmpty
   else if x.bA=2 then x.es.isEmpty&&okF x.f else az)
def tW(x:bU):Int:=if dE x then 0 else 110
def jL(b:List UInt8):List UInt8:=bO (Z b)++b
def nI(x:bU):List UInt8:=bO (cO x.bA)++(bO (cO x.br)++(bO x.life++(bO x.eY++(bO (cO x.cl)++bO x.sub))))
def gB(x:bU):List UInt8 :=
 nI x++(if x.bA=1 then bO (Z x.es)++x.es.flatMap (λe=>jL (lW e))else if x.bA=2 then jL (lK x.f)else [])
def ox(n:Int):Eg (List eD):=λl j=>match vY (cD n l j).1 with
 | none=>([],(cD n l j).2.1,aA)
 | some e=>(e,(cD n l j).2)
def s9(n:Int):Eg (List fo):=λl j=>match tU (cD n l j).1 with
 | none=>([],(cD n l j).2.1,aA)
 | some e=>(e,(cD n l j).2)
theorem Nq n:GP (λe=>jL (lW e)) (λe=>iM e=aA/\(∀x∈e,nv x)/\(Z (lW e):Int)<=n) (ox n) where
 fwd:=by rintro e⟨y,t,B⟩ H;have N:=XQ y t;have C:=IG n (lW e) aZ B H;simp only[ox,jL];rw[C];simp only[azz e y t]
 back:=by
  intro l j h;simp only[ox]at h|-;cases hd:vY (cD n l j).1 with
  | none=>rw[hd]at h;cases h
  | some e => rw[hd]at h;obtain⟨A,_,z⟩:=Gx h;have M:=(agD hd).1;refine⟨?_,z⟩;simp only[jL];rw[<- M];exact A
 len:=by intro l j;have:=GD n l j;simp only[ox];split <;> simpa using this
theorem axu{l}(h:okF l=aA)(t:∀x∈l,jN x)(j:Z (lK l)<18446744073709551616) n(hn:(Z (lK l):Int)<=n) rest:s9 n (jL (lK l)++rest) az=(l,rest,az):=by have y:=IG n (lK l) j hn rest;simp only[s9,jL];rw[y];simp only[azq l h t]
theorem axv n l wr(h:(s9 n l wr).2.2=az):l=jL (lK (s9 n l wr).1)++(s9 n l wr).2.1/\wr=false:=by
 simp only[s9]at h|-;cases hd:tU (cD n l wr).1 with
 | none=>rw[hd]at h;cases h
 | some e => grind [Gx,agC,jL]
def jt(l:List UInt8)(wr:Bool):(Nat×Nat×Nat×Nat×Nat×Nat)×List UInt8×Bool :=
 let z:=bJ l wr
 let j:=bJ z.2.1 z.2.2
 let y:=bJ j.2.1 j.2.2
 let t:=bJ y.2.1 y.2.2
 let A:=bJ t.2.1 t.2.2
 let B:=bJ A.2.1 A.2.2
 ((z.1,j.1,y.1,t.1,A.1,B.1),B.2)
theorem aBk a b c d e f(z:a<18446744073709551616)(hb:b<18446744073709551616)(A:c<18446744073709551616)(j:d<18446744073709551616)(y:e<18446744073709551616)(t:f<18446744073709551616) rest :jt (bO a++(bO b++(bO c++(bO d++(bO e++bO f))))++rest) az=((a,b,c,d,e,f),rest,az):=by grind [jt,gA,tO]
theorem azB l wr(h:(jt l wr).2.2=az) :l=bO (jt l wr).1.1++(bO (jt l wr).1.2.1++(bO (jt l wr).1.2.2.1++(bO (jt l wr).1.2.2.2.1++(bO (jt l wr).1.2.2.2.2.1++bO (jt l wr).1.2.2.2.2.2))))++(jt l wr).2.1/\wr=false:=by grind [jt,xa,gA]
theorem avS{k n s}(t:-9223372036854775808<=n)(j:n<=9223372036854775807)(A:s.size<=40):Z (qJ k n s)<=67:=by have:=fu (cO k) (jm _);have:=fu (yB k n) (NS _ _ t j);have:=fu s.size aZ;simp[qJ];omega
theorem azC{t}(h:jh t=aA)(j:jN t):Z (mz t)<=101:=by
 obtain⟨y,_,_,B,z⟩:=IB h;have C:=fu t.1.size aZ;have M:=fu (cO t.2.1) (jm _);have A:t.1.data.size<=16:=y;unfold mz;simp only[fg];split
 .grind
 rename_i e;have H:Z (qJ t.2.2.1 t.2.2.2.1 t.2.2.2.2)<=67:=avS j.2.2.1 j.2.2.2 (KQ (z bL)).2;grind
def rA(a:Nat×Nat×Nat×Nat×Nat×Nat):bU:=⟨(min a.1 4:Nat),(min a.2.1 16:Nat),a.2.2.1,a.2.2.2.1,(min a.2.2.2.2.1 32:Nat),a.2.2.2.2.2,[],[]⟩
def tc(n:Int):Eg bU:=λl j =>
 if min (jt l j).1.1 4=1 then
  ({ rA (jt l j).1 with es:=(fH (ox n) (min (bJ (jt l j).2.1 (jt l j).2.2).1 9) (bJ (jt l j).2.1 (jt l j).2.2).2.1 (bJ (jt l j).2.1 (jt l j).2.2).2.2).1 },
   (fH (ox n) (min (bJ (jt l j).2.1 (jt l j).2.2).1 9) (bJ (jt l j).2.1 (jt l j).2.2).2.1 (bJ (jt l j).2.1 (jt l j).2.2).2.2).2)
 else if min (jt l j).1.1 4=2 then ({ rA (jt l j).1 with f:=(s9 n (jt l j).2.1 (jt l j).2.2).1 },(s9 n (jt l j).2.1 (jt l j).2.2).2)
 else (rA (jt l j).1,(jt l j).2)
theorem Gs{x}(h:dE x=aA):(0<=x.br/\x.br<16)/\(0<=x.cl/\x.cl<32) /\((x.bA=1/\x.sub=0/\x.f=[]/\Z x.es<=8/\∀e∈x.es,iM e=aA)\/(x.bA=3/\x.f=[]/\x.es=[])\/(x.bA=2/\x.es=[]/\okF x.f=aA)):=by simp only[dE,tV,fI,decide_eq_true_eq]at h;obtain⟨⟨⟨⟨y,j⟩,A⟩,t⟩,z⟩:=h;refine⟨⟨y,j⟩,⟨A,t⟩,?_⟩;split at z;all_goals grind
theorem wY k(t:0<=k)(j:k<100):cO k=k.toNat:=by grind [cO]
theorem azD n x(h:dE x=aA)(T:dZ x)(N:∀e∈x.es,(Z (lW e):Int)<=n)(Q:(Z (lK x.f):Int)<=n)(S:Z (lK x.f)<18446744073709551616) rest :tc n (gB x++rest) az=(x,rest,az):=by
 obtain⟨⟨A,O⟩,⟨y,X⟩,z⟩:=Gs h;obtain⟨_,_,_,C,M,H,W,t⟩:=T;obtain⟨bA,br,life,eY,cl,sub,f,es⟩:=x;simp only at A O y X z C M H W t N Q S;have:=wY br A aZ;have:=wY cl y aZ;have:∀R,jt (nI ⟨bA,br,life,eY,cl,sub,f,es⟩++R) az=((cO bA,cO br,life,eY,cO cl,sub),R,az):=λR =>
  aBk (cO bA) (cO br) life eY (cO cl) sub (jm _) (jm _) C M (jm _) H R
 have:((min (cO br) 16:Nat):Int)=br:=aZ;have:((min (cO cl) 32:Nat):Int)=cl:=aZ;rcases z with ⟨rfl,rfl,rfl,h8,V⟩|⟨rfl,rfl,rfl⟩|⟨rfl,rfl,hok⟩
 .have e:gB ⟨1,br,life,eY,cl,0,[],es⟩++rest=nI ⟨1,br,life,eY,cl,0,[],es⟩++(bO (Z es)++(es.flatMap (λe=>jL (lW e))++rest)):=by simp[gB,gA]
  have:=aiI (Nq n) es (λe j=>⟨V e j,t e j,N e j⟩) rest (Z es) (bP _);have B:cO 1=1:=rfl;unfold tc;grind [tO,rA]
 .have e:gB ⟨3,br,life,eY,cl,sub,[],[]⟩++rest=nI ⟨3,br,life,eY,cl,sub,[],[]⟩++rest:=by simp[gB]
  have B:cO 3=3:=rfl;unfold tc;grind [rA]
 have e:gB ⟨2,br,life,eY,cl,sub,f,[]⟩++rest=nI ⟨2,br,life,eY,cl,sub,f,[]⟩++(jL (lK f)++rest):=by grind [gB]
 have B:cO 2=2:=rfl;unfold tc;grind [axu,rA]
theorem YD{x}(h:x.bA=1):gB x=nI x++(bO (Z x.es)++x.es.flatMap λe=>jL (lW e)):=by grind [gB]
theorem YE{x}(h:x.bA=2):gB x=nI x++jL (lK x.f):=by grind [gB,nI,jL,lK]
theorem aiW{x}(j:¬x.bA=1)(t:¬x.bA=2):gB x=nI x:=by grind [gB,nI]
theorem axw n l wr(h:(tc n l wr).2.2=az)(ok:dE (tc n l wr).1=aA):l=gB (tc n l wr).1++(tc n l wr).2.1/\wr=false:=by
 have A:=azB l wr;unfold tc at h ok|-;generalize jt l wr=r at *;obtain⟨⟨a,b,c,d,e,f⟩,t,j⟩:=r;simp only at h ok A|-;have M:∀x:bU,x.bA=(min a 4:Nat)->x.br=(min b 16:Nat)->x.cl=(min e 32:Nat)->x.life=c->x.eY=d->x.sub=f->dE x=aA ->nI x=bO a++(bO b++(bO c++(bO d++(bO e++bO f)))):=by
  intro x h1 h2 h3 T V A hx;obtain⟨⟨hb0,cK⟩,⟨hc0,hc1⟩,y⟩:=Gs hx;have hka:cO x.bA=a:=by grind [wY]
  have Y:cO x.br=b:=by grind [wY]
  have W:cO x.cl=e:=by grind [wY]
  unfold nI;rw[hka,Y,W,T,V,A]
 split at h
 .rename_i O;rw[bV O]at ok|-;have X:Z (fH (ox n) (min (bJ t j).1 9) (bJ t j).2.1 (bJ t j).2.2).1=min (bJ t j).1 9:=(N5 (Nq n) _ _ _).2;obtain⟨C,Q⟩:=ahA (Nq n) h;obtain⟨R,S⟩:=xa Q;obtain⟨z,w⟩:=A S;refine⟨?_,w⟩;have B:=M _ rfl rfl rfl rfl rfl rfl ok;obtain⟨-,-,y⟩:=Gs ok;have hes:Z (fH (ox n) (min (bJ t j).1 9) (bJ t j).2.1 (bJ t j).2.2).1<=8:=by rcases y with y|y|y;exact y.2.2.2.1;have:=y.1;simp only[rA]at this;omega;have:=y.1;simp only[rA]at this;omega
  have hm:min (bJ t j).1 9=(bJ t j).1:=aZ;rw[YD Sz,B];simp only;rw[X,hm];rw[hm]at C;generalize bO a++(bO b++(bO c++(bO d++(bO e++bO f))))=H at z|-;rw[gA H,gA (bO (bJ t j).1),<- C,<- R];exact z
 rename_i O;rw[bQ O]at ok|-;split at h
 .rename_i N;rw[bV N]at ok|-;obtain⟨C,Q⟩:=axv n t j h;obtain⟨z,w⟩:=A Q;refine⟨?_,w⟩;have B:=M _ rfl rfl rfl rfl rfl rfl ok;rw[YE Sz,B];simp only;generalize bO a++(bO b++(bO c++(bO d++(bO e++bO f))))=H at z|-;rw[gA H,<- C];exact z
 rename_i N;rw[bQ N]at ok|-;obtain⟨z,w⟩:=A h;refine⟨?_,w⟩;have B:=M _ rfl rfl rfl rfl rfl rfl ok;rw[aiW Sz Sz,B];exact z
def j8(b:List UInt8):Option bU:=if !(tc (Z b) b az).2.2&&(tc (Z b) b az).2.1.isEmpty&&dE (tc (Z b) b az).1 then I (tc (Z b) b az).1 else U
def om(b:List UInt8):bU:=(j8 b).getD fS
def B6(b:List UInt8):Int:=if (j8 b).isSome then 0 else 110
theorem Xg{b x}(h:j8 b=I x):b=gB x/\dE x=true:=by
 unfold j8 at h;split at h
 .rename_i hq;injection h with h;simp only[fI,Bool.not_eq_true',List.isEmpty_iff]at hq;obtain⟨⟨y,z⟩,j⟩:=hq;have t:=(axw _ b az y j).1;rw[z,List.append_nil,h]at t;rw[h]at j;exact⟨t,j⟩
 cases h
theorem azE x(hk:x.bA=1) e(j:e∈x.es):Z (lW e)<=Z (gB x):=by
 have:Z (jL (lW e))<=Z (x.es.flatMap λe=>jL (lW e)):=by obtain⟨s,t,z⟩:=List.append_of_mem j;grind
 unfold gB;grind [lW,gB,jL]
theorem agE x(h:dE x=aA)(z:dZ x):j8 (gB x)=I x:=by
 obtain⟨-,-,j⟩:=Gs h;have A:Z (lK x.f)<18446744073709551616/\(Z (lK x.f):Int)<=(Z (gB x):Int):=by
  have:1<=Z (bO (cO x.bA)):=by simp[bO]
  have:1<=Z (nI x):=by grind [nI]
  rcases j with ⟨_,_,H,_⟩|⟨_,H,_⟩|⟨j,_,C⟩
  .grind [dE,dZ,j8,gB,lK,bO,iP,be]
  .grind [dE,dZ,j8,gB,lK,bO,iP,be]
  refine⟨?_,?_⟩;have:=Gv C;have:=z.2.2.2.2.2.2.1;have:=fu (Z x.f) aZ;have:Z (x.f.flatMap mz)<=101*Z x.f:=by have:∀l:List fo,(∀t∈l,jh t=aA/\jN t)->Z (l.flatMap mz)<=101*Z l:=aiX;grind
  unfold lK;rw[fg];omega;grind [dE,dZ,j8,gB,jL]
 have B:∀e∈x.es,(Z (lW e):Int)<=(Z (gB x):Int):=by
  intro e S;rcases j with ⟨j,_⟩|⟨_,_,N⟩|⟨_,N,_⟩
  .simp_all [azE]
  all_goals grind
 have M:=azD (Z (gB x)) x h z B A.2 A.1 [];rw[List.append_nil]at M;unfold j8;grind
theorem agF{l}(h:okF l=aA)(j:∀x∈l,jN x):Z (lK l)<=900:=by
 have z:=Gv h;have:=fu (Z l) aZ;have A:∀l:List fo,(∀t∈l,jh t=aA/\jN t)->Z (l.flatMap mz)<=101*Z l:=aiX;have:=A l λt ht=>⟨z.2 t ht,j t ht⟩
 unfold lK;rw[fg];omega
theorem afX(es:List (List eD))(h:∀e∈es,iM e=aA/\∀a∈e,nv a):Z (es.flatMap λe=>jL (lW e))<=2009*Z es:=by
 induction es with
 | nil=>simp
 | cons y l j =>
  have:=j λt C=>h t bL
  obtain⟨A,z⟩:=h y bu;grind [XQ,fu,lW,jL,bO,fg,gH]
theorem Nz{x}(h:dE x=aA)(t:dZ x):Z (gB x)<=20000:=by
 obtain⟨_,_,j⟩:=Gs h;obtain⟨_,_,_,y,A,z,S,B⟩:=t;have:=fu (cO x.bA) (jm _);have:=fu (cO x.br) (jm _);have:=fu x.life y;have:=fu x.eY A;have:=fu (cO x.cl) (jm _);have:=fu x.sub z;have:Z (nI x)<=54:=by grind [nI]
 rcases j with ⟨j,_,_,P,T⟩|⟨j,_,_⟩|⟨j,_,M⟩
 .grind [afX,fu,YD,fg]
 .grind [dE,dZ,gB]
 grind [agF,fu,lK,YE,fg,jL]
structure Rec where
 bA:Int
 n:Nat
 e:bU
 br:Int
 life:Nat
 eY:Nat
 deriving DecidableEq
def Lr:Rec:=⟨0,0,fS,0,0,0⟩
def lP(x:Rec):Prop:=dA x.bA/\x.n<18446744073709551616/\dZ x.e/\dA x.br/\x.life<18446744073709551616/\x.eY<18446744073709551616
def zY(x:Rec):Bool:=decide (x.br=0)&&decide (x.life=0)&&decide (x.eY=0)
def fV(x:Rec):Bool :=
 if x.bA=1 then decide (x.e=fS)&&zY x
 else if x.bA=2 then dE x.e&&zY x
 else if x.bA=3 then decide (x.n=0)&&dE x.e&&zY x
 else if x.bA=4\/x.bA=5 then tV x.br&&decide (x.n=0)&&decide (x.e=fS)else az
def dG(x:Rec):List UInt8 :=
 bO (cO x.bA)++(bO x.n++(if x.bA=2\/x.bA=3 then jL (gB x.e)else if x.bA=4\/x.bA=5 then bO (cO x.br)++(bO x.life++bO x.eY)else []))
theorem EY{x}(h:fV x=aA):(x.bA=1/\x.e=fS/\x.br=0/\x.life=0/\x.eY=0)\/((x.bA=2\/x.bA=3/\x.n=0)/\dE x.e=aA/\x.br=0/\x.life=0/\x.eY=0)\/((x.bA=4\/x.bA=5)/\(0<=x.br/\x.br<16)/\x.n=0/\x.e=fS):=by
 unfold fV zY tV at h;split at h
 .grind
 split at h
 .grind
 split at h;all_goals grind
def pM(m:Int):Eg Rec:=λl j =>
 let a:=bJ l j
 let b:=bJ a.2.1 a.2.2
 let k:=min a.1 6
 if k=2\/k=3 then
  match j8 (cD m b.2.1 b.2.2).1 with
  | none=>(Lr,(cD m b.2.1 b.2.2).2.1,aA)
  | some e=>(⟨(k:Nat),b.1,e,0,0,0⟩,(cD m b.2.1 b.2.2).2)
 else if k=4\/k=5 then
  let c:=bJ b.2.1 b.2.2
  let d:=bJ c.2.1 c.2.2
  let e:=bJ d.2.1 d.2.2
  (⟨(k:Nat),b.1,fS,(min c.1 16:Nat),d.1,e.1⟩,e.2)
 else (⟨(k:Nat),b.1,fS,0,0,0⟩,b.2)
theorem agG m x(h:fV x=aA)(R:lP x)(hm:(Z (gB x.e):Int)<=m)(M:Z (gB x.e)<18446744073709551616) rest:pM m (dG x++rest) az=(x,rest,az):=by
 obtain⟨bA,n,e,br,life,eY⟩:=x;obtain⟨-,C,H,-,O,N⟩:=R;simp only at C H O N hm M;rcases EY h with ⟨z,j,y,t,B⟩|⟨z,j,y,t,B⟩|⟨z,y,t,j⟩;simp only at z j y t B;subst z j y t B;have A:dG ⟨1,n,fS,0,0,0⟩++rest=bO 1++(bO n++rest):=by grind [dG,cO,gA]
 simp only[pM];rw[A,tO 1 bG];simp only[tO,C];simp
 .simp only at z j y t B;subst y t B;have:bA=2\/bA=3:=aZ;have Q:=wY bA aZ aZ;have A:dG ⟨bA,n,e,0,0,0⟩++rest=bO (cO bA)++(bO n++(bO (Z (gB e))++gB e++rest)):=by grind [dG,jL,gA]
  have S:=IG m (gB e) M hm rest;simp only[pM];rw[A,tO _ (jm _)];simp only[tO,C];rw[bV aZ,S];simp only[agE e j H];grind
 simp only at z y t j;subst t j;have Q:=wY bA aZ aZ;have:=wY br y.1 aZ;have A:dG ⟨bA,0,fS,br,life,eY⟩++rest=bO (cO bA)++(bO 0++(bO (cO br)++(bO life++(bO eY++rest)))):=by grind [dG,gA]
 simp only[pM];rw[A,tO _ (jm _)];simp only[tO,O,N,jm,show (0:Nat)<18446744073709551616 by decide];grind
theorem avT m l wr(h:(pM m l wr).2.2=az)(ok:fV (pM m l wr).1=aA):l=dG (pM m l wr).1++(pM m l wr).2.1/\wr=false:=by
 have A:=@xa l wr;unfold pM at h ok|-;simp only at h ok|-;generalize bJ l wr=a at *;obtain⟨a,t,j⟩:=a;simp only at h ok A|-;have C:=@xa t j;generalize bJ t j=b at *;obtain⟨b,y,z⟩:=b;simp only at h ok C|-;split at h
 .rename_i hk;rw[bV hk]at ok|-;have B:=@Gx m y z;generalize cD m y z=r at *;obtain⟨bs,M,H⟩:=r;simp only at h ok B|-;cases hd:j8 bs with
  | none=>rw[hd]at h;cases h
  | some e => grind [Xg,cO,wY,dG,jL,gA,bO]
 grind [xa,bJ,EY,cO,wY,dG,gA]
def pK(b:List UInt8):Option Rec:=if !(pM (Z b) b az).2.2&&(pM (Z b) b az).2.1.isEmpty&&fV (pM (Z b) b az).1 then I (pM (Z b) b az).1 else U
def xc(b:List UInt8):Rec:=(pK b).getD Lr
def xd(b:List UInt8):Int:=if (pK b).isSome then 0 else 110
theorem auy{b x}(h:pK b=I x):b=dG x/\fV x=true:=by
 unfold pK at h;split at h
 .rename_i hq;injection h with h;simp only[fI,Bool.not_eq_true',List.isEmpty_iff]at hq;obtain⟨⟨j,t⟩,y⟩:=hq;grind [avT]
 cases h
theorem aiY:Z (gB fS)=6:=by simp[gB,nI,fS,bO,cO,iP,be]
theorem avU x(h:fV x=aA)(t:lP x):pK (dG x)=I x:=by
 have y:Z (gB x.e)<18446744073709551616/\(Z (gB x.e):Int)<=30000/\((x.bA=2\/x.bA=3)->(Z (gB x.e):Int)<=(Z (dG x):Int)):=by
  have B:(x.bA=2\/x.bA=3)->(Z (gB x.e):Int)<=(Z (dG x):Int):=by grind [fV,lP,pK,dG,jL]
  rcases EY h with ⟨_,j,_⟩|⟨_,j,_⟩|⟨_,_,_,j⟩
  .simp_all [aiY]
  have:=Nz j t.2.2.1;exact⟨aZ,aZ,B⟩;simp_all [aiY]
 have z:pM (Z (dG x)) (dG x++[]) az=(x,[],az):=by
  by_cases M:x.bA=2\/x.bA=3
  .grind [agG]
  have C:=agG 30000 x h t y.2.1 y.1 [];rw[<- C];have H:(bJ (dG x++[]) az).1=cO x.bA:=by unfold dG;rw[gA,tO _ (jm _)]
  have A:¬(min (bJ (dG x++[]) az).1 6=2\/min (bJ (dG x++[]) az).1 6=3):=by rw[H];rcases EY h with ⟨g,_⟩|⟨g,_⟩|⟨g,_⟩;rw[wY _ aZ aZ];omega;omega;rw[wY _ aZ aZ];omega
  unfold pM;simp only;rw[bQ A,bQ A]
 rw[List.append_nil]at z;unfold pK;rw[z];simp[h]
abbrev bY:=Int×Nat×Nat
abbrev dD(a:bY):aQ:=av #[G J a.1,G E (a.2.1:Int),G E (a.2.2:Int)]
section
open Go Go.RowKit Go.ChangeShapes Go.WideShapes Go.ChangeAt
def eB:fy (List eD) where
 size:=1
 rel l cs w:=∃v,cs=[v]/\iI l v w
 len:=by rintro _ _ _⟨v,rfl,_⟩;rfl
 one:=by rintro _ _ _⟨v,rfl,A,c,rfl,_⟩ u j;simp at j;subst j;rfl
 st:=by rintro _ _ _ _⟨v,rfl,h⟩ k;exact⟨v,rfl,mq _ _ _ _ h k⟩
abbrev gF(a:bY):List aQ:=[G J a.1,G E (a.2.1:Int),G E (a.2.2:Int)]
def ew(a:bY):Prop:=dA a.1/\a.2.1<18446744073709551616/\a.2.2<18446744073709551616
def dQ:fy bY where
 size:=3
 rel a cs _:=cs=gF a
 len:=by rintro _ _ _ rfl;rfl
 one:=by rintro _ _ _ rfl u j;simp at j;rcases j with rfl|rfl|rfl <;> rfl
 st:=by rintro _ _ _ _ h _;exact h
abbrev abg(x:bU)(vf ve:aQ):List aQ:=[G J x.bA,G J x.br,G E (x.life:Int),G E (x.eY:Int),G J x.cl,G E (x.sub:Int),vf,ve]
abbrev cB(x:bU)(vf ve:aQ):Array aQ:=#[G J x.bA,G J x.br,G E (x.life:Int),G E (x.eY:Int),G J x.cl,G E (x.sub:Int),vf,ve]
theorem dX{l v w}(h:fZ l v w):∃A c,v=F A (Z l) c:=by grind [fZ]
theorem tN{l v w}(h:iI l v w):∃A c,v=F A (Z l) c:=by grind [iI]
theorem bH{α S}{l:List α}{v w}(h:bD S l v w):∃A c,v=F A (Z l) c:=by grind [bD]
def cL:fy bU where
 size:=8
 rel x cs w:=∃vf j,cs=abg x vf j/\fZ x.f vf w/\bD eB x.es j w
 len:=by rintro _ _ _⟨vf,j,rfl,_⟩;rfl
 one:=by rintro x _ _⟨vf,j,rfl,⟨A,c,rfl,_⟩,⟨z,d,rfl,_⟩⟩ u hu;exact aiZ
 st:=by rintro _ _ _ _⟨vf,j,rfl,y,t⟩ k;exact⟨vf,j,rfl,fO _ _ _ _ y k,cM t k⟩
def fM(x:bU)(v:aQ)(w:aP):Prop:=∃vf j,v=av (cB x vf j)/\fZ x.f vf w/\bD eB x.es j w
theorem TG{x v w w'}(h:fM x v w)(k:K w w'):fM x v w':=ai0
theorem aCL{x v w}(h:fM x v w):∀W,K w W->fM x v W:=λ_ k=>TG h k
theorem azF w:fM fS (av #[G J 0,G J 0,G E 0,G E 0,G J 0,G E 0,F U 0 0,F U 0 0]) w :=
 ⟨_,_,rfl,⟨U,0,rfl,Reads.nil _ _ _ _⟩,iJ _ _⟩
abbrev jf(x:Rec)(vf ve:aQ):Array aQ:=#[G J x.bA,G E (x.n:Int),G J x.e.bA,G J x.e.br,G E (x.e.life:Int),G E (x.e.eY:Int),G J x.e.cl,G E (x.e.sub:Int),vf,ve,G J x.br,G E (x.life:Int),G E (x.eY:Int)]
def tC(x:Rec)(v:aQ)(w:aP):Prop:=∃vf j,v=av (jf x vf j)/\fZ x.e.f vf w/\bD eB x.e.es j w
theorem TH{x v w w'}(h:tC x v w)(k:K w w'):tC x v w':=ai0
theorem aCM{x v w}(h:tC x v w):∀W,K w W->tC x v W:=λ_ k=>TH h k
def Jg:fy Rec where
 size:=13
 rel x cs w:=∃vf j,cs=(jf x vf j).toList/\fZ x.e.f vf w/\bD eB x.e.es j w
 len:=by rintro _ _ _⟨vf,j,rfl,_⟩;rfl
 one:=by rintro x _ _⟨vf,j,rfl,⟨A,c,rfl,_⟩,⟨B,d,rfl,_⟩⟩ u t;simp at t;rcases t with rfl|rfl|rfl|rfl|rfl|rfl|rfl|rfl|rfl|rfl|rfl|rfl|rfl <;> rfl
 st:=by rintro _ _ _ _⟨vf,j,rfl,z,y⟩ k;exact⟨vf,j,rfl,fO _ _ _ _ z k,cM y k⟩
section
variable {H:Type}{enc:TypeId×aQ->H}{w:aP}{base:Nat}{r:Reach}{b0:Nat}{spare:Nat->Bool}{held:Bool}{v:aQ}{d:DataW H}{p:List MemPlace}{α:Type}
theorem Ww{T z}(S:prog.underlying T=some (.slice z)) C(hC:prog.cellsOf z=C)(t:List aQ->Prop)(hE:∀(y:Nat) (cs:List aQ) (x:DataW H×List MemPlace),Z cs=C->DataW.trod enc aR w base spare held y z cs=I x->t cs){y cs x}(W:DataW.trod enc aR w base spare held y T cs=I x) :∃(A:Option Addr) (n c:Nat) (bw:List (List aQ)),cs=[F A n c]/\Z bw=n/\n<=c/\c<=maxLen/\(∀cs∈bw,Z cs=C/\t cs)/\(0<C->Reads w (D (L w)) C A n bw.flatten):=by
 rcases Go.Deep.open_slice S W with ⟨hcs,_⟩|⟨a,len,V,m,n,aS,Pl,hcs,hb,Y,hm,hmm,hx,hi⟩;exact⟨U,0,0,[],hcs,rfl,bu,bu,bu,λ_=>Reads.nil _ _ _ _⟩;have hlm:len<=m:=bL;have hex:∀i,i<len->∃cs,Z cs=C/\t cs/\∀j,j<C->w.cell? (a.add (i*C+j))=cs[j]?:=aiq;have key:∀k,k<=len->∃bw:List (List aQ),Z bw=k/\(∀cs∈bw,Z cs=C/\t cs)/\∀i j,i<k->j<C->w.cell? (a.add (i*C+j))=(bw[i]?.getD [])[j]?:=air;obtain⟨bw,h1,h2,h3⟩:=key len (bP _);refine⟨I a,len,V,bw,hcs,h1,Y,hm,h2,λhC0=>?_⟩;have N:Z bw.flatten=len*C:=ais;have hfg:∀i j,i<len->j<C->bw.flatten[i*C+j]?=(bw[i]?.getD [])[j]?:=λi j hi' hj=>zE C bw (λcs hcs=>(h2 cs hcs).1) i j aZ hj
 refine⟨N,λB=>?_⟩;rw[N]at B;have M:∀q,q<len*C->w.cell? (a.add q)=bw.flatten[q]?:=ait;have Cx:=M 0 B;have Q:∃u,bw.flatten[0]?=I u:=⟨bw.flatten[0]'aZ,aE aZ⟩;obtain⟨u,hu⟩:=Q;rw[hu]at Cx;obtain⟨b,X,R⟩:=a;have hs:R=none:=by simpa [Addr.add]using World.cell?_spot Cx
 subst hs;refine⟨b,X,rfl,?_,λj u O=>?_⟩;exact aiu;have hj:j<len*C:=by have:=(aF.1 O).1;omega
 have:=M j hj;rw[Addr.add_lit]at this;rw[this,O]
theorem axx{T C}(V:prog.underlying T=some (.slice C)) S(t:α->Prop)(N:prog.cellsOf C=S.size)(Q:0<S.size)(Y:∀(B:Nat) (cs:List aQ) (x:DataW H×List MemPlace),Z cs=S.size->DataW.trod enc aR w base spare held B C cs=I x->∃y,S.rel y cs w/\t y){B cs x}(hf:DataW.trod enc aR w base spare held B T cs=I x):∃v l,cs=[v]/\bD S l v w/\∀y∈l,t y:=by
 obtain⟨A,n,c,j,rfl,W,O,_,R,X⟩:=Ww V S.size N (λcs=>∃y,S.rel y cs w/\t y) Y hf;have key:∀j:List (List aQ),(∀cs∈j,∃y,S.rel y cs w/\t y)->∃l,Each S l j w/\∀y∈l,t y:=by
  intro j;induction j with
  | nil=>intro _;exact⟨[],Each.nil _ _,bu⟩
  | cons cs j ih =>
   intro h;obtain⟨y,hy,ho⟩:=h cs bu;obtain⟨l,z,M⟩:=ih λc hc=>h c bL
   refine⟨[y]++l,(Each.one hy).append z,?_⟩;grind
 obtain⟨l,z,M⟩:=key j λcs hcs=>(R cs hcs).2
 have hn:Z l=n:=by rw[<- W];exact z.1.symm
 subst hn;exact⟨_,l,rfl,⟨A,c,rfl,⟨j,z,X Q⟩,O⟩,M⟩
theorem azG{t cs x}(z:DataW.trod enc aR w base spare held t 35 cs=I x):∃l,eB.rel l cs w/\∀a∈l,nv a:=by
 obtain⟨A,n,c,S,rfl,M,T,V,H,O⟩:=Ww underlying35 4 dH (λcs=>∃y:eD,cs=nu y/\dA y.2.1/\dA y.2.2.1) (λ_ _ _ _ Q=>axg Q) z;obtain⟨l,B,N,C⟩:=Ri nu (λy:eD=>dA y.2.1/\dA y.2.2.1) S λcs R=>(H cs R).2
 have j:=O bG;subst M;rw[<- B]at j|-;refine⟨l,⟨_,rfl,A,c,rfl,?_⟩,C⟩;rw[N]at j;rwa [List.flatMap_def]
theorem azH{t cs x}(z:DataW.trod enc aR w base spare held t 37 cs=I x):∃v l,cs=[v]/\fZ l v w/\∀a∈l,jN a:=by
 obtain⟨A,n,c,S,rfl,M,T,V,H,O⟩:=Ww underlying37 5 dH (λcs=>∃y:fo,cs=je y/\jN y) (λ_ _ _ _ Q=>axl Q) z;obtain⟨l,B,N,C⟩:=Ri je jN S λcs R=>(H cs R).2
 have j:=O bG;subst M;rw[<- B]at j|-;refine⟨_,l,rfl,⟨A,c,rfl,?_⟩,C⟩;rw[N]at j;rwa [List.flatMap_def]
theorem RX{j cs x}(y:DataW.trod enc aR w base spare held j 3 cs=I x):∃n,cs=[G J n]/\dA n:=by obtain⟨a,t,_,z⟩:=DataW.trod_int underlying3 y;have:=bounds_i64 z;exact⟨a,t,iF⟩
end
end
def zZ(l:List fo):Bool:=decide (Z l<=10)&&l.all λx=>decide (x.1.size<=100)&&decide (x.2.2.2.2.size<=100)
theorem azI l k(h:k<Z l)(hb:¬(l[k].1.size<=100/\l[k].2.2.2.2.size<=100)):zZ l=false:=by grind [zZ]
theorem axy l(lL:Z l<=10)(h:∀k (hk:k<Z l),l[k].1.size<=100/\l[k].2.2.2.2.size<=100):zZ l=true:=by simp only[zZ,fI,decide_eq_true_eq,lL,true_and,yq];intro x j;grind [List.getElem_of_mem]
theorem avV A c l w B(C:Reads w B 5 A (Z l) (l.flatMap je))(_hB:B<=D (L w)) :aK aR 34 #[F A (Z l) c] w λe O=>e=ak (ar (zZ l))/\w=O:=by
 have S:=aY C;clear C;by_cases z:Z l<=10;rotate_left
 .have Q:(10:Int)<(Z l:Int):=aZ;have HE:Hid (zZ l=az):=aY (by simp[zZ];omega);clear z;go_in;exact tP
 have Q:¬(10:Int)<(Z l:Int):=aZ;go_in;go_wp2_with fail
 go_loop [3] (fun i=>∃k:Nat,k<=Z l/\i=G J k/\Hid (∀j (hj:j<Z l),j<k->l[j].1.size<=100/\l[j].2.2.2.2.size<=100)) (fun i=>Z l-(aO i).toNat)
 case atStart=>exact⟨0,aZ,rfl,aY (λj _ h=>absurd h aZ)⟩
 case round => obtain⟨k,Y,rfl,hall⟩:=hrel;by_cases t:k<Z l;have M:(k:Int)<Z l:=aZ;obtain⟨b,off,rfl,X,y⟩:=S.aX.Lq aZ;obtain⟨T,R,H,N,V⟩:=y k t;clear y R H N;have HF:=aY (azI l k t);have HT:Hid (l[k].1.size<=100/\l[k].2.2.2.2.size<=100->∀j (hj:j<Z l),j<k+1->l[j].1.size<=100/\l[j].2.2.2.2.size<=100):=ai1;generalize l[k]=x at *;obtain⟨xs,xo,xk,W,xt⟩:=x;simp only at T V HF HT;exact ai2;have M:¬(k:Int)<Z l:=aZ;have HE:=aY (axy l z λj hj=>hall.aX j hj aZ);exact tP
section
variable {l:List fo}{v:aQ}{w:aP}
theorem azJ(h:fZ l v w):aK aR 34 #[v] w λe j=>e=ak (ar (zZ l))/\w=j:=by obtain⟨A,c,rfl,t⟩:=h;exact avV A c l w _ t (bP _)
end
def Ah(l:List eD):Bool:=decide (Z l<=20)&&l.all λx=>decide (x.1.size<=100)&&decide (x.2.2.2.size<=100)
theorem aBl l k(h:k<Z l)(hb:¬(l[k].1.size<=100/\l[k].2.2.2.size<=100)):Ah l=false:=by grind [Ah]
theorem azK l(j:Z l<=20)(h:∀k (hk:k<Z l),l[k].1.size<=100/\l[k].2.2.2.size<=100):Ah l=true:=by simp only[Ah,fI,decide_eq_true_eq,j,true_and,yq];intro x t;grind [List.getElem_of_mem]
theorem axz A c l w B(C:Reads w B 4 A (Z l) (l.flatMap nu))(_hB:B<=D (L w)) :aK aR 33 #[F A (Z l) c] w λe O=>e=ak (ar (Ah l))/\w=O:=by
 have S:=aY C;clear C;by_cases z:Z l<=20;rotate_left
 .have Q:(20:Int)<(Z l:Int):=aZ;have HE:Hid (Ah l=az):=aY (by simp[Ah];omega);clear z;go_in;exact tP
 have Q:¬(20:Int)<(Z l:Int):=aZ;go_in;go_wp2_with fail
 go_loop [3] (fun i=>∃k:Nat,k<=Z l/\i=G J k/\Hid (∀j (hj:j<Z l),j<k->l[j].1.size<=100/\l[j].2.2.2.size<=100)) (fun i=>Z l-(aO i).toNat)
 case atStart=>exact⟨0,aZ,rfl,aY (λj _ h=>absurd h aZ)⟩
 case round => obtain⟨k,X,rfl,hall⟩:=hrel;by_cases t:k<Z l;have M:(k:Int)<Z l:=aZ;obtain⟨b,Y,rfl,W,y⟩:=S.aX.Je aZ;obtain⟨T,R,H,N⟩:=y k t;clear y R H;have HF:=aY (aBl l k t);have HT:Hid (l[k].1.size<=100/\l[k].2.2.2.size<=100->∀j (hj:j<Z l),j<k+1->l[j].1.size<=100/\l[j].2.2.2.size<=100):=ai1;generalize l[k]=x at *;obtain⟨xs,xk,V,xt⟩:=x;simp only at T N HF HT;exact ai2;have M:¬(k:Int)<Z l:=aZ;have HE:=aY (azK l z λj hj=>hall.aX j hj aZ);exact tP
section
variable {l la lb:List eD}{b:List UInt8}{v va vb:aQ}{w:aP}
theorem aBm(h:iI l v w):aK aR 33 #[v] w λe j=>e=ak (ar (Ah l))/\w=j:=by obtain⟨A,c,rfl,t⟩:=h;exact axz A c l w _ t (bP _)
end
section
open Go Go.RowKit Go.ChangeShapes Go.WideShapes Go.ChangeAt
structure vR where
 bA:Int
 a:Int
 b:Int
 e:List eD
 f:List fo
def Jh(c:vR):Prop:=dA c.bA/\dA c.a/\dA c.b/\(∀a∈c.e,nv a)/\(∀t∈c.f,jN t)
abbrev Ei(c:vR)(ve vf:aQ):Array aQ:=#[G J c.bA,G J c.a,G J c.b,ve,vf]
def UI:fy vR where
 size:=5
 rel c cs w:=∃ve vf,cs=(Ei c ve vf).toList/\iI c.e ve w/\fZ c.f vf w
 len:=by rintro _ _ _⟨ve,vf,rfl,_⟩;rfl
 one:=by rintro x _ _⟨ve,vf,rfl,⟨_,_,rfl,_⟩,⟨_,_,rfl,_⟩⟩ u hu;exact Yy
 st:=by rintro _ _ _ _⟨ve,vf,rfl,h1,h2⟩ k;exact ai3
def agH(w:aP)(v:aQ):Prop:=∃l,bD UI l v w/\∀c∈l,Jh c
section
variable {H:Type}{enc:TypeId×aQ->H}{w:aP}{base:Nat}{r:Reach}{b0:Nat}{spare:Nat->Bool}{held:Bool}{v:aQ}{d:DataW H}{p:List MemPlace}
theorem azL{fuel:Nat}{cs:List aQ}{x:DataW H×List MemPlace}(h:DataW.trod enc aR w base spare held fuel 55 cs=I x):∃c:vR,UI.rel c cs w/\Jh c:=by
 obtain⟨xs,n,_,_,Q,S,j⟩:=DataW.trod_struct underlying55 h
 have V:prog.cellsOf 55=5:=gP
 rw[V]at Q
 have e1:prog.cellsOf 3=1:=gP
 have e4:prog.cellsOf 35=1:=gP
 have T:prog.cellsOf 37=1:=gP
 have:Z xs=5:=S
 match cs,Q with
 | [c0,c1,c2,c3,c4],_ => have y:=j 0 _ rfl;have A:=j 1 _ rfl;have t:=j 2 _ rfl;have B:=j 3 _ rfl;have z:=j 4 _ rfl;simp[e1,e4,T]at y A t B z;rw[aE aZ]at y A t B z;obtain⟨k,O,X⟩:=RX y;obtain⟨c,M,W⟩:=RX A;obtain⟨m,R,Y⟩:=RX t;obtain⟨e,⟨v,N,he⟩,we⟩:=azG B;obtain⟨vf,f,C,dU,wf⟩:=azH z;simp at O M R N C;subst O M R N C;exact⟨⟨k,c,m,e,f⟩,⟨_,_,rfl,he,dU⟩,X,W,Y,we,wf⟩
theorem atD(y:Value.okWide aR w r b0 48 v)(h:DataW.Trod enc aR w base spare held 48 v d p):agH w v:=by obtain⟨A,n,c,rfl⟩:=okWide_slice underlying48 y;obtain⟨C,j⟩:=h;obtain⟨v,l,e,z,t⟩:=axx underlying48 UI Jh gP bG (λ_ _ _ _ B=>azL B) j;simp[Value.cells]at e;subst e;exact⟨l,z,t⟩
end
def N8(c:vR):Bool:=Ah c.e&&zZ c.f
def N9(c:vR):Bool:=c.bA==9||c.bA==13||c.bA==14
theorem as0(c:vR) ve vf w(z:iI c.e ve w)(y:fZ c.f vf w) :aK aR 17 #[av (Ei c ve vf)] w λe A=>e=ak (ar (N8 c))/\K w A:=by
 have N:Hid (N8 c=(Ah c.e&&zZ c.f)):=aY rfl;have T:=aY λW (k:K w W)=>aBm (mq _ _ _ _ z k)
 have C:=aY λW (k:K w W)=>azJ (fO _ _ _ _ y k)
 obtain⟨O,Q,rfl,-⟩:=z;obtain⟨M,H,rfl,-⟩:=y;have t:=bn.new w 55 (Ei c (F O (Z c.e) Q) (F M (Z c.f) H));have k1:=t.cG;generalize N8 c=R at *;go_in;go_upto_region 1 with fail;generalize w.alloc _=j at *;generalize D (L w)=X at t|-;have:=t.cells j (K.rf _);go_wp2_with fail
 refine (T.aX j k1).mono ?_;rintro e S⟨rfl,rfl⟩;go_wp2_with fail
 refine (C.aX j k1).mono ?_;rintro e S⟨rfl,rfl⟩;generalize Ah c.e=B at *;generalize zZ c.f=Y at *;have hR:=N.aX;cases B;exact SA;exact SA
theorem as1(c:vR) C ne N B O A w :aK aR 25 #[av (Ei c (F C ne N) (F B O A))] w λe W=>e=ak (ar (N9 c))/\K w W:=by
 obtain⟨z,y,t,S,Q⟩:=c;have j:Hid (N9 ⟨z,y,t,S,Q⟩=(z==9||z==13||z==14)):=aY rfl;have hA:Ei ⟨z,y,t,S,Q⟩ (F C ne N) (F B O A)=#[G J z,G J y,G J t,F C ne N,F B O A]:=rfl;rw[hA];have T:=bn.new w 55 #[G J z,G J y,G J t,F C ne N,F B O A];have k1:=T.cG;generalize N9 ⟨z,y,t,S,Q⟩=R at *;clear hA;go_in;go_upto_region 1 with fail;generalize w.alloc _=V at *;generalize D (L w)=Y at T|-;have:=T.cells V (K.rf _);by_cases H:z=9;subst H;have hR:R=true:=j.aX;clear j;exact SA;have H:(z==9)=false:=by simpa using H
 by_cases M:z=13;subst M;have hR:R=true:=j.aX;clear j;exact SA;have M:(z==13)=false:=by simpa using M
 have hR:=aY (show R=(z==14) by rw[j.aX,H,M];rfl);clear j;generalize hz:(z==14)=q at *;go_wp2;go_ret;exact⟨by rw[hR.aX];rfl,k1⟩
end
def ry:List aQ->Nat->List aQ->List aQ
 | xs,_,[]=>xs
 | xs,q,u :: us=>ry (xs.set q u) (q+1) us
def ei:aP->Nat->Nat->List aQ->aP
 | w,_,_,[]=>w
 | w,g,q,u :: us=>ei (aV w ⟨g,q,U⟩ u) g (q+1) us
theorem Xh:∀(us xs:List aQ) (q:Nat),q+Z us=Z xs->ry xs q us=xs.take q++us
 | [],xs,q,h=>by simp only[ry,List.append_nil];rw[jq (by simp at h;omega)]
 | u :: us,xs,q,h=>by
  simp only[gH]at h;simp only[ry];rw[Xh us (xs.set q u) (q+1) (by rw[List.length_set];omega),List.take_add_one];have:(xs.set q u)[q]?=I u:=by rw[List.getElem?_set_self (by omega)]
  rw[this,List.take_set_of_le (bP _)];simp
theorem ahF{g e}:∀(us:List aQ) (cs:Array aQ) (q:Nat) (w:aP),bn w g e cs->bn (ei w g q us) g e (ry cs.toList q us).toArray
 | [],cs,q,w,h=>by simpa [ei,ry]using h
 | u :: us,cs,q,w,h=>by have:=ahF us (cs.setIfInBounds q u) (q+1) _ (h.cH q u);simpa [ei,ry,Array.toList_setIfInBounds]using this
theorem DD{w g e cs us}(h:bn w g e cs)(j:Z us=cs.size):bn (ei w g 0 us) g e us.toArray:=by have:=ahF us cs 0 w h;rwa [Xh us cs.toList 0 bL,TU,bZ]at this
theorem cW.floor{α S}{l:List α}{v w base lo j e}(h:cW base lo e S l v w)(y:j<=lo):cW base j e S l v w:=by obtain⟨C,A,z,B⟩:=h;exact⟨C,A,z,λt u=>B t (u.more y (λ_ _ h=>h))⟩
theorem lV.up{w w' B v l}(h:lV w B v l)(u:cI B U w w'):lV w' B v l:=by refine⟨h.1,h.2.imp id ?_⟩;exact YF
theorem XR(l:List eD):∀u∈l.flatMap nu,u.oneCell'=true:=by intro u j;obtain⟨x,_,t⟩:=List.mem_flatMap.1 j;grind [ahz]
theorem agI(l:List fo):∀u∈l.flatMap je,u.oneCell'=true:=by intro u t;obtain⟨x,_,j⟩:=List.mem_flatMap.1 t;simp at j;rcases j with rfl|rfl|rfl|rfl|rfl <;> rfl
theorem fE{α S}{l:List α}{A w}(h:yO S l A w) i(O:i<Z l)(z:0<S.size) :∃b t y,A=I ⟨b,t,U⟩/\Z y=S.size/\(∀W,K w W->S.rel l[i] y W)/\(∀W,K w W->W.cell? ⟨b,t+i*S.size,U⟩=y[0]?)/\∀W,K w W->∀j,j<S.size->W.cell? ⟨b,t+i*S.size+j,U⟩=y[j]?:=by
 obtain⟨b,t,y,e,M,B,H,N⟩:=Lg h i O z;have key:∀W,K w W->∀j,j<S.size->W.cell? ⟨b,t+i*S.size+j,U⟩=y[j]?:=λW k j C=>(k.cell (p:=⟨b,t+i*S.size+j,U⟩) M).trans (N j C)
 exact⟨b,t,y,e,B,λW k=>S.st H k,λW k=>key W k 0 z,key⟩
theorem SB{w:aP}{base g n cap q e size xs}(h:w.ownsRow base e size (F (I ⟨g,0,U⟩) n cap) n xs)(_:q<Z xs) u :(aV w ⟨g,q,U⟩ u).ownsRow base e size (F (I ⟨g,0,U⟩) n cap) n (xs.set q u):=by refine⟨by simpa using h.1,aJ ?_⟩;rcases h.2 with ⟨B,_⟩|⟨N,M,cur,t,A,z,C,j,H,y⟩;cases B;injection t with e1 _ e3;injection e1 with e1;injection e1 with e1;subst e1 e3;refine⟨g,cap,cur.setIfInBounds q u,rfl,A,(show bn w g e cur from z).cH q u,C,j,bL,?_⟩;rw[Array.toList_setIfInBounds,<- y,List.take_set]
theorem Dw{w:aP}{base g n cap e size xs}(h:w.ownsRow base e size (F (I ⟨g,0,U⟩) n cap) n xs):(∀q,q<Z xs->w.cell? ⟨g,q,U⟩=xs[q]?)/\∀q,w.frozen? ⟨g,q,U⟩=false:=by rcases h.2 with ⟨z,_⟩|⟨N,M,cur,t,C,j,O,A,B,y⟩;cases z;injection t with e1 _ e3;injection e1 with e1;injection e1 with e1;subst e1 e3;refine⟨λq H=>?_,λq=>(show bn w g e cur from j).frozen q⟩;rw[(show bn w g e cur from j).cell q,<- y];grind
theorem Nh{α:Type} n u:∀(bw:List (List α)),(∀y∈bw,Z y=n)->∀(k j:Nat) (hk:k<Z bw),j<n->bw.flatten.set (k*n+j) u=(bw.set k ((bw[k]).set j u)).flatten
 | [],_,k,j,hk,_=>by simp at hk
 | c :: bw,h,0,j,hk,hj=>by have hc:=h c bu;simp only[Nat.zero_mul,mr,List.flatten_cons,vT,List.getElem_cons_zero];rw[List.set_append,bV aZ]
 | c :: bw,h,k+1,j,hk,hj=>by have hc:=h c bu;have t:=Nh n u bw (λx hx=>h x K0) k j vP hj;simp only[List.flatten_cons,vU,List.getElem_cons_succ];rw[List.set_append,bQ Sn,<- t];congr 2;rw[hc,Nat.succ_mul];omega
theorem Each.set{α S l j w}(h:Each S l j w) k{x:α}{cs}(A:S.rel x cs w):Each S (l.set k x) (j.set k cs) w:=by
 refine⟨N7,λi z y=>?_⟩;by_cases t:k=i
 .grind
 rw[List.getElem_set_ne t,List.getElem_set_ne t];exact h.2 i bL bL
structure bf(X:Nat->Prop)(w w':aP):Prop where
 os:w'.os=w.os
 tape:w'.tape=w.tape
 output:w'.output=w.output
 size:D (L w)<=D (L w')
 block:∀k,k<D (L w)->¬X k->w'.heap[k]?=w.heap[k]?
section
variable {X:Nat->Prop}{a b c w w':aP}
theorem bf.rf X w:bf X w w:=⟨rfl,rfl,rfl,bP _,λ_ _ _=>rfl⟩
theorem bf.tr(h:bf X a b)(k:bf X b c):bf X a c :=
 ⟨k.os.trans h.os,k.tape.trans h.tape,k.output.trans h.output,cQ h.size k.size,λi j t=>(k.block i (cZ j h.size) t).trans (h.block i j t)⟩
theorem bf.cz(h:K w w') X:bf X w w':=⟨h.os,h.tape,h.output,h.size,λi j _=>h.block i j⟩
theorem bf.gy{row}(h:w.grownBy w' row)(t:∀g,row=I g->X g):bf X w w' :=
 ⟨h.os,h.tape,h.output,h.size,λi j y=>h.block i j (λe=>y (t i e.symm))⟩
theorem bf.vu{lo row}(h:bf X w w')(y:∀k,lo<=k->k<D (L w)->I k≠row->¬X k):cI lo row w w' :=
 ⟨h.os,h.tape,h.output,h.size,λi t j z=>h.block i j (y i t j z)⟩
theorem cI.upN{lo row}(h:cI lo row w w')(j:∀k,k<lo\/I k=row->X k):bf X w w' :=
 ⟨h.os,h.tape,h.output,h.size,λi y t=>h.block i (Nat.le_of_not_lt λz=>t (j i (aI z))) y (λe=>t (j i (aJ e)))⟩
theorem KS{base e size n v xs}(h:w.ownsRow base e size v n xs)(k:∀g,base<=g->g<D (L w)->aW v=I g->w'.heap[g]?=w.heap[g]?):w'.ownsRow base e size v n xs:=by refine⟨h.1,h.2.imp id ?_⟩;rintro ⟨g,y,cur,rfl,j,t,z⟩;exact⟨g,y,cur,rfl,j,(k g j (aG.1 t).1 rfl).trans t,z⟩
theorem pH{base e size n v xs}(h:w.ownsRow base e size v n xs){g}(hg:aW v=I g):∃cur,bn w g e cur:=by rcases h.2 with ⟨rfl,_⟩|⟨y,t,cur,rfl,_,j,_⟩;cases hg;injection hg with hg;subst hg;exact⟨cur,j⟩
theorem bn.jK{g t j cs y}(h:bn w g t cs)(z:bn w g j y):t=j:=by grind [bn]
theorem Ry{α S}{l:List α}{v base e j}(t:w.ownsRow base e S.size v (Z l) j.flatten)(y:Each S l j w):bD S l v w:=by
 have z:=t;rcases t.2 with ⟨rfl,C⟩|⟨g,B,cur,rfl,_,_,A,_⟩
 .grind [List.eq_nil_of_length_eq_zero,iJ]
 exact⟨_,_,rfl,⟨j,y,Reads.B4 z⟩,A⟩
theorem R8{base g n cap:Nat}{e:TypeId}{size:Nat}:∀(us xs:List aQ) (q:Nat) (w:aP),w.ownsRow base e size (F (I ⟨g,0,U⟩) n cap) n xs->q+Z us<=Z xs ->
 (ei w g q us).ownsRow base e size (F (I ⟨g,0,U⟩) n cap) n (ry xs q us)
 | [],_,_,_,h,_=>h
 | u :: us,xs,q,w,h,hl=>by simp only[ei,ry];simp only[gH]at hl;exact R8 us _ _ _ (SB h aZ u) cN
theorem Rl n:∀(us:List aQ) (bw:List (List aQ)),(∀t∈bw,Z t=n)->∀(k j:Nat) (hk:k<Z bw),j+Z us<=n->ry bw.flatten (k*n+j) us=(bw.set k (ry (bw[k]) j us)).flatten
 | [],bw,h,k,j,hk,hj=>by simp[ry]
 | u :: us,bw,h,k,j,hk,hj=>by
  simp only[gH]at hj;simp only[ry];rw[Nh n u bw h k j hk aZ];have z:∀t∈bw.set k ((bw[k]).set j u),Z t=n:=by intro t B;rcases List.mem_or_eq_of_mem_set B with A|rfl;exact h t A;simp;exact h _ (dJ hk)
  have y:=Rl n us (bw.set k ((bw[k]).set j u)) z k (j+1) vP aZ;rw[show k*n+j+1=k*n+(j+1) by omega,y];simp
theorem bf.sets{g:Nat}(j:X g):∀(us:List aQ) (q:Nat) (w:aP),bf X w (ei w g q us)
 | [],_,_=>bf.rf _ _
 | u :: us,q,w=>by simp only[ei];refine bf.tr (b:=w.setCell ⟨g,q,U⟩ u) ⟨rfl,rfl,rfl,SC,λi _ h=>Below.heap_setCell w ⟨g,q,U⟩ u i (by rintro rfl;exact h j)⟩ (bf.sets j us _ _)
end
section
variable {X Y:Nat->Prop}{w w' w'' W W':aP}
theorem bf.dx{b}(j:X b) i u:bf X W (aV W ⟨b,i,U⟩ u):=bf.sets j [u] i W
theorem bf.more(h:bf X W W')(t:∀k,X k->Y k):bf Y W W':=⟨h.os,h.tape,h.output,h.size,λi j y=>h.block i j λh=>y (t i h)⟩
theorem bf.ir(u:bf X w w')(v:bf Y w' w'')(y:∀k,k<D (L w)->Y k->X k):bf X w w'' :=
 ⟨v.os.trans u.os,v.tape.trans u.tape,v.output.trans u.output,cQ u.size v.size,λk j t=>(v.block k (cZ j u.size) (λh=>t (y k j h))).trans (u.block k j t)⟩
theorem kj{base e size n v xs}(h:W.ownsRow base e size v n xs)(u:bf X W W')(j:∀b,aW v=I b->¬X b):W'.ownsRow base e size v n xs :=
 KS h λb _ t y=>u.block b t (j b y)
theorem bf.low{B}(u:bf X w w')(j:∀k,X k->B<=k)(y:B<=D (L w)):aN B w w' :=
 ⟨u.os,u.tape,u.output,u.size,λi t=>u.block i (cZ t y) λe=>by have:=j i e;omega⟩
theorem bf.k{a}(u:bf X w w')(h:K a w)(j:∀k,X k->D (L a)<=k):K a w':=h.trans (u.low j h.size)
theorem bn.cF{b t cs}(h:bn W b t cs)(u:bf X W W')(hb:¬X b):bn W' b t cs:=(u.block b h.lt hb).trans h
theorem bf.al X W o:bf X W (aU W o):=bf.cz ((K.rf W).al o) X
theorem bf.fresh{a}(u:bf X a W){b}(hb:D (L a)<=b) i v:bf X a (aV W ⟨b,i,U⟩ v) :=
 ⟨u.os,u.tape,u.output,by simpa [ax]using u.size,λk j t=>(Below.heap_setCell W ⟨b,i,U⟩ v k cN).trans (u.block k j t)⟩
end
section
open Go Go.RowKit Go.Conc
def mY(c:Nat)(l:List aQ)(w:aP):Prop:=∃s r,w.heap[c]?=I (.chan 8 l.toArray az s r az)
theorem mY.cF{X c l w w'}(h:mY c l w)(u:bf X w w')(j:¬X c):mY c l w':=by obtain⟨s,r,h⟩:=h;exact⟨s,r,(u.block c (aG.1 h).1 j).trans h⟩
theorem mY.lt{c l w}(h:mY c l w):c<D (L w):=h.elim λ_ h=>h.elim λ_ h=>(aG.1 h).1
theorem ahG{c w cap buf cl tm s r}:bf (λk=>k=c) w (w.setChan c cap buf cl s r tm) :=
 ⟨rfl,rfl,rfl,by simp[World.setChan],λk _ j=>by simp[World.setChan,Array.getElem?_setIfInBounds_ne (Ne.symm j)]⟩
theorem Nr c l v w(h:mY c l w) :aK aR 167 #[.chan (I c),v] w λe w'=>e=ak (ar (decide (Z l<8)))/\mY c (if Z l<8 then l++[v]else l) w'/\bf (λk=>k=c) w w':=by
 refine calls_of_loneTo λt=>?_
 obtain⟨s,r,j⟩:=h;have e:Frame.enter aR 167 #[.chan (I c),v] .normal=(base 167).at ⟨#[.chan (I c),v,undef,undef,undef,undef,undef,undef,undef,undef],[]⟩ [.code (f167.body.getD .skip)]:=by rfl
 rw[e];refine LoneTo.goes (n:=14) ?_;simp only[f167,Option.getD_some];s_c stepG_seq;s_reg;s_op;s_c stepG_region_end;s_c stepG_seq;s_c stepG_seq;s_reg;s_op;s_c stepG_region_end;s_reg;s_op;s_c stepG_region_end;s_c stepG_seq;s_reg;s_stop;by_cases hl:Z l<8
 .refine LoneTo.step (step_lone_select_send_room (c:=c) (cap:=8) (buf:=l.toArray) (s:=s) (r:=r) (tm:=false) (stepG_comm (cases:=#[scase c v (F U 0 0)]) (blocking:=false) (shape:=.select) (w':=w) rfl rfl bG ai4) j aZ) ?_;rw[Frame.finish_at];walk_nrm;refine LoneTo.goes (n:=10) ?_;s_op;s_op;s_c stepG_region_end;s_c stepG_block;s_cond aA;s_c stepG_seq;s_reg;s_op;s_c stepG_region_end;s_c stepG_ret';s_stop;refine LoneTo.done ⟨ak (ar aA),_,rfl,⟨by simp[hl],⟨s+1,r,?_⟩,ahG⟩,rfl,rfl,rfl,rfl,_,func167,ai5⟩;rw[bV hl,heap_setChan _ _ _ _ _ _ _ _ (aG.1 j).1]
 refine LoneTo.step (step_lone_select_send_full (c:=c) (cap:=8) (buf:=l.toArray) (s:=s) (r:=r) (tm:=false) (stepG_comm (cases:=#[scase c v (F U 0 0)]) (blocking:=false) (shape:=.select) (w':=w) rfl rfl bG ai4) j YG) ?_;rw[Frame.finish_at];walk_nrm;refine LoneTo.goes (n:=10) ?_;s_op;s_op;s_c stepG_region_end;s_c stepG_block;s_cond az;s_c stepG_seq;s_reg;s_op;s_c stepG_region_end;s_c stepG_ret';s_stop;exact LoneTo.done ⟨ak (ar az),_,rfl,⟨by simp[hl],by rw[bQ hl];exact⟨s,r,j⟩,bf.rf _ _⟩,rfl,rfl,rfl,rfl,_,func167,ai5⟩
theorem WU c l w(h:mY c l w) :aK aR 168 #[.chan (I c)] w λe w'=>e=ak (au #[l.headD (F U 0 0),ar (!l.isEmpty)])/\mY c l.tail w'/\bf (λk=>k=c) w w':=by
 refine calls_of_loneTo λt=>?_
 obtain⟨s,r,j⟩:=h;have e:Frame.enter aR 168 #[.chan (I c)] .normal=(base 168).at ⟨#[.chan (I c),undef,undef,undef,undef,undef,undef,undef,undef,undef,undef],[]⟩ [.code (f168.body.getD .skip)]:=by rfl
 rw[e];refine LoneTo.goes (n:=11) ?_;simp only[f168,Option.getD_some];s_c stepG_seq;s_reg;s_op;s_op;s_c stepG_region_end;s_c stepG_seq;s_reg;s_op;s_c stepG_region_end;s_c stepG_seq;s_reg;s_stop;cases l with
 | cons x l => refine LoneTo.step (step_lone_select_recv_buf (c:=c) (cap:=8) (buf:=(x :: l).toArray) (s:=s) (r:=r) (tm:=false) (stepG_comm (cases:=#[rcase c (F U 0 0)]) (blocking:=false) (shape:=.select) (w':=w) rfl rfl bG ai6) j bu) ?_;rw[Frame.finish_at];walk_nrm;refine LoneTo.goes (n:=17) ?_;s_op;s_op;s_c stepG_region_end;s_c stepG_block;s_cond aA;s_c stepG_seq;s_reg;s_op;s_op;s_c stepG_region_end;s_c stepG_seq;s_reg;s_op;s_op;s_op;s_c stepG_region_end;s_c stepG_ret';s_stop;refine LoneTo.done ⟨ak (au #[x,ar aA]),_,rfl,⟨rfl,⟨s,r+1,?_⟩,ahG⟩,rfl,rfl,rfl,rfl,_,func168,ai7⟩;rw[heap_setChan _ _ _ _ _ _ _ _ (aG.1 j).1];simp
 | nil => refine LoneTo.step (step_lone_select_default (c:=c) (cap:=8) (s:=s) (r:=r) (tm:=false) (stepG_comm (cases:=#[rcase c (F U 0 0)]) (blocking:=false) (shape:=.select) (w':=w) rfl rfl bG ai6) j) ?_;rw[Frame.finish_at];walk_nrm;refine LoneTo.goes (n:=11) ?_;s_op;s_op;s_c stepG_region_end;s_c stepG_block;s_cond az;s_c stepG_seq;s_reg;s_op;s_op;s_c stepG_region_end;s_c stepG_ret';s_stop;exact LoneTo.done ⟨ak (au #[F U 0 0,ar az]),_,rfl,⟨rfl,⟨s,r,j⟩,bf.rf _ _⟩,rfl,rfl,rfl,rfl,_,func168,ai7⟩
end
section
open Go Go.RowKit Go.ChangeMaps
def GR(bC:List (Int×aQ))(k:Int):Option aQ:=(bC.find? λp=>p.1==k).map (·.2)
def Ft(w:aP)(b:Nat)(bC:List (Int×aQ)):Prop :=
 ∃(es:Array MapEntry) (c:Nat),w.heap[b]?=I (.map es c)/\es.toList.map (λe=>(e.key,e.val))=bC.map λp=>(G J p.1,p.2)
theorem Ft.new(w:aP):Ft (aU w (.map #[] 0)) (D (L w)) []:=⟨#[],0,heap_alloc_new w _,rfl⟩
theorem Xy k:∀(es:List MapEntry) (bC:List (Int×aQ)) (i:Nat),es.map (λe=>(e.key,e.val))=bC.map (λp=>(G J p.1,p.2)) ->
 ∃r,Instr.findNow (.int J) (G J k) es i=I r/\r.map (·.2)=GR bC k
 | [],[],i,_=>⟨U,rfl,rfl⟩
 | [],_ :: _,i,h=>zH
 | _ :: _,[],i,h=>zH
 | e :: es,p :: bC,i,h=>by
  simp only[mN,List.cons.injEq,Prod.mk.injEq]at h;obtain⟨⟨y,j⟩,A⟩:=h;obtain⟨r,t,z⟩:=Xy k es bC (i+1) A;unfold Instr.findNow;rw[y];by_cases hk:p.1=k;subst hk;exact⟨I (i,e.val),by simp[Instr.sameNow],by simp[GR,j]⟩;refine⟨r,?_,?_⟩;have:(k==p.1)=false:=by simp;exact λe=>hk e.symm
  simp[Instr.sameNow,this,t];rw[z];unfold GR;rw[List.find?_cons_of_neg vP]
section
variable {P:Program}
theorem asE{K}(j:P.underlying K=some (.int .i64)) k t n w:(Instr.checkKey t (n+1) K (G J k)).run P w=.ok () w:=by simp[Instr.checkKey,run_underlying j]
theorem Rg{K}(t:P.underlying K=some (.int .i64)) k j w:(Instr.checkKey j 10000 K (G J k)).run P w=.ok () w:=asE t k j 9999 w
theorem avW{t K M}(C:P.underlying t=some (.map K M))(B:P.underlying K=some (.int .i64)){w b bC}(h:Ft w b bC) k v(hn:GR bC k=U) :∃y,(Instr.mapUpdate t (.map (I b)) (G J k) v).run P w=.ok () y/\Ft y b (bC++[(k,v)])/\w.grownBy y (I b):=by
 obtain⟨es,c,j,z⟩:=h;obtain⟨r,N,A⟩:=Xy k es.toList bC 0 z;have H:r=none:=by
  cases r with
  | none=>rfl
  | some x=>rw[hn]at A;cases A
 subst H;refine⟨setBlock w b (.map (es.push ⟨G J k,v,c⟩) (c+1)),?_,⟨_,_,heap_setBlock_same j _,?_⟩,⟨rfl,rfl,rfl,SD,λi _ O=>heap_setBlock_other j _ (λe=>O Oa)⟩⟩
 .simp[Instr.mapUpdate,run_underlying C,MapKept.run_getObj_map j,Rg B,Instr.findKey,run_underlying B,N,MapKept.run_setObj_map _ j,Result.andThen,setBlock]
 simp[z]
theorem xX{t K B}(y:P.underlying t=some (.map K B))(j:P.underlying K=some (.int .i64)){w z}(hz:(zeroValue B).run P w=.ok z w){b bC}(h:Ft w b bC) k :(Instr.lookup t (.map (I b)) (G J k) aA).run P w=.ok (au #[(GR bC k).getD z,ar (GR bC k).isSome]) w:=by
 obtain⟨es,c,A,H⟩:=h;obtain⟨r,C,M⟩:=Xy k es.toList bC 0 H;rw[<- M];cases r with
 | none=>simp[Instr.lookup,run_underlying y,MapKept.run_getObj_map A,Rg j,Instr.findKey,run_underlying j,C,hz,Result.andThen]
 | some x=>simp[Instr.lookup,run_underlying y,MapKept.run_getObj_map A,Rg j,Instr.findKey,run_underlying j,C,Result.andThen]
theorem zB w{ops rest o a Q}(hg:o.guard=U) m x v t(O:o.op=Op.insert t m x v) K ai(C:P.underlying t=some (.map K ai))(M:P.underlying K=some (.int .i64)) b bC(hm:a.eval m=.map (I b))(y:Ft w b bC) k(R:a.eval x=G J k) val(A:a.eval v=val)(hn:GR bC k=U)(N:∀w',Ft w' b (bC++[(k,val)])->w.grownBy w' (I b)->wpList P ops Q rest (a.put o.dst undef) w'):wpList P ops Q (o :: rest) a w:=by
 refine wpList_plain hg λS B=>?_
 obtain⟨w',z,H,j⟩:=avW C M y k val hn;unfold Oper.wp;simp[aL,O,hm,R,A,z,Result.andThen];exact B _ _ (N w' H j)
end
end
section
open Go Go.RowKit Go.ChangeMaps
section
variable {α:Type}[DecidableEq α]{enc:α->aQ}{P:Program}{kt:TypeId}
def i6(k:α):List (α×aQ)->Nat->Option (Nat×aQ)
 | [],_=>U
 | p :: r,i=>if p.1=k then I (i,p.2)else i6 k r (i+1)
def eX(bC:List (α×aQ))(k:α):Option aQ:=(i6 k bC 0).map (·.2)
def uK(bC:List (α×aQ))(k:α)(v:aQ):List (α×aQ):=match i6 k bC 0 with|some (i,_)=>bC.modify i λp=>(p.1,v)|none=>bC++[(k,v)]
def Fu(bC:List (α×aQ))(k:α):List (α×aQ):=match i6 k bC 0 with|some (i,_)=>bC.eraseIdx i|none=>bC
theorem Xz{k}{bC:List (α×aQ)}:∀ {i j:Nat} {v:aQ},i6 k bC i=I (j,v)->i<=j/\bC[j-i]?=I (k,v):=by
 induction bC with
 | nil=>intro i j v h;cases h
 | cons p r t => grind [i6]
structure Ji(P:Program)(kt:TypeId)(enc:α->aQ):Prop where
 find:∀(k:α) (es:List MapEntry) (bC:List (α×aQ)) (w:aP),es.map (λe=>(e.key,e.val))=bC.map (λp=>(enc p.1,p.2))->(Instr.findKey kt (enc k) es).run P w=.ok (i6 k bC 0) w
 oG:∀(k:α) (em:Bool) (w:aP),(Instr.checkKey em 10000 kt (enc k)).run P w=.ok () w
 stays:∀(k:α),Instr.sameBits 10000 (enc k) (enc k)=aA
theorem aeG{β γ:Type}{g:β->γ} f(h:∀x,g (f x)=g x):∀(l:List β) (i:Nat),(l.modify i f).map g=l.map g:=by
 intro l;induction l with
 | nil=>intro i;cases i <;> rfl
 | cons x l j =>
  intro i;cases i with
  | zero=>simp[h]
  | succ i=>simp[j]
def yQ(es:List MapEntry)(c:Nat):Prop:=(es.map (·.born)).Pairwise (· < ·)/\∀n∈es.map (·.born),n<c
theorem yQ.push{es c}(h:yQ es c) k v:yQ (es++[⟨k,v,c⟩]) (c+1):=by refine⟨?_,λn j=>?_⟩;rw[List.map_append];exact List.pairwise_append.2 ⟨h.1,bu,λa y b t=>by simp at t;subst t;exact h.2 a y⟩;rw[List.map_append,r7]at j;rcases j with j|j;have:=h.2 n j;omega;grind
theorem yQ.same{es j c}(h:yQ es c)(e:j.map (·.born)=es.map (·.born)):yQ j c:=by grind [yQ]
theorem yQ.sub{es j c}(h:yQ es c)(s:j.Sublist es):yQ j c:=⟨h.1.sublist (s.map _),λn t=>h.2 n ((s.map _).mem t)⟩
def fP(enc:α->aQ)(w:aP)(b:Nat)(bC:List (α×aQ)):Prop :=
 ∃(es:Array MapEntry) (c:Nat),w.heap[b]?=I (.map es c)/\es.toList.map (λe=>(e.key,e.val))=bC.map (λp=>(enc p.1,p.2))/\yQ es.toList c
end
section
variable {α:Type}{enc:α->aQ}{P:Program}{kt:TypeId}
theorem fP.new(w:aP):fP enc (aU w (.map #[] 0)) (D (L w)) []:=⟨#[],0,heap_alloc_new w _,rfl,by simp[yQ]⟩
end
section
variable {α:Type}[DecidableEq α]{enc:α->aQ}{P:Program}{kt:TypeId}
end
section
variable {α:Type}{enc:α->aQ}{P:Program}{kt:TypeId}
theorem fP.lt{w b bC}(h:fP enc w b bC):b<D (L w):=by obtain⟨es,c,h,_⟩:=h;grind
end
section
variable {α:Type}[DecidableEq α]{enc:α->aQ}{P:Program}{kt:TypeId}
end
section
variable {α:Type}{enc:α->aQ}{P:Program}{kt:TypeId}
theorem fP.cF{w w' b bC X}(h:fP enc w b bC)(hb:bf X w w')(z:¬X b):fP enc w' b bC:=by have t:=h.lt;obtain⟨es,c,j,y⟩:=h;exact⟨es,c,(hb.block b t z).trans j,y⟩
end
section
variable {α:Type}[DecidableEq α]{enc:α->aQ}{P:Program}{kt:TypeId}
end
section
variable {α:Type}{enc:α->aQ}{P:Program}{kt:TypeId}
theorem fP.st{w w' b bC}(h:fP enc w b bC)(k:K w w'):fP enc w' b bC:=by have t:=h.lt;obtain⟨es,c,j,y⟩:=h;exact⟨es,c,(k.block b t).trans j,y⟩
end
section
variable {α:Type}[DecidableEq α]{enc:α->aQ}{P:Program}{kt:TypeId}
end
section
variable {α:Type}{enc:α->aQ}{P:Program}{kt:TypeId}
theorem fP.cells{w b bC}(h:fP enc w b bC){e cs}(hb:bn w b e cs):False:=by obtain⟨es,c,j,_⟩:=h;have:=j.symm.trans hb;cases this
end
section
variable {α:Type}[DecidableEq α]{enc:α->aQ}{P:Program}{kt:TypeId}
theorem E0{t C}(y:Ji P kt enc)(A:P.underlying t=some (.map kt C)){w z}(hz:(zeroValue C).run P w=.ok z w){b bC}(h:fP enc w b bC) k :(Instr.lookup t (.map (I b)) (enc k) aA).run P w=.ok (au #[(eX bC k).getD z,ar (eX bC k).isSome]) w/\(Instr.lookup t (.map (I b)) (enc k) az).run P w=.ok ((eX bC k).getD z) w:=by
 obtain⟨es,c,B,H,M⟩:=h;have j:=y.find k es.toList bC w H;unfold eX;cases hr:i6 k bC 0 with
 | none=>rw[hr]at j;simp[Instr.lookup,run_underlying A,MapKept.run_getObj_map B,y.oG,j,hz,Result.andThen]
 | some x=>rw[hr]at j;simp[Instr.lookup,run_underlying A,MapKept.run_getObj_map B,y.oG,j,Result.andThen]
theorem Gy{t Q}(A:Ji P kt enc)(H:P.underlying t=some (.map kt Q)){w b bC}(h:fP enc w b bC) k v :∃C,(Instr.mapUpdate t (.map (I b)) (enc k) v).run P w=.ok () C/\fP enc C b (uK bC k v)/\w.grownBy C (I b):=by
 obtain⟨es,c,y,h2,M⟩:=h;have z:=A.find k es.toList bC w h2;have N:∀o,w.grownBy (setBlock w b o) (I b):=λo=>⟨rfl,rfl,rfl,SD,λi _ B=>heap_setBlock_other y _ (λe=>B Oa)⟩
 unfold uK;cases hr:i6 k bC 0 with
 | none =>
  rw[hr]at z;refine⟨setBlock w b (.map (es.push ⟨enc k,v,c⟩) (c+1)),?_,⟨_,_,heap_setBlock_same y _,?_,by simpa using M.push (enc k) v⟩,N _⟩
  .simp[Instr.mapUpdate,run_underlying H,MapKept.run_getObj_map y,A.oG,z,MapKept.run_setObj_map _ y,Result.andThen,setBlock]
  simp[h2]
 | some x =>
  obtain⟨i,S⟩:=x;rw[hr]at z;obtain⟨-,B⟩:=Xz hr;have T:Z es.toList=Z bC:=ai8;have V:i<Z bC:=bL;have O:(es[i]?).map (·.key)=I (enc k):=by
   have:=congrArg (λl=>l[i]?) h2;simp only[List.getElem?_map]at this;rw[show i-0=i by omega]at B;rw[B]at this;simp only[aD,Option.map_some]at this;cases he:es[i]? with
   | none=>rw[he]at this;simp at this
   | some e=>rw[he]at this;simp at this;simp[this.1]
  refine⟨setBlock w b (.map (es.modify i λe=>{ e with key:=enc k,val:=v }) c),?_,⟨_,_,heap_setBlock_same y _,?_,M.same (by grind [Array.toList_modify,aeG])⟩,N _⟩
  .simp[Instr.mapUpdate,run_underlying H,MapKept.run_getObj_map y,A.oG,z,O,Instr.keyThatStays,A.stays,MapKept.run_setObj_map _ y,Result.andThen,setBlock]
  rw[Array.toList_modify];apply List.ext_getElem?;intro j;have R:=congrArg (λl=>l[j]?) h2;grind
theorem azM{t C}(KG:Ji P kt enc)(hT:P.underlying t=some (.map kt C)){w b bC}(h:fP enc w b bC) k ty y(hts:y[0]?=I t) :∃j,(Builtin.delete_ y ty #[.map (I b),enc k]).run P w=.ok (au #[]) j/\fP enc j b (Fu bC k)/\w.grownBy j (I b):=by
 obtain⟨es,c,h1,h2,z⟩:=h;have hf:=KG.find k es.toList bC w h2;have A:∀o,w.grownBy (setBlock w b o) (I b):=λo=>⟨rfl,rfl,rfl,SD,λi _ B=>heap_setBlock_other h1 _ (λe=>B Oa)⟩
 have:Z es.toList=Z bC:=ai8;unfold Fu;cases hr:i6 k bC 0 with
 | none => rw[hr]at hf;refine⟨setBlock w b (.map es c),?_,⟨_,_,heap_setBlock_same h1 _,h2,z⟩,A _⟩;exact ai9
 | some x => obtain⟨i,H⟩:=x;rw[hr]at hf;obtain⟨-,B⟩:=Xz hr;have:i<es.size:=bL;refine⟨setBlock w b (.map (es.eraseIdxIfInBounds i) c),?_,⟨_,_,heap_setBlock_same h1 _,?_,z.sub (by grind [Array.toList_eraseIdx,List.eraseIdx_sublist])⟩,A _⟩;exact ai9;grind [Array.toList_eraseIdx,List.map,List.eraseIdx_eq_take_drop_succ,List.map_take,List.map_drop]
end
def encI(n:Int):aQ:=G J n
theorem D3{P kt}(t:P.underlying kt=some (.int .i64)):Ji P kt encI:=by
 refine⟨λk es bC w h=>?_,λk y w=>Rg t k y w,λk=>by simp[encI,Instr.sameBits]⟩;have key:∀(es:List MapEntry) (bC:List (Int×aQ)) (i:Nat),es.map (λe=>(e.key,e.val))=bC.map (λp=>(encI p.1,p.2))->Instr.findNow (.int J) (G J k) es i=I (i6 k bC i):=by
  intro es;induction es with
  | nil=>intro bC i h;cases bC with
   | nil=>rfl
   | cons p r=>simp at h
  | cons e es z=>intro bC i h;cases bC with
   | nil=>simp at h
   | cons p r => simp only[mN,List.cons.injEq,Prod.mk.injEq]at h;obtain⟨⟨B,A⟩,C⟩:=h;unfold Instr.findNow i6;rw[B];by_cases j:p.1=k;subst j;simp[Instr.sameNow,encI,A];have:(k==p.1)=false:=bL;simp[Instr.sameNow,encI,this,z r (i+1) C,j]
 simp[Instr.findKey,run_underlying t,encI,key es bC 0 h]
def oy(a:bY):aQ:=av #[G J a.1,G E (a.2.1:Int),G E (a.2.2:Int)]
theorem axA x y w d:(Op.equalIn (d+1+1) 42 (oy x) (oy y)).run aR w=.ok (decide (x=y)) w:=by obtain⟨a,b,c⟩:=x;obtain⟨t,C,z⟩:=y;unfold oy;simp[go_sem,Np];by_cases B:a=t <;> by_cases j:b=C <;> by_cases A:c=z <;> simp[B,A,j] <;> omega
theorem T7:Ji aR 42 oy:=by
 refine⟨λk es bC w h=>?_,λk z w=>?_,λk=>?_⟩
 .have key:∀(es:List MapEntry) (bC:List (bY×aQ)) (i:Nat),es.map (λe=>(e.key,e.val))=bC.map (λp=>(oy p.1,p.2))->(Instr.findAsking 42 (oy k) es i).run aR w=.ok (i6 k bC i) w:=by
   intro es;induction es with
   | nil=>intro bC i h;cases bC with
    | nil=>rfl
    | cons p r=>simp at h
   | cons e es ih=>intro bC i h;cases bC with
    | nil=>simp at h
    | cons p r => simp only[mN,List.cons.injEq,Prod.mk.injEq]at h;obtain⟨⟨h1,y⟩,h3⟩:=h;have he:(Op.equal 42 (oy k) (oy p.1)).run aR w=.ok (decide (k=p.1)) w:=axA k p.1 w 9998;exact aja
  obtain⟨j,hu⟩:∃j,prog.underlying 42=some (.struct j):=⟨_,underlying42⟩;cases es with
  | nil => exact ajb
  | cons e es =>
   have t:Instr.findNow (.struct j) (oy k) (e :: es) 0=none:=by rfl
   simp[Instr.findKey,run_underlying hu,t,key (e :: es) bC 0 h]
 rfl;unfold oy;simp[Instr.sameBits]
end
section
open Go Go.RowKit Go.ChangeMaps
theorem aEg{α}[DecidableEq α]{enc P T j}(hu:P.underlying T=some (.struct j))(he:∀x y w,(Op.equal T (enc x) (enc y)).run P w=.ok (decide (x=y)) w)(hn:∀k v,Instr.sameNow (.struct j) (enc k) v=U)(z:∀(k:α) (em:Bool) (w:aP),(Instr.checkKey em 10000 T (enc k)).run P w=.ok () w)(hb:∀k,Instr.sameBits 10000 (enc k) (enc k)=aA):Ji P T enc:=by
 refine⟨λk es bC w h=>?_,z,hb⟩;have key:∀(es:List MapEntry) (bC:List (α×aQ)) (i:Nat),es.map (λe=>(e.key,e.val))=bC.map (λp=>(enc p.1,p.2))->(Instr.findAsking T (enc k) es i).run P w=.ok (i6 k bC i) w:=by
  intro es;induction es with
  | nil=>intro bC i h;cases bC <;> simp_all [Instr.findAsking,i6] <;> rfl
  | cons e es ih=>intro bC i h;cases bC with
   | nil=>simp at h
   | cons p r => simp only[mN,List.cons.injEq,Prod.mk.injEq]at h;obtain⟨⟨h1,A⟩,h3⟩:=h;exact aja
 cases es with
 | nil => exact ajb
 | cons e es =>
  have t:Instr.findNow (.struct j) (enc k) (e :: es) 0=none:=by rfl
  simp[Instr.findKey,run_underlying hu,t,key (e :: es) bC 0 h]
def qM(a:Int×Int):aQ:=av #[G J a.1,G J a.2]
theorem aoe:Ji aR 157 qM :=aEg underlying157 (λx y w=>by
 obtain⟨a,b⟩:=x;obtain⟨c,d⟩:=y;unfold qM;show (Op.equalIn (9998+1+1) _ _ _).run _ _=_;simp[go_sem,Np];by_cases j:a=c <;> by_cases t:b=d <;> simp[j,t] <;> omega) (λk v=>by unfold Instr.sameNow qM;split <;> simp_all) (λk z w=>by unfold qM;kernel_rfl) λk=>by unfold qM;simp[Instr.sameBits]
end
section
variable {P:Program}{Q:Exit->Act->aP->Prop}
def td(t:List (List Nat×List (Nat×Nat)))(z:Nat):Nat->Nat->Bool
 | 0,_=>az
 | f+1,j=>match t[j]? with
  | none=>az
  | some y=>y.1.contains z||y.1.any (td t z f)
theorem KM{ops A}(N:tR ops A=aA){t}(B:Closed ops t){z}:∀(f j:Nat),td A z f j=aA->t j=aA->t z=true:=by
 intro f;induction f with
 | zero=>intro j h _;cases h
 | succ f Q =>
  intro j h C;unfold td at h;cases hy:A[j]? with
  | none=>rw[hy]at h;cases h
  | some y =>
   rw[hy]at h;simp only[Bool.or_eq_true,List.contains_iff_mem,List.any_eq_true]at h;have:=B.2 j C;have H:ops[j]?=I ops[j]:=bu;have M:=List.all_eq_true.1 N (ops[j],j) (List.mem_zipIdx_iff_getElem?.2 bu);simp only[hy,fI]at M;have:∀i∈y.1,t i=true:=λi S=>B.1 j _ H C i bL
   grind
theorem axB{ρ w} s x t ty e base z size bytes(T:gQ P t e z size bytes) v n xs(W:ρ s=v)(H:w.ownsRow base e size v n xs) B A m c y(Y:ρ x=F A m c)(Q:Reads w B size A m y)(R:∀u∈y,u.oneCell'=aA)(X:(n+m)*(bytes+1)<=140737488355328)(M:base<=D (L w)) :∃C j,(aL ρ (bT (.call { callee:=.builtin .append,args:=#[s,x],argTypes:=#[t,t] }) ty)).run P w=.ok (.value C) j/\j.ownsRow base e size C (n+m) (xs++y)/\aN base w j/\w.grownBy j (aW v):=by obtain⟨C,j,N,O,V,h4,S⟩:=GC w base t ty e z size bytes T v n xs H B A m c y Q R X M;refine⟨C,j,?_,O,S,V⟩;simp only[aL,bT,resolve,invoke,builtin,Sem.run_bind,Sem.run_pure,Result.andThen_ok,List.map_toArray,mN,List.map_nil,W,Y,N]
def dF(V:Nat->aQ)(w:aP):Nat->List (aQ->aP->Prop)->Prop
 | _,[]=>True
 | k,φ :: r=>φ (V k) w/\dF V w (k+1) r
def bN(P:Program)(t:Act)(j:(Nat->aQ)->aP->Prop):Nat->List Oper->List (List Nat×List (Nat×Nat))->(Nat->aQ)->aP->Prop
 | _,[],_,V,w=>j V w
 | _,_ :: _,[],_,_=>False
 | k,o :: r,x :: xs,V,w=>if dI V o.guard=aA then lZ P (λv y=>bN P t j (k+1) r xs (cP V k v) y) ((aL (bR x.2 t V) (bT o.op o.type)).run P w)else bN P t j (k+1) r xs (cP V k undef) w
def Ff(t:List (List Nat×List (Nat×Nat)))(m n:Nat):Bool :=
 (List.range n).all λk=>decide (k<m)||(List.range k).all λj=>match t[k]? with
  | none=>az
  | some x=>x.1.contains j||x.1.any (td t j n)
theorem ajc{V w}:∀(s t:List (aQ->aP->Prop)),(∀j,Z t<=j->j<Z t+Z s->tab (t++s) j (V j) w)->dF V w (Z t) s:=by
 intro s;induction s with
 | nil=>intro t _;trivial
 | cons φ s ih =>
  intro t h;refine⟨?_,?_⟩;have:=h (Z t) (bP _) bu;unfold tab at this;simpa [List.getD_eq_getElem?_getD]using this;have:=ih (t++[φ]) (λj y z=>by
   simp at y z;have:=h j aZ cN;simpa using this)
  simpa using this
def TV(t:List Nat)(y:List (List Nat×List (Nat×Nat)))(m n:Nat):Bool :=
 t.all (λj=>decide (j<m))&&(List.range n).all λk=>decide (k<m)||(List.range k).all λj=>t.contains j||match y[k]? with
  | none=>az
  | some x=>x.1.contains j||x.1.any (td y j n)
theorem WV{ops C A m}(O:tR ops A=aA)(B:TV C A m ops.size=aA){z}(V:Closed ops z){k}(hk:m<=k){o}(M:ops[k]?=I o)(Q:∀j∈ahead o,z j=aA):∀j,j<k->j∉C->z j=true:=by
 intro j N S;have H:=(aG.1 M).1;simp only[TV,fI]at B;have y:=List.all_eq_true.1 B.2 k (List.mem_range.2 H);simp only[Bool.or_eq_true,decide_eq_true_eq]at y;rcases y with y|y;omega;have t:=List.all_eq_true.1 y j (List.mem_range.2 N);simp only[Bool.or_eq_true,List.contains_iff_mem]at t;have t:=t.resolve_left S;cases hx:A[k]? with
 | none=>rw[hx]at t;cases t
 | some x =>
  rw[hx]at t;simp only[Bool.or_eq_true,List.contains_iff_mem,List.any_eq_true]at t;have R:=List.all_eq_true.1 O (o,k) (List.mem_zipIdx_iff_getElem?.2 bL);simp only[hx,fI]at R;have:∀i∈x.1,z i=true:=λi T=>Q i bL
  rcases t with t|⟨i,T,t⟩
  .grind
  grind [KM]
end
def Fx(M:Nat->Prop)(p:aP->Prop)(w:aP):Prop:=∀W,bf M w W->p W
section
variable {M N X:Nat->Prop}{p q:aP->Prop}{w w':aP}
theorem Fx.now(h:Fx M p w):p w:=h w (bf.rf _ _)
theorem Fx.k(h:Fx M p w)(k:K w w'):Fx M p w':=λW u=>h W ((bf.cz k _).tr u)
theorem Fx.up(h:Fx M p w)(u:bf X w w')(j:∀k,X k->M k):Fx M p w':=λW t=>h W ((u.more j).tr t)
theorem Fx.less(h:Fx M p w)(j:∀k,N k->M k):Fx N p w:=λW u=>h W (u.more j)
theorem Fx.mono(h:Fx M p w)(j:∀W,p W->q W):Fx M q w:=λW u=>j W (h W u)
theorem Fx.at(h:Fx M p w)(k:K w w'):p w':=h w' (bf.cz k _)
theorem Fx.to(h:Fx M p w)(u:bf X w w')(t:∀k,X k->M k)(j:∀k,k<D (L w)->N k->M k):Fx N p w':=λW v=>h W ((u.more t).ir v j)
theorem Fx.fresh{lo}(h:∀W,cI lo U w W->p W)(j:∀k,M k->k<lo):Fx M p w :=
 λW u=>h W (u.vu λk y _ _ t=>by have:=j k t;omega)
end
abbrev D4(n:Int):List aQ:=[G J n]
def eH:fy Int where
 size:=1
 rel:=λn j _=>j=D4 n
 len:=by rintro x j w rfl;rfl
 one:=by rintro x j w rfl u t;simp at t;subst t;rfl
 st:=λh _=>h
theorem IC l W:Each eH l (l.map D4) W:=⟨bu,λi h j=>by simp[eH]⟩
theorem XA(l:List Int):(l.map D4).flatten=l.map λn=>G J n:=by
 induction l with
 | nil=>rfl
 | cons a l j=>simp[D4,j]
theorem Rm{l j W}(h:Each eH l j W):j=l.map D4:=by
 refine List.ext_getElem N7 λi t y=>?_
 have:=h.2 i bL t;simpa [eH]using this
section
variable {α:Type}{S:fy α}{Y:Nat->Prop}{base:Nat}{e:TypeId}{l:List α}{v:aQ}{w w':aP}
def bK(Y:Nat->Prop)(base:Nat)(e:TypeId)(S:fy α)(l:List α)(v:aQ)(w:aP):Prop :=
 ∃j,w.ownsRow base e S.size v (Z l) j.flatten/\Z j=Z l/\∀t,bf (λk=>Y k\/aW v=I k) w t->Each S l j t
theorem bK.nil Y base e(S:fy α) w:bK Y base e S [] (F U 0 0) w:=⟨[],oV _ _ _ _,rfl,λ_ _=>Each.nil _ _⟩
theorem bK.st(h:bK Y base e S l v w)(k:K w w'):bK Y base e S l v w':=by obtain⟨A,t,j,y⟩:=h;exact⟨A,sU t k,j,λz u=>y z ((bf.cz k _).tr u)⟩
theorem bK.blk(h:bK Y base e S l v w):∀g,aW v=I g->base<=g/\g<D (L w):=by obtain⟨y,j,-,-⟩:=h;exact λg t=>j.lt g t
theorem bK.up{Y'}(h:bK Y base e S l v w)(u:bf Y' w w')(H:∀k,Y' k->Y k)(hb:∀k,Y' k->k<base):bK Y base e S l v w':=by have:=h.blk;obtain⟨A,y,t,z⟩:=h;exact⟨A,kj y u λb N O=>bL,t,λB C=>z B ((u.more λk j=>aI (H k j)).tr C)⟩
theorem bK.less{Y'}(h:bK Y base e S l v w)(C:∀k,Y' k->Y k):bK Y' base e S l v w:=by obtain⟨B,z,y,A⟩:=h;exact⟨B,z,y,λt u=>A t (u.more λk j=>j.imp (C k) id)⟩
theorem bK.low{base'}(h:bK Y base e S l v w)(hb:base'<=base):bK Y base' e S l v w:=aiV
theorem bK.bD(h:bK Y base e S l v w):bD S l v w:=by obtain⟨z,j,y,t⟩:=h;exact Ry j (t w (bf.rf _ _))
theorem bK.fx(h:bK Y base e S l v w)(hb:∀k,Y k->k<base):Fx Y (λW=>Go.Proofs.YtcjlnlcpodcldaaGreat.bD S l v W) w:=λ_ u=>(h.up u (λ_ h=>h) hb).bD
theorem bK.slice(h:bK Y base e S l v w):∃A c,v=F A (Z l) c:=bH h.bD
theorem cW.wF{lo}(h:cW base lo e S l v w):bK (λk=>k<lo) base e S l v w:=by obtain⟨A,j,z,t⟩:=h;exact⟨A,j,z,λy u=>t y (u.vu λk j _ t B=>bL)⟩
theorem bK.toL{lo}(h:bK (λk=>k<lo) base e S l v w):cW base lo e S l v w:=by obtain⟨B,z,y,A⟩:=h;exact⟨B,z,y,λt u=>A t (u.upN λk j=>j.imp id λh=>h.symm)⟩
def tD(N:Nat->Prop)(S:fy α)(x:α)(v:aQ)(W:aP):Prop:=v.cells.size=S.size/\Fx N (λW=>S.rel x v.cells.toList W) W
def fL(N:Nat->Prop)(lo:Nat)(e:TypeId)(S:fy α)(x:α)(v:aQ)(W:aP):Prop:=∃g j,v=F (I ⟨g,0,U⟩) 1 1/\lo<=g/\bn W g e j/\Fx N (λW=>S.rel x j.toList W) W
theorem aBn N lo e S(x:α):∀v w j,fL N lo e S x v w->aN (D (L w)) w j->fL N lo e S x v j:=by rintro v w j⟨g,z,t,A,y,B⟩ k;exact⟨g,z,t,A,y.bM k,B.k k⟩
variable {P:Program}{ρ:Operand->aQ}
theorem axC(a b:Array aQ)(h:a.size=b.size) m:b.zipIdx.foldl (λj (x:aQ×Nat)=>j.setIfInBounds (0*m+x.2) x.1) a=b:=by
 obtain⟨la⟩:=a;obtain⟨lb⟩:=b;simp at h;have key:∀(r pre q:List aQ),Z la=Z pre+Z r->Z q=Z r->(List.zipIdx r (Z pre)).foldl (λ(j:Array aQ) (x:aQ×Nat)=>j.setIfInBounds x.2 x.1) (pre++q).toArray=(pre++r).toArray:=by
  intro r;induction r with
  | nil=>intro pre q _ t;simp at t;subst t;simp
  | cons x r A =>
   intro pre q C B;cases q with
   | nil=>simp at B
   | cons y q => simp only[List.zipIdx_cons,List.foldl_cons];have z:(pre++y :: q).toArray.setIfInBounds (Z pre) x=(pre++[x]++q).toArray:=bu;rw[z];have:=A (pre++[x]) q bL bL;grind
 have:=key lb [] la bL h;simpa using this
theorem azN size a v(y:v.cells.size=size)(z:a.size=size):Instr.fill (λi=>I (i*size,size)) a [(0,v)]=I v.cells:=by have h:=axC a v.cells aZ size;have j:¬(0*size+v.cells.size>a.size):=aZ;have t:¬(v.cells.size≠size):=aZ;simp only[Instr.fill,t,j,decide_false,Bool.or_false,Bool.false_eq_true,if_false];exact congrArg I h
theorem avX t z size bytes(T:gQ P t e z size bytes)(N:v.cells.size=size)(Q:size<=16777216) :(Instr.buildSlice t 1 #[(0,v)]).run P w=.ok (F (I ⟨D (L w),0,U⟩) 1 1) (aU w (aq v.cells e)):=by
 obtain⟨i,j,C,H,O⟩:=T.fit;have:=T.pos;have y:¬(1*size>2^24):=aZ;have M:¬(1*size=0):=aZ;have hz:(zeroValue e).run P w=.ok z w:=by simp[zeroValue,typeInfo,j,C]
 have B:=azN size ((Array.range (1*size)).map λk=>z.cells[k%z.cells.size]!) v N bu;have A:(sizeOf e).run P w=.ok size w:=by simp[sizeOf,typeInfo,j,H]
 unfold Instr.buildSlice;simp only[Sem.run_bind,Result.andThen_ok,run_underlying T.und,A,y,M,if_false,Sem.run_pure,hz,B];simp[newRow,go_sem]
theorem afm t ty z size bytes(T:gQ P t e z size bytes) x(A:ρ x=v)(j:v.cells.size=size)(y:size<=16777216) :(aL ρ (bT (.buildSlice t 1 #[(0,x)]) ty)).run P w=.ok (.value (F (I ⟨D (L w),0,U⟩) 1 1)) (aU w (aq v.cells e)):=by have h:=avX (P:=P) (w:=w) t z size bytes T j y;subst A;simp only[aL,bT,List.map_toArray,mN,List.map_nil,Sem.run_bind,h,Result.andThen_ok,Sem.run_pure]
theorem XS t ty z size bytes(T:gQ P t e z size bytes)(hsz:S.size=size)(hO:bK Y base e S l v w) u x(C:fL (λk=>Y k\/aW v=I k) 0 e S x u w)(hbytes:(Z l+1)*(bytes+1)<=140737488355328)(hbase:base<=D (L w)) :∃A y,(Builtin.append_ #[t,t] ty #[v,u]).run P w=.ok A y/\bK Y base e S (l++[x]) A y/\w.grownBy y (aW v)/\(aW A=aW v\/aW A=I (D (L w)))/\aN base w y:=by
 subst hsz;obtain⟨g,N,rfl,-,H,R⟩:=C;obtain⟨O,hown,hcl,hE⟩:=hO;have Q:=R.now;have:=S.len Q;have hR:Reads w (D (L w)) S.size (I ⟨g,0,U⟩) 1 N.toList:=⟨aZ,λ_=>⟨g,0,rfl,H.lt,λj u C=>by
  rw[mr,H.cell j];simpa using C⟩⟩
 obtain⟨A,y,hrun,h2,V,B,h5⟩:=GC w base t ty e z S.size bytes T v (Z l) O.flatten hown (D (L w)) _ 1 1 _ hR (S.one Q) hbytes hbase;refine⟨A,y,hrun,⟨O++[N.toList],BR,by simp[hcl],λW u=>?_⟩,V,B,h5⟩;have M:=(bf.gy (X:=λk=>Y k\/aW v=I k) V (λg hg=>aJ hg)).ir u λk hk h=>by rcases h with h|h;exact aI h;rcases B with B|B <;> rw[B]at h;exact aJ h;injection h with h;omega
 exact (hE W M).snoc (R W M)
theorem agJ s x t ty z size bytes(T:gQ P t e z size bytes)(O:S.size=size)(H:ρ s=v)(B:bK Y base e S l v w) u(N:ρ x=u) a(C:fL (λk=>Y k\/aW v=I k) 0 e S a u w)(M:(Z l+1)*(bytes+1)<=140737488355328)(A:base<=D (L w)) :∃y j,(aL ρ (bT (.call { callee:=.builtin .append,args:=#[s,x],argTypes:=#[t,t] }) ty)).run P w=.ok (.value y) j/\bK Y base e S (l++[a]) y j/\w.grownBy j (aW v)/\(aW y=aW v\/aW y=I (D (L w)))/\aN base w j:=by obtain⟨y,j,hrun,h⟩:=XS (P:=P) t ty z size bytes T O B u a C M A;refine⟨y,j,?_,h⟩;subst H N;exact YH
theorem j0{ops rest o a Q}(j:o.guard=U) s x t(ho:o.op=.call { callee:=.builtin .append,args:=#[s,x],argTypes:=#[t,t] }) z size bytes(T:gQ P t e z size bytes)(H:S.size=size)(hs:a.eval s=v)(C:bK Y base e S l v w) u(hx:a.eval x=u) b(B:fL (λk=>Y k\/aW v=I k) 0 e S b u w)(A:(Z l+1)*(bytes+1)<=140737488355328)(y:base<=D (L w))(h:∀v' w',bK Y base e S (l++[b]) v' w'->w.grownBy w' (aW v)->(aW v'=aW v\/aW v'=I (D (L w)))->aN base w w'->wpList P ops Q rest (a.put o.dst v') w') :wpList P ops Q (o :: rest) a w:=by
 refine wpList_plain j λK hK=>?_
 obtain⟨v',w',hrun,h1,h2,h3,h4⟩:=XS (P:=P) t o.type z size bytes T H C u b B A y;exact ajd
theorem fL.new{N x}(h:Fx N (λW=>S.rel x v.cells.toList W) w) lo(j:lo<=D (L w)):fL N lo e S x (F (I ⟨D (L w),0,U⟩) 1 1) (aU w (aq v.cells e)) :=
 ⟨D (L w),v.cells,rfl,j,bn.new _ _ _,h.k ((K.rf w).al _)⟩
theorem fL.less{N j lo x}(h:fL N lo e S x v w)(B:∀k,j k->N k):fL j 0 e S x v w:=by obtain⟨g,z,t,C,y,A⟩:=h;exact⟨g,z,t,aZ,y,A.less B⟩
end
section
variable {α:Type}{S:fy α}{P:Program}{a0:Act}{w0:aP}{Fin:List (aQ->aP->Prop)->Prop}{o:Oper}{r:List Oper}{x:List Nat×List (Nat×Nat)}{xs:List (List Nat×List (Nat×Nat))}{t:List (aQ->aP->Prop)}{N Y:Nat->Prop}{lo base:Nat}{e:TypeId}{ai:(Nat->aQ)->aP->Prop}{k:Nat}{V:Nat->aQ}{w:aP}
theorem bN.push s u j z size bytes(T:gQ P j e z size bytes)(H:S.size=size)(X:o.op=.call { callee:=.builtin .append,args:=#[s,u],argTypes:=#[j,j] })(hg:o.guard=U) v l y(R:bR x.2 a0 V s=v)(W:bK Y base e S l v w)(O:fL (λk=>Y k\/aW v=I k) 0 e S y (bR x.2 a0 V u) w)(M:(Z l+1)*(bytes+1)<=140737488355328)(t:base<=D (L w))(h:∀v' w',bK Y base e S (l++[y]) v' w'->w.grownBy w' (aW v)->(aW v'=aW v\/aW v'=I (D (L w)))->aN base w w'->bN P a0 ai (k+1) r xs (cP V k v') w') :bN P a0 ai k (o :: r) (x :: xs) V w:=by obtain⟨v',w',A,N,B,Q,C⟩:=agJ (P:=P) (ρ:=bR x.2 a0 V) s u j o.type z size bytes T H R W _ rfl y O M t;unfold bN;rw[hg,bV (show dI V U=aA from rfl),X,A];exact h v' w' N B Q C
theorem bN.nil(h:ai V w):bN P a0 ai k [] xs V w:=by assumption
theorem bN.skip w'(hg:o.guard=U)(hx:(aL (bR x.2 a0 V) (bT o.op o.type)).run P w=.ok .skip w')(h:bN P a0 ai (k+1) r xs (cP V k undef) w'):bN P a0 ai k (o :: r) (x :: xs) V w:=SE
theorem bN.pure v(hg:o.guard=U)(hx:(aL (bR x.2 a0 V) (bT o.op o.type)).run P w=.ok (.value v) w)(h:bN P a0 ai (k+1) r xs (cP V k v) w):bN P a0 ai k (o :: r) (x :: xs) V w:=SE
theorem bN.val v w'(hg:o.guard=U)(hx:(aL (bR x.2 a0 V) (bT o.op o.type)).run P w=.ok (.value v) w')(h:bN P a0 ai (k+1) r xs (cP V k v) w'):bN P a0 ai k (o :: r) (x :: xs) V w:=SE
end
def PE:fy UInt8 where
 size:=1
 rel:=λb j _=>j=[G .u8 (b.toNat:Int)]
 len:=by rintro x j w rfl;rfl
 one:=by rintro x j w rfl u t;simp at t;subst t;rfl
 st:=λh _=>h
theorem ahH l:(l.map λb=>[G .u8 b.toNat]).flatten=fW l:=by
 induction l with
 | nil=>rfl
 | cons a l j=>simp[j,fW]
theorem Own.wF{Y w base e v l}(h:Own w base e v l):bK Y base e PE l v w :=
 ⟨l.map λb=>[G .u8 b.toNat],by rw[ahH];exact h,bu,λj _=>⟨bu,λi h t=>by simp[PE]⟩⟩
theorem bK.bytes{Y w base e v l}(h:bK Y base e PE l v w):Own w base e v l:=by
 obtain⟨z,j,h2,y⟩:=h;have t:=y w (bf.rf _ _);have:z=l.map λb=>[G .u8 b.toNat]:=List.ext_getElem NX λi j h2=>by have:=t.2 i aZ j;simpa [PE]using this
 rw[this,ahH]at j;exact j
theorem WN A c l w B(hR:Reads w B 4 A (Z l) (l.flatMap nu))(M:B<=D (L w)) :aK aR 252 #[F A (Z l) c] w λe R=>e=ak (G J (mP l))/\aN (D (L w)) w R:=by
 by_cases h1:Z l<1;have h1':(Z l:Int)<1:=aZ;have HE:Hid (mP l=40):=aY (by simp[mP,iM,show ¬1<=Z l by omega]);exact aje;have h1':¬(Z l:Int)<1:=aZ;by_cases lF:16<Z l;have Cg:(16:Int)<(Z l:Int):=aZ;have HE:Hid (mP l=40):=aY (by simp[mP,iM];omega);exact aje;have Cg:¬(16:Int)<(Z l:Int):=aZ;obtain⟨b,H,rfl,C,hcell⟩:=hR.Je aZ;have HC:=aY hcell;clear hcell hR;go_in;go_wp2;go_step3;go_wp2_with fail
 go_step3;go_wp2_with fail
 go_loopw [3,16] (fun m i wr=>∃k:Nat,k<=Z l/\m=G J k/\i=G J k/\Hid (mc U (l.take k)=aA)/\aN (D (L w)) w wr) (fun _ i _=>Z l-(aO i).toNat)
 case atStart=>exact⟨0,aZ,rfl,rfl,aY dH,eP _ _⟩
 case round =>
  obtain⟨k,hk,rfl,rfl,hall,hb⟩:=hrel;by_cases N:k<Z l
  .have gW:(k:Int)<Z l:=aZ;obtain⟨z,e1,e2,e3⟩:=HC.aX k N;have d0:=(hb.cell (p:=⟨b,H+k*4,U⟩) (cZ C M)).trans z;have Y:=(hb.cell (p:=⟨b,H+k*4+1,U⟩) (cZ C M)).trans e1;have T:=(hb.cell (p:=⟨b,H+k*4+2,U⟩) (cZ C M)).trans e2;have V:=(hb.cell (p:=⟨b,H+k*4+3,U⟩) (cZ C M)).trans e3;clear z e1 e2 e3;have hz:=hb.size;have hzz:b<D (L wr):=aZ;have tZ:=aY (aBb l (k+1));have DZ:∀W,aN (D (L wr)) wr W->aN (D (L w)) w W:=λW h=>hb.trans (h.mono hz)
   have DZ:=aY DZ;rcases Nat.eq_zero_or_pos k with S|S
   .have hT:Hid (mc U (l.take (k+1))=mX l[k]):=by subst S;exact aY (azj l N)
    have FJ:¬(0:Int)<(k:Int):=aZ;have PF:decide (0<k)=false:=cN;clear S;generalize l[k]=x at *;obtain⟨s,vk,vn,vs⟩:=x;simp only at d0 Y T V;go_wp2_with fail
    apply bW (Xd s _);rintro R rfl;cases hn:vQ s;exact ajf;go_wp2_with fail
    apply bW (Rt vk vn vs _);intro w2 t;have tE:=((eP _ _).alloc (bP _) _).trans (t.mono bu);have Q:=(bn.new wr 88 #[aw s,G J vk,G J vn,aw vs]).below t bu;clear t;cases hv:kK vk vn vs;exact ajg;have hch:(oG vk vn vs != 0)=false:=by simp[oG,hv]
    have O:=Q.cell 0;simp at O;go_wp2_with fail
    go_quiet (fail);have hr:Hid (mc U (l.take (k+1))=aA):=aY (by rw[hT.aX];simp[mX,hn,hv]);exact ajh
   have FJ:(0:Int)<(k:Int):=aZ;have PF:decide (0<k)=true:=cN;have PG:k-1<Z l:=aZ;have hT:Hid (mc U (l.take (k+1))=(mc U (l.take k)&&(mX l[k]&&oH l[k-1].1 l[k].1))):=by refine aY ?_;obtain⟨j,rfl⟩:∃j,k=j+1:=⟨k-1,aZ⟩;exact azk l j N
   obtain⟨z,_⟩:=HC.aX (k-1) PG;have p0:=(hb.cell (p:=⟨b,H+(k-1)*4,U⟩) (cZ C M)).trans z;clear z;generalize l[k-1].1=y at *;generalize l[k]=x at *;obtain⟨s,vk,vn,vs⟩:=x;simp only at d0 Y T V hT;go_wp2_with fail
   apply bW (Xd s _);rintro R rfl;cases hn:vQ s;exact ajf;go_wp2_with fail
   apply bW (Rt vk vn vs _);intro w2 t;have tE:=((eP _ _).alloc (bP _) _).trans (t.mono bu);have Q:=(bn.new wr 88 #[aw s,G J vk,G J vn,aw vs]).below t bu;clear t;cases hv:kK vk vn vs;exact ajg;have hch:(oG vk vn vs != 0)=false:=by simp[oG,hv]
   have O:=Q.cell 0;simp at O;have p1:=(tE.cell hzz).trans p0;have JA:J.wrap ((k:Int)-1)=(k:Int)-1:=IntWalk.i64_in _ aZ;have hp1:(1:Int)<=(k:Int):=aZ;have hp2:((k:Int)-1).toNat=k-1:=aZ;have hp3:(k:Int)-1<(Z l:Int):=aZ;cases qT:oH y s
   .have aEh:(!(Op.bytesLess y.toList s.toList))=true:=by unfold oH at qT;simp[qT]
    have HB:=aY (tZ.aX (by rw[hT.aX];simp[mX,qT]));go_wp2_with fail
    go_quiet (fail);go_wp2;rw[jE];go_ret;exact⟨IQ,DZ.aX _ (below_drewN tE _)⟩
   have aEh:(!(Op.bytesLess y.toList s.toList))=false:=by unfold oH at qT;simp[qT]
   have hr:Hid (mc U (l.take (k+1))=aA):=aY (by rw[hT.aX,hall.aX];simp[mX,hn,hv,qT]);go_wp2_with fail
   go_quiet (fail);clear JA hp2;exact ajh
  have gW:¬(k:Int)<Z l:=aZ;have X:k=Z l:=aZ;have HE:=aY (azl l aZ aZ (by have:=hall.aX;rwa [X]at this));clear X;go_wp2;try rw[jE]
  exact Sv
section
variable {l la lb:List eD}{b:List UInt8}{v va vb:aQ}{w:aP}
theorem afY(h:iI l v w):aK aR 252 #[v] w λe j=>e=ak (G J (mP l))/\aN (D (L w)) w j:=by obtain⟨A,c,rfl,t⟩:=h;exact WN A c l w _ t (bP _)
end
theorem afZ a w :aK aR 201 #[dD a] w λe j=>e=ak (ar (tV a.1))/\K w j:=by
 obtain⟨b,l,s⟩:=a;have t:=K.new w (aq #[G J b,G E l,G E s] 42);go_in;go_wp2;all_goals
  go_ret
  refine⟨?_,t⟩
  show ak (ar _)=ak (ar _)
  congr 2
  unfold tV
  simp
  try omega
def IU(x:bU):Bool:=decide (x=fS)
theorem auz x:IU x=(decide (x.bA=0)&&(decide (x.br=0)&&decide (x.life=0)&&decide (x.eY=0))&&decide (x.cl=0)&&decide (x.sub=0)&&x.f.isEmpty&&x.es.isEmpty):=by obtain⟨k,b,l,s,c,u,f,es⟩:=x;grind [IU,fS]
theorem afn x v w(h:fM x v w) :aK aR 200 #[v] w λe t=>e=ak (ar (IU x))/\K w t:=by
 obtain⟨vf,z,rfl,j,y⟩:=h;obtain⟨A,c,rfl⟩:=dX j;obtain⟨B,d,rfl⟩:=bH y;obtain⟨k,b,l,s,cl,u,f,es⟩:=x;simp only;go_in;go_wp2;all_goals
  go_ret
  refine⟨?_,(K.rf w).al _⟩
  rw[auz]
  show ak (ar _)=ak (ar _)
  simp_all [TS]
theorem ID{x}(h:dE x=az):tW x=110:=by simp[tW,h]
theorem Ns{x}(h:dE x=aA):tW x=0:=by simp[tW,h]
theorem aBo l:(mP l==0)=iM l:=by grind [mP,iM]
theorem aBp l:(pT l==0)=okF l:=by grind [pT,okF]
theorem Ky{α:Type}(p:α->Bool)(l:List α)(k:Nat)(h:k<Z l):(l.take (k+1)).all p=((l.take k).all p&&p l[k]):=aiv
theorem Rn{α:Type} p(l:List α) k(h:(l.take k).all p=az):l.all p=false:=by
 cases hl:l.all p with
 | false=>rfl
 | true => grind
theorem Nb x v w(h:fM x v w) :aK aR 199 #[v] w λe w'=>e=ak (G J (tW x))/\K w w':=by
 obtain⟨vf,Y,rfl,C,z⟩:=h;obtain⟨A,c,rfl⟩:=dX C;obtain⟨W,d,e0,z,hd⟩:=z;obtain rfl:=e0;obtain⟨k,b,l,s,cl,u,f,es⟩:=x;simp only at C z hd|-;have N:=bn.new w 128 (cB ⟨k,b,l,s,cl,u,f,es⟩ (F A (Z f) c) (F W (Z es) d));have k1:=N.cG;have hg:D (L w)<D (L (aU w (aq (cB ⟨k,b,l,s,cl,u,f,es⟩ (F A (Z f) c) (F W (Z es) d)) 128))):=bu;generalize Aj:tW ⟨k,b,l,s,cl,u,f,es⟩=ai;go_in;go_wp2_with fail
 generalize w.alloc _=R at *;generalize D (L w)=g at N hg|-;have qx:=N.cells;have V:=fO _ _ _ _ C k1;have LQ:=aaT z k1;apply eu (afZ (b,l,s) R) k1;intro w2 O dt;cases hh:tV b;have HE:Hid (ai=110):=aY (by rw[<- Aj];exact ID (by simp[dE,hh]));exact YI;by_cases hc0:cl<0;exact aji;by_cases hc1:32<=cl;exact aji;by_cases H:k=1
 .subst H;have HE:Hid (ai=if (decide (u=0)&&f.isEmpty&&decide (Z es<=8)&&es.all iM)=aA then 0 else 110):=aY (by
   rw[<- Aj];simp[tW,dE,hh,show 0<=cl by omega,show cl<32 by omega])
  go_upto_region 8 with fail;go_cut [3]from 27 to 41 (fun v wc=>v=ar (decide (u=0)&&f.isEmpty&&decide (Z es<=8))/\wc=w2)
  case first =>
   have e1:((u:Int)==0)=decide (u=0):=by by_cases h:u=0;subst h;rfl;simp[h]
   have e2:=TS f;by_cases X:u=0;rotate_left
   .go_wp2;go_meet
    case rel=>simp[X]
   subst X;by_cases t:f=[];rotate_left
   .go_wp2;go_meet
    case rel=>simp[t]
   subst t;by_cases y:Z es<=8
   .have AJ:(Z es:Int)<=8:=aZ;go_wp2;go_meet
    case rel=>simp[y]
   have AJ:¬(Z es:Int)<=8:=aZ;go_wp2;go_meet
   case rel=>simp[y]
  case rest =>
  obtain⟨rfl,rfl⟩:=hcut;have y:Hid ((decide (u=0)&&f.isEmpty&&decide (Z es<=8))=aA->Z es<=8):=aY bu;generalize (decide (u=0)&&f.isEmpty&&decide (Z es<=8))=M at *;go_wp2_with fail
  go_loopw [3,4] (fun mv iv wr=>∃(m:Bool) (j:Nat),mv=ar m/\iv=G J j/\j<=Z es/\Hid (m=(M&&(es.take j).all iM))/\K R wr) (fun _ i _=>Z es-(aO i).toNat)
  case atStart=>exact⟨M,0,rfl,rfl,aZ,aY bu,O⟩
  case round =>
   obtain⟨m,j,rfl,rfl,hj,hm,kr⟩:=hrel;cases m
   .have HB:Hid (ai=110):=aY (by
     rw[HE.aX,bQ];have hm:=hm.aX;cases M;simp;simp only[Bool.true_and]at hm;have:=Rn iM es j hm.symm;rw[this];simp)
    go_wp2;go_ret;exact⟨IQ,k1.tr kr⟩
   have h88:=y.aX (by have:=hm.aX.symm;simp only[fI]at this;exact this.1);by_cases S:j<Z es
   .have cE:(j:Int)<Z es:=aZ;obtain⟨b1,off,cs,rfl,cK,hcl,⟨Y,rfl,jH⟩,hcell⟩:=Lg LQ j S bG;have d0:wr.cell? ⟨b1,off+j,U⟩=I Y:=by have:=hcell 0 bG;rw[kr.cell (by simpa using cK)];simpa [eB]using this
    have Jj:=mq _ _ _ _ jH kr;go_wp2_with fail
    apply bW (afY Jj);intro T k3;have e3:=aBo es[j];go_wp2;go_roundw
    case rel=>exact⟨iM es[j],j+1,rfl,dh,aZ,aY (by rw[Ky iM es j S,<- Bool.and_assoc,<- hm.aX];rfl),kr.tr k3⟩
    case measure=>simp[aO];omega
   have cE:¬(j:Int)<Z es:=aZ;have HB:Hid (ai=0):=aY (by
    have hm:=hm.aX;rw[jq aZ]at hm;rw[HE.aX,bV hm.symm])
   go_wp2;go_ret;exact⟨IQ,k1.tr kr⟩
 by_cases Q:k=3
 .subst Q;have HE:Hid (ai=if (f.isEmpty&&es.isEmpty)=aA then 0 else 110):=aY (by
   rw[<- Aj];simp[tW,dE,hh,show 0<=cl by omega,show cl<32 by omega])
  cases t:f.isEmpty
  .have e2:((Z f:Int)==0)=false:=by rw[TS,t]
   have HB:Hid (ai=110):=aY (by rw[HE.aX,t];rfl);go_wp2;go_ret;exact⟨IQ,dt⟩
  obtain rfl:f=[]:=by simpa using t
  cases PH:es.isEmpty;exact ajj;obtain rfl:es=[]:=by simpa using PH
  have HB:Hid (ai=0):=aY ki;go_wp2_with fail
  apply bW (afW (fO _ _ _ _ V O));intro T k3;rw[show pT []=0 from rfl];exact YJ
 by_cases B:k=2
 .subst B;have HE:Hid (ai=if (es.isEmpty&&okF f)=aA then 0 else 110):=aY (by
   rw[<- Aj];simp[tW,dE,hh,show 0<=cl by omega,show cl<32 by omega])
  cases PH:es.isEmpty;exact ajj;obtain rfl:es=[]:=by simpa using PH
  go_wp2_with fail
  apply bW (afW (fO _ _ _ _ V O));intro T k3;have e3:=aBp f;cases hok:okF f;have HB:Hid (ai=110):=aY YK;rw[hok]at e3;exact YJ;have HB:Hid (ai=0):=aY YK;rw[hok]at e3;exact YJ
 have HE:Hid (ai=110):=aY (by
  rw[<- Aj];exact ID (by simp[dE,H,B,Q]))
 have g1:(k==1)=false:=by simpa using H
 have g2:(k==2)=false:=by simpa using B
 have g3:(k==3)=false:=by simpa using Q
 exact YI
def iG(a:bY):List UInt8:=bO (cO a.1)++(bO a.2.1++bO a.2.2)
theorem aeP l v a w(h:sl l v w)(hl:Z l<=900000000)(Y:ew a) :aK aR 205 #[v,dD a] w λe z=>∃C,e=ak C/\Own z (D (L w)) 5 C (l++iG a)/\K w z:=by
 obtain⟨A,c,rfl,hR⟩:=h;obtain⟨b,j,H⟩:=a;obtain⟨T,y,B⟩:=Y;simp only at T y B;have:=fu (cO b) (jm b);have:=fu j y;have M:=bn.new w 42 #[G J b,G E j,G E H];have k1:=M.cG;have Q:=(hR.below k1 (bP _)).more k1.size;go_in;go_wp2_with fail
 generalize w.alloc _=N at *;have:=M.cells;rw[Gw b];apply dP (zD A _ c l (cO b) (jm b) N _ Q (bP _) aZ);rintro v2 w2⟨V,t⟩;obtain⟨A2,c2,rfl,AO⟩:=(gS V);have:Z (l++bO (cO b))<=900000009:=cN;generalize hm2:Z (l++bO (cO b))=O at *;go_wp2_with fail
 apply dP (zD A2 O c2 _ j y w2 _ AO (bP _) aZ);rintro v3 S⟨jk,X⟩;replace t:=t.tr X;obtain⟨A3,c3,rfl,AK⟩:=(gS jk);have:Z (l++bO (cO b)++bO j)<=900000018:=cN;generalize AQ:Z (l++bO (cO b)++bO j)=R at *;go_wp2_with fail
 apply dP (zD A3 R c3 _ H B S _ AK (bP _) aZ);rintro v4 w4⟨iA,k4⟩;have W:=k1.tr (t.tr k4);go_wp2;go_ret;refine⟨_,rfl,wZ ?_ iA (by simp[iG]),W⟩;exact cQ k1.size t.size
theorem Ni(g:Nat)(l:List UInt8)(wr:Bool)(n:Nat)(w:aP)(h:Rd w g l wr)(hn:n<=1000000) :aK aR 133 #[aj (I ⟨g,0,U⟩),G J (n:Int)] w λe B=>e=ak (G J ((min (bJ l wr).1 n:Nat):Int))/\qL g (bJ l wr).2.1 (bJ l wr).2.2 w B:=by
 have t:=aY (vN g l wr w h);have A:=qG l wr;generalize bJ l wr=a at *;obtain⟨x,H,C⟩:=a;simp only at t A|-;by_cases M:n<x
 .have y:(n:Int)<(x:Int):=aZ;rw[show min x n=n by omega];go_in;go_wp2_with fail
  refine t.aX.mono ?_;rintro e z⟨rfl,j⟩;go_wp2;go_ret;exact⟨by first|rfl|simp <;> omega,j⟩
 have y:¬(n:Int)<(x:Int):=aZ;rw[show min x n=x by omega];go_in;go_wp2_with fail
 refine t.aX.mono ?_;rintro e z⟨rfl,j⟩;go_wp2;go_ret;exact⟨by first|rfl|simp <;> omega,j⟩
theorem bn.went{w w' g b t cs l wr}(h:bn w b t cs)(k:qL g l wr w w')(j:b≠g):bn w' b t cs:=h.grown k.2 (by simpa using j)
theorem Rd.al{w g l wr}(h:Rd w g l wr) o:Rd (aU w o) g l wr:=h.bM ((K.rf w).al o)
theorem Rd.set{w g b l wr}(h:Rd w g l wr)(hb:g<b) i u:Rd (aV w ⟨b,i,U⟩ u) g l wr:=h.below (Below.setCell (eP b w) (bP _) u) hb
def Fv:Eg bY:=λl j =>
 (((min (bJ l j).1 16:Nat),(bJ (bJ l j).2.1 (bJ l j).2.2).1,(bJ (bJ (bJ l j).2.1 (bJ l j).2.2).2.1 (bJ (bJ l j).2.1 (bJ l j).2.2).2.2).1),
  (bJ (bJ (bJ l j).2.1 (bJ l j).2.2).2.1 (bJ (bJ l j).2.1 (bJ l j).2.2).2.2).2)
theorem ae5 g l wr w(h:Rd w g l wr) :aK aR 137 #[aj (I ⟨g,0,U⟩)] w λe w'=>e=ak (dD (Fv l wr).1)/\qL g (Fv l wr).2.1 (Fv l wr).2.2 w w':=by
 have:=h.lt;have fU:=bn.new w 42 #[G J 0,G E 0,G E 0];have hm0:w.grownBy (aU w (aq #[G J 0,G E 0,G E 0] 42)) (I g):=Gu (E2 w _) _;have h0:=h.al (aq #[G J 0,G E 0,G E 0] 42);have:D (L w)<D (L (aU w (aq #[G J 0,G E 0,G E 0] 42))):=bu;have N:=λW hW=>Ni g l wr 16 W hW aZ
 unfold Fv;generalize bJ l wr=a at *;obtain⟨x,l1,gZ⟩:=a;simp only at N|-;have B:=vN g l1 gZ;generalize bJ l1 gZ=a at *;obtain⟨y,l2,wr2⟩:=a;simp only at B|-;have O:=vN g l2 wr2;generalize bJ l2 wr2=a at *;obtain⟨z,l3,FK⟩:=a;simp only at O|-;replace N:=aY N;replace B:=aY B;replace O:=aY O;go_in;go_wp2_with fail
 generalize w.alloc _=w1 at *;apply bW (N.aX w1 h0);intro V M;have dC:=fU.went M aZ;have hm2:=rm hm0 M.2;have:=M.2.size;have nA:=M.1;go_wp2_with fail
 have jX:=bn.new V 42 #[G J ((min x 16:Nat):Int),G E 0,G E 0];have gX:=dC.alloc (aq #[G J ((min x 16:Nat):Int),G E 0,G E 0] 42);have xI:=nA.al (aq #[G J ((min x 16:Nat):Int),G E 0,G E 0] 42);have AQ:=Gu hm2 (aq #[G J ((min x 16:Nat):Int),G E 0,G E 0] 42);generalize V.alloc _=w3 at *;generalize hh:D (L V)=h at *;apply bW (B.aX w3 xI);intro w4 H;have S:=jX.went H aZ;have iq:=gX.went H aZ;have Ej:=rm AQ H.2;have hn4:=H.1;have t:=S.cell 1;have:=S.frozen 1;simp at t;go_upto_region 3 with fail;have gJ:=S.cH 1 (G E y);have lG:=iq.far (p:=⟨h,1,U⟩) cN (G E y);have LR:=BN Ej (p:=⟨h,1,U⟩) cN (G E y);have hn5:=hn4.set (b:=h) aZ 1 (G E y);generalize w4.setCell _ _=w5 at *;go_wp2_with fail
 apply bW (O.aX w5 hn5);intro w6 C;have A:=gJ.went C aZ;have um:=lG.went C aZ;have FM:=rm LR C.2;have LS:=C.1;have Q:=A.cell 0;have t:=A.cell 1;have X:=A.cell 2;have:=A.frozen 2;simp at Q t X;go_upto_region 4 with fail;have R:=A.cH 2 (G E z);have j:=um.far (p:=⟨h,2,U⟩) cN (G E z);have LU:=BN FM (p:=⟨h,2,U⟩) cN (G E z);have FN:=LS.set (b:=h) aZ 2 (G E z);generalize w6.setCell _ _=w7 at *;have Q:=R.cell 0;have t:=R.cell 1;have X:=R.cell 2;simp at Q t X;have r0:=j.cell 0;have r1:=j.cell 1;have r2:=j.cell 2;have:=j.frozen 0;have:=j.frozen 1;have:=j.frozen 2;simp at r0 r1 r2;go_wp2;have T:=((j.cH 0 (G J ((min x 16:Nat):Int))).cH 1 (G E y)).cH 2 (G E z);have Y:=T.cell 0;have e1:=T.cell 1;have e2:=T.cell 2;simp at Y e1 e2;refine aM (v:=dD ((min x 16:Nat),y,z)) (by simp[results,results137,go_sem,Y,e1,e2]) rfl ?_;refine⟨rfl,?_,?_⟩;exact ((FN.set aZ _ _).set aZ _ _).set aZ _ _;exact BN (BN (BN LU bu _) bu _) bu _
theorem azO x:(tW x==0)=dE x:=by grind [tW,dE]
theorem agK x v w(h:tC x v w) :aK aR 139 #[v] w λe N=>e=ak (ar (fV x))/\K w N:=by
 obtain⟨vf,B,rfl,M,he⟩:=h;obtain⟨k,n,x,b,l,s⟩:=x;simp only at M he;have A:=bn.new w 171 (jf ⟨k,n,x,b,l,s⟩ vf B);have k1:=A.cG;have HO:Hid (fV ⟨k,n,x,b,l,s⟩=if k=1 then IU x&&zY ⟨k,n,x,b,l,s⟩else if k=2 then dE x&&zY ⟨k,n,x,b,l,s⟩else if k=3 then decide (n=0)&&dE x&&zY ⟨k,n,x,b,l,s⟩
  else if k=4\/k=5 then tV b&&decide (n=0)&&IU x else az):=aY rfl
 have T:Hid (zY ⟨k,n,x,b,l,s⟩=(decide (b=0)&&decide (l=0)&&decide (s=0))):=aY rfl;generalize fV ⟨k,n,x,b,l,s⟩=R at *;have Hi:∀W,K w W->fM x (av (cB x vf B)) W:=λW k=>⟨vf,B,rfl,fO _ _ _ _ M k,cM he k⟩
 go_in;go_upto_region 1 with fail;generalize w.alloc _=H at *;generalize D (L w)=g at A|-;have Q:=A.cells;have:=K.rf H;generalize zY ⟨k,n,x,b,l,s⟩=m at *;go_cut [0,3]from 4 to 7 (fun _ v wc=>v=ar m/\wc=H)
 case first =>
  go_wp2;all_goals
   go_meet
   case rel=>(refine⟨?_,rfl⟩;rw[T.aX];clear Q HO;simp_all)
 case rest =>
 obtain⟨rfl,rfl⟩:=hcut;by_cases z:k=1
 .subst z;rw[bV rfl]at HO;go_wp2_with fail
  apply eu (afn x _ _ (Hi _ k1)) k1;intro w2 k2 dt;cases he:IU x;exact ajk;exact ajl
 by_cases C:k=3
 .subst C;rw[bQ bG,bQ bG,bV rfl]at HO;by_cases hn:n=0;rotate_left;have y:((n:Int) != 0)=true:=by simpa using hn
  have HR:Hid (R=az):=aY ajm;exact pI;subst hn;have y:(((0:Nat):Int) != 0)=false:=bu;exact ajn
 by_cases j:k=2;subst j;rw[bQ bG,bV rfl]at HO;exact ajn;have:(k==1)=false:=by simpa using z
 have:(k==2)=false:=by simpa using j
 have:(k==3)=false:=by simpa using C
 rw[bQ z,bQ j,bQ C]at HO;have S:(k=4\/k=5)\/(¬k=4/\¬k=5):=aZ;rcases S with t|⟨h4,h5⟩
 .rw[bV t]at HO;have:(k==4||k==5)=true:=by simpa using t
  go_upto_region 6 with fail;rcases t with rfl|rfl;all_goals
   go_wp2_with fail
   apply eu (afZ (b,l,s) _) k1
   intro w2 k2 dt
   cases hh:tV b
   .have HR:Hid (R=az):=aY (by rw[HO.aX,hh];rfl);exact SF
   by_cases hn:n=0
   rotate_left
   .have y:((n:Int)==0)=false:=by simpa using hn
    have HR:Hid (R=az):=aY ajm;exact SF
   subst hn
   have y:(((0:Nat):Int)==0)=true:=bu
   have HR:Hid (R=IU x):=aY (by rw[HO.aX,hh];simp)
   go_wp2_with fail
   apply bW (afn x _ _ (Hi _ dt))
   intro V O
   replace dt:=dt.tr O
   go_wp2
   go_ret
   exact⟨jB,dt⟩
 have HR:Hid (R=az):=aY (by rw[HO.aX,bQ (by omega)]);have:(k==4)=false:=IM;have:(k==5)=false:=Ob;exact pI
theorem atE A c l w B(hR:Reads w B 4 A (Z l) (l.flatMap nu))(y:B<=D (L w))(hi:∀x∈l,dA x.2.1/\dA x.2.2.1) :aK aR 263 #[F A (Z l) c] w λe S =>∃V,e=ak (au #[V,G J (mP l)])/\Own S (D (L w)) 5 V (Fs l)/\aN (D (L w)) w S:=by
 have hch:=aY (WN A c l w B hR y);cases hok:iM l;have HE:Hid (mP l=40):=aY SG;have HR:Hid (Fs l=[]):=aY (by simp[Fs,hok]);have hne:(mP l != 0)=true:=ki;exact ajo;have HE:Hid (mP l=0):=aY SG;have HR:Hid (Fs l=lW l):=aY (by simp[Fs,hok]);have hne:(mP l != 0)=false:=ki;obtain⟨h1,lF,hL⟩:=RV hok;have JC:=aY λk=>ahE l k hok hi
 have HA:=aY (YB hL);have HI:=aY hi;have HS:=aY (axr l);have HRd:=aY hR;go_in;go_wp2_with fail
 apply bW hch.aX;intro w1 cK;go_wp2_with fail
 apply dP (zD U 0 0 [] (Z l) aZ w1 0 (Reads.nil _ _ _ _) aZ aZ);rintro v2 w2⟨gV,hb2⟩;have Jd:=cK.trans (hb2.mono cK.size);rw[bZ]at gV;have ho:=wZ cK.size gV rfl;go_wp2_with fail
 go_loopw [5,19] (fun o i wr=>∃k:Nat,k<=Z l/\i=G J k/\Own wr (D (L w)) 5 o (bO (Z l)++(l.take k).flatMap mQ)/\aN (D (L w)) w wr) (fun _ i _=>Z l-(aO i).toNat)
 case atStart=>exact⟨0,aZ,rfl,by simpa using ho,Jd⟩
 case round =>
  obtain⟨k,hk,rfl,hok,t⟩:=hrel;by_cases z:k<Z l
  .have gW:(k:Int)<Z l:=aZ;obtain⟨b,H,rfl,C,hcell⟩:=HRd.aX.Je aZ;obtain⟨e0,e1,e2,e3⟩:=hcell k z;have d0:=(t.cell (p:=⟨b,H+k*4,U⟩) (cZ C y)).trans e0;have d1:=(t.cell (p:=⟨b,H+k*4+1,U⟩) (cZ C y)).trans e1;have d2:=(t.cell (p:=⟨b,H+k*4+2,U⟩) (cZ C y)).trans e2;have d3:=(t.cell (p:=⟨b,H+k*4+3,U⟩) (cZ C y)).trans e3;have hz:=t.size;have hsz:=Xx (HA.aX _ (dJ z));have Q:=(HI.aX _ (dJ z)).2;have Y:=aY (HS.aX k z);have hlk:=JC.aX k;generalize l[k]=x at *;obtain⟨s,j,vn,vs⟩:=x;simp only at d0 d1 d2 d3 hsz Q Y;obtain⟨abh,aKh⟩:=hsz;generalize (l.take k).flatMap mQ=T at *;obtain⟨A1,c1,rfl,X⟩:=hok.slice;have:=hlk;generalize pg:Z (bO (Z l)++T)=m1 at X hlk|-;have:=λW=>run_bytes_of_string (P:=aR) W 9 118 5 s underlying9 underlying118 underlying5
   go_wp2_with fail
   have gI:=bn.new wr 88 #[aw s,G J j,G J vn,aw vs];have tE:aN (D (L wr)) wr ((aU wr (aq #[aw s,G J j,G J vn,aw vs] 88)).alloc (aq (bytesRow s (grownCap (aU wr (aq #[aw s,G J j,G J vn,aw vs] 88)) s.size 0 5)) 5 ((bytesRow s (grownCap (aU wr (aq #[aw s,G J j,G J vn,aw vs] 88)) s.size 0 5)).size,(bytesRow s (grownCap (aU wr (aq #[aw s,G J j,G J vn,aw vs] 88)) s.size 0 5)).size+1))).drew:=(((eP _ _).alloc (bP _) _).alloc bu _).drew;have AO:=(X.below tE (bP _)).more (B':=D (L wr)+1+1) aZ;apply dP (Rs A1 _ m1 c1 s.size _ _ (gE s) _ (D (L wr)+1+1) AO (Reads.anL _ s _ _ _ (D (L wr)+1) bu) bu aZ aZ);rintro v3 M⟨R,dB⟩;have N:=((gI.alloc (aq (bytesRow s (grownCap (aU wr (aq #[aw s,G J j,G J vn,aw vs] 88)) s.size 0 5)) 5 ((bytesRow s (grownCap (aU wr (aq #[aw s,G J j,G J vn,aw vs] 88)) s.size 0 5)).size,(bytesRow s (grownCap (aU wr (aq #[aw s,G J j,G J vn,aw vs] 88)) s.size 0 5)).size+1))).drew).below dB cN;have O:=tE.trans (dB.mono cN);have q1:=N.cell 1;have q2:=N.cell 2;have q3:=N.cell 3;simp at q1 q2 q3;have R:Own M (D (L wr)) 5 v3 (bO (Z l)++T++(bO s.size++gE s)):=wZ cN R bu;obtain⟨A3,c3,rfl,AK⟩:=R.slice;have:=fu s.size aZ;have:s.data.size<=16:=abh;have:Z (bO (Z l)++T++(bO s.size++gE s))<=3000:=by grind
   generalize Z (bO (Z l)++T++(bO s.size++gE s))=m3 at *;go_wp2_with fail
   apply dP (afl A3 m3 c3 _ j vn vs M (D (L M)) AK (bP _) aZ aZ Q.1 Q.2);rintro v4 w4⟨iA,hb4⟩;have PC:=(t.trans (O.mono hz)).trans (hb4.mono (cQ hz O.size));have iA:=wZ (cQ hz O.size) iA rfl;rw[<- Y.aX]at iA;exact ajp
  have gW:¬(k:Int)<Z l:=aZ;have ho:Own wr (D (L w)) 5 u5 (Fs l):=by rw[HR.aX];unfold lW;grind
  go_wp2;go_ret2;simp_all
section
variable {l la lb:List eD}{b:List UInt8}{v va vb:aQ}{w:aP}
theorem avY(h:iI l v w)(z:∀x∈l,dA x.2.1/\dA x.2.2.1):aK aR 263 #[v] w λe j =>∃t,e=ak (au #[t,G J (mP l)])/\Own j (D (L w)) 5 t (Fs l)/\aN (D (L w)) w j:=by obtain⟨A,c,rfl,y⟩:=h;exact atE A c l w _ y (bP _) z
end
theorem axD{k n s}(t:-9223372036854775808<=n)(j:n<=9223372036854775807)(A:s.size<=40):Z (qJ k n s)<=67:=by have j:=fu (cO k) (jm _);have:=fu (yB k n) (NS _ _ t aZ);have:=fu s.size aZ;simp[qJ];omega
def I5(t:fo):List UInt8:=if t.2.1==8 then []else qJ t.2.2.1 t.2.2.2.1 t.2.2.2.2
theorem anM{t}(h:jh t=aA):t.2.2.2.2.size<=40:=by obtain⟨_,_,_,j,y⟩:=IB h;by_cases e:t.2.1=8;have:=j e;rw[this];decide;grind [KQ]
theorem agL{t}(h:jh t=aA)(j:jN t):Z (I5 t)<=67:=by have y:=anM h;unfold I5;split;simp;exact axD j.2.2.1 j.2.2.2 y
theorem aBq{t}(h:jh t=aA)(j:jN t):Z (mz t)<=101:=by obtain⟨z,_,_,_,_⟩:=IB h;have y:=agL h j;have:=fu t.1.size aZ;have:=fu (cO t.2.1) (jm _);have:t.1.data.size<=16:=z;unfold mz;unfold I5 at y;grind
theorem axE(l:List fo)(hk:∀x∈l,Z (mz x)<=101):Z (l.flatMap mz)<=101*Z l:=by
 induction l with
 | nil=>simp
 | cons y l j => grind
theorem axF l k(j:okF l=aA)(t:∀x∈l,jN x):Z (bO (Z l)++(l.take k).flatMap mz)<=1000:=by grind [Gv,fu,axE,aBq,oW,fg]
theorem avZ(l:List fo)(k:Nat)(h:k<Z l):bO (Z l)++(l.take (k+1)).flatMap mz=bO (Z l)++(l.take k).flatMap mz++(bO l[k].1.size++gE l[k].1)++bO (cO l[k].2.1)++I5 l[k]:=by rw[iY h,List.flatMap_append,yp,List.flatMap_nil,List.append_nil];simp only[mz,I5,gA]
theorem as2 A c l w B(hR:Reads w B 5 A (Z l) (l.flatMap je))(y:B<=D (L w))(hi:∀x∈l,jN x) :aK aR 264 #[F A (Z l) c] w λe w' =>∃v',e=ak (au #[v',G J (pT l)])/\Own w' (D (L w)) 5 v' (Fm l)/\aN (D (L w)) w w':=by
 have hch:=aY (WM A c l w B hR y);cases hok:okF l;have HE:Hid (pT l=50):=aY Sy;have HR:Hid (Fm l=[]):=aY (by simp[Fm,hok]);have hne:(pT l != 0)=true:=ki;exact ajo;have HE:Hid (pT l=0):=aY Sy;have HR:Hid (Fm l=lK l):=aY (by simp[Fm,hok]);have hne:(pT l != 0)=false:=ki;obtain⟨h8,hL⟩:=Gv hok;have JC:=aY λk=>axF l k hok hi
 have HA:=aY hL;have HI:=aY hi;have HS:=aY (avZ l);have HRd:=aY hR;go_in;go_wp2_with fail
 apply bW hch.aX;intro w1 cK;go_wp2_with fail
 apply dP (zD U 0 0 [] (Z l) aZ w1 0 (Reads.nil _ _ _ _) aZ aZ);rintro v2 w2⟨gV,hb2⟩;have Jd:=cK.trans (hb2.mono cK.size);rw[bZ]at gV;have ho:=wZ cK.size gV rfl;go_wp2_with fail
 go_loopw [5,19] (fun o i wr=>∃k:Nat,k<=Z l/\i=G J k/\Own wr (D (L w)) 5 o (bO (Z l)++(l.take k).flatMap mz)/\aN (D (L w)) w wr) (fun _ i _=>Z l-(aO i).toNat)
 case atStart=>exact⟨0,aZ,rfl,by simpa using ho,Jd⟩
 case round =>
  obtain⟨k,hk,rfl,hok,t⟩:=hrel;by_cases H:k<Z l
  .have gW:(k:Int)<Z l:=aZ;obtain⟨b,M,rfl,C,hcell⟩:=HRd.aX.Lq aZ;obtain⟨e0,e1,e2,e3,e4⟩:=hcell k H;have d0:=(t.cell (p:=⟨b,M+k*5,U⟩) (cZ C y)).trans e0;have d1:=(t.cell (p:=⟨b,M+k*5+1,U⟩) (cZ C y)).trans e1;have d2:=(t.cell (p:=⟨b,M+k*5+2,U⟩) (cZ C y)).trans e2;have d3:=(t.cell (p:=⟨b,M+k*5+3,U⟩) (cZ C y)).trans e3;have d4:=(t.cell (p:=⟨b,M+k*5+4,U⟩) (cZ C y)).trans e4;have hz:=t.size;have Y:=HA.aX _ (dJ H);have hpt:=IB Y;have aEi:=anM Y;have S:=(HI.aX _ (dJ H)).2;have:=aY (agL Y (HI.aX _ (dJ H)));have X:=aY (HS.aX k H);have hlk:=JC.aX k;generalize l[k]=x at *;obtain⟨s,op,j,vn,vs⟩:=x;simp only at d0 d1 d2 d3 d4 hpt aEi S X;obtain⟨abh,mG,ho8,-,-⟩:=hpt;generalize (l.take k).flatMap mz=T at *;obtain⟨A1,c1,rfl,mZ⟩:=hok.slice;have:=hlk;generalize pg:Z (bO (Z l)++T)=m1 at mZ hlk|-;have:=λW=>run_bytes_of_string (P:=aR) W 9 118 5 s underlying9 underlying118 underlying5
   go_wp2_with fail
   have gI:=bn.new wr 85 #[aw s,G J op,G J j,G J vn,aw vs];have tE:aN (D (L wr)) wr ((aU wr (aq #[aw s,G J op,G J j,G J vn,aw vs] 85)).alloc (aq (bytesRow s (grownCap (aU wr (aq #[aw s,G J op,G J j,G J vn,aw vs] 85)) s.size 0 5)) 5 ((bytesRow s (grownCap (aU wr (aq #[aw s,G J op,G J j,G J vn,aw vs] 85)) s.size 0 5)).size,(bytesRow s (grownCap (aU wr (aq #[aw s,G J op,G J j,G J vn,aw vs] 85)) s.size 0 5)).size+1))).drew:=(((eP _ _).alloc (bP _) _).alloc bu _).drew;have AO:=(mZ.below tE (bP _)).more (B':=D (L wr)+1+1) aZ;apply dP (Rs A1 _ m1 c1 s.size _ _ (gE s) _ (D (L wr)+1+1) AO (Reads.anL _ s _ _ _ (D (L wr)+1) bu) bu aZ aZ);rintro v3 Q⟨jk,dB⟩;have N:=((gI.alloc (aq (bytesRow s (grownCap (aU wr (aq #[aw s,G J op,G J j,G J vn,aw vs] 85)) s.size 0 5)) 5 ((bytesRow s (grownCap (aU wr (aq #[aw s,G J op,G J j,G J vn,aw vs] 85)) s.size 0 5)).size,(bytesRow s (grownCap (aU wr (aq #[aw s,G J op,G J j,G J vn,aw vs] 85)) s.size 0 5)).size+1))).drew).below dB cN;have R:=tE.trans (dB.mono cN);have hgt:D (L wr)<D (L Q):=cZ cN dB.size;have q1:=N.cell 1;have q2:=N.cell 2;have q3:=N.cell 3;have q4:=N.cell 4;simp at q1 q2 q3 q4;have jk:Own Q (D (L wr)) 5 v3 (bO (Z l)++T++(bO s.size++gE s)):=wZ cN jk bu;obtain⟨A3,c3,rfl,AK⟩:=jk.slice;have:=fu s.size aZ;have:s.data.size<=16:=abh;have AQ:Z (bO (Z l)++T++(bO s.size++gE s))<=1100:=by grind
   have Ej:Z (bO (Z l)++T++(bO s.size++gE s)++bO (cO op))<=1200:=by have:=fu (cO op) (jm op);simp only[fg]at AQ|-;omega
   generalize Z (bO (Z l)++T++(bO s.size++gE s))=m3 at AK AQ|-;go_wp2_with fail
   have hN:=zD A3 m3 c3 _ (cO op) (jm op) Q (D (L Q)) AK (bP _) aZ;rw[show ((cO op:Nat):Int)=op by unfold cO;omega]at hN;apply dP hN;rintro v4 V⟨iA,hb4⟩;have O:=N.below hb4 hgt;have r1:=O.cell 1;have r2:=O.cell 2;have r3:=O.cell 3;have r4:=O.cell 4;simp at r1 r2 r3 r4;have PC:=(t.trans (R.mono hz)).trans (hb4.mono (cQ hz R.size));have lr:=PC.size;have iA:=wZ (cQ hz R.size) iA rfl;by_cases hop:op=8;subst hop;have iA:Own V (D (L w)) 5 v4 (bO (Z l)++(l.take (k+1)).flatMap mz):=by rw[X.aX];simpa [I5]using iA
   exact ajp;obtain⟨A4,c4,rfl,hR4⟩:=iA.slice;generalize Z (bO (Z l)++T++(bO s.size++gE s)++bO (cO op))=m4 at hR4 Ej|-;go_wp2_with fail
   apply dP (afl A4 m4 c4 _ j vn vs V (D (L V)) hR4 (bP _) aZ aZ S.2.1 S.2.2);rintro v5 w5⟨z,iU⟩;have aEj:=PC.trans (iU.mono lr);have z:=wZ lr z rfl;have z:Own w5 (D (L w)) 5 v5 (bO (Z l)++(l.take (k+1)).flatMap mz):=by rw[X.aX];simpa [I5,hop]using z
   go_wp2;go_roundw
   case rel=>exact⟨k+1,aZ,dh,z,aEj⟩
   case measure=>simp[aO];omega
  have gW:¬(k:Int)<Z l:=aZ;have ho:Own wr (D (L w)) 5 u5 (Fm l):=by rw[HR.aX];unfold lK;grind
  go_wp2;go_ret2;simp_all
theorem auA{l v w}(h:fZ l v w)(z:∀x∈l,jN x):aK aR 264 #[v] w λe j =>∃t,e=ak (au #[t,G J (pT l)])/\Own j (D (L w)) 5 t (Fm l)/\aN (D (L w)) w j:=by obtain⟨A,c,rfl,y⟩:=h;exact as2 A c l w _ y (bP _) z
section
variable {P:Program}{Q:Exit->Act->aP->Prop}
def bB(P:Program)(z:Act)(R:aP->Prop)(S:aP->aP->Prop)(y:List Nat)(A:List Oper->List (List Nat×List (Nat×Nat))->List (aQ->aP->Prop)->Prop):Nat->List Oper->List (List Nat×List (Nat×Nat))->List (aQ->aP->Prop)->Prop
 | 0,r,xs,t=>A r xs t
 | _+1,[],_,_=>False
 | _+1,_ :: _,[],_=>False
 | m + 1,o :: r,x :: xs,t=>(y.contains (Z t)=aA/\∃ψ:aQ->Prop,bB P z R S y A m r xs (t++[λv _=>ψ v]))\/(y.contains (Z t)=az/\∃φ:aQ->aP->Prop,(∀v w B,φ v w->S w B->φ v B) /\
  (∀(V:Nat->aQ) (w:aP),R w->(∀j∈x.1,tab t j (V j) w)->if dI V o.guard=aA then fk P φ w ((aL (bR x.2 z V) (bT o.op o.type)).run P w)else φ undef w) /\
  bB P z R S y A m r xs (t++[φ]))
def Ls(P:Program)(B:Act)(ops:Array Oper)(C:List (List Nat×List (Nat×Nat)))(R:aP->Prop)(S:aP->aP->Prop)(z:List Nat)(A:Nat->List aQ->aP->Prop)(t:List (aQ->aP->Prop)):Nat->List Nat->Prop
 | _,[]=>True
 | k,i :: r=>(∃o x,ops[i]?=I o/\C[i]?=I x/\o.guard=U/\∀(V:Nat->aQ) (W:aP),R W->A k (z.map V) W->(∀j∈x.1,tab t j (V j) W) ->
  lZ P (λv y=>R y/\S W y/\A (k+1) ((z.map V).set k v) y/\tab t i v y) ((aL (bR x.2 B V) (bT o.op o.type)).run P W))/\Ls P B ops C R S z A t (k+1) r
theorem Ls.at{B ops C R S z A t} :
 ∀(l:List Nat) (k:Nat),Ls P B ops C R S z A t k l->∀(j i:Nat),l[j]?=I i->∃o x,ops[i]?=I o/\C[i]?=I x/\o.guard=U/\∀(V:Nat->aQ) (W:aP),R W->A (k+j) (z.map V) W->(∀j∈x.1,tab t j (V j) W) ->
  lZ P (λv y=>R y/\S W y/\A (k+j+1) ((z.map V).set (k+j) v) y/\tab t i v y) ((aL (bR x.2 B V) (bT o.op o.type)).run P W)
 | [],_,_,j,i,h=>zH
 | _ :: r,k,h,0,i,e=>by simp at e;subst e;exact h.1
 | _ :: r,k,h,j+1,i,e=>by have:=Ls.at r (k+1) h.2 j i Oc;rwa [show k+1+j=k+(j+1) by omega]at this
def Ca(y:List (List Nat×List (Nat×Nat)))(t:List Nat)(m:Nat):Bool :=
 t.all (λi=>decide (i<m))&&(List.range (Z t)).all λk=>(List.range k).all λj=>td y (t.getD j 0) (Z y) (t.getD k 0)
theorem axG{ops:Array Oper}{H R S B O} :∀(m:Nat) (l:List Oper) (z:List (List Nat×List (Nat×Nat))) (t:List (aQ->aP->Prop)),bB P H R S B O m l z t->(m<=Z l)->(∀i o x,ops[Z t+i]?=I o->l[i]?=I o->z[i]?=I x->∀j∈x.1,j<Z t+i)->(∀i o,l[i]?=I o->ops[Z t+i]?=I o) ->(∀φ∈t,∀v w y,φ v w->S w y->φ v y) ->∃s,O (l.drop m) (z.drop m) (t++s)/\Z s=m/\(∀φ∈t++s,∀v w y,φ v w->S w y->φ v y)/\∀i o x,i<m->l[i]?=I o->z[i]?=I x->B.contains (Z t+i)=az->anK P H R (tab (t++s)) (Z t+i) o.op o.type o.guard x.1 x.2:=by
 intro m;induction m with
 | zero => intro l z t h _ _ _ M;exact⟨[],by grind [bB],rfl,by simpa using M,λi o x hi=>aZ⟩
 | succ m ih =>
  intro l z t h yL Y aof M;cases l with
  | nil=>exact False.elim h
  | cons o r =>
  cases z with
  | nil=>exact False.elim h
  | cons x W =>
   obtain⟨φ,st,hr,Hd⟩:∃φ:aQ->aP->Prop,(∀v w y,φ v w->S w y->φ v y)/\bB P H R S B O m r W (t++[φ]) /\(B.contains (Z t)=aA\/(B.contains (Z t)=az/\∀(V:Nat->aQ) (w:aP),R w->(∀j∈x.1,tab t j (V j) w)->if dI V o.guard=aA then fk P φ w ((aL (bR x.2 H V) (bT o.op o.type)).run P w)else φ undef w)):=by
    rcases h with ⟨h1,ψ,h2⟩|⟨h1,φ,h2,h3,h4⟩
    .grind
    grind
   have e:Z (t++[φ])=Z t+1:=bu;obtain⟨s,T,hs,X,Q⟩:=ih r W (t++[φ]) hr (by simpa using yL)
    (λi C N h1 h2 h3 j A=>by
     rw[e]at h1|-;have:=Y (i+1) C N (by rwa [show Z t+(i+1)=Z t+1+i by omega]) BR K1 j A;omega)
    (λi C h1=>by
     rw[e,show Z t+1+i=Z t+(i+1) by omega];exact aof (i+1) C E4)
    (fun ψ hψ=>by
     rcases List.mem_append.1 hψ with h1|h1;exact M ψ h1;simp at h1;subst h1;exact st)
   have aDy:tab (t++φ :: s) (Z t)=φ:=by unfold tab;funext v w;simp[List.getD_eq_getElem?_getD]
   have aEk:∀j,j<Z t->tab (t++φ :: s) j=tab t j:=by intro j A;unfold tab;funext v w;simp only[List.getD_eq_getElem?_getD];rw[List.getElem?_append_left A]
   have e1:t++[φ]++s=t++φ :: s:=bu;rw[e1]at T X Q;refine⟨φ :: s,T,by simp[hs],X,?_⟩;intro i C N hi h1 h2 hc;cases i with
   | zero => simp at h1 h2;subst h1 h2;intro V w hk hp;rw[Nat.add_zero,aDy];rcases Hd with h|⟨_,ho⟩;rw[Nat.add_zero,h]at hc;cases hc;exact ho V w hk λj A=>by have hlt:=Y 0 o x (aof 0 o bu) bu bu j A;have:=hp j A;rwa [aEk j aZ]at this
   | succ i => have:=Q i C N aZ E4 BR (by rwa [e,show Z t+1+i=Z t+(i+1) by omega]);rwa [e,show Z t+1+i=Z t+(i+1) by omega]at this
theorem azP{ops C t m}(X:tR ops C=aA)(V:Ca C t m=aA)(Ek:t.Nodup){z}(N:Closed ops z){k i o}(W:t[k]?=I i)(ho:ops[i]?=I o)(T:z i=az)(hal:∀j∈ahead o,z j=aA) :Z (t.filter z)=k/\Z (t.filter (upd z i))=k+1:=by
 have hk:=(aF.1 W).1;have B:t[k]=i:=(aF.1 W).2;simp only[Ca,fI]at V;have Y:∀a b (y:a<b) (S:b<Z t),td C (t[a]'aZ) (Z C) t[b]=true:=λa b y S=>by have h1:=List.all_eq_true.1 (List.all_eq_true.1 V.2 b (List.mem_range.2 S)) a (List.mem_range.2 y);grind
 have aKi:Closed ops (upd z i):=by
  refine⟨λj o' rJ A a y=>?_,λj A=>?_⟩;unfold upd;split;rfl;rcases BL A with rfl|A
  .grind
  exact N.1 j o' rJ A a y;rcases BL A with rfl|A
  .grind
  exact N.2 j A
 have Q:∀a (y:a<k),z (t[a]'aZ)=true:=λa y=>by grind [KM,upd,BL,List.getElem_inj]
 have O:∀a (y:a<Z t),k<a->z t[a]=false:=λa y hka=>by
  cases h:z t[a]with
  | false=>rfl
  | true => have:=KM X N _ _ (Y k a hka y) h;rw[B,T]at this;cases this
 have key:∀(M:Nat->Bool) (q:Nat),(∀a (y:a<Z t),M t[a]=decide (a<q))->q<=Z t->Z (t.filter M)=q:=by
  intro M q R hq;have e:t.filter M=t.take q:=by
   conv=>lhs;rw[<- List.take_append_drop q t]
   rw[List.filter_append,List.filter_eq_self.2 (λx H=>by
    obtain⟨a,y,e⟩:=List.mem_take_iff_getElem.1 H;rw[<- e,R a aZ];simp;omega),List.filter_eq_nil_iff.2 (λx H=>by
     obtain⟨a,y,e⟩:=List.mem_drop_iff_getElem.1 H;rw[<- e,R];simp),List.append_nil]
  rw[e,sc];omega
 refine⟨key z k (λa y=>?_) aZ,key (upd z i) (k+1) (λa y=>?_) aZ⟩;rcases Nat.lt_trichotomy a k with h|h|h;rw[Q a h];simp[h];subst h;rw[B,T];simp;rw[O a y h];simp;omega;unfold upd;rcases Nat.lt_trichotomy a k with h|h|h;rw[Q a h];simp;omega;subst h;rw[bV B];simp;rw[bQ (λe=>by rw[<- B]at e;have:=(List.getElem_inj Ek).1 e;omega),O a y h];simp;omega
theorem azQ{V i v}{t:List Nat}(h:i∉t):t.map (cP V i v)=t.map V:=List.map_congr_left λj y=>by unfold cP;rw[bQ (by rintro rfl;exact h y)]
theorem azR{V k i v}{j:List Nat}(A:j.Nodup)(y:j[k]?=I i):j.map (cP V i v)=(j.map V).set k v:=by
 obtain⟨z,C⟩:=aF.1 y;refine List.ext_getElem bu λa t B=>?_
 simp only[List.length_map]at t;rw[List.getElem_map,List.getElem_set,List.getElem_map];unfold cP;grind [List.getElem_inj]
def Em:aQ->Option Nat
 | .map m=>m
 | v=>aW v
def anr(P:Program)(z:Act)(ops:Array Oper)(A:List (List Nat×List (Nat×Nat)))(R:aP->Prop)(t:List (aQ->aP->Prop))(ds:List Nat):Prop :=
 ∀k∈ds,∃o x,ops[k]?=I o/\A[k]?=I x/\o.guard=U/\∀(V:Nat->aQ) (W:aP),R W->(∀j∈x.1,tab t j (V j) W)->∃v y,(aL (bR x.2 z V) (bT o.op o.type)).run P W=.ok (.value v) y/\∀b,Em v=I b->D (L W)<=b/\b<D (L y)
def aaU(ds:List Nat)(t:Nat->Bool)(V:Nat->aQ):Prop:=∀i∈ds,∀j∈ds,i≠j->t i=aA->t j=aA->∀b,Em (V i)=I b->Em (V j)≠I b
def TI(ds:List Nat)(j:Nat->Bool)(V:Nat->aQ)(W:aP):Prop:=(∀i∈ds,j i=aA->∀b,Em (V i)=I b->b<D (L W))/\aaU ds j V
theorem TI.next{ds H V W W' k v}(h:TI ds H V W)(T:∀i∈ds,D (L W)<=D (L W'))(Q:k∈ds->∀b,Em v=I b->D (L W)<=b/\b<D (L W')):TI ds (upd H k) (cP V k v) W':=by
 have key:∀i∈ds,upd H k i=aA->∀b,Em (cP V k v i)=I b->b<D (L W')/\(i=k->D (L W)<=b)/\(i≠k->b<D (L W)):=λi y t b z=>by
  unfold cP at z;by_cases A:i=k
  .grind
  rw[bQ A]at z;have:=h.1 i y ((BL t).resolve_left A) b z;grind
 refine⟨λi y t b z=>(key i y t b z).1,λi y j M P t N b C B=>?_⟩;have:=key i y t b C;have:=key j M N b B;by_cases A:i=k;omega;by_cases O:j=k;omega;unfold cP at C B;rw[bQ A]at C;rw[bQ O]at B;exact h.2 i y j M P ((BL t).resolve_left A) ((BL N).resolve_left O) b C B
def aEl(P:Program)(y:Act)(ops:Array Oper)(z:List (List Nat×List (Nat×Nat)))(R:aP->Prop)(t:List (aQ->aP->Prop))(A:List (Nat×Nat×(aQ->aQ))):Prop :=
 ∀q∈A,∃o x,ops[q.1]?=I o/\z[q.1]?=I x/\o.guard=U/\q.2.1∈x.1/\∀(V:Nat->aQ) (W:aP),R W->(∀j∈x.1,tab t j (V j) W)->∃B,(aL (bR x.2 y V) (bT o.op o.type)).run P W=.ok (.value (q.2.2 (V q.2.1))) B
def UK(t:List (Nat×Nat×(aQ->aQ)))(j:Nat->Bool)(V:Nat->aQ):Prop:=∀q∈t,j q.1=aA->j q.2.1=aA/\V q.1=q.2.2 (V q.2.1)
theorem UK.next{A t V k v}(h:UK A t V)(hk:t k=az)(C:∀q∈A,q.1=k->t q.2.1=aA/\v=q.2.2 (V q.2.1)):UK A (upd t k) (cP V k v):=λq B H=>by
 have key:t q.2.1=aA->upd t k q.2.1=aA/\cP V k v q.2.1=V q.2.1:=λj=>by
  have:q.2.1≠k:=λe=>by rw[e,hk]at j;cases j
  unfold upd cP;rw[bQ this,bQ this];exact⟨j,rfl⟩
 by_cases y:q.1=k;obtain⟨j,z⟩:=C q B y;rw[(key j).2,y];exact⟨(key j).1,by unfold cP;rw[bV rfl];exact z⟩;obtain⟨j,z⟩:=h q B ((BL H).resolve_left y);rw[(key j).2];exact⟨(key j).1,by unfold cP;rw[bQ y];exact z⟩
theorem Rh{id:Nat}{ops:Array Oper}{B:Act}{w:aP}(m:Nat)(C:List Nat)(R:aP->Prop)(S:aP->aP->Prop)(aS:Nat->List aQ->aP->Prop)(M:List (List Nat×List (Nat×Nat)))(n:Nat)(ds:List Nat)(fs:List (Nat×Nat×(aQ->aQ)))
 (hR:∀W W',R W->aN (D (L W)) W W'->R W') (hS:∀W W',aN (D (L W)) W W'->S W W') (hD:∀k vs W W',aS k vs W->aN (D (L W)) W W'->aS k vs W') (r0:R w) (d0:∀vs,aS 0 vs w)
 (h:bB P B R S C (λr xs t=>Ls P B ops M R S C aS t 0 C/\anr P B ops M R t ds/\aEl P B ops M R t fs/\∀(V:Nat->aQ) (W:aP),R W->aS (Z C) (C.map V) W->aaU ds (λ_=>aA) V->(∀q∈fs,V q.1=q.2.2 (V q.2.1))->dF V W 0 t->bN P B (λV W=>Q .normal (iO V ops.toList 0 B) W) m r xs V W) m ops.toList M [])
 (hn:B.tmps.size=n:=by rfl) (hm:P.follows .mixedOrders=true:=by kernel_rfl) (hok:rV ops n=true:=by kernel_rfl) (hpl:tR ops M=true:=by kernel_rfl) (gT:Ff M m ops.size=true:=by kernel_rfl) (yS:Ca M C m=true:=by kernel_rfl) (Ek:C.Nodup:=by decide) (nB:m<=ops.size:=by decide) (hsz:∀i∈ds,∀W W',S W W'->D (L W)<=D (L W'):=by simp) (FO:ds.all (λk=>decide (k<m)&&!C.contains k)=true:=by decide) (PI:(fs.map (·.1)).all (λk=>decide (k<m)&&!C.contains k)=true:=by decide) :
 (Code.region id ops aA).wp P Q B w:=by
 have FO:=λk X=>by simpa using List.all_eq_true.1 FO k X
 have PI:∀q∈fs,q.1<m/\q.1∉C:=λq hq=>by simpa using List.all_eq_true.1 PI _ (List.mem_map_of_mem hq)
 have htF:TV [] M m ops.size=true:=by
  simp only[TV,List.all_nil,Bool.true_and];refine List.all_eq_true.2 λk X=>?_
  have h1:=List.all_eq_true.1 gT k X;simp only[Bool.or_eq_true,decide_eq_true_eq]at h1|-;refine h1.imp (λh=>h) λh2=>List.all_eq_true.2 λj hj=>?_
  have N:=List.all_eq_true.1 h2 j hj;simp only[List.contains_nil,Bool.false_or];exact N
 have htm:=λi O=>by simp only[Ca,fI]at yS;simpa using List.all_eq_true.1 yS.1 i O
 have Pb:∀(i:Nat) (o:Oper),ops[i]?=I o->∃x:List Nat×List (Nat×Nat),M[i]?=I x/\∀j∈x.1,j∈ahead o:=by
  intro i o H;have N:=List.all_eq_true.1 hpl (o,i) (List.mem_zipIdx_iff_getElem?.2 (by rw[aD];exact H));cases hx:M[i]? with
  | none=>simp only[hx]at N;cases N
  | some x => simp only[hx,fI]at N;exact⟨x,rfl,λj hj=>by simpa using List.all_eq_true.1 N.1.1 j hj⟩
 obtain⟨s,⟨UM,hFr,hFu,hF⟩,hs,hst,hq⟩:=axG (ops:=ops) m ops.toList M [] h (by simpa using nB)
  (λi o x h1 h2 N j hj=>by
   simp only[List.length_nil,mr]at h1|-;obtain⟨y,hy,hyj⟩:=Pb i o h1;rw[hy]at N;injection N with N;subst N;have:=hyj j hj;have h5:=List.all_eq_true.1 hok (o,i) (List.mem_zipIdx_iff_getElem?.2 (by rw[aD];exact h1));simp only[fI]at h5;have h6:=List.all_eq_true.1 h5.1.1.1.1 j this;simpa using h6)
  (λi o h1=>by
   simp only[List.length_nil,mr];rw[<- aD];exact h1)
  bu
 simp only[bZ,List.length_nil,mr]at hF hst hq UM hFr hFu
 have ja:=hs
 let T:Nat->(Nat->aQ)->aP->Prop:=λi V W=>bN P B (λV W=>Q .normal (iO V ops.toList 0 B) W) i (ops.toList.drop i) (M.drop i) V W
 have hT:∀i o x,ops[i]?=I o->M[i]?=I x->∀V W,T i V W=(if dI V o.guard=aA then lZ P (λv z=>T (i+1) (cP V i v) z) ((aL (bR x.2 B V) (bT o.op o.type)).run P W)else T (i+1) (cP V i undef) W):=by
  intro i o x H hx V W;have hlt:i<Z ops.toList:=by simpa using (aG.1 H).1
  have hlx:=(aF.1 hx).1;have e1:ops.toList.drop i=o :: ops.toList.drop (i+1):=by
   rw[<- List.getElem_cons_drop hlt];congr 1;have:ops.toList[i]?=I o:=by rw[aD];exact H
   exact (aF.1 this).2
  have e2:M.drop i=x :: M.drop (i+1):=by rw[<- List.getElem_cons_drop hlx];congr 1;exact (aF.1 hx).2
  show bN P B _ i _ _ V W=_;rw[e1,e2];rfl
 let ah:(Nat->Bool)->(Nat->aQ)->aP->Prop:=λA V W =>
  ((∀i,m<=i->i<ops.size->A i=az)->R W/\(∀j,A j=aA->tab s j (V j) W)/\aS (Z (C.filter A)) (C.map V) W/\TI ds A V W/\UK fs A V) /\
  (∀k,m<k->k<=ops.size->(∀j,j<k->A j=aA)->(∀j,k<=j->j<ops.size->A j=az)->T k V W)
 have UN:aN (D (L w)) w w.drew:=Below.drew (eP _ _)
 refine WE ah n hn hm hok ⟨λ_=>⟨hR _ _ r0 UN,(λ_ hj=>SH),by rw[List.filter_eq_nil_iff.2 (by simp)];exact hD _ _ _ _ (d0 _) UN,⟨λ_ _ h=>kP,λ_ _ _ _ _ h=>kP⟩,λ_ _ h=>kP⟩,λk X _ hL _=>by have:=hL 0 (by omega);cases this⟩ ?_ ?_
 .intro k o H A V W tG hcl hal hI;have hlt:=(aG.1 H).1;obtain⟨x,hx,JD⟩:=Pb k o H;have hex:aL (Cy ops B V o) o=aL (bR x.2 B V) (bT o.op o.type):=by
   have h1:=List.all_eq_true.1 hpl (o,k) (List.mem_zipIdx_iff_getElem?.2 (by rw[aD];exact H));simp only[hx,fI]at h1;rw[<- WT];refine execOp_congr o (λcs b e=>by rw[e]at h1;exact absurd h1.1.2 (by simp)) λy hy=>?_
   exact ajq
  have hwg:wants V o=dI V o.guard:=by
   unfold wants dI;cases hg:o.guard with
   | none=>rfl
   | some y=>rfl
  rw[hwg,hex];have noL:∀i,k<m->m<=i->i<ops.size->A i=false:=by
   intro i UO h1 h2;cases FP:A i with
   | false=>rfl
   | true => have PJ:ops[i]?=I ops[i]:=NX;have:=WV hpl htF hcl h1 PJ (λj hj=>hcl.1 i _ PJ FP j hj) k aZ bu;rw[tG]at this;cases this
  by_cases UO:k<m
  .obtain⟨X,hp,hd,hap,heq⟩:=hI.1 λi h1 h2=>noL i UO h1 h2
   have later:∀v z,(∀i,m<i->i<=ops.size->(∀j,j<i->upd A k j=aA)->(∀j,i<=j->j<ops.size->upd A k j=az)->T i (cP V k v) z):=by intro v z i h1 h2 N _;have h4:=N m h1;unfold upd at h4;rw[bQ aZ,noL m UO (bP _) aZ]at h4;cases h4
   by_cases xK:k∈C
   .obtain⟨q,js,rK⟩:=List.mem_iff_getElem.1 xK;have hqi:=aF.2 ⟨js,rK⟩;obtain⟨o',x',rJ,Y,hg,hrun⟩:=UM.at C 0 q k hqi;rw[H]at rJ;injection rJ with rJ;subst rJ;rw[hx]at Y;injection Y with Y;subst Y;obtain⟨c1,c2⟩:=azP hpl yS Ek hcl hqi H tG hal;simp only[mr]at hrun;rw[c1]at hd;have hr:=hrun V W X hd (λj hj=>hp j (hal j (JD j hj)));rw[hg,bV (show dI V U=aA from rfl)];have next:∀v z,R z/\S W z/\aS (q+1) ((C.map V).set q v) z/\tab s k v z->ah (upd A k) (cP V k v) z:=by rintro v z⟨g1,g2,g3,g4⟩;refine⟨λ_=>⟨g1,λj hj=>?_,by rw[c2,azR Ek hqi];exact g3,hap.next (λi O=>hsz i O _ _ g2) λh=>absurd xK (FO k h).2,heq.next tG λq hq e=>absurd (e▸xK) (PI q hq).2⟩,later v z⟩;by_cases hjk:j=k;subst hjk;simpa [cP]using g4;unfold cP;rw[bQ hjk];exact Xe hst _ _ _ _ (hp j ((BL hj).resolve_left hjk)) g2
    generalize (aL (bR x.2 B V) (bT o.op o.type)).run P W=q at *;cases q with
    | ok nx z =>
     cases nx <;> simp only[lZ]at hr|-
     case value v=>exact next _ _ hr
     case skip=>exact next _ _ hr
     case enter f args => apply dP hr;intro v w'' hv;exact⟨v,rfl,next _ _ hv⟩
    | halt x z=>simp only[lZ]at hr
   have yD:=hq k o x UO (by rw[aD];exact H) hx (by simpa using xK) V W X (λj hj=>hp j (hal j (JD j hj)));have dU:C.filter (upd A k)=C.filter A:=List.filter_congr λj hj=>by unfold upd;rw[bQ (by rintro rfl;exact xK hj)]
   have next:∀v z,tab s k v z->aN (D (L W)) W z->(k∈ds->∀b,Em v=I b->D (L W)<=b/\b<D (L z))->(∀q∈fs,q.1=k->A q.2.1=aA/\v=q.2.2 (V q.2.1))->ah (upd A k) (cP V k v) z:=by intro v z hv hb hf hg;refine⟨λ_=>⟨hR _ _ X hb,λj hj=>?_,by rw[dU,azQ xK];exact hD _ _ _ _ hd hb,hap.next (λ_ _=>hb.size) hf,heq.next tG hg⟩,later v z⟩;unfold cP;by_cases hjk:j=k;subst hjk;simpa using hv;rw[bQ hjk];exact Xe hst _ _ _ _ (hp j ((BL hj).resolve_left hjk)) (hS _ _ hb)
   have xL:k∈ds->dI V o.guard=aA/\∃v W',(aL (bR x.2 B V) (bT o.op o.type)).run P W=.ok (.value v) W'/\∀b,Em v=I b->D (L W)<=b/\b<D (L W'):=λuZ=>by obtain⟨o',x',rJ,Y,hg,h9⟩:=hFr k uZ;rw[H]at rJ;injection rJ with rJ;subst rJ;rw[hx]at Y;injection Y with Y;subst Y;exact⟨by rw[hg];rfl,h9 V W X λj hj=>hp j (hal j (JD j hj))⟩
   have LW:∀q∈fs,q.1=k->dI V o.guard=aA/\A q.2.1=aA/\∃W',(aL (bR x.2 B V) (bT o.op o.type)).run P W=.ok (.value (q.2.2 (V q.2.1))) W':=λq hq e=>by obtain⟨o',x',rJ,Y,hg,hj,h9⟩:=hFu q hq;rw[e,H]at rJ;injection rJ with rJ;subst rJ;rw[e,hx]at Y;injection Y with Y;subst Y;exact⟨by rw[hg];rfl,hal _ (JD _ hj),h9 V W X λj hj=>hp j (hal j (JD j hj))⟩
   by_cases Jl:dI V o.guard=aA
   .rw[bV Jl]at yD|-;generalize (aL (bR x.2 B V) (bT o.op o.type)).run P W=q at *;cases q with
    | ok nx z =>
     cases nx <;> simp only[fk]at yD <;> simp only[lZ]
     case value v=>exact next _ _ yD.1 yD.2 (λuZ=>by obtain⟨-,v2,W2,e,h9⟩:=xL uZ;cases e;exact h9) λq hq e=>by obtain⟨-,h1,W2,e⟩:=LW q hq e;cases e;exact⟨h1,rfl⟩
     case skip=>exact next _ _ yD.1 yD.2 (λuZ=>ajr) λq hq e=>ajs
     case enter f args => apply dP yD;rintro v w''⟨hv,hb⟩;exact⟨v,rfl,next _ _ hv hb (λuZ=>ajr) λq hq e=>ajs⟩
    | halt x z=>simp only[fk]at yD
   rw[bQ Jl]at yD|-;exact next _ _ yD (eP _ _) (λuZ=>absurd (xL uZ).1 Jl) λq hq e=>absurd (LW q hq e).1 Jl
  have hall:=WV hpl htF hcl aZ H hal;have hno:∀i,k<=i->i<ops.size->A i=false:=by
   intro i h1 h2;by_cases hik:i=k;rw[hik];exact tG;cases FP:A i with
   | false=>rfl
   | true => have PJ:ops[i]?=I ops[i]:=NX;have:=WV hpl htF hcl aZ PJ (λj hj=>hcl.1 i _ PJ FP j hj) k aZ bu;rw[tG]at this;cases this
  have FQ:T k V W:=by
   by_cases aEm:k=m;subst aEm;obtain⟨X,hp,hd,hap,heq⟩:=hI.1 hno;rw[List.filter_eq_self.2 λi O=>hall i (htm i O) bu]at hd;refine hF V W X hd (λi O j hj hij _ _=>hap.2 i O j hj hij (hall i (FO i O).1 bu) (hall j (FO j hj).1 bu)) (λq hq=>(heq q hq (hall _ (PI q hq).1 bu)).2) ?_;have:=ajc (V:=V) (w:=W) s [] (λj _ h2=>by
    simp at h2;exact hp j (hall j aZ bu))
   simpa using this;exact hI.2 k aZ aZ (λj hj=>hall j hj bu) hno
  rw[hT k o x H hx]at FQ;have next:∀v z,T (k+1) (cP V k v) z->ah (upd A k) (cP V k v) z:=by
   intro v z hv;refine⟨λh1=>?_,λi h1 h2 N h4=>?_⟩;have:=h1 k aZ hlt;unfold upd at this;rw[bV rfl]at this;cases this;have O:i=k+1:=by rcases Nat.lt_trichotomy i (k+1)with h5|h5|h5;have:=h4 k aZ hlt;unfold upd at this;rw[bV rfl]at this;cases this;exact h5;have:=N (k+1) h5;unfold upd at this;rw[bQ aZ,hno (k+1) aZ aZ]at this;cases this
   rw[O];exact hv
  by_cases Jl:dI V o.guard=aA
  .rw[bV Jl]at FQ|-;generalize (aL (bR x.2 B V) (bT o.op o.type)).run P W=q at *;cases q with
   | ok nx z =>
    cases nx <;> simp only[lZ]at FQ|-
    case value v=>exact next _ _ FQ
    case skip=>exact next _ _ FQ
    case enter f args => apply dP FQ;intro v w'' hv;exact⟨v,rfl,next _ _ hv⟩
   | halt x z=>simp only[lZ]at FQ
  rw[bQ Jl]at FQ|-;exact next _ _ FQ
 .intro V W hI;by_cases AU:m<ops.size;have:=hI.2 ops.size AU (bP _) (λj hj=>GF) (λj h1 h2=>aZ);have e:T ops.size V W=Q .normal (iO V ops.toList 0 B) W:=by show bN P B _ _ _ _ _ W=_;rw[List.drop_eq_nil_of_le bu];rfl
  rw[e]at this;exact this;have AV:m=ops.size:=aZ;subst AV;obtain⟨X,hp,hd,hap,heq⟩:=hI.1 (λi h1 h2=>aZ);rw[List.filter_eq_self.2 λi O=>by simpa using htm i O]at hd;have h9:=hF V W X hd (λi O j hj hij _ _=>hap.2 i O j hj hij (by simpa using (FO i O).1) (by simpa using (FO j hj).1)) (λq hq=>(heq q hq (by simpa using (PI q hq).1)).2) (by
   have:=ajc (V:=V) (w:=W) s [] (λj _ h2=>by
    simp at h2;exact hp j cN)
   simpa using this)
  rw[List.drop_eq_nil_of_le bu]at h9;exact h9
end
