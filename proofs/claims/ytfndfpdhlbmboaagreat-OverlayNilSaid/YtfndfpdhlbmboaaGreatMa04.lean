/-
  Lists of a call's own whose elements stay whatever becomes of some blocks; how they grow by one element, in a region or in a walk. Conditions: none.
-/
import Derived.Test.YtfndfpdhlbmboaaGreatMa03
import Derived.Test.YtfndfpdhlbmboaaGreatMz
set_option maxRecDepth 100000
set_option maxHeartbeats 16000000
set_option linter.unusedVariables false
set_option linter.unusedSimpArgs false
namespace Go.Proofs.YtfndfpdhlbmboaaGreat
open Go Go.RowKit _root_.Go.Proofs.Tryz
section
variable {α:Type} {S:dW α} {Y:Nat->Prop} {base:Nat} {e:TypeId} {l:List α} {v:Value} {w w':World}
def aA(Y:Nat->Prop)(base:Nat)(e:TypeId)(S:dW α)(l:List α)(v:Value)(w:World):Prop :=
 ∃css,w.ownsRow base e S.size v l.length css.flatten/\css.length=l.length/\∀w',ag (λk=>Y k∨v.ownBlock=some k) w w'->Each S l css w'
theorem aA.nil Y base e(S:dW α) w:aA Y base e S [] (.slice none 0 0) w:=⟨[],jV _ _ _ _,rfl,λ_ _=>Each.nil _ _⟩
theorem aA.st(h:aA Y base e S l v w)(k:K w w'):aA Y base e S l v w':=by obtain⟨css,j,y,A⟩:=h;exact⟨css,pA j k,y,λt u=>A t ((ag.aT k _).tr u)⟩
theorem aA.blk(h:aA Y base e S l v w):∀g,v.ownBlock=some g->base<=g/\g<w.heap.size:=by obtain⟨css,j,-,-⟩:=h;exact λg hg=>j.lt g hg
theorem aA.up{Y'}(h:aA Y base e S l v w)(u:ag Y' w w')(A:∀k,Y' k->Y k)(hb:∀k,Y' k->k<base):aA Y base e S l v w':=by have E:=h.blk;obtain⟨css,j,y,B⟩:=h;exact⟨css,iK j u λb D F=>aG,y,λC t=>B C ((u.more λk hk=>.inl (A k hk)).tr t)⟩
theorem aA.less{Y'}(h:aA Y base e S l v w)(A:∀k,Y' k->Y k):aA Y' base e S l v w:=by obtain⟨css,j,y,t⟩:=h;exact⟨css,j,y,λw' u=>t w' (u.more λk hk=>hk.imp (A k) id)⟩
theorem aA.low{base'}(h:aA Y base e S l v w)(hb:base'<=base):aA Y base' e S l v w:=ae5
theorem aA.aq(h:aA Y base e S l v w):aq S l v w:=by obtain⟨css,j,u,t⟩:=h;exact OI j (t w (ag.rf _ _))
theorem aA.fx(h:aA Y base e S l v w)(hb:∀k,Y k->k<base):Fx Y (λW=>Go.Proofs.YtfndfpdhlbmboaaGreat.aq S l v W) w:=λ_ u=>(h.up u (λ_ h=>h) hb).aq
theorem aA.slice(h:aA Y base e S l v w):∃A c,v=.slice A l.length c:=aw h.aq
theorem aV.sR{lo}(h:aV base lo e S l v w):aA (λk=>k<lo) base e S l v w:=by obtain⟨css,j,y,t⟩:=h;exact⟨css,j,y,λw' u=>t w' (u.qZ λk j _ t A=>aG)⟩
theorem aA.toL{lo}(h:aA (λk=>k<lo) base e S l v w):aV base lo e S l v w:=by obtain⟨css,j,y,t⟩:=h;exact⟨css,j,y,λw' u=>t w' (u.upN λk hk=>hk.imp id λh=>h.symm)⟩
def tT(N:Nat->Prop)(S:dW α)(x:α)(v:Value)(W:World):Prop:=v.cells.size=S.size/\Fx N (λW=>S.rel x v.cells.toList W) W
def ew(N:Nat->Prop)(lo:Nat)(e:TypeId)(S:dW α)(x:α)(v:Value)(W:World):Prop:=∃g cs,v=.slice (some ⟨g,0,none⟩) 1 1/\lo<=g/\ah W g e cs/\Fx N (λW=>S.rel x cs.toList W) W
theorem awm N lo e S(x:α):∀v w w',ew N lo e S x v w->Below w.heap.size w w'->ew N lo e S x v w':=by rintro v w w'⟨g,cs,y,j,u,t⟩ k;exact⟨g,cs,y,j,u.av k,t.k k⟩
variable {P:Program} {ρ:Operand->Value}
theorem asP(a b:Array Value)(h:a.size=b.size) m:b.zipIdx.foldl (λcs (x:Value×Nat)=>cs.setIfInBounds (0*m+x.2) x.1) a=b:=by
 obtain⟨la⟩:=a;obtain⟨lb⟩:=b;simp at h;have key:∀(r pre q:List Value),la.length=pre.length+r.length->q.length=r.length->(List.zipIdx r pre.length).foldl (λ(cs:Array Value) (x:Value×Nat)=>cs.setIfInBounds x.2 x.1) (pre++q).toArray=(pre++r).toArray:=by
  intro r
  induction r with
  | nil=>intro pre q _ j;simp at j;subst j;simp
  | cons x r u =>
   intro pre q B t
   cases q with
   | nil=>simp at t
   | cons y q =>
    simp only[List.zipIdx_cons,List.foldl_cons]
    have A:(pre++y :: q).toArray.setIfInBounds pre.length x=(pre++[x]++q).toArray:=aj
    rw[A]
    have:=u (pre++[x]) q aG aG
    grind
 have:=key lb [] la aG h;simpa using this
theorem auS size a v(u:v.cells.size=size)(y:a.size=size):Instr.fill (λi=>some (i*size,size)) a [(0,v)]=some v.cells:=by have h:=asP a v.cells af size;have j:¬(0*size+v.cells.size>a.size):=af;have t:¬(v.cells.size≠size):=af;simp only[Instr.fill,t,j,decide_false,Bool.or_false,Bool.false_eq_true,if_false];exact congrArg some h
theorem arh t z size bytes(T:fK P t e z size bytes)(A:v.cells.size=size)(G:size<=16777216) :
 (Instr.buildSlice t 1 #[(0,v)]).run P w=.ok (.slice (some ⟨w.heap.size,0,none⟩) 1 1) (w.alloc (.cells v.cells e)):=by
 obtain⟨i,j,C,y,H⟩:=T.fit
 have F:=T.pos
 have B:¬(1*size>2^24):=af
 have D:¬(1*size=0):=af
 have hz:(zeroValue e).run P w=.ok z w:=by simp[zeroValue,typeInfo,j,C]
 have E:=auS size ((Array.range (1*size)).map λk=>z.cells[k%z.cells.size]!) v A aj
 have u:(sizeOf e).run P w=.ok size w:=by simp[sizeOf,typeInfo,j,y]
 unfold Instr.buildSlice
 simp only[Sem.run_bind,Result.andThen_ok,run_underlying T.und,u,B,D,if_false,Sem.run_pure,hz,E]
 simp[newRow,go_sem]
theorem abQ t ty z size bytes(T:fK P t e z size bytes) x(j:ρ x=v)(y:v.cells.size=size)(u:size<=16777216) :
 (execOp ρ (aF (.buildSlice t 1 #[(0,x)]) ty)).run P w=.ok (.value (.slice (some ⟨w.heap.size,0,none⟩) 1 1)) (w.alloc (.cells v.cells e)):=by
 have h:=arh (P:=P) (w:=w) t z size bytes T y u
 subst j
 simp only[execOp,aF,List.map_toArray,jU,List.map_nil,Sem.run_bind,h,Result.andThen_ok,Sem.run_pure]
theorem adY t ty z size bytes(T:fK P t e z size bytes)(I:S.size=size)(J:aA Y base e S l v w) u x(A:ew (λk=>Y k∨v.ownBlock=some k) 0 e S x u w)
 (O:(l.length+1)*(bytes+1)<=140737488355328) (H:base<=w.heap.size) :
 ∃v' w',(Builtin.append_ #[t,t] ty #[v,u]).run P w=.ok v' w'/\aA Y base e S (l++[x]) v' w'/\w.grownBy w' v.ownBlock/\(v'.ownBlock=v.ownBlock∨v'.ownBlock=some w.heap.size)/\Below base w w':=by
 subst I
 obtain⟨g,cs,rfl,-,hb,B⟩:=A
 obtain⟨css,N,G,L⟩:=J
 have hrel:=B.now
 have R:=S.len hrel
 have F:Reads w w.heap.size S.size (some ⟨g,0,none⟩) 1 cs.toList:=⟨af,λ_=>⟨g,0,rfl,hb.lt,λj u A=>by
  rw[mi,hb.cell j];simpa using A⟩⟩
 obtain⟨v',w',Q,h2,E,y,M⟩:=Fo w base t ty e z S.size bytes T v l.length css.flatten N w.heap.size _ 1 1 _ F (S.one hrel) O H
 refine⟨v',w',Q,⟨css++[cs.toList],xU,by simp[G],λD u=>?_⟩,E,y,M⟩
 have C:=(ag.eM (X:=λk=>Y k∨v.ownBlock=some k) E (λg hg=>.inr hg)).gg u λk hk h=>by
  rcases h with h|h
  ·exact .inl h
  ·rcases y with y|y <;> rw[y]at h
   ·exact .inr h
   ·injection h with h;omega
 exact (L D C).snoc (B D C)
theorem ac7 s x t ty z size bytes(T:fK P t e z size bytes)(j:S.size=size)(C:ρ s=v)(A:aA Y base e S l v w) u(B:ρ x=u) a(D:ew (λk=>Y k∨v.ownBlock=some k) 0 e S a u w)
 (E:(l.length+1)*(bytes+1)<=140737488355328) (y:base<=w.heap.size) :
 ∃v' w',(execOp ρ (aF (.call { callee:=.builtin .append,args:=#[s,x],argTypes:=#[t,t] }) ty)).run P w=.ok (.value v') w'/\aA Y base e S (l++[a]) v' w'/\w.grownBy w' v.ownBlock/\(v'.ownBlock=v.ownBlock∨v'.ownBlock=some w.heap.size)/\Below base w w':=by
 obtain⟨v',w',F,h⟩:=adY (P:=P) t ty z size bytes T j A u a D E y
 refine⟨v',w',?_,h⟩
 subst C B
 simp only[execOp,aF,resolve,invoke,builtin,Sem.run_bind,Sem.run_pure,Result.andThen_ok,List.map_toArray,jU,List.map_nil,F]
theorem jt{ops rest o a Q}(H:o.guard=none) s x t
 (M:o.op=.call { callee:=.builtin .append,args:=#[s,x],argTypes:=#[t,t] })
 z size bytes (T:fK P t e z size bytes) (y:S.size=size) (F:a.eval s=v) (D:aA Y base e S l v w) u (E:a.eval x=u) b (J:ew (λk=>Y k∨v.ownBlock=some k) 0 e S b u w)
 (L:(l.length+1)*(bytes+1)<=140737488355328) (A:base<=w.heap.size)
 (h:∀v' w',aA Y base e S (l++[b]) v' w'->w.grownBy w' v.ownBlock->(v'.ownBlock=v.ownBlock∨v'.ownBlock=some w.heap.size)->Below base w w'->wpList P ops Q rest (a.put o.dst v') w') :
 wpList P ops Q (o :: rest) a w:=by
 refine wpList_plain H λK G=>?_
 obtain⟨v',w',N,j,B,I,C⟩:=adY (P:=P) t o.type z size bytes T y D u b J L A
 unfold Oper.wp execOp
 simp only[M,resolve,invoke,builtin,Sem.run_bind,Sem.run_pure,Result.andThen_ok,List.map_toArray,jU,List.map_nil,F,E,N]
 exact G _ _ (h v' w' j B I C)
theorem ew.new{N x}(h:Fx N (λW=>S.rel x v.cells.toList W) w) lo(j:lo<=w.heap.size):ew N lo e S x (.slice (some ⟨w.heap.size,0,none⟩) 1 1) (w.alloc (.cells v.cells e)) :=
 ⟨w.heap.size,v.cells,rfl,j,ah.new _ _ _,h.k ((K.rf w).al _)⟩
theorem ew.less{N j lo x}(h:ew N lo e S x v w)(u:∀k,j k->N k):ew j 0 e S x v w:=by obtain⟨g,cs,y,B,t,A⟩:=h;exact⟨g,cs,y,af,t,A.less u⟩
end
section
variable {α:Type} {S:dW α} {P:Program} {a0:Act} {w0:World} {Fin:List (Value->World->Prop)->Prop} {o:Oper} {r:List Oper} {x:List Nat×List (Nat×Nat)} {xs:List (List Nat×List (Nat×Nat))} {t:List (Value->World->Prop)} {N Y:Nat->Prop} {lo base:Nat} {e:TypeId} {E:(Nat->Value)->World->Prop} {k:Nat} {V:Nat->Value} {w:World}
theorem aH.push s u j z size bytes(T:fK P j e z size bytes)(D:S.size=size)(G:o.op=.call { callee:=.builtin .append,args:=#[s,u],argTypes:=#[j,j] })(hg:o.guard=none)
 v l y (H:aE x.2 a0 V s=v) (F:aA Y base e S l v w) (J:ew (λk=>Y k∨v.ownBlock=some k) 0 e S y (aE x.2 a0 V u) w) (L:(l.length+1)*(bytes+1)<=140737488355328) (A:base<=w.heap.size)
 (h:∀v' w',aA Y base e S (l++[y]) v' w'->w.grownBy w' v.ownBlock->(v'.ownBlock=v.ownBlock∨v'.ownBlock=some w.heap.size)->Below base w w'->aH P a0 E (k+1) r xs (ba V k v') w') :
 aH P a0 E k (o :: r) (x :: xs) V w:=by
 obtain⟨v',w',M,t,B,I,C⟩:=ac7 (P:=P) (ρ:=aE x.2 a0 V) s u j o.type z size bytes T D H F _ rfl y J L A
 unfold aH
 rw[hg,if_pos (show bP V none=true from rfl),G,M]
 exact h v' w' t B I C
theorem aH.nil(h:E V w):aH P a0 E k [] xs V w:=by assumption
theorem aH.skip w'(hg:o.guard=none)(hx:(execOp (aE x.2 a0 V) (aF o.op o.type)).run P w=.ok .skip w')(h:aH P a0 E (k+1) r xs (ba V k undef) w'):aH P a0 E k (o :: r) (x :: xs) V w:=Vn
theorem aH.pure v(hg:o.guard=none)(hx:(execOp (aE x.2 a0 V) (aF o.op o.type)).run P w=.ok (.value v) w)(h:aH P a0 E (k+1) r xs (ba V k v) w):aH P a0 E k (o :: r) (x :: xs) V w:=Vn
theorem aH.val v w'(hg:o.guard=none)(hx:(execOp (aE x.2 a0 V) (aF o.op o.type)).run P w=.ok (.value v) w')(h:aH P a0 E (k+1) r xs (ba V k v) w'):aH P a0 E k (o :: r) (x :: xs) V w:=Vn
end
def Mn:dW UInt8 where
 size:=1
 rel:=λb cs _=>cs=[.int .u8 (b.toNat:Int)]
 len:=by rintro x cs w rfl;rfl
 one:=by rintro x cs w rfl u j;simp at j;subst j;rfl
 st:=λh _=>h
theorem adZ l:(l.map λb=>[Value.int .u8 b.toNat]).flatten=dP l:=by
 induction l with
 | nil=>rfl
 | cons a l j=>simp[j,dP]
theorem Own.sR{Y w base e v l}(h:Own w base e v l):aA Y base e Mn l v w :=
 ⟨l.map λb=>[.int .u8 b.toNat],by rw[adZ];exact h,aj,λw' _=>⟨aj,λi h j=>by simp[Mn]⟩⟩
theorem aA.bytes{Y w base e v l}(h:aA Y base e Mn l v w):Own w base e v l:=by
 obtain⟨css,j,t,y⟩:=h;have u:=y w (ag.rf _ _);have:css=l.map λb=>[Value.int .u8 b.toNat]:=List.ext_getElem (by simp[t]) λi j t=>by have:=u.2 i af j;simpa [Mn]using this
 rw[this,adZ]at j;exact j
theorem TK A c l w B(hR:Reads w B 4 A l.length (l.flatMap mV))(D:B<=w.heap.size) :
 Calls prog 226 #[.slice A l.length c] w λe w'=>e=.returned (.int .i64 (jY l))/\Below w.heap.size w w':=by
 by_cases h1:l.length<1
 ·have h1':(l.length:Int)<1:=af;have HE:Hid (jY l=40):=ae (by simp[jY,fB,show ¬1<=l.length by omega]);exact afj
 have h1':¬(l.length:Int)<1:=af
 by_cases gU:16<l.length
 ·have T:(16:Int)<(l.length:Int):=af;have HE:Hid (jY l=40):=ae (by simp[jY,fB];omega);exact afj
 have T:¬(16:Int)<(l.length:Int):=af
 obtain⟨b,E,rfl,C,S⟩:=hR.QT af
 have O:=ae S
 clear S hR
 go_enter func226,ntmps226
 go_wp2
 go_step3
 go_wp2_with fail
 go_step3
 go_wp2_with fail
 go_loopw [3,16] (fun m i wr=>∃k:Nat,k<=l.length/\m=.int .i64 k/\i=.int .i64 k/\Hid (jk none (l.take k)=true)/\Below w.heap.size w wr) (fun _ i _=>l.length-(intOf i).toNat)
 case atStart=>exact⟨0,af,rfl,rfl,ae (by simp[jk]),cM _ _⟩
 case round =>
  obtain⟨k,hk,rfl,rfl,Q,hb⟩:=hrel;by_cases I:k<l.length
  ·have Y:(k:Int)<l.length:=af;obtain⟨u,J,L,M⟩:=O.aa k I;have R:=(hb.cell (p:=⟨b,E+k*4,none⟩) (bz C D)).trans u;have d1:=(hb.cell (p:=⟨b,E+k*4+1,none⟩) (bz C D)).trans J;have d2:=(hb.cell (p:=⟨b,E+k*4+2,none⟩) (bz C D)).trans L;have d3:=(hb.cell (p:=⟨b,E+k*4+3,none⟩) (bz C D)).trans M;clear u J L M;have hz:=hb.size;have hzz:b<wr.heap.size:=af;have pO:=ae (awc l (k+1));have zM:∀W,Below wr.heap.size wr W->Below w.heap.size w W:=λW h=>hb.trans (h.mono hz)
   have zM:=ae zM;rcases Nat.eq_zero_or_pos k with F|F
   ·have hT:Hid (jk none (l.take (k+1))=j9 l[k]):=by subst F;exact ae (aur l I)
    have Z:¬(0:Int)<(k:Int):=af;have X:decide (0<k)=false:=aY;clear F;generalize l[k]=x at *;obtain⟨s,vk,vn,vs⟩:=x;simp only at R d1 d2 d3;go_wp2_with fail
    refine (TX s _).mono ?_;rintro e w'⟨rfl,rfl⟩;cases hn:sF s
    ·exact afk
    ·go_wp2_with fail
     refine (OB vk vn vs _).mono ?_;rintro e w2⟨rfl,t⟩;have oC:=((cM _ _).alloc (aC _) _).trans (t.mono aj);have G:=(ah.new wr 76 #[.string s,.int .i64 vk,.int .i64 vn,.string vs]).below t aj;clear t;cases hv:iH vk vn vs
     ·exact afl
     ·have hch:(lW vk vn vs != 0)=false:=by simp[lW,hv]
      have H:=G.cell 0;simp at H;go_wp2_with fail
      go_quiet (fail);have hr:Hid (jk none (l.take (k+1))=true):=ae (by rw[hT.aa];simp[j9,hn,hv]);exact afm
   ·have Z:(0:Int)<(k:Int):=af;have X:decide (0<k)=true:=aY;have V:k-1<l.length:=af;have hT:Hid (jk none (l.take (k+1))=(jk none (l.take k)&&(j9 l[k]&&lX l[k-1].1 l[k].1))):=by refine ae ?_;obtain⟨j,rfl⟩:∃j,k=j+1:=⟨k-1,af⟩;exact aus l j I
    obtain⟨u,_⟩:=O.aa (k-1) V;have p0:=(hb.cell (p:=⟨b,E+(k-1)*4,none⟩) (bz C D)).trans u;clear u;generalize l[k-1].1=y at *;generalize l[k]=x at *;obtain⟨s,vk,vn,vs⟩:=x;simp only at R d1 d2 d3 hT;go_wp2_with fail
    refine (TX s _).mono ?_;rintro e w'⟨rfl,rfl⟩;cases hn:sF s
    ·exact afk
    ·go_wp2_with fail
     refine (OB vk vn vs _).mono ?_;rintro e w2⟨rfl,t⟩;have oC:=((cM _ _).alloc (aC _) _).trans (t.mono aj);have G:=(ah.new wr 76 #[.string s,.int .i64 vk,.int .i64 vn,.string vs]).below t aj;clear t;cases hv:iH vk vn vs
     ·exact afl
     ·have hch:(lW vk vn vs != 0)=false:=by simp[lW,hv]
      have H:=G.cell 0;simp at H;have p1:=(oC.cell hzz).trans p0;have Ek:IntKind.i64.wrap ((k:Int)-1)=(k:Int)-1:=IntWalk.i64_in _ af;have hp1:(1:Int)<=(k:Int):=af;have hp2:((k:Int)-1).toNat=k-1:=af;have hp3:(k:Int)-1<(l.length:Int):=af;cases lC:lX y s
      ·have U:(!(Op.bytesLess y.toList s.toList))=true:=by unfold lX at lC;simp[lC]
       have HB:=ae (pO.aa (by rw[hT.aa];simp[j9,lC]));go_wp2_with fail
       go_quiet (fail);go_wp2;rw[gq];go_ret;exact⟨Fs,zM.aa _ (below_drewN oC _)⟩
      ·have U:(!(Op.bytesLess y.toList s.toList))=false:=by unfold lX at lC;simp[lC]
       have hr:Hid (jk none (l.take (k+1))=true):=ae (by rw[hT.aa,Q.aa];simp[j9,hn,hv,lC]);go_wp2_with fail
       go_quiet (fail);clear Ek hp2;exact afm
  ·have Y:¬(k:Int)<l.length:=af;have N:k=l.length:=af;have HE:=ae (aut l af af (by have:=Q.aa;rwa [N]at this));clear N;go_wp2;try rw[gq]
   exact Pt
section
variable {l la lb:List cT} {b:List UInt8} {v va vb:Value} {w:World}
theorem acr(h:iU l v w):Calls prog 226 #[v] w λe w'=>e=.returned (.int .i64 (jY l))/\Below w.heap.size w w':=by obtain⟨A,c,rfl,j⟩:=h;exact TK A c l w _ j (aC _)
end
theorem acs a w :
 Calls prog 276 #[bU a] w λe w'=>e=.returned (.bool (qJ a.1))/\K w w':=by
 obtain⟨b,l,s⟩:=a
 have hb:=K.new w (.cells #[.int .i64 b,.int .u64 l,.int .u64 s] 26)
 go_enter func276,ntmps276
 go_wp2
 all_goals
  go_ret
  refine⟨?_,hb⟩
  show Ending.returned (.bool _)=Ending.returned (.bool _)
  congr 2
  unfold qJ
  simp
  try omega
def Ft(x:aK):Bool:=decide (x=dz)
theorem apZ x:Ft x=(decide (x.kind=0)&&(decide (x.br=0)&&decide (x.life=0)&&decide (x.bV=0))&&decide (x.cl=0)&&decide (x.sub=0)&&x.f.isEmpty&&x.es.isEmpty):=by obtain⟨k,b,l,s,c,u,f,es⟩:=x;simp only[Ft,dz,aK.mk.injEq];cases f <;> cases es <;> simp[Bool.and_assoc]
theorem abR x v w(h:cV x v w) :
 Calls prog 275 #[v] w λe w'=>e=.returned (.bool (Ft x))/\K w w':=by
 obtain⟨vf,y,rfl,j,t⟩:=h
 obtain⟨A,c,rfl⟩:=b6 j
 obtain⟨D,d,rfl⟩:=aw t
 clear j t
 obtain⟨k,b,l,s,cl,u,f,es⟩:=x
 simp only
 go_enter func275,ntmps275
 go_wp2
 all_goals
  go_ret
  refine⟨?_,(K.rf w).al _⟩
  rw[apZ]
  show Ending.returned (.bool _)=Ending.returned (.bool _)
  simp_all [IH]
theorem Fc{x}(h:bK x=false):qK x=110:=by simp[qK,h]
theorem Kj{x}(h:bK x=true):qK x=0:=by simp[qK,h]
theorem awn l:(jY l==0)=fB l:=by unfold jY;cases fB l <;> rfl
theorem awo l:(mW l==0)=okF l:=by unfold mW;cases okF l <;> rfl
theorem Hh{α:Type} p(l:List α) k(h:k<l.length):(l.take (k+1)).all p=((l.take k).all p&&p l[k]):=aeD
theorem Ov{α:Type} p(l:List α) k(h:(l.take k).all p=false):l.all p=false:=by
 cases hl:l.all p with
 | false=>rfl
 | true => rw[uO]at hl;rw[List.all_eq_false]at h;obtain⟨x,j,hp⟩:=h;exact absurd (hl x (lM j)) hp
theorem J7 x v w(h:cV x v w) :
 Calls prog 241 #[v] w λe w'=>e=.returned (.int .i64 (qK x))/\K w w':=by
 obtain⟨vf,N,rfl,I,y⟩:=h
 obtain⟨A,c,rfl⟩:=b6 I
 obtain⟨D,d,W,y,X⟩:=y
 obtain rfl:=W
 obtain⟨k,b,l,s,cl,u,f,es⟩:=x
 simp only at I y X⊢
 have J:=ah.new w 126 (aD ⟨k,b,l,s,cl,u,f,es⟩ (.slice A f.length c) (.slice D es.length d))
 have B:=J.aS
 have hg:w.heap.size<(w.alloc (.cells (aD ⟨k,b,l,s,cl,u,f,es⟩ (.slice A f.length c) (.slice D es.length d)) 126)).heap.size:=aj
 generalize qR:qK ⟨k,b,l,s,cl,u,f,es⟩=E
 go_enter func241,ntmps241
 go_wp2_with fail
 generalize w.alloc _=S at *
 generalize w.heap.size=g at J hg⊢
 have qx:=J.cells
 have M:=eH _ _ _ _ I B
 have YR:=Xx y B
 clear I y
 refine (acs (b,l,s) S).mono ?_
 rintro e w2⟨rfl,C⟩
 have bC:=B.tr C
 cases hh:qJ b
 ·have HE:Hid (E=110):=ae (by rw[<- qR];exact Fc (by simp[bK,hh]));exact afn
 by_cases hc0:cl<0
 ·exact afo
 by_cases hc1:32<=cl
 ·exact afo
 by_cases H:k=1
 ·subst H;have HE:Hid (E=if (decide (u=0)&&f.isEmpty&&decide (es.length<=8)&&es.all fB)=true then 0 else 110):=ae (by
   rw[<- qR];simp[qK,bK,hh,show 0<=cl by omega,show cl<32 by omega])
  clear qR;go_upto_region 8 with (fail);go_cut [3]from 27 to 41 (fun v wc=>v=.bool (decide (u=0)&&f.isEmpty&&decide (es.length<=8))/\wc=w2)
  case first =>
   have e1:((u:Int)==0)=decide (u=0):=by
    by_cases h:u=0
    ·subst h;rfl
    ·simp[h]
   have Z:=IH f;by_cases O:u=0;rotate_left
   ·go_wp2;go_meet
    case rel=>simp[O]
   subst O;by_cases t:f=[];rotate_left
   ·go_wp2;go_meet
    case rel=>simp[t]
   subst t;by_cases h8:es.length<=8
   ·have Y:(es.length:Int)<=8:=af;go_wp2;go_meet
    case rel=>simp[h8]
   ·have Y:¬(es.length:Int)<=8:=af;go_wp2;go_meet
    case rel=>simp[h8]
  case rest =>
  obtain⟨rfl,rfl⟩:=hcut;have h8:Hid ((decide (u=0)&&f.isEmpty&&decide (es.length<=8))=true->es.length<=8):=ae aj;generalize (decide (u=0)&&f.isEmpty&&decide (es.length<=8))=L at *;go_wp2_with fail
  go_loopw [3,4] (fun mv T wr=>∃(m:Bool) (j:Nat),mv=.bool m/\T=.int .i64 j/\j<=es.length/\Hid (m=(L&&(es.take j).all fB))/\K S wr) (fun _ i _=>es.length-(intOf i).toNat)
  case atStart=>exact⟨L,0,rfl,rfl,af,ae aj,C⟩
  case round =>
   obtain⟨m,j,rfl,rfl,hj,hm,kr⟩:=hrel;cases m
   ·have HB:Hid (E=110):=ae (by
     rw[HE.aa,if_neg];have hm:=hm.aa;cases L
     ·simp
     ·simp only[Bool.true_and]at hm;have:=Ov fB es j hm.symm;rw[this];simp)
    go_wp2;go_ret;exact⟨Fs,B.tr kr⟩
   have h88:=h8.aa (by have:=hm.aa.symm;simp only[dE]at this;exact this.1);by_cases R:j<es.length
   ·have U:(j:Int)<es.length:=af;obtain⟨V,off,cs,rfl,aN,hcl,⟨N,rfl,iy⟩,hcell⟩:=Iy YR j R ay;have d0:wr.cell? ⟨V,off+j,none⟩=some N:=Pz;have DY:=pE _ _ _ _ iy kr;go_wp2_with fail
    refine (acr DY).mono ?_;rintro e Q⟨rfl,k3⟩;have e3:=awn es[j];go_wp2;go_roundw
    case rel=>exact⟨fB es[j],j+1,rfl,bJ,af,ae (by rw[Hh fB es j R,<- Bool.and_assoc,<- hm.aa];rfl),kr.tr k3⟩
    case measure=>simp[intOf];omega
   ·have U:¬(j:Int)<es.length:=af;have HB:Hid (E=0):=ae (by
     have hm:=hm.aa;rw[fM af]at hm;rw[HE.aa,if_pos hm.symm])
    go_wp2;go_ret;exact⟨Fs,B.tr kr⟩
 by_cases F:k=3
 ·subst F;have HE:Hid (E=if (f.isEmpty&&es.isEmpty)=true then 0 else 110):=ae (by
   rw[<- qR];simp[qK,bK,hh,show 0<=cl by omega,show cl<32 by omega])
  clear qR;cases t:f.isEmpty
  ·have Z:((f.length:Int)==0)=false:=by rw[IH,t]
   have HB:Hid (E=110):=ae (by rw[HE.aa,t];rfl);go_wp2;go_ret;exact⟨Fs,bC⟩
  obtain rfl:f=[]:=by simpa using t
  cases Gh:es.isEmpty
  ·exact afp
  obtain rfl:es=[]:=by simpa using Gh
  have HB:Hid (E=0):=ae gX;clear Gh t;go_wp2_with fail
  refine (acp (eH _ _ _ _ M C)).mono ?_;rintro e Q⟨rfl,k3⟩;rw[show mW []=0 from rfl];exact Vo
 by_cases G:k=2
 ·subst G;have HE:Hid (E=if (es.isEmpty&&okF f)=true then 0 else 110):=ae (by
   rw[<- qR];simp[qK,bK,hh,show 0<=cl by omega,show cl<32 by omega])
  clear qR;cases Gh:es.isEmpty
  ·exact afp
  obtain rfl:es=[]:=by simpa using Gh
  clear Gh;go_wp2_with fail
  refine (acp (eH _ _ _ _ M C)).mono ?_;rintro e Q⟨rfl,k3⟩;have e3:=awo f;cases hok:okF f
  ·have HB:Hid (E=110):=ae Vp;rw[hok]at e3;clear HE;exact Vo
  ·have HB:Hid (E=0):=ae Vp;rw[hok]at e3;clear HE;exact Vo
 have HE:Hid (E=110):=ae (by
  rw[<- qR];exact Fc (by simp[bK,H,G,F]))
 clear qR
 have g1:(k==1)=false:=by simpa using H
 have g2:(k==2)=false:=by simpa using G
 have g3:(k==3)=false:=by simpa using F
 clear H G F
 go_wp2
 go_ret
 exact⟨gX,bC⟩
def fy(a:aR):List UInt8:=az (bf a.1)++(az a.2.1++az a.2.2)
theorem abk l v a w(h:sl l v w)(hl:l.length<=900000000)(T:eu a) :
 Calls prog 277 #[v,bU a] w λe w'=>∃v',e=.returned v'/\Own w' w.heap.size 5 v' (l++fy a)/\K w w':=by
 obtain⟨A,c,rfl,J⟩:=h
 obtain⟨b,j,B⟩:=a
 obtain⟨G,y,D⟩:=T
 simp only at G y D
 have p0:=cI (bf b) (fW b)
 have p1:=cI j y
 have C:=ah.new w 26 #[.int .i64 b,.int .u64 j,.int .u64 B]
 have u:=C.aS
 have U:=(J.below u (aC _)).more u.size
 go_enter func277,ntmps277
 go_wp2_with fail
 generalize w.alloc _=w1 at *
 have qx:=C.cells
 rw[Dj b]
 refine (wJ A _ c l (bf b) (fW b) w1 _ U (aC _) af).mono ?_
 rintro e V⟨v2,rfl,H,t⟩
 obtain⟨Y,c2,rfl,O⟩:=(eK H)
 have eE:(l++az (bf b)).length<=900000009:=aY
 generalize X:(l++az (bf b)).length=S at *
 clear X
 go_wp2_with fail
 refine (wJ Y S c2 _ j y V _ O (aC _) af).mono ?_
 rintro e Z⟨v3,rfl,M,N⟩
 replace t:=t.tr N
 obtain⟨L,c3,rfl,E⟩:=(eK M)
 have p6:(l++az (bf b)++az j).length<=900000018:=aY
 generalize Q:(l++az (bf b)++az j).length=W at *
 clear Q
 go_wp2_with fail
 refine (wJ L W c3 _ B D Z _ E (aC _) af).mono ?_
 rintro e w4⟨v4,rfl,I,F⟩
 have R:=u.tr (t.tr F)
 go_wp2
 go_ret
 refine⟨_,rfl,sB ?_ I (by simp[fy]),R⟩
 exact bn u.size t.size
theorem Kb g l wr(n:Nat) w(h:Rd w g l wr)(hn:n<=1000000) :
 Calls prog 208 #[.pointer (some ⟨g,0,none⟩),.int .i64 n] w λe w'=>e=.returned (.int .i64 ((min (ax l wr).1 n:Nat):Int))/\nD g (ax l wr).2.1 (ax l wr).2.2 w w':=by
 have t:=ae (sA g l wr w h)
 have y:=nz l wr
 clear h
 generalize ax l wr=a at *
 obtain⟨x,B,C⟩:=a
 simp only at t y⊢
 by_cases D:n<x
 ·have u:(n:Int)<x:=af;rw[show min x n=n by omega];go_enter func208,ntmps208;go_wp2_with fail
  refine t.aa.mono ?_;rintro e A⟨rfl,j⟩;go_wp2;go_ret;exact⟨by first|rfl|simp <;> omega,j⟩
 ·have u:¬(n:Int)<x:=af;rw[show min x n=x by omega];go_enter func208,ntmps208;go_wp2_with fail
  refine t.aa.mono ?_;rintro e A⟨rfl,j⟩;go_wp2;go_ret;exact⟨by first|rfl|simp <;> omega,j⟩
theorem ah.went{w w' g b t cs l wr}(h:ah w b t cs)(k:nD g l wr w w')(j:b≠g):ah w' b t cs:=h.grown k.2 (by simpa using j)
theorem Rd.al{w g l wr}(h:Rd w g l wr) o:Rd (w.alloc o) g l wr:=h.av ((K.rf w).al o)
theorem Rd.set{w g b l wr}(h:Rd w g l wr)(hb:g<b) i u:Rd (w.setCell ⟨b,i,none⟩ u) g l wr:=h.below (Below.setCell (cM b w) (aC _) u) hb
def DZ:Aj aR:=λl wr =>
 (((min (ax l wr).1 16:Nat),(ax (ax l wr).2.1 (ax l wr).2.2).1,(ax (ax (ax l wr).2.1 (ax l wr).2.2).2.1 (ax (ax l wr).2.1 (ax l wr).2.2).2.2).1),
  (ax (ax (ax l wr).2.1 (ax l wr).2.2).2.1 (ax (ax l wr).2.1 (ax l wr).2.2).2.2).2)
theorem abB g l wr w(h:Rd w g l wr) :
 Calls prog 211 #[.pointer (some ⟨g,0,none⟩)] w λe w'=>e=.returned (bU (DZ l wr).1)/\nD g (DZ l wr).2.1 (DZ l wr).2.2 w w':=by
 have gA:=h.lt
 have X:=ah.new w 26 #[.int .i64 0,.int .u64 0,.int .u64 0]
 have hm0:w.grownBy (w.alloc (.cells #[.int .i64 0,.int .u64 0,.int .u64 0] 26)) (some g):=Dd (Di w _) _
 have O:=h.al (.cells #[.int .i64 0,.int .u64 0,.int .u64 0] 26)
 have hz1:w.heap.size<(w.alloc (.cells #[.int .i64 0,.int .u64 0,.int .u64 0] 26)).heap.size:=aj
 have D:=λW hW=>Kb g l wr 16 W hW af
 unfold DZ
 generalize ax l wr=a at *
 obtain⟨x,N,eP⟩:=a
 simp only at D⊢
 have E:=sA g N eP
 generalize ax N eP=a at *
 obtain⟨y,l2,wr2⟩:=a
 simp only at E⊢
 have I:=sA g l2 wr2
 generalize ax l2 wr2=a at *
 obtain⟨z,l3,Ca⟩:=a
 simp only at I⊢
 replace D:=ae D
 replace E:=ae E
 replace I:=ae I
 go_enter func211,ntmps211
 go_wp2_with fail
 generalize w.alloc _=w1 at *
 refine (D.aa w1 O).mono ?_
 rintro e L⟨rfl,A⟩
 have aW:=X.went A af
 have hm2:=nT hm0 A.2
 have hz2:=A.2.size
 have lD:=A.1
 clear A X hm0 O h
 go_wp2_with fail
 have eO:=ah.new L 26 #[.int .i64 ((min x 16:Nat):Int),.int .u64 0,.int .u64 0]
 have dI:=aW.alloc (.cells #[.int .i64 ((min x 16:Nat):Int),.int .u64 0,.int .u64 0] 26)
 have vQ:=lD.al (.cells #[.int .i64 ((min x 16:Nat):Int),.int .u64 0,.int .u64 0] 26)
 have rV:=Dd hm2 (.cells #[.int .i64 ((min x 16:Nat):Int),.int .u64 0,.int .u64 0] 26)
 clear lD aW hm2
 generalize L.alloc _=w3 at *
 generalize hh:L.heap.size=h at *
 clear hh
 refine (E.aa w3 vQ).mono ?_
 rintro e w4⟨rfl,B⟩
 have H:=eO.went B af
 have Z:=dI.went B af
 have vR:=nT rV B.2
 have hn4:=B.1
 have t:=H.cell 1
 have z1:=H.frozen 1
 simp at t
 clear B eO dI rV vQ
 go_upto_region 3 with (fail)
 have T:=H.aM 1 (.int .u64 y)
 have Q:=Z.far (p:=⟨h,1,none⟩) aY (.int .u64 y)
 have V:=xT vR (p:=⟨h,1,none⟩) aY (.int .u64 y)
 have R:=hn4.set (b:=h) af 1 (.int .u64 y)
 clear H Z vR hn4 t z1
 generalize w4.setCell _ _=w5 at *
 go_wp2_with fail
 refine (I.aa w5 R).mono ?_
 rintro e w6⟨rfl,C⟩
 have u:=T.went C af
 have ng:=Q.went C af
 have yK:=nT V C.2
 have Gi:=C.1
 have G:=u.cell 0
 have t:=u.cell 1
 have F:=u.cell 2
 have z2:=u.frozen 2
 simp at G t F
 clear C T Q V R
 go_upto_region 4 with (fail)
 have M:=u.aM 2 (.int .u64 z)
 have j:=ng.far (p:=⟨h,2,none⟩) aY (.int .u64 z)
 have I9:=xT yK (p:=⟨h,2,none⟩) aY (.int .u64 z)
 have Rw:=Gi.set (b:=h) af 2 (.int .u64 z)
 clear u ng yK Gi G t F z2
 generalize w6.setCell _ _=w7 at *
 have G:=M.cell 0
 have t:=M.cell 1
 have F:=M.cell 2
 simp at G t F
 have r0:=j.cell 0
 have r1:=j.cell 1
 have r2:=j.cell 2
 have y0:=j.frozen 0
 have y1:=j.frozen 1
 have y2:=j.frozen 2
 simp at r0 r1 r2
 go_wp2
 have J:=((j.aM 0 (.int .i64 ((min x 16:Nat):Int))).aM 1 (.int .u64 y)).aM 2 (.int .u64 z)
 have U:=J.cell 0
 have S:=J.cell 1
 have Y:=J.cell 2
 simp at U S Y
 refine bodyPost_ret (v:=bU ((min x 16:Nat),y,z)) (by simp[results,results211,go_sem,U,S,Y]) rfl ?_
 refine⟨rfl,?_,?_⟩
 ·exact ((Rw.set af _ _).set af _ _).set af _ _
 ·exact xT (xT (xT I9 aj _) aj _) aj _
theorem auT x:(qK x==0)=bK x:=by unfold qK;cases bK x <;> rfl
theorem ac8 x v w(h:pk x v w) :
 Calls prog 212 #[v] w λe w'=>e=.returned (.bool (eo x))/\K w w':=by
 obtain⟨vf,A,rfl,B,he⟩:=h
 obtain⟨k,n,x,b,l,s⟩:=x
 simp only at B he
 have y:=ah.new w 197 (eS ⟨k,n,x,b,l,s⟩ vf A)
 have k1:=y.aS
 have HO:Hid (eo ⟨k,n,x,b,l,s⟩=if k=1 then Ft x&&wY ⟨k,n,x,b,l,s⟩else if k=2 then bK x&&wY ⟨k,n,x,b,l,s⟩else if k=3 then decide (n=0)&&bK x&&wY ⟨k,n,x,b,l,s⟩
  else if k=4∨k=5 then qJ b&&decide (n=0)&&Ft x else false):=ae rfl
 have F:Hid (wY ⟨k,n,x,b,l,s⟩=(decide (b=0)&&decide (l=0)&&decide (s=0))):=ae rfl
 generalize eo ⟨k,n,x,b,l,s⟩=R at *
 have En:∀W,K w W->cV x (.agg (aD x vf A)) W:=λW k=>⟨vf,A,rfl,eH _ _ _ _ B k,bo he k⟩
 clear B he
 go_enter func212,ntmps212
 go_upto_region 1 with (fail)
 generalize w.alloc _=E at *
 generalize w.heap.size=g at y⊢
 have J:=y.cells
 have O:=K.rf E
 generalize wY ⟨k,n,x,b,l,s⟩=m at *
 go_cut [0,3]from 4 to 7 (fun _ v wc=>v=.bool m/\wc=E)
 case first =>
  go_wp2;all_goals
   go_meet
   case rel=>(refine⟨?_,rfl⟩;rw[F.aa];clear J HO;simp_all)
 case rest =>
 obtain⟨rfl,rfl⟩:=hcut
 clear F
 by_cases u:k=1
 ·subst u;rw[if_pos rfl]at HO;go_wp2_with fail
  refine (abR x _ _ (En _ k1)).mono ?_;rintro e w2⟨rfl,k2⟩;have bC:=k1.tr k2;cases he:Ft x
  ·exact afq
  ·exact afr
 by_cases j:k=3
 ·subst j;rw[if_neg ay,if_neg ay,if_pos rfl]at HO;by_cases hn:n=0;rotate_left
  ·have D:((n:Int) != 0)=true:=by simpa using hn
   have HR:Hid (R=false):=ae afs;clear HO;exact Dp
  subst hn;have D:(((0:Nat):Int) != 0)=false:=aj;exact afu
 by_cases t:k=2
 ·subst t;rw[if_neg ay,if_pos rfl]at HO;exact afu
 have N:(k==1)=false:=by simpa using u
 have M:(k==2)=false:=by simpa using t
 have T:(k==3)=false:=by simpa using j
 rw[if_neg u,if_neg t,if_neg j]at HO
 clear u t j
 have G:(k=4∨k=5)∨(¬k=4/\¬k=5):=af
 rcases G with C|⟨h4,h5⟩
 ·rw[if_pos C]at HO;have I:(k==4||k==5)=true:=by simpa using C
  go_upto_region 6 with (fail);rcases C with rfl|rfl;all_goals
   clear I
   go_wp2_with fail
   refine (acs (b,l,s) _).mono ?_
   rintro e w2⟨rfl,k2⟩
   have bC:=k1.tr k2
   cases hh:qJ b
   ·have HR:Hid (R=false):=ae (by rw[HO.aa,hh];rfl);exact PA
   by_cases hn:n=0
   rotate_left
   ·have D:((n:Int)==0)=false:=by simpa using hn
    have HR:Hid (R=false):=ae afs;exact PA
   subst hn
   have D:(((0:Nat):Int)==0)=true:=aj
   have HR:Hid (R=Ft x):=ae (by rw[HO.aa,hh];simp)
   go_wp2_with fail
   refine (abR x _ _ (En _ bC)).mono ?_
   rintro e S⟨rfl,H⟩
   replace bC:=bC.tr H
   go_wp2
   go_ret
   exact⟨fE,bC⟩
 ·have HR:Hid (R=false):=ae (by rw[HO.aa,if_neg (by omega)]);have Q:(k==4)=false:=Ic;have L:(k==5)=false:=KV;clear HO h4 h5;exact Dp
theorem ape A c l w B(H:Reads w B 4 A l.length (l.flatMap mV))(t:B<=w.heap.size)(L:∀x∈l,cJ x.2.1/\cJ x.2.2.1) :
 Calls prog 289 #[.slice A l.length c] w λe w' =>
  ∃v',e=.returned (.tuple #[v',.int .i64 (jY l)])/\Own w' w.heap.size 5 v' (BR l)/\Below w.heap.size w w':=by
 have hch:=ae (TK A c l w B H t)
 cases hok:fB l
 ·have HE:Hid (jY l=40):=ae PB;have HR:Hid (BR l=[]):=ae (by simp[BR,hok]);clear hok;have hne:(jY l != 0)=true:=gX;go_enter func289,ntmps289;exact afv
 ·have HE:Hid (jY l=0):=ae PB;have HR:Hid (BR l=jw l):=ae (by simp[BR,hok]);have hne:(jY l != 0)=false:=gX;obtain⟨h1,gU,U⟩:=OW hok;have yL:=ae λk=>adV l k hok L
  have HA:=ae (Vf U);have HI:=ae L;have HS:=ae (asG l);have YT:=ae H;clear hok U L H;go_enter func289,ntmps289;go_wp2_with fail
  refine hch.aa.mono ?_;rintro e w1⟨rfl,aN⟩;go_wp2_with fail
  refine (wJ none 0 0 [] l.length af w1 0 (Reads.nil _ _ _ _) af af).mono ?_;rintro e w2⟨v2,rfl,E,hb2⟩;have FO:=aN.trans (hb2.mono aN.size);rw[aO]at E;have ho:=sB aN.size E rfl;clear E aN hb2;go_wp2_with fail
  go_loopw [5,19] (fun o i wr=>∃k:Nat,k<=l.length/\i=.int .i64 k/\Own wr w.heap.size 5 o (az l.length++(l.take k).flatMap jZ)/\Below w.heap.size w wr) (fun _ i _=>l.length-(intOf i).toNat)
  case atStart=>exact⟨0,af,rfl,by simpa using ho,FO⟩
  case round =>
   obtain⟨k,hk,rfl,hok,hb⟩:=hrel;by_cases D:k<l.length
   ·have fA:(k:Int)<l.length:=af;obtain⟨b,C,rfl,y,hcell⟩:=YT.aa.QT af;obtain⟨S,R,X,Y⟩:=hcell k D;have d0:=(hb.cell (p:=⟨b,C+k*4,none⟩) (bz y t)).trans S;have d1:=(hb.cell (p:=⟨b,C+k*4+1,none⟩) (bz y t)).trans R;have d2:=(hb.cell (p:=⟨b,C+k*4+2,none⟩) (bz y t)).trans X;have d3:=(hb.cell (p:=⟨b,C+k*4+3,none⟩) (bz y t)).trans Y;clear S R X Y hcell;have hz:=hb.size;have hsz:=Uj (HA.aa _ (bS D));have F:=(HI.aa _ (bS D)).2;have V:=ae (HS.aa k D);have Z:=yL.aa k;generalize l[k]=x at *;obtain⟨s,j,vn,vs⟩:=x;simp only at d0 d1 d2 d3 hsz F V;obtain⟨azo,aD1⟩:=hsz;generalize (l.take k).flatMap jZ=T at *;obtain⟨A1,c1,rfl,N⟩:=hok.slice;have hlm:=Z;generalize jL:(az l.length++T).length=m1 at N Z⊢;clear jL hok;have Rq:=λW=>run_bytes_of_string (P:=prog) W 9 94 5 s underlying9 underlying94 underlying5
    go_wp2_with fail
    have Q:=ah.new wr 76 #[.string s,.int .i64 j,.int .i64 vn,.string vs];have M:Below wr.heap.size wr ((wr.alloc (.cells #[.string s,.int .i64 j,.int .i64 vn,.string vs] 76)).alloc (.cells (bytesRow s (grownCap (wr.alloc (.cells #[.string s,.int .i64 j,.int .i64 vn,.string vs] 76)) s.size 0 5)) 5 ((bytesRow s (grownCap (wr.alloc (.cells #[.string s,.int .i64 j,.int .i64 vn,.string vs] 76)) s.size 0 5)).size,(bytesRow s (grownCap (wr.alloc (.cells #[.string s,.int .i64 j,.int .i64 vn,.string vs] 76)) s.size 0 5)).size+1))).drew:=(((cM _ _).alloc (aC _) _).alloc aj _).drew;have rU:=(N.below M (aC _)).more (B':=wr.heap.size+1+1) af;refine (OA A1 _ m1 c1 s.size _ _ (dK s) _ (wr.heap.size+1+1) rU (Reads.ajw _ s _ _ _ (wr.heap.size+1) aj) aj af af).mono ?_;rintro e O⟨v3,rfl,u,J⟩;have G:=((Q.alloc (.cells (bytesRow s (grownCap (wr.alloc (.cells #[.string s,.int .i64 j,.int .i64 vn,.string vs] 76)) s.size 0 5)) 5 ((bytesRow s (grownCap (wr.alloc (.cells #[.string s,.int .i64 j,.int .i64 vn,.string vs] 76)) s.size 0 5)).size,(bytesRow s (grownCap (wr.alloc (.cells #[.string s,.int .i64 j,.int .i64 vn,.string vs] 76)) s.size 0 5)).size+1))).drew).below J aY;have I:=M.trans (J.mono aY);have q1:=G.cell 1;have q2:=G.cell 2;have q3:=G.cell 3;simp at q1 q2 q3;clear M J N rU Q Rq;have u:Own O wr.heap.size 5 v3 (az l.length++T++(az s.size++dK s)):=sB aY u afw;obtain⟨A3,c3,rfl,vN⟩:=u.slice;have hpl:=cI s.size af;have rV:(az l.length++T++(az s.size++dK s)).length<=3000:=by simp only[cF]at hlm⊢;simp;omega
    generalize (az l.length++T++(az s.size++dK s)).length=m3 at *;clear u;go_wp2_with fail
    refine (abP A3 m3 c3 _ j vn vs O O.heap.size vN (aC _) af af F.1 F.2).mono ?_;rintro e w4⟨v4,rfl,dS,hb4⟩;have Mm:=(hb.trans (I.mono hz)).trans (hb4.mono (bn hz I.size));have dS:=sB (bn hz I.size) dS rfl;rw[<- V.aa]at dS;exact afx
   ·have fA:¬(k:Int)<l.length:=af;have ho:Own wr w.heap.size 5 u5 (BR l):=by rw[HR.aa];unfold jw;rwa [fM af]at hok
    exact afy
section
variable {l la lb:List cT} {b:List UInt8} {v va vb:Value} {w:World}
theorem ari(h:iU l v w)(t:∀x∈l,cJ x.2.1/\cJ x.2.2.1):Calls prog 289 #[v] w λe w' =>
 ∃v',e=.returned (.tuple #[v',.int .i64 (jY l)])/\Own w' w.heap.size 5 v' (BR l)/\Below w.heap.size w w':=by
 obtain⟨A,c,rfl,j⟩:=h
 exact ape A c l w _ j (aC _) t
end
theorem asQ{k n s}(t:-9223372036854775808<=n)(j:n<=9223372036854775807)(y:s.size<=40):(nB k n s).length<=67:=by have j:=cI (bf k) (fW _);have u:=cI (vu k n) (KE _ _ t mh);have A:=cI s.size af;simp[nB];omega
def FG(t:dt):List UInt8:=if t.2.1==8 then []else nB t.2.2.1 t.2.2.2.1 t.2.2.2.2
theorem ajy{t}(h:fY t=true):t.2.2.2.2.size<=40:=by
 obtain⟨_,_,_,h8,hn⟩:=Fa h;by_cases e:t.2.1=8
 ·have:=h8 e;rw[this];decide
 ·exact (Hx (hn e)).2
theorem ac9{t}(h:fY t=true)(j:jh t):(FG t).length<=67:=by
 have u:=ajy h;unfold FG;split
 ·simp
 ·exact asQ j.2.2.1 j.2.2.2 u
theorem awp{t}(h:fY t=true)(y:jh t):(jI t).length<=101:=by obtain⟨u,_,_,_,_⟩:=Fa h;have j:=ac9 h y;have A:=cI t.1.size af;have C:=cI (bf t.2.1) (fW _);have B:t.1.data.size<=16:=u;unfold jI;unfold FG at j;simp only[cF];simp only[dK,Array.length_toList];omega
theorem asR(l:List dt)(hk:∀x∈l,(jI x).length<=101):(l.flatMap jI).length<=101*l.length:=by
 induction l with
 | nil=>simp
 | cons y l j =>
  have t:=j λx hx=>hk x Dn
  have u:=hk y aj;simp only[rI,cF,eQ];omega
theorem asS l k(u:okF l=true)(t:∀x∈l,jh x):(az l.length++(l.take k).flatMap jI).length<=1000:=by
 obtain⟨A,y⟩:=De u;have B:=cI l.length af;have C:=asR (l.take k) λx j=>awp (y x (lM j)) (t x (lM j))
 have h6:(l.take k).length<=8:=aY;simp only[cF];omega
theorem arj(l:List dt) k(h:k<l.length):az l.length++(l.take (k+1)).flatMap jI=az l.length++(l.take k).flatMap jI++(az l[k].1.size++dK l[k].1)++az (bf l[k].2.1)++FG l[k]:=by rw[gj h,List.flatMap_append,rI,List.flatMap_nil,List.append_nil];simp only[jI,FG,dY]
theorem aoM A c l w B(R:Reads w B 5 A l.length (l.flatMap fF))(t:B<=w.heap.size)(S:∀x∈l,jh x) :
 Calls prog 290 #[.slice A l.length c] w λe w' =>
  ∃v',e=.returned (.tuple #[v',.int .i64 (mW l)])/\Own w' w.heap.size 5 v' (BM l)/\Below w.heap.size w w':=by
 have hch:=ae (TJ A c l w B R t)
 cases hok:okF l
 ·have HE:Hid (mW l=50):=ae Pv;have HR:Hid (BM l=[]):=ae (by simp[BM,hok]);clear hok;have hne:(mW l != 0)=true:=gX;go_enter func290,ntmps290;exact afv
 ·have HE:Hid (mW l=0):=ae Pv;have HR:Hid (BM l=ji l):=ae (by simp[BM,hok]);have hne:(mW l != 0)=false:=gX;obtain⟨h8,Z⟩:=De hok;have yL:=ae λk=>asS l k hok S
  have HA:=ae Z;have HI:=ae S;have HS:=ae (arj l);have YT:=ae R;clear hok Z S R;go_enter func290,ntmps290;go_wp2_with fail
  refine hch.aa.mono ?_;rintro e w1⟨rfl,aN⟩;go_wp2_with fail
  refine (wJ none 0 0 [] l.length af w1 0 (Reads.nil _ _ _ _) af af).mono ?_;rintro e w2⟨v2,rfl,M,hb2⟩;have FO:=aN.trans (hb2.mono aN.size);rw[aO]at M;have ho:=sB aN.size M rfl;clear M aN hb2;go_wp2_with fail
  go_loopw [5,19] (fun o i wr=>∃k:Nat,k<=l.length/\i=.int .i64 k/\Own wr w.heap.size 5 o (az l.length++(l.take k).flatMap jI)/\Below w.heap.size w wr) (fun _ i _=>l.length-(intOf i).toNat)
  case atStart=>exact⟨0,af,rfl,by simpa using ho,FO⟩
  case round =>
   obtain⟨k,hk,rfl,hok,hb⟩:=hrel;by_cases D:k<l.length
   ·have fA:(k:Int)<l.length:=af;obtain⟨b,F,rfl,E,hcell⟩:=YT.aa.LF af;obtain⟨e0,e1,e2,e3,e4⟩:=hcell k D;have d0:=(hb.cell (p:=⟨b,F+k*5,none⟩) (bz E t)).trans e0;have d1:=(hb.cell (p:=⟨b,F+k*5+1,none⟩) (bz E t)).trans e1;have d2:=(hb.cell (p:=⟨b,F+k*5+2,none⟩) (bz E t)).trans e2;have d3:=(hb.cell (p:=⟨b,F+k*5+3,none⟩) (bz E t)).trans e3;have d4:=(hb.cell (p:=⟨b,F+k*5+4,none⟩) (bz E t)).trans e4;clear e0 e1 e2 e3 e4 hcell;have hz:=hb.size;have G:=HA.aa _ (bS D);have hpt:=Fa G;have azp:=ajy G;have U:=(HI.aa _ (bS D)).2;have HVL:=ae (ac9 G (HI.aa _ (bS D)));have V:=ae (HS.aa k D);have hlk:=yL.aa k;clear G;generalize l[k]=x at *;obtain⟨s,op,j,vn,vs⟩:=x;simp only at d0 d1 d2 d3 d4 hpt azp U V;obtain⟨azo,ez,Rx,-,-⟩:=hpt;generalize (l.take k).flatMap jI=T at *;obtain⟨A1,c1,rfl,X⟩:=hok.slice;have hlm:=hlk;generalize jL:(az l.length++T).length=m1 at X hlk⊢;clear jL hok;have Rq:=λW=>run_bytes_of_string (P:=prog) W 9 94 5 s underlying9 underlying94 underlying5
    go_wp2_with fail
    have Y:=ah.new wr 73 #[.string s,.int .i64 op,.int .i64 j,.int .i64 vn,.string vs];have Q:Below wr.heap.size wr ((wr.alloc (.cells #[.string s,.int .i64 op,.int .i64 j,.int .i64 vn,.string vs] 73)).alloc (.cells (bytesRow s (grownCap (wr.alloc (.cells #[.string s,.int .i64 op,.int .i64 j,.int .i64 vn,.string vs] 73)) s.size 0 5)) 5 ((bytesRow s (grownCap (wr.alloc (.cells #[.string s,.int .i64 op,.int .i64 j,.int .i64 vn,.string vs] 73)) s.size 0 5)).size,(bytesRow s (grownCap (wr.alloc (.cells #[.string s,.int .i64 op,.int .i64 j,.int .i64 vn,.string vs] 73)) s.size 0 5)).size+1))).drew:=(((cM _ _).alloc (aC _) _).alloc aj _).drew;have rU:=(X.below Q (aC _)).more (B':=wr.heap.size+1+1) af;refine (OA A1 _ m1 c1 s.size _ _ (dK s) _ (wr.heap.size+1+1) rU (Reads.ajw _ s _ _ _ (wr.heap.size+1) aj) aj af af).mono ?_;rintro e I⟨v3,rfl,H,J⟩;have u:=((Y.alloc (.cells (bytesRow s (grownCap (wr.alloc (.cells #[.string s,.int .i64 op,.int .i64 j,.int .i64 vn,.string vs] 73)) s.size 0 5)) 5 ((bytesRow s (grownCap (wr.alloc (.cells #[.string s,.int .i64 op,.int .i64 j,.int .i64 vn,.string vs] 73)) s.size 0 5)).size,(bytesRow s (grownCap (wr.alloc (.cells #[.string s,.int .i64 op,.int .i64 j,.int .i64 vn,.string vs] 73)) s.size 0 5)).size+1))).drew).below J aY;have N:=Q.trans (J.mono aY);have hgt:wr.heap.size<I.heap.size:=bz aY J.size;have q1:=u.cell 1;have q2:=u.cell 2;have q3:=u.cell 3;have q4:=u.cell 4;simp at q1 q2 q3 q4;clear Q J X rU Y Rq;have H:Own I wr.heap.size 5 v3 (az l.length++T++(az s.size++dK s)):=sB aY H afw;obtain⟨A3,c3,rfl,L⟩:=H.slice;have hpl:=cI s.size af;have rV:(az l.length++T++(az s.size++dK s)).length<=1100:=by simp only[cF]at hlm⊢;simp;omega
    have vR:(az l.length++T++(az s.size++dK s)++az (bf op)).length<=1200:=by have:=cI (bf op) (fW op);simp only[cF]at rV⊢;omega
    generalize (az l.length++T++(az s.size++dK s)).length=m3 at L rV⊢;clear H;go_wp2_with fail
    have hN:=wJ A3 m3 c3 _ (bf op) (fW op) I I.heap.size L (aC _) af;rw[show ((bf op:Nat):Int)=op by unfold bf;omega]at hN;refine hN.mono ?_;rintro e O⟨v4,rfl,dS,hb4⟩;have C:=u.below hb4 hgt;have r1:=C.cell 1;have r2:=C.cell 2;have r3:=C.cell 3;have r4:=C.cell 4;simp at r1 r2 r3 r4;clear q1 q2 q3 q4 u C L;have Mm:=(hb.trans (N.mono hz)).trans (hb4.mono (bn hz N.size));have ir:=Mm.size;have dS:=sB (bn hz N.size) dS rfl;by_cases hop:op=8
    ·subst hop;have dS:Own O w.heap.size 5 v4 (az l.length++(l.take (k+1)).flatMap jI):=by rw[V.aa];simpa [FG]using dS
     exact afx
    ·obtain⟨A4,c4,rfl,hR4⟩:=dS.slice;generalize (az l.length++T++(az s.size++dK s)++az (bf op)).length=m4 at hR4 vR⊢;clear dS;go_wp2_with fail
     refine (abP A4 m4 c4 _ j vn vs O O.heap.size hR4 (aC _) af af U.2.1 U.2.2).mono ?_;rintro e w5⟨v5,rfl,y,gT⟩;have azq:=Mm.trans (gT.mono ir);have y:=sB ir y rfl;have y:Own w5 w.heap.size 5 v5 (az l.length++(l.take (k+1)).flatMap jI):=by rw[V.aa];simpa [FG,hop]using y
     go_wp2;go_roundw
     case rel=>exact⟨k+1,af,bJ,y,azq⟩
     case measure=>simp[intOf];omega
   ·have fA:¬(k:Int)<l.length:=af;have ho:Own wr w.heap.size 5 u5 (BM l):=by rw[HR.aa];unfold ji;rwa [fM af]at hok
    exact afy
theorem ap0{l v w}(h:fu l v w)(t:∀x∈l,jh x):Calls prog 290 #[v] w λe w' =>
 ∃v',e=.returned (.tuple #[v',.int .i64 (mW l)])/\Own w' w.heap.size 5 v' (BM l)/\Below w.heap.size w w':=by
 obtain⟨A,c,rfl,j⟩:=h
 exact aoM A c l w _ j (aC _) t
