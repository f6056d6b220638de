/-
  A state of the call's own in memory, and how its lists grow (layer 16). Conditions: none.
-/
import Derived.Test.YtoeiinllelipoaaGreatMa06
import Derived.Test.YtoeiinllelipoaaGreatMz
set_option maxRecDepth 100000
set_option maxHeartbeats 16000000
set_option linter.unusedVariables false
set_option linter.unusedSimpArgs false
namespace Go.Proofs.YtoeiinllelipoaaGreat
open Go Go.RowKit Tryz
section
variable {α:Type} {S:cF α}
def zM(S:cF α)(i:Nat)(x:α)(v:Value)(W:World):Prop:=(∃j,v=.agg j)/\(v.cells.toList.length=S.size)/\∀h,aH i none W h->S.rel x v.cells.toList h
def zi(S:cF α)(i:Nat)(T:TypeId)(x:α)(v:Value)(W:World):Prop:=∃h cs,v=.slice (some ⟨h,0,none⟩) 1 1/\i<=h/\ai W h T cs/\cs.toList.length=S.size/\∀j,aH i none W j->S.rel x cs.toList j
def wu(S:cF α)(base h:Nat)(T:TypeId)(row:Option Nat)(n:Nat)(xs:List Value)(x:α)(v:Value)(W:World):Prop :=
 ∃cs,W.ownsRow base T S.size v (n+1) (xs++cs)/\(v.ownBlock=row∨∀b,v.ownBlock=some b->h<=b)/\∀i,ah (λk=>k<h∨v.ownBlock=some k) W i->S.rel x cs i
theorem Lj(i:Nat)(x:α):∀v w w',zM S i x v w->Below w.heap.size w w'->zM S i x v w':=by rintro v w w'⟨t,j,h⟩ k;exact⟨t,j,λs u=>h s ((aH.bg k _ _).tr u)⟩
theorem KL{i:Nat}{x:α}{row:Option Nat}(j:∀b,row=some b->b<i):∀v w w',zM S i x v w->w.grownBy w' row->zM S i x v w':=by rintro v w w'⟨y,s,h⟩ k;exact⟨y,s,λt u=>h t ((aH.row k j).tr u)⟩
theorem KM(i:Nat)(T:TypeId)(x:α):∀v w w',zi S i T x v w->Below w.heap.size w w'->zi S i T x v w':=by rintro v w w'⟨j,cs,e,hg,hb,s,h⟩ k;exact⟨j,cs,e,hg,hb.below k hb.lt,s,λt u=>h t ((aH.bg k _ _).tr u)⟩
theorem Ke{i:Nat}{T:TypeId}{x:α}{row:Option Nat}(hr:∀b,row=some b->b<i):∀v w w',zi S i T x v w->w.grownBy w' row->zi S i T x v w':=by rintro v w w'⟨g',cs,e,hg,hb,j,h⟩ k;exact⟨g',cs,e,hg,hb.grown k (λe=>Vs),j,λs u=>h s ((aH.row k hr).tr u)⟩
theorem KO(base h:Nat)(T:TypeId)(row:Option Nat)(n:Nat)(xs:List Value)(x:α):∀v w w',wu S base h T row n xs x v w->Below w.heap.size w w'->wu S base h T row n xs x v w':=by rintro v w w'⟨cs,i,j,t⟩ k;exact⟨cs,fZ i k,j,λs u=>t s ((ah.bg k _).tr u)⟩
theorem J5{P:Program}{ρ:Operand->Value}{w:World}(s x:Operand)(t ty e:TypeId)(base:Nat)(z:Value)(bytes n:Nat)(xs:List Value)(T:gJ P t e z S.size bytes)(u:Value)(hs:ρ s=u)(Q:w.ownsRow base e S.size u n xs)
 (y:Nat) (hg:base<=y) (F:∀b,u.ownBlock=some b->b<y) (Y:y<=w.heap.size) (a:α) (v:Value) (hx:ρ x=v) (J:zi S y e a v w)
 (R:(n+1)*(bytes+1)<=140737488355328) :
 ∃A w',(execOp ρ (ay (.call { callee:=.builtin .append,args:=#[s,x],argTypes:=#[t,t] }) ty)).run P w=.ok (.value A) w'/\wu S base y e u.ownBlock n xs a A w'/\Below base w w'/\w.grownBy w' u.ownBlock:=by
 obtain⟨D,cs,rfl,W,hb,V,H⟩:=J
 have O:Reads w w.heap.size S.size (some ⟨D,0,none⟩) 1 cs.toList:=⟨af,λ_=>⟨D,0,rfl,hb.lt,λj u B=>by
  rw[fP,hb.cell j];simpa using B⟩⟩
 obtain⟨A,w',hrun,I,i,G,N⟩:=Bb w base t ty e z S.size bytes T u n xs Q w.heap.size _ 1 1 _ O (S.one (H w (aH.rf _ _ _))) R af
 refine⟨A,w',?_,⟨cs.toList,I,G.imp id (λh=>?_),λL up=>?_⟩,N,i⟩
 ·exact afh
 ·intro b C;rw[h]at C;injection C with C;omega
 ·refine H L ⟨up.os.trans i.os,up.tape.trans i.tape,up.output.trans i.output,bq i.size up.size,λk X E U=>?_⟩;have M:A.ownBlock≠some k:=by
   rcases G with h|h <;> rw[h]
   ·intro e;have:=F k e;omega
   ·intro e;injection e with e;omega
  have B:some k≠u.ownBlock:=by intro e;have:=F k e.symm;omega
  exact (up.block k (bB E i.size) (λh=>h.elim (λh=>af) (λh=>M h))).trans (i.block k E B)
end
theorem aw3:(prog.info? 102).map (λi=>(i.zero,i.size,i.bytes))=some (some (.agg ez),8,96):=by kernel_rfl
theorem rG:gJ prog 39 102 (.agg ez) 8 96:=⟨underlying39,aw3,rfl,au⟩
theorem aw4:(prog.info? 46).map (λi=>(i.zero,i.size,i.bytes))=some (some (.agg #[.int .i64 0,.int .u64 0,.int .u64 0]),3,24):=by kernel_rfl
theorem uJ:gJ prog 32 46 (.agg #[.int .i64 0,.int .u64 0,.int .u64 0]) 3 24:=⟨underlying32,aw4,rfl,au⟩
abbrev bS(s:bA)(vl vp va:Value):Array Value:=#[.int .u64 (s.life:Int),vl,vp,va]
def jr(s:bA)(v:Value)(w:World):Prop:=∃vl vp va,v=.agg (bS s vl vp va)/\ar aQ s.list vl w/\ar aQ s.prom vp w/\ar bI s.ab va w
theorem Fm{s:bA}{v:Value}{w w':World}(h:jr s v w)(k:K w w'):jr s v w':=by obtain⟨vl,vp,va,e,t,i,j⟩:=h;exact⟨vl,vp,va,e,aW t k,aW i k,aW j k⟩
def Qm(base g:Nat)(vl vp va:Value)(k:Nat):Prop:=k<base∨k=g∨vl.ownBlock=some k∨vp.ownBlock=some k∨va.ownBlock=some k
structure gT(base g:Nat)(s:bA)(vl vp va:Value)(c1 c2:List (List Value))(W:World):Prop where
 blk:ai W g 52 (bS s vl vp va)
 low:base<=g
 l:W.ownsRow base 102 8 vl s.list.length c1.flatten
 p:W.ownsRow base 102 8 vp s.prom.length c2.flatten
 a:W.ownsRow base 46 3 va s.ab.length (s.ab.flatMap dL)
 ne:∀b,vl.ownBlock=some b->vp.ownBlock≠some b
 zj:c1.length=s.list.length
 zk:c2.length=s.prom.length
 el:∀W',ah (Qm base g vl vp va) W W'->Each aQ s.list c1 W'/\Each aQ s.prom c2 W'
def sD(base g:Nat)(s:bA)(W:World):Prop:=∃vl vp va c1 c2,gT base g s vl vp va c1 c2 W
section
variable {base g:Nat} {s:bA} {vl vp va:Value} {c1 c2:List (List Value)} {W W':World}
theorem gT.st(h:gT base g s vl vp va c1 c2 W)(k:K W W'):gT base g s vl vp va c1 c2 W' :=
 ⟨h.blk.below k h.blk.lt,h.low,fZ h.l k,fZ h.p k,fZ h.a k,h.ne,h.zj,h.zk,λi u=>h.el i ((ah.bg k _).tr u)⟩
theorem Uq(l:List av):(l.map dL).flatten=l.flatMap dL:=by rw[List.flatMap_def]
theorem OB(l:List av)(W:World):Each bI l (l.map dL) W:=⟨aj,λi h j=>by simp[bI]⟩
theorem gT.jr(h:gT base g s vl vp va c1 c2 W):jr s (.agg (bS s vl vp va)) W:=by exact afi
theorem gT.oO(h:gT base g s vl vp va c1 c2 W){b:Nat}(hb:vl.ownBlock=some b):base<=b/\b<W.heap.size/\b≠g/\vp.ownBlock≠some b/\va.ownBlock≠some b:=by
 obtain⟨i,h1⟩:=gg h.l hb;have:=h.l.lt b hb;refine⟨this.1,this.2,?_,h.ne b hb,?_⟩
 ·exact Vt
 ·exact afj
theorem gT.mY(h:gT base g s vl vp va c1 c2 W){b:Nat}(hb:vp.ownBlock=some b):base<=b/\b<W.heap.size/\b≠g/\vl.ownBlock≠some b/\va.ownBlock≠some b:=by
 obtain⟨i,h1⟩:=gg h.p hb;have:=h.p.lt b hb;refine⟨this.1,this.2,?_,λe=>h.ne b e hb,?_⟩
 ·exact Vt
 ·exact afj
theorem gT.s7(h:gT base g s vl vp va c1 c2 W){b:Nat}(hb:va.ownBlock=some b):base<=b/\b<W.heap.size/\b≠g/\vl.ownBlock≠some b/\vp.ownBlock≠some b:=by
 obtain⟨t,h1⟩:=gg h.a hb;have:=h.a.lt b hb;refine⟨this.1,this.2,?_,λe=>?_,λe=>?_⟩
 ·exact Vt
 ·obtain⟨j,i⟩:=gg h.l e;exact absurd (h1.ja i) au
 ·obtain⟨j,i⟩:=gg h.p e;exact absurd (h1.ja i) au
theorem ah.r8{X:Nat->Prop}{g i:Nat}(h:X g)(w:World)(u:Value):ah X w (w.setCell ⟨g,i,none⟩ u):=ah.sets h [u] i w
theorem ah.more{X Y:Nat->Prop}(h:ah X W W')(j:∀k,X k->Y k):ah Y W W':=⟨h.os,h.tape,h.output,h.size,λi s t=>h.block i s λh=>t (j i h)⟩
theorem eE{X:Nat->Prop}{e:TypeId}{size n:Nat}{v:Value}{xs:List Value}(h:W.ownsRow base e size v n xs)(u:ah X W W')(i:∀b,v.ownBlock=some b->¬X b):W'.ownsRow base e size v n xs :=
 Dm h λb _ j s=>u.block b j (i b s)
theorem gT.avQ(h:gT base g s vl vp va c1 c2 W)(n:Nat):gT base g ⟨n,s.list,s.prom,s.ab⟩ vl vp va c1 c2 (W.setCell ⟨g,0,none⟩ (.int .u64 (n:Int))):=by have u:ah (λk=>k=g) W (W.setCell ⟨g,0,none⟩ (.int .u64 (n:Int))):=ah.r8 (X:=λk=>k=g) rfl _ _;refine⟨h.blk.aR 0 _,h.low,eE h.l u λb hb=>(h.oO hb).2.2.1,eE h.p u λb hb=>(h.mY hb).2.2.1,eE h.a u λb hb=>(h.s7 hb).2.2.1,h.ne,h.zj,h.zk,λj i=>h.el j ((u.more λk e=>?_).tr i)⟩;exact .inr (.inl e)
theorem AZ{X Y:Nat->Prop}{row:Option Nat}{i:Nat}{v:Value}(u:aH 0 row W W'){t:World}(h:ah X (W'.setCell ⟨g,i,none⟩ v) t)(A:∀k,k<W.heap.size->k=g∨some k=row∨X k->Y k):ah Y W t:=by
 have us:ah (λk=>k=g) W' (W'.setCell ⟨g,i,none⟩ v):=ah.r8 (X:=λk=>k=g) rfl _ _;refine⟨h.os.trans (us.os.trans u.os),h.tape.trans (us.tape.trans u.tape),h.output.trans (us.output.trans u.output),bq u.size (bq us.size h.size),λk j y=>?_⟩;have s:=λe=>y (A k j e)
 exact (h.block k (bB (bB j u.size) us.size) (λe=>s (.inr (.inr e)))).trans ((us.block k (bB j u.size) (λe=>s (.inl e))).trans (u.block k (fw _) j (λe=>s (.inr (.inl e)))))
theorem acD{X Y:Nat->Prop}{i:Nat}{v:Value}{j:World}(s:ah X (W.setCell ⟨g,i,none⟩ v) j)(h:∀k,k=g∨X k->Y k):ah Y W j:=by have us:ah (λk=>k=g) W (W.setCell ⟨g,i,none⟩ v):=ah.r8 (X:=λk=>k=g) rfl _ _;exact (us.more λk e=>h k (.inl e)).tr (s.more λk e=>h k (.inr e))
theorem gT.ajW(h:gT base g s vl vp va c1 c2 W)(J:base<=W.heap.size)(u:aH 0 vl.ownBlock W W'){x:aq}{i:Value}(G:wu aQ base W.heap.size 102 vl.ownBlock s.list.length c1.flatten x i W') :
 sD base g ⟨s.life,s.list++[x],s.prom,s.ab⟩ (W'.setCell ⟨g,1,none⟩ i):=by
 obtain⟨cs,ho,E,H⟩:=G
 have hg:=h.blk.lt
 have t:∀b,i.ownBlock=some b->vl.ownBlock=some b∨W.heap.size<=b:=λb hb=>E.elim (λe=>.inl Vu) (λe=>.inr (e b hb))
 have pE:i.ownBlock≠some g:=λe=>(t g e).elim (λe=>(h.oO e).2.2.1 rfl) (λe=>af)
 have j:ah (λk=>vl.ownBlock=some k) W W':=u.Ei (λk hk=>hk.elim (λh=>af) (λh=>h.symm))
 have us:ah (λk=>k=g) W' (W'.setCell ⟨g,1,none⟩ i):=ah.r8 (X:=λk=>k=g) rfl _ _
 have C:ai W' g 52 (bS s vl vp va):=(j.block g h.blk.lt (λe=>(h.oO e).2.2.1 rfl)).trans h.blk
 refine⟨i,vp,va,c1++[cs],c2,C.aR 1 _,h.low,?_,?_,?_,?_,by simp[h.zj],h.zk,λy A=>?_⟩
 ·exact afk
 ·exact eE (eE h.p j λb hb e=>h.ne b e hb) us λb hb=>(h.mY hb).2.2.1
 ·exact eE (eE h.a j λb hb=>(h.s7 hb).2.2.2.1) us λb hb=>(h.s7 hb).2.2.1
 ·intro b hb B;rcases t b hb with e|e
  ·exact h.ne b e B
  ·have:=(h.mY B).2.1;omega
 ·have D:ah (Qm base g vl vp va) W y:=AZ u A λk hk e=>by
   rcases e with e|e|e|e|e|e|e
   ·exact .inr (.inl e)
   ·exact .inr (.inr (.inl e.symm))
   ·exact .inl e
   ·exact .inr (.inl e)
   ·exact (t k e).elim (λe=>.inr (.inr (.inl e))) (λe=>af)
   ·exact Vv
   ·exact Vw
  obtain⟨F,I⟩:=h.el y D;refine⟨F.snoc (H y (acD A λk e=>?_)),I⟩;rcases e with rfl|e|rfl|e|e|e
  ·exact .inl hg
  ·exact .inl af
  ·exact .inl hg
  ·exact .inr e
  ·exact .inl (h.mY e).2.1
  ·exact .inl (h.s7 e).2.1
theorem gT.ajX(h:gT base g s vl vp va c1 c2 W)(I:base<=W.heap.size)(u:aH 0 vp.ownBlock W W'){x:aq}{i:Value}(E:wu aQ base W.heap.size 102 vp.ownBlock s.prom.length c2.flatten x i W') :
 sD base g ⟨s.life,s.list,s.prom++[x],s.ab⟩ (W'.setCell ⟨g,2,none⟩ i):=by
 obtain⟨cs,ho,C,F⟩:=E
 have hg:=h.blk.lt
 have j:∀b,i.ownBlock=some b->vp.ownBlock=some b∨W.heap.size<=b:=λb hb=>C.elim (λe=>.inl Vu) (λe=>.inr (e b hb))
 have pE:i.ownBlock≠some g:=λe=>(j g e).elim (λe=>(h.mY e).2.2.1 rfl) (λe=>af)
 have u1:ah (λk=>vp.ownBlock=some k) W W':=u.Ei (λk hk=>hk.elim (λh=>af) (λh=>h.symm))
 have us:ah (λk=>k=g) W' (W'.setCell ⟨g,2,none⟩ i):=ah.r8 (X:=λk=>k=g) rfl _ _
 have A:ai W' g 52 (bS s vl vp va):=(u1.block g h.blk.lt (λe=>(h.mY e).2.2.1 rfl)).trans h.blk
 refine⟨vl,i,va,c1,c2++[cs],A.aR 2 _,h.low,?_,?_,?_,?_,h.zj,by simp[h.zk],λt y=>?_⟩
 ·exact afl
 ·exact afk
 ·exact afm
 ·intro b hb H;rcases j b H with e|e
  ·exact h.ne b hb e
  ·have:=(h.oO hb).2.1;omega
 ·have B:ah (Qm base g vl vp va) W t:=AZ u y λk hk e=>by
   rcases e with e|e|e|e|e|e|e
   ·exact .inr (.inl e)
   ·exact .inr (.inr (.inr (.inl e.symm)))
   ·exact .inl e
   ·exact .inr (.inl e)
   ·exact .inr (.inr (.inl e))
   ·exact (j k e).elim (λe=>.inr (.inr (.inr (.inl e)))) (λe=>af)
   ·exact Vw
  obtain⟨D,G⟩:=h.el t B;refine⟨D,G.snoc (F t (acD y λk e=>?_))⟩;rcases e with rfl|e|rfl|e|e|e
  ·exact .inl hg
  ·exact .inl af
  ·exact .inl hg
  ·exact .inl (h.oO e).2.1
  ·exact .inr e
  ·exact .inl (h.s7 e).2.1
theorem gT.axK(h:gT base g s vl vp va c1 c2 W)(_:base<=W.heap.size)(u:aH 0 va.ownBlock W W'){x:av}{i:Value}(D:wu bI base W.heap.size 46 va.ownBlock s.ab.length (s.ab.flatMap dL) x i W') :
 sD base g ⟨s.life,s.list,s.prom,s.ab++[x]⟩ (W'.setCell ⟨g,3,none⟩ i):=by
 obtain⟨cs,A,B,E⟩:=D
 have hg:=h.blk.lt
 obtain rfl:cs=dL x:=E W' (ah.rf _ _)
 have t:∀b,i.ownBlock=some b->va.ownBlock=some b∨W.heap.size<=b:=λb hb=>B.elim (λe=>.inl Vu) (λe=>.inr (e b hb))
 have C:i.ownBlock≠some g:=λe=>(t g e).elim (λe=>(h.s7 e).2.2.1 rfl) (λe=>af)
 have j:ah (λk=>va.ownBlock=some k) W W':=u.Ei (λk hk=>hk.elim (λh=>af) (λh=>h.symm))
 have us:ah (λk=>k=g) W' (W'.setCell ⟨g,3,none⟩ i):=ah.r8 (X:=λk=>k=g) rfl _ _
 have y:ai W' g 52 (bS s vl vp va):=(j.block g h.blk.lt (λe=>(h.s7 e).2.2.1 rfl)).trans h.blk
 refine⟨vl,vp,i,c1,c2,y.aR 3 _,h.low,?_,?_,?_,h.ne,h.zj,h.zk,λF G=>?_⟩
 ·exact eE (eE h.l j λb hb=>(h.oO hb).2.2.2.2) us λb hb=>(h.oO hb).2.2.1
 ·exact eE (eE h.p j λb hb=>(h.mY hb).2.2.2.2) us λb hb=>(h.mY hb).2.2.1
 ·have:=eE A us (λb hb e=>C KP);simpa [show bI.size=3 from rfl]using this
 ·exact h.el F (AZ u G λk hk e=>by
   rcases e with e|e|e|e|e|e|e
   ·exact .inr (.inl e)
   ·exact .inr (.inr (.inr (.inr e.symm)))
   ·exact .inl e
   ·exact .inr (.inl e)
   ·exact .inr (.inr (.inl e))
   ·exact Vv
   ·exact (t k e).elim (λe=>.inr (.inr (.inr (.inr e)))) (λe=>af))
end
theorem xp{α:Type}(p:α->Bool)(l:List α)(j:Nat)(h:j<l.length):(l.take (j+1)).any p=((l.take j).any p||p l[j]):=by rw[gE h,List.any_append];simp
theorem xq{α:Type}(p:α->Bool)(l:List α)(j:Nat)(h:(l.take j).any p=true):l.any p=true:=by rw[List.any_eq_true]at h⊢;obtain⟨x,i,s⟩:=h;exact⟨x,lE i,s⟩
theorem ado(l:List aq)(a:av)(v:Value)(w:World)(h:ar aQ l v w)(hlen:l.length<=1000000) :
 Calls prog 65 #[v,cN a] w λe w'=>e=.returned (.bool (cA l a))/\K w w':=by
 obtain⟨D,d,rfl,T,-⟩:=h
 have L:Hid (cA l a=l.any λx=>decide (ax x=a)):=ae rfl
 generalize cA l a=R at *
 have C:=ai.new w 46 #[.int .i64 a.1,.int .u64 (a.2.1:Int),.int .u64 (a.2.2:Int)]
 have k1:K w (w.alloc (.cells #[.int .i64 a.1,.int .u64 (a.2.1:Int),.int .u64 (a.2.2:Int)] 46)):=(K.rf w).al _
 go_enter func65,ntmps65
 go_upto_region 1 with (fail)
 generalize w.alloc _=H at *
 generalize w.heap.size=g at C⊢
 have S:=C.cells
 have kk:=K.rf H
 clear C
 go_wp2_with fail
 go_loopw [5,8] (fun _ i wr=>∃j:Nat,j<=l.length/\i=.int .i64 (j:Int)/\Hid ((l.take j).any (fun x=>decide (ax x=a))=false)/\K H wr) (fun _ i _=>l.length-(intOf i).toNat)
 case atStart=>exact⟨0,af,rfl,ae aj,kk⟩
 case round =>
  clear kk;obtain⟨j,hj,rfl,HT,kr⟩:=hrel;by_cases J:j<l.length
  ·have M:(j:Int)<(l.length:Int):=af;obtain⟨y,u,cs1,rfl,U,I,X,dd⟩:=dM T j J au;have HB:=ae (xp (λx=>decide (ax x=a)) l j J);have O:=ae (xq (λx=>decide (ax x=a)) l (j+1));generalize l[j]=x at *;obtain⟨qv,Z,rfl,Q,N⟩:=I w (K.rf w);have G:=λW (s:K wr W)=>S W (kr.tr s)
   have p1:∀W,K wr W->W.cell? ⟨y,u+j*8+1,none⟩=some (.int .i64 x.br):=λW s=>dd W (k1.tr (kr.tr s)) 1 au
   have p2:∀W,K wr W->W.cell? ⟨y,u+j*8+2,none⟩=some (.int .u64 (x.life:Int)):=λW s=>dd W (k1.tr (kr.tr s)) 2 au
   have p3:∀W,K wr W->W.cell? ⟨y,u+j*8+3,none⟩=some (.int .u64 (x.cI:Int)):=λW s=>dd W (k1.tr (kr.tr s)) 3 au
   clear U I X dd Q N;go_upto_region 4 with (fail);refine sR [ag (.slice (some ⟨y,u,none⟩) l.length d),
    ag (.int .i64 ((j:Int))),
    ag (.pointer (some ⟨y,u+j*8,none⟩)),
    ag (.pointer (some ⟨y,u+j*8+1,none⟩)),
    ag (cN (ax x)),
    ag (cN a),
    ag (.bool (decide (ax x=a)))]
    [([],[]),([],[]),([0,1],[(11,0),(12,1)]),([2],[(13,2)]),([3],[(14,3)]),([],[]),([4,5],[(15,4),(16,5)])] 19 rfl ak ak ak ?Gc ?Gd ?_
   case Gc =>
    simp only[aI]
    and_intros
    all_goals first|exact jN _|exact iQ _|exact mz|simp
   case Gd =>
    simp only[mS]
    and_intros
    all_goals try trivial
    all_goals
     intro V W s A
     try simp only[aI,aE,aF,ag]at A
     try simp[aL,aw,List.lookup,A,aE,aF,aS,execOp,ay,ag,aN,s,p1,p2,p3,G,M,go_sem]
    ·exact⟨rfl,rfl,rfl⟩
    by_cases t:(ax x).1=a.1
    ·by_cases B:(ax x).2.1=a.2.1
     ·by_cases E:(ax x).2.2=a.2.2
      ·rw[show decide (ax x=a)=true from decide_eq_true (Prod.ext t (Prod.ext B E))];simp[t,B,E,aN]
      ·rw[show decide (ax x=a)=false from decide_eq_false (λe=>E Ir)];try simp only[t,B,if_true]
       exact O5
     ·rw[show decide (ax x=a)=false from decide_eq_false (λe=>B Ir)];try simp only[t,if_true]
      exact O5
    ·rw[show decide (ax x=a)=false from decide_eq_false (λe=>t Ir)];simp[t,aN]
   intro V W s A;have h9:=A 6 aj;simp only[aE,aF,ag]at h9;clear A;simp only[bF,Act.put,cO,cM,cL,h9];have yj:=kr.tr s;generalize F:decide (ax x=a)=q at *;have Y:=ae F;clear F h9 p1 p2 p3 G;cases q
   ·have kJ:Hid ((l.take (j+1)).any (λx=>decide (ax x=a))=false):=ae afn;exact KE
   ·have HR:Hid (R=true):=ae (by rw[L.aa];exact O.aa (by rw[HB.aa];simp));go_wp2;go_ret;exact⟨fo,k1.tr yj⟩
  ·have M:¬(j:Int)<(l.length:Int):=af;have HR:Hid (R=false):=ae (by
    have t:=HT.aa;rw[eT af]at t;rw[L.aa,t])
   exact Vr
theorem avR{l:List av}{a:av}{k:Nat}(hk:k<l.length)(h:l[k]=a):dx l a=true:=by unfold dx;rw[List.any_eq_true];exact⟨l[k],bW hk,rT⟩
theorem auv{l:List av}{a:av}(h:∀x∈l,x≠a):dx l a=false:=by unfold dx;rw[List.any_eq_false];intro x i;simpa using h x i
theorem ao9(l:List av)(a:av)(v:Value)(w:World)(h:ar bI l v w)(hlen:l.length<=1000000) :
 Calls prog 185 #[v,cN a] w λe w'=>∃i:Int,e=.returned (.int .i64 i)/\K w w'/\dx l a=decide (0<=i):=by
 obtain⟨D,d,rfl,X,-⟩:=h
 have R:=ae (@auv l a)
 have Q:=ae λk hk=>@avR l a k hk
 have s:=ai.new w 46 #[.int .i64 a.1,.int .u64 (a.2.1:Int),.int .u64 (a.2.2:Int)]
 have k1:K w (w.alloc (.cells #[.int .i64 a.1,.int .u64 (a.2.1:Int),.int .u64 (a.2.2:Int)] 46)):=(K.rf w).al _
 go_enter func185,ntmps185
 go_upto_region 1 with (fail)
 generalize w.alloc _=L at *
 generalize w.heap.size=g at s⊢
 have U:=s.cells
 have kk:=K.rf L
 clear s
 go_wp2_with fail
 go_loopw [5,8] (fun _ i wr=>∃j:Nat,j<=l.length/\i=.int .i64 (j:Int)/\Hid (∀x∈l.take j,x≠a)/\K L wr) (fun _ i _=>l.length-(intOf i).toNat)
 case atStart=>exact⟨0,af,rfl,ae aj,kk⟩
 case round =>
  clear kk;obtain⟨j,hj,rfl,G,kr⟩:=hrel;by_cases F:j<l.length
  ·have O:(j:Int)<(l.length:Int):=af;obtain⟨B,y,Z,rfl,Y,M,N,dd⟩:=dM X j F au;have T:Hid (l[j]≠a->∀x∈l.take (j+1),x≠a):=by
    refine ae λh x s=>?_
    rw[gE F]at s;rcases List.mem_append.1 s with s|s
    ·exact G.aa x s
    ·simp at s;rw[s];exact h
   have S:=ae (Q.aa j F);generalize l[j]=x at *;obtain rfl:=M w (K.rf w);have I:=λW (t:K wr W)=>U W (kr.tr t)
   have p1:∀W,K wr W->W.cell? ⟨B,y+j*3,none⟩=some (.int .i64 x.1):=λW t=>N W (k1.tr (kr.tr t))
   have p2:∀W,K wr W->W.cell? ⟨B,y+j*3+1,none⟩=some (.int .u64 (x.2.1:Int)):=λW t=>dd W (k1.tr (kr.tr t)) 1 au
   have p3:∀W,K wr W->W.cell? ⟨B,y+j*3+2,none⟩=some (.int .u64 (x.2.2:Int)):=λW t=>dd W (k1.tr (kr.tr t)) 2 au
   clear Y M N dd;go_upto_region 4 with (fail);refine sR [ag (cN a),
    ag (.slice (some ⟨B,y,none⟩) l.length d),
    ag (.int .i64 ((j:Int))),
    ag (.pointer (some ⟨B,y+j*3,none⟩)),
    ag (cN x),
    ag (.bool (decide (a=x)))]
    [([],[]),([],[]),([],[]),([1,2],[(12,1),(13,2)]),([3],[(14,3)]),([0,4],[(11,0),(15,4)])] 19 rfl ak ak ak ?Gc ?Gd ?_
   case Gc =>
    simp only[aI]
    and_intros
    all_goals first|exact jN _|exact iQ _|exact mz|simp
   case Gd =>
    simp only[mS]
    and_intros
    all_goals try trivial
    all_goals
     intro V W t A
     try simp only[aI,aE,aF,ag]at A
     try simp[aL,aw,List.lookup,A,aE,aF,aS,execOp,ay,ag,aN,t,p1,p2,p3,I,O,go_sem]
    by_cases u:a.1=x.1
    ·by_cases C:a.2.1=x.2.1
     ·by_cases E:a.2.2=x.2.2
      ·rw[show decide (a=x)=true from decide_eq_true (Prod.ext u (Prod.ext C E))];simp[u,C,E,aN]
      ·rw[show decide (a=x)=false from decide_eq_false (λe=>E Ir)];try simp only[u,C,if_true]
       exact O5
     ·rw[show decide (a=x)=false from decide_eq_false (λe=>C Ir)];try simp only[u,if_true]
      exact O5
    ·rw[show decide (a=x)=false from decide_eq_false (λe=>u Ir)];simp[u,aN]
   intro V W t A;have h9:=A 5 aj;simp only[aE,aF,ag]at h9;clear A;simp only[bF,Act.put,cO,cM,cL,h9];have yj:=kr.tr t;generalize H:decide (a=x)=q at *;have J:=ae H;clear H h9 p1 p2 p3 I;cases q
   ·have kJ:=ae (T.aa λe=>by have:=of_decide_eq_false J.aa;exact this e.symm);exact KE
   ·have HR:=ae (S.aa (of_decide_eq_true J.aa).symm);exact afo
  ·have O:¬(j:Int)<(l.length:Int):=af;have HR:=ae (R.aa (by
    have u:=G.aa;rw[eT af]at u;exact u))
   exact afp
theorem EN(l:List av)(a:av)(v:Value)(w:World)(h:ar bI l v w)(F:l.length<=1000000) :
 Calls prog 117 #[v,cN a] w λe w'=>e=.returned (.bool (dx l a))/\K w w':=by
 have j:=h
 obtain⟨D,d,rfl,A,-⟩:=h
 have s:K w (w.alloc (.cells #[.int .i64 a.1,.int .u64 (a.2.1:Int),.int .u64 (a.2.2:Int)] 46)):=(K.rf w).al _
 have u:=ae λW (C:K w W)=>ao9 l a _ W (aW j C) F
 clear j A
 go_enter func117,ntmps117
 go_wp2_with fail
 generalize w.alloc _=B at *
 refine (u.aa B s).mono ?_
 rintro e G⟨i,rfl,y,t⟩
 have E:=ae t
 clear t
 go_wp2
 go_ret
 exact⟨by rw[E.aa];rfl,s.tr y⟩
theorem AW(s:bA)(a:av)(v:Value)(w:World)(h:jr s v w)(C:s.list.length<=1000000) :
 Calls prog 21 #[v,cN a] w λe w'=>e=.returned (.bool (cA s.list a))/\K w w':=by
 obtain⟨vl,vp,va,rfl,j,D,A⟩:=h
 have t:=ae λW (B:K w W)=>ado s.list a _ W (aW j B) C
 have i:K w ((w.alloc (.cells (bS s vl vp va) 52)).alloc (.cells #[.int .i64 a.1,.int .u64 (a.2.1:Int),.int .u64 (a.2.2:Int)] 46)):=((K.rf w).al _).al _
 clear j D A
 go_enter func21,ntmps21
 go_wp2_with fail
 generalize World.alloc (World.alloc w _) _=y at *
 refine (t.aa y i).mono ?_
 rintro e E⟨rfl,u⟩
 go_wp2
 go_ret
 exact⟨rfl,i.tr u⟩
theorem JR(s:bA)(a:av)(v:Value)(w:World)(h:jr s v w)(D:s.prom.length<=1000000) :
 Calls prog 120 #[v,cN a] w λe w'=>e=.returned (.bool (cA s.prom a))/\K w w':=by
 obtain⟨vl,vp,va,rfl,y,j,B⟩:=h
 have t:=ae λW (C:K w W)=>ado s.prom a _ W (aW j C) D
 have i:K w ((w.alloc (.cells (bS s vl vp va) 52)).alloc (.cells #[.int .i64 a.1,.int .u64 (a.2.1:Int),.int .u64 (a.2.2:Int)] 46)):=((K.rf w).al _).al _
 clear y j B
 go_enter func120,ntmps120
 go_wp2_with fail
 generalize World.alloc (World.alloc w _) _=A at *
 refine (t.aa A i).mono ?_
 rintro e E⟨rfl,u⟩
 go_wp2
 go_ret
 exact⟨rfl,i.tr u⟩
theorem Hs(s:bA)(a:av)(v:Value)(w:World)(h:jr s v w)(C:s.ab.length<=1000000) :
 Calls prog 84 #[v,cN a] w λe w'=>e=.returned (.bool (dx s.ab a))/\K w w':=by
 obtain⟨vl,vp,va,rfl,y,D,j⟩:=h
 have t:=ae λW (B:K w W)=>EN s.ab a _ W (aW j B) C
 have i:K w ((w.alloc (.cells (bS s vl vp va) 52)).alloc (.cells #[.int .i64 a.1,.int .u64 (a.2.1:Int),.int .u64 (a.2.2:Int)] 46)):=((K.rf w).al _).al _
 clear y D j
 go_enter func84,ntmps84
 go_wp2_with fail
 generalize World.alloc (World.alloc w _) _=A at *
 refine (t.aa A i).mono ?_
 rintro e E⟨rfl,u⟩
 go_wp2
 go_ret
 exact⟨rfl,i.tr u⟩
def fQ(a:av)(x:aq):Bool:=decide (ax x=a)
theorem J6(a:av)(x:aq):fQ a x=(decide (x.br=a.1)&&decide (x.life=a.2.1)&&decide (x.cI=a.2.2)):=by obtain⟨h,i,j⟩:=a;unfold fQ ax;rw[Bool.eq_iff_iff];simp[and_assoc]
theorem aaT(x:aq)(a:av)(v:Value)(g:Nat)(w:World)(h:cR x v w)(hg:ai w g 46 #[.int .i64 a.1,.int .u64 (a.2.1:Int),.int .u64 (a.2.2:Int)]) :
 Calls prog 248 #[v,.pointer (some ⟨g,0,none⟩)] w λe w'=>e=.returned (.bool (fQ a x))/\K w w':=by
 obtain⟨vf,F,rfl,t,i⟩:=h
 obtain⟨A,c,rfl⟩:=cB t
 obtain⟨D,d,rfl⟩:=az i
 clear t i
 have j:=ae (J6 a x)
 have q:=hg.cells
 have E:=λo=>(K.rf w).al o
 obtain⟨y,B,C⟩:=a
 obtain⟨k,b,l,s,cl,u,f,es⟩:=x
 simp only at q j⊢
 generalize fQ (y,B,C) ⟨k,b,l,s,cl,u,f,es⟩=R at *
 go_enter func248,ntmps248
 go_wp2
 all_goals
  go_ret
  refine⟨?_,(K.rf w).al _⟩
  rw[j.aa]
  show Ending.returned (.bool _)=Ending.returned (.bool _)
  clear q E
  first|(simp_all;done)|(simp_all;omega)|(congr 2;rw[Bool.eq_iff_iff];simp_all;omega)
theorem an5(A:Option Addr)(c:Nat)(l:List aq)(a:av)(g:Nat)(w:World)(h:wL aQ l A w)(Q:l.length<=1000000)(hg:ai w g 46 #[.int .i64 a.1,.int .u64 (a.2.1:Int),.int .u64 (a.2.2:Int)]) :
 Calls prog 184 #[.slice A l.length c,.func (Fn.func 248) #[] #[.pointer (some ⟨g,0,none⟩)]] w λe w'=>∃i:Int,e=.returned (.int .i64 i)/\K w w'/\((i=-1/\∀x∈l,fQ a x=false)∨∃k:Nat,k<l.length/\i=(k:Int)/\(∀x∈l.take k,fQ a x=false)/\∀x,l[k]?=some x->fQ a x=true):=by
 have kk:=K.rf w
 go_enter func184,ntmps184
 go_wp2_with fail
 go_loopw [5,8] (fun _ i wr=>∃k:Nat,k<=l.length/\i=.int .i64 (k:Int)/\Hid (∀t∈l.take k,fQ a t=false)/\K w wr) (fun _ i _=>l.length-(intOf i).toNat)
 case atStart=>exact⟨0,af,rfl,ae aj,kk⟩
 case round =>
  clear kk;obtain⟨k,hk,rfl,hall,kr⟩:=hrel;by_cases hlt:k<l.length
  ·have M:(k:Int)<(l.length:Int):=af;obtain⟨D,y,cs,rfl,J,B,s,d⟩:=dM h k hlt au;have G:Hid (fQ a l[k]=false->∀t∈l.take (k+1),fQ a t=false):=by exact Vx
   have I:Hid (fQ a l[k]=true->∀x,l[k]?=some x->fQ a x=true):=ae λh x hx=>by rw[List.getElem?_eq_getElem hlt]at hx;injection hx with hx;rw[<- hx];exact h
   generalize l[k]=t at *;obtain⟨vf,E,rfl,F,C⟩:=B wr kr;have s:∀W,K w W->W.cell? ⟨D,y+k*8,none⟩=some (.int .i64 t.kind):=s;have d:∀W,K w W->∀i,i<8->W.cell? ⟨D,y+k*8+i,none⟩=(aA t vf E)[i]?:=λW j N=>λL=>(d W j N L).trans Array.getElem?_toList
   clear B J;go_wp2_with fail
   refine (aaT t a _ g wr ⟨vf,E,rfl,F,C⟩ (hg.below kr hg.lt)).mono ?_;rintro e O⟨rfl,H⟩;have kW:=kr.tr H;clear d s F C;cases hx:fQ a t
   ·have pF:=ae (G.aa hx);exact Iu
   ·have u:=ae (I.aa hx);go_wp2;go_ret;exact⟨_,rfl,kW,.inr ⟨k,hlt,rfl,hall.aa,u.aa⟩⟩
  ·have M:¬(k:Int)<(l.length:Int):=af;have u:Hid (∀x∈l,fQ a x=false):=ae (by
    have:=hall.aa;rw[eT af]at this;exact this)
   go_wp2;go_ret;exact⟨_,rfl,kr,.inl ⟨rfl,u.aa⟩⟩
def DP(a:av)(z:List (aq×List Value)):List (aq×List Value):=z.filter λp=>!fQ a p.1
theorem Vy{α β:Type}:∀(l:List α) (m:List β),m.length=l.length->(l.zip m).map (·.1)=l
 | [],[],_=>rfl
 | _ :: _,[],h=>yQ
 | [],_ :: _,h=>yQ
 | x :: l,y :: m,h=>by simp at h;simp[Vy l m h]
theorem afq{α β:Type}:∀(l:List α) (m:List β),m.length=l.length->(l.zip m).map (·.2)=m
 | [],[],_=>rfl
 | _ :: _,[],h=>yQ
 | [],_ :: _,h=>yQ
 | x :: l,y :: m,h=>by simp at h;simp[afq l m h]
theorem auw{α:Type}{S:cF α}{W:World}:∀(z:List (α×List Value)),(∀p∈z,S.rel p.1 p.2 W)->Each S (z.map (·.1)) (z.map (·.2)) W:=by intro z h;refine⟨aj,λi s j=>?_⟩;simp only[List.getElem_map];exact h _ (bW _)
theorem apQ{α:Type}{S:cF α}{W:World}{l:List α}{css:List (List Value)}(h:Each S l css W):∀p∈l.zip css,S.rel p.1 p.2 W:=by intro p s;obtain⟨i,j,rfl⟩:=List.mem_iff_getElem.1 s;simp only[List.getElem_zip];have t:=h.1;rw[List.length_zip]at j;exact h.2 i af af
theorem adp{l:List aq}{css:List (List Value)}(h:css.length=l.length)(a:av):(DP a (l.zip css)).map (·.1)=ia l a:=by unfold DP ia;rw[show (λp:aq×List Value=>!fQ a p.1)=(λx=>!decide (ax x=a)) ∘ (·.1)from rfl,<- List.filter_map,Vy l css h]
theorem adq:∀(us xs:List Value) (q:Nat),q+us.length<=xs.length->pW xs q us=xs.take q++us++xs.drop (q+us.length)
 | [],xs,q,_=>by simp[pW]
 | u :: us,xs,q,h=>by simp only[iE]at h;rw[pW,adq us _ (q+1) aU];rw[gE aU,List.take_set_of_le (aG _),List.drop_set_of_lt af];simp[Nat.add_assoc,Nat.add_comm 1]
theorem aoD{P:Program}{w:World}{t e:TypeId}{z:Value}{j:Array Value}(E:P.underlying t=some (.slice e))(F:∀w,(zeroValue e).run P w=.ok z w)(g o m:Nat)(hb:ai w g e j)(G:o+m*z.cells.size<=j.size)(I:0<m)(D:∀u∈z.cells.toList,u.oneCell'=true)(hz:0<z.cells.size) :
 ∃w' s,(∀ty c,(Builtin.clear_ #[t] ty #[.slice (some ⟨g,o,none⟩) m c]).run P w=.ok (.tuple #[]) w')/\ai w' g e s/\s.size=j.size/\s.toList.take o=j.toList.take o/\w.grownBy w' (some g):=by
 have B:(Builtin.zeroCells z.cells m).toList.length=m*z.cells.size:=by simp[Builtin.zeroCells]
 have C:∀u∈(Builtin.zeroCells z.cells m).toList,u.oneCell'=true:=by intro u A;simp only[Builtin.zeroCells,Array.toList_map,List.mem_map]at A;obtain⟨i,J,rfl⟩:=A;rw[getElem!_pos z.cells (i%z.cells.size) (Nat.mod_lt _ hz)];exact D _ aj
 have y:=run_storeCells_at P g o e (Builtin.zeroCells z.cells m).toList 0 j w hb (by rw[B];simpa using G) C
 simp only[Nat.add_zero]at y
 refine⟨_,(j.toList.take o++(Builtin.zeroCells z.cells m).toList++j.toList.drop (o+(Builtin.zeroCells z.cells m).toList.length)).toArray,λty c=>?_,setRow_heap w g j _ e _ hb,?_,?_,⟨rfl,rfl,rfl,aj,λk hk H=>setRow_other w g k _ (λe=>H Fb)⟩⟩
 ·cases m with
  | zero=>omega
  | succ m=>simp[Builtin.clear_,run_underlying E,F,y]
 ·simp at B;simp;omega
 ·show List.take o (j.toList.take o++(Builtin.zeroCells z.cells m).toList++j.toList.drop (o+(Builtin.zeroCells z.cells m).toList.length))=_;rw[dG,List.take_append_of_le_length aU,List.take_take,Nat.min_self]
theorem aaN{α:Type}{n:Nat}:∀(css:List (List α)),(∀cs∈css,cs.length=n)->∀k,(css.take k).flatten=css.flatten.take (k*n)
 | [],_,k=>aj
 | c :: css,h,0=>aj
 | c :: css,h,k+1=>by have hc:=h c aj;have ih:=aaN css (λx hx=>h x Ds) k;exact afr
theorem aw5(W:World):(zeroValue 102).run prog W=.ok (.agg ez) W:=by kernel_rfl
theorem axL{α:Type}(l:List α)(h:l.length=8):∃s c1 c2 c3 c4 c5 j i,l=[s,c1,c2,c3,c4,c5,j,i]:=by
 match l,h with
 | [s,c1,c2,c3,c4,c5,j,i],_=>exact⟨_,_,_,_,_,_,_,_,rfl⟩
structure y7(l:List aq)(css:List (List Value))(a:av)(j i:Nat)(cur:List (List Value)):Prop where
 len:cur.length=l.length
 lens:∀cs∈cur,cs.length=8
 pre:cur.take i=(DP a ((l.zip css).take j)).map (·.2)
 post:cur.drop j=css.drop j
 lt:i<j
theorem y7.cut{l:List aq}{css s:List (List Value)}{a:av}{j i:Nat}(u:css.length=l.length)(h:y7 l css a j i s)(y:j<l.length)(t:fQ a l[j]=true):y7 l css a (j+1) i s:=by
 refine⟨h.len,h.lens,?_,?_,by have:=h.lt;omega⟩
 ·rw[h.pre,gE O6];simp[DP,t]
 ·exact afs
theorem y7.at{l:List aq}{css s:List (List Value)}{a:av}{j i:Nat}(_:css.length=l.length)(h:y7 l css a j i s)(_:j<l.length)(u:j<s.length)(t:j<css.length):s[j]=css[j]:=by have:=congrArg (λx=>x[0]?) h.post;simp only[List.getElem?_drop,Nat.add_zero,List.getElem?_eq_getElem u,List.getElem?_eq_getElem t]at this;injection this
theorem y7.keep{l:List aq}{css s:List (List Value)}{a:av}{j i:Nat}(C:css.length=l.length)(h:y7 l css a j i s)(E:j<l.length)(t:fQ a l[j]=false)(A:(css[j]'af).length=8):y7 l css a (j+1) (i+1) (s.set i (css[j]'af)):=by
 have y:=h.len;have D:=h.lt;refine⟨by simp[y],λcs B=>?_,?_,?_,af⟩
 ·rcases List.mem_or_eq_of_mem_set B with u|rfl
  ·exact h.lens _ u
  ·exact A
 ·rw[gE aU,List.take_set_of_le (aG _),h.pre,gE O6];simp[DP,t]
 ·rw[List.drop_set_of_lt af];exact afs
theorem an3(l:List aq)(a:av)(J base:Nat)(v:Value)(css:List (List Value))(w:World)(hown:w.ownsRow base 102 8 v l.length css.flatten)(C:css.length=l.length)
 (hE:∀W,ah (λk=>v.ownBlock=some k) w W->Each aQ l css W) (hg:ai w J 46 #[.int .i64 a.1,.int .u64 (a.2.1:Int),.int .u64 (a.2.2:Int)]) (hlen:l.length<=1000000) :
 Calls prog 247 #[v,.func (Fn.func 248) #[] #[.pointer (some ⟨J,0,none⟩)]] w λe w'=>∃v' y,e=.returned v'/\w'.ownsRow base 102 8 v' (ia l a).length y.flatten/\y.length=(ia l a).length/\v'.ownBlock=v.ownBlock/\w.grownBy w' v.ownBlock/\∀W,Each aQ l css W->Each aQ (ia l a) y W:=by
 have YZ:=hE w (ah.rf _ _)
 have ayE:=AU (S:=aQ) hown YZ
 obtain⟨A,c,rfl,hl,hc⟩:=ayE
 have C1:=ae (an5 A c l a J w hl hlen hg)
 have HN:Hid ((∀x∈l,fQ a x=false)->ia l a=l):=ae λh=>by unfold ia;rw[List.filter_eq_self];intro x hx;have:=h x hx;simpa [fQ]using this
 have HO:=ae hown
 have HC:=ae hE
 have c8:=ae YZ.lens
 clear hown hE YZ hl
 go_enter func247,ntmps247
 go_wp2_with fail
 refine C1.aa.mono ?_
 rintro e w2⟨i0,rfl,Q,hi⟩
 rcases hi with ⟨rfl,R⟩|⟨k,hk,rfl,R,hit⟩
 ·have H:=ae (HN.aa R);clear R;go_wp2;go_ret;refine⟨_,css,rfl,by rw[H.aa];exact fZ HO.aa Q,by rw[H.aa];exact C,rfl,Ht Q _,λW h=>by rw[H.aa];exact h⟩
 have ox:Hid (y7 l css a (k+1) k css):=ae (by
  refine⟨C,c8.aa,?_,rfl,af⟩;rw[gE O6];have h1:fQ a l[k]=true:=hit _ (List.getElem?_eq_getElem hk);have h2:DP a ((l.zip css).take k)=(l.zip css).take k:=by unfold DP;rw[List.filter_eq_self];intro p hp;have this:p.1∈((l.zip css).take k).map (·.1):=List.mem_map_of_mem hp;rw[List.map_take,Vy l css C]at this;simp[R p.1 this]
  unfold DP at h2⊢;rw[List.filter_append,h2];simp[h1];rw[afq l css C])
 clear R hit HN
 rcases HO.aa.2 with ⟨h0,xY⟩|⟨g,cap,V,e0,g1,g2,g3,g4,g5,g6⟩
 ·omega
 obtain⟨rfl,N⟩:A=some ⟨g,0,none⟩/\cap=c:=by injection e0 with B _ N;exact⟨B,N.symm⟩
 subst N
 have hg0:w.grownBy w2 (some g):=Ht Q _
 have bE:=ae (fZ HO.aa Q)
 have hgg:J≠g:=by rintro rfl;exact absurd ((show ai w J _ V from g2).ja hg) au
 have HG:=ae hg
 have hcm:cap<=9223372036854775807:=g4
 have oU:(k:Int)+1<=(l.length:Int):=af
 clear HO Q g5 g6 g2 hg g4 C1
 go_wp2_with fail
 go_loopw [5,6,7] (fun i j _ W=>∃(j' i':Nat) (s:List (List Value)),j=.int .i64 (j':Int)/\i=.int .i64 (i':Int)/\j'<=l.length/\i'<j'/\Hid (y7 l css a j' i' s)/\Hid (W.ownsRow base 102 8 (.slice (some ⟨g,0,none⟩) l.length cap) l.length s.flatten)/\w.grownBy W (some g)) (fun _ j _ _=>l.length-(intOf j).toNat)
 case atStart=>exact⟨k+1,k,css,bO,rfl,af,af,ox,bE,hg0⟩
 case round =>
  clear ox bE hg0;obtain⟨j,i,s,rfl,rfl,hj,hij,H,I,kr⟩:=hrel;by_cases T:j<l.length
  ·have ba:(j:Int)<(l.length:Int):=af;have BX:(i:Int)<(l.length:Int):=af;have hrel:=(HC.aa wr (ah.fM kr (λ_ h=>h))).2 j T af;have c8j:=c8.aa _ (bW (show j<css.length by omega));have u:=H.aa;have HK:=ae (u.keep C T);have HX:=ae (u.cut C T);have hat:=u.at C T (by rw[u.len];exact T) af;obtain⟨O,Y⟩:=EW I.aa;have cC:s.flatten.length=l.length*8:=I.aa.1;have aDb:=u.len;have Lk:=u.lens;generalize hx:l[j]=x at *;obtain⟨vf,ve,hcs,hf,he⟩:=hrel;have d:∀i,i<8->wr.cell? ⟨g,j*8+i,none⟩=(aA x vf ve)[i]?:=λi hi=>by rw[O _ af,vK 8 s Lk j i af hi,List.getElem?_eq_getElem (show j<s.length by omega),Option.getD_some,hat,hcs];exact Array.getElem?_toList
   have d0:wr.cell? ⟨g,j*8,none⟩=some (.int .i64 x.kind):=d 0 af;have hEv:Hid (∀W,K wr W->cR x (.agg (aA x vf ve)) W):=ae λW k=>⟨_,_,rfl,dB _ _ _ _ hf k,aW he k⟩
   have hgr:=HG.aa.grown kr (λe=>hgg (by injection e));obtain⟨E,F,rfl⟩:=cB hf;obtain⟨D,G,rfl⟩:=az he;have Z:K wr (wr.alloc (.cells (aA x (.slice E x.f.length F) (.slice D x.es.length G)) 102)):=(K.rf wr).al _;have di:=ai.new wr 102 (aA x (.slice E x.f.length F) (.slice D x.es.length G));clear O hf he hat u;go_upto_region 8 with (fail);have HG5:=hgr.below Z hgr.lt;have mq:=nU kr (Ht Z (some g));have fq:=fZ I.aa Z;have Ra:=hEv.aa _ Z;have rA:g<wr.heap.size:=(I.aa.lt g rfl).2;clear d d0;generalize wr.alloc _=w5 at *;generalize wr.heap.size=g5 at *;have q5:=di.cell;go_wp2_with fail
   refine (aaT x a _ J w5 Ra HG5).mono ?_;rintro e M⟨rfl,k6⟩;have U:=fZ fq k6;have nL:=nU mq (Ht k6 (some g));have q6:=(di.below k6 di.lt).cell;clear q5 fq;cases hq:fQ a x
   ·have Ge:=HK.aa hq c8j;have eU:=OA (aA x (.slice E x.f.length F) (.slice D x.es.length G)).toList _ (i*8) M U (by rw[cC];show i*8+8<=_;omega);have e9:=NW 8 (aA x (.slice E x.f.length F) (.slice D x.es.length G)).toList s Lk i 0 af (by exact aG 8);rw[Nat.add_zero]at e9;rw[e9,adq _ _ _ afu]at eU;have gX:(s[i]'af).take 0++(aA x (.slice E x.f.length F) (.slice D x.es.length G)).toList++(s[i]'af).drop (0+(aA x (.slice E x.f.length F) (.slice D x.es.length G)).toList.length)=css[j]'af:=by rw[hcs,dN,aJ,List.drop_of_length_le afu,List.append_nil]
    rw[gX]at eU;have L:ah (λk=>k=g) M (fN M g (i*8) (aA x (.slice E x.f.length F) (.slice D x.es.length G)).toList):=ah.sets (X:=λk=>k=g) (g:=g) rfl _ _ _;have il:w.grownBy (fN M g (i*8) (aA x (.slice E x.f.length F) (.slice D x.es.length G)).toList) (some g):=nU nL ⟨L.os,L.tape,L.output,L.size,λk hk hne=>L.block k hk Vz⟩;obtain⟨O,Y⟩:=EW U;obtain⟨c0,c1,c2,c3,c4,c5,c6,c7,Je⟩:=axL (s[i]'af) (Lk _ (bW _));have d6:∀t,t<8->M.cell? ⟨g,i*8+t,none⟩=#[c0,c1,c2,c3,c4,c5,c6,c7][t]?:=λt ht=>by rw[O _ af,vK 8 s Lk i t af ht,List.getElem?_eq_getElem (show i<s.length by omega),Option.getD_some,Je];exact Array.getElem?_toList
    have d60:M.cell? ⟨g,i*8,none⟩=some c0:=d6 0 af;have z6:=λt=>Y (i*8+t)
    have z60:=Y (i*8);have HK3:=ae Ge;have Y0:=ae eU;clear eU L O Y e9 gX Je HK HX Ge hcs U;go_wp2;go_roundw
    case rel =>
     (repeat apply Exists.intro)
     refine⟨?_,rfl⟩
     exact⟨j+1,i+1,_,bO,bO,af,af,HK3,Y0,il⟩
    case measure=>simp[intOf];omega
   ·have HX3:=ae (HX.aa hq);have Y0:=ae U;clear HK HX hcs U;go_wp2;go_roundw
    case rel =>
     (repeat apply Exists.intro)
     refine⟨?_,rfl⟩
     exact⟨j+1,i,_,bO,rfl,af,af,HX3,Y0,nL⟩
    case measure=>simp[intOf];omega
  ·have ba:¬(j:Int)<(l.length:Int):=af;obtain rfl:j=l.length:=af;have u:=H.aa;have cC:s.flatten.length=l.length*8:=I.aa.1;rcases I.aa.2 with ⟨h0,xY⟩|⟨g',cap',V,e0,r1,r2,r3,r4,r5,r6⟩
   ·cases h0
   injection e0 with B _ N;injection B with B;injection B with B;subst B N;have hcz:(Value.agg ez).cells.size=8:=rfl;obtain⟨W2,IV,ayF,hb2,dX,ht2,cQ⟩:=aoD (P:=prog) (w:=wr) (t:=39) (e:=102) underlying39 aw5 g (i*8) (l.length-i) r2 (by rw[hcz,show V.size=cap*8 from r5];omega) af au au;have il:=nU kr cQ;have IW:=u.pre;rw[eT (l:=l.zip css) O6]at IW;have oU:(ia l a).length=i:=by rw[<- adp C a,List.length_map,<- List.length_map (f:=λx:aq×List Value=>x.2),<- IW,od,u.len];omega
   have HF:Hid (∃y,W2.ownsRow base 102 8 (.slice (some ⟨g,0,none⟩) i cap) i y.flatten/\y.length=i/\∀W,Each aQ l css W->Each aQ (ia l a) y W):=ae (by
    refine⟨s.take i,?_,by rw[od,u.len];omega,λW hW=>?_⟩
    ·refine⟨?_,.inr ⟨g,cap,IV,rfl,r1,hb2,af,r4,by rw[dX];exact r5,?_⟩⟩
     ·rw[AQ 8 _ (λcs h=>u.lens cs (lE h)),od,u.len];rw[Nat.min_eq_left af]
     ·rw[ht2];have B:V.toList.take (l.length*8)=s.flatten:=r6;have e2:(s.take i).flatten=s.flatten.take (i*8):=aaN s u.lens i;rw[e2,<- B,List.take_take,Nat.min_eq_left af]
    ·rw[IW,<- adp C a];exact auw _ λp hp=>apQ hW p (List.mem_filter.1 hp).1)
   have BX:(i:Int)<=(l.length:Int):=af;have hic:i<=cap:=af;have hnc:¬cap=i:=af;have aDc:(i:Int)<=(cap:Int):=af;clear u IW r5 r6 r2 H I cC hb2 ht2 HC;go_wp2;go_ret;obtain⟨y,f1,f2,f3⟩:=HF.aa;exact⟨_,rfl,y,f1,f2,rfl,il,f3⟩
theorem gT.axM{base g:Nat}{s:bA}{vl vp va:Value}{c1 c2:List (List Value)}{W i:World}(h:gT base g s vl vp va c1 c2 W)(u:W.grownBy i vp.ownBlock){l:List aq}{css:List (List Value)}{j:Value}(C:i.ownsRow base 102 8 j l.length css.flatten)(E:css.length=l.length)(t:j.ownBlock=vp.ownBlock)(H:∀W,Each aQ s.prom c2 W->Each aQ l css W) :
 gT base g ⟨s.life,s.list,l,s.ab⟩ vl j va c1 css (i.setCell ⟨g,2,none⟩ j):=by
 have y:aH 0 vp.ownBlock W i:=aH.fM u 0
 have G:j.ownBlock≠some g:=λe=>(h.mY (by rw[<- t];exact e)).2.2.1 rfl
 have u1:ah (λk=>vp.ownBlock=some k) W i:=y.Ei (λk hk=>hk.elim (λh=>af) (λh=>h.symm))
 have us:ah (λk=>k=g) i (i.setCell ⟨g,2,none⟩ j):=ah.r8 (X:=λk=>k=g) rfl _ _
 have B:ai i g 52 (bS s vl vp va):=(u1.block g h.blk.lt (λe=>(h.mY e).2.2.1 rfl)).trans h.blk
 refine⟨B.aR 2 _,h.low,?_,?_,?_,?_,h.zj,E,λA J=>?_⟩
 ·exact afl
 ·exact eE C us (λb hb e=>G KP)
 ·exact afm
 ·intro b hb;rw[t];exact h.ne b hb
 ·have D:ah (Qm base g vl vp va) W A:=AZ y J λk hk e=>by
   rcases e with e|e|e|e|e|e|e
   ·exact .inr (.inl e)
   ·exact .inr (.inr (.inr (.inl e.symm)))
   ·exact .inl e
   ·exact .inr (.inl e)
   ·exact .inr (.inr (.inl e))
   ·exact .inr (.inr (.inr (.inl (by rw[<- t];exact e))))
   ·exact Vw
  obtain⟨F,I⟩:=h.el A D;exact⟨F,H _ I⟩
theorem Tj(s:bA)(a:av)(base g:Nat)(w:World)(h:sD base g s w)(X:s.prom.length<=1000000)(L:base<=w.heap.size) :
 Calls prog 218 #[.pointer (some ⟨g,0,none⟩),cN a] w λe w'=>e=.returned (.tuple #[])/\sD base g ⟨s.life,s.list,ia s.prom a,s.ab⟩ w'/\Below base w w':=by
 obtain⟨vl,vp,va,c1,c2,h⟩:=h
 have y:=ai.new w 46 #[.int .i64 a.1,.int .u64 (a.2.1:Int),.int .u64 (a.2.2:Int)]
 have D:K w (w.alloc (.cells #[.int .i64 a.1,.int .u64 (a.2.1:Int),.int .u64 (a.2.2:Int)] 46)):=(K.rf w).al _
 go_enter func218,ntmps218
 go_upto_region 1 with (fail)
 have i:=h.st D
 generalize w.alloc _=t at *
 generalize w.heap.size=U at y⊢
 have q:=i.blk.cell
 have z:=i.blk.frozen
 have Y:=ae (an3 s.prom a U base vp c2 t i.p i.zk (λW u=>(i.el W (u.more λk e=>.inr (.inr (.inr (.inl e))))).2) y X)
 have B:=ae i
 have Q:=i.low
 clear h i y
 go_wp2_with fail
 refine Y.aa.mono ?_
 rintro e E⟨N,qY,rfl,M,I,V,j,J⟩
 have H:=gT.axM B.aa j M I V J
 have C:=λb hb=>(B.aa.mY (b:=b) hb)
 have F:ai E g 52 (bS s vl vp va):=B.aa.blk.grown j (λe=>(C g e.symm).2.2.1 rfl)
 have R:base<=t.heap.size:=bq L D.size
 have S:Below base w (E.setCell ⟨g,2,none⟩ N):=by
  have O:Below base w t:=D.mono L;have T:Below base t E:=(aN _ _).grown j R λk hk=>(C k hk).1
  exact (O.trans T).setCell Q _
 clear q z
 have q:=F.cell
 have z:=F.frozen
 have G:=ae H
 clear H M I j J F C
 obtain⟨A',Z,c',rfl⟩:∃A n c,N=.slice A n c:=by
  rcases G.aa.p.2 with ⟨h,_⟩|⟨g,cap,cur,h,_⟩
  ·exact⟨_,_,_,h⟩
  ·exact⟨_,_,_,h⟩
 go_wp2
 go_end0
 exact⟨rfl,⟨_,_,_,_,_,G.aa⟩,S⟩
structure En(base g gs gr:Nat)(s:bA)(r:Rec)(vl vp va vf ve:Value)(c1 c2:List (List Value))(w:World):Prop where
 st:gT base g s vl vp va c1 c2 w
 bs:ai w gs 228 #[.pointer (some ⟨g,0,none⟩)]
 br:ai w gr 190 (eH r vf ve)
 en:∀W,ah (λk=>k=g∨vl.ownBlock=some k∨vp.ownBlock=some k∨va.ownBlock=some k) w W->cR r.e (.agg (aA r.e vf ve)) W
 low:base<=w.heap.size
 sz:s.list.length<=900000/\s.prom.length<=900000/\s.ab.length<=900000
 sm:eD r.e
def Ll(base g:Nat)(s:bA)(o:Option bA)(w:World)(e:Ending)(w':World):Prop:=e=.returned (.bool o.isSome)/\sD base g (o.getD s) w'/\Below base w w'
theorem asI{base g C gr:Nat}{s:bA}{r:Rec}{vl vp va vf F:Value}{c1 c2:List (List Value)}(w:World)(h:En base g C gr s r vl vp va vf F c1 c2 w) :
 Calls prog 215 #[.pointer (some ⟨gr,0,none⟩),.pointer (some ⟨C,0,none⟩)] w λe w'=>Ll base g s (wO s r) w e w':=by
 have A:Hid (wO s r=if r.n<=s.life then none else some ⟨r.n,s.list,s.prom,s.ab⟩):=ae rfl
 generalize wO s r=R at *
 have D:=h.st.blk.cells
 have u:=h.bs.cells
 have y:=h.br.cells
 have H:=ae h
 have E:=h.st.low
 clear h
 go_enter func215,ntmps215
 go_upto_region 1 with (fail)
 refine sR [ag (.pointer (some ⟨gr,1,none⟩)),
  ag (.int .u64 (r.n:Int)),
  ag (.pointer (some ⟨g,0,none⟩)),
  ag (.pointer (some ⟨g,0,none⟩)),
  ag (.pointer (some ⟨g,0,none⟩)),
  ag (.int .u64 (s.life:Int)),
  ag (.bool (decide ((r.n:Int)<=(s.life:Int))))]
  [([],[]),([0],[(3,0)]),([],[]),([2],[(5,2)]),([3],[(6,3)]),([4],[(7,4)]),([1,5],[(4,1),(8,5)])] 15 rfl ak ak ak ?st1 ?Gg ?_
 case st1 =>
  simp only[aI]
  and_intros
  all_goals first|exact jN _|exact iQ _|exact mz|simp
 case Gg =>
  simp only[mS]
  and_intros
  all_goals try trivial
  all_goals
   intro V W i j
   try simp only[aI,aE,aF,ag]at j
   try simp[aL,aw,List.lookup,j,aE,aF,aS,execOp,ay,ag,aN,i,D,u,y,go_sem]
 intro V W i j
 have h9:=j 6 aj
 simp only[aE,aF,ag]at h9
 clear j
 simp only[bF,Act.put,cO,cM,cL,h9]
 have HW:=ae (H.aa.st.st i)
 have kb:Below base w W:=i.mono H.aa.low
 have G:=HW.aa.blk.cell
 have L:=HW.aa.blk.frozen
 have I:=(H.aa.bs.below i H.aa.bs.lt).cell
 have J:=(H.aa.br.below i H.aa.br.lt).cell
 clear D u y h9
 by_cases B:r.n<=s.life
 ·have t:decide ((r.n:Int)<=(s.life:Int))=true:=decide_eq_true af;have HQ:Hid (R=none):=ae (by rw[A.aa,if_pos B]);rw[t];exact afv
 ·have t:decide ((r.n:Int)<=(s.life:Int))=false:=decide_eq_false af;have HQ:Hid (R=some ⟨r.n,s.list,s.prom,s.ab⟩):=ae (by rw[A.aa,if_neg B]);rw[t];go_wp2;go_ret;exact⟨jL,by rw[HQ.aa];exact⟨_,_,_,_,_,HW.aa.avQ r.n⟩,kb.setCell E _⟩
theorem asJ{base g C gr:Nat}{s:bA}{r:Rec}{vl vp va vf F:Value}{c1 c2:List (List Value)}(w:World)(h:En base g C gr s r vl vp va vf F c1 c2 w) :
 Calls prog 221 #[.pointer (some ⟨C,0,none⟩),.pointer (some ⟨gr,0,none⟩)] w λe w'=>Ll base g s (wP s r) w e w':=by
 have HR:Hid (wP s r=if cA s.prom (fD r)then some ⟨s.life,s.list,ia s.prom (fD r),s.ab⟩else none):=ae rfl
 generalize wP s r=R at *
 have D:=h.st.blk.cells
 have t:=h.bs.cells
 have y:=h.br.cells
 have H:=ae h
 have u:=ae λW (i:K w W)=>JR s (fD r) _ W (h.st.st i).jr (by have:=h.sz;omega)
 clear h
 go_enter func221,ntmps221
 go_upto_region 1 with (fail)
 refine sR [ag (.pointer (some ⟨g,0,none⟩)),
  ag (.pointer (some ⟨g,0,none⟩)),
  ag (.agg (bS s vl vp va)),
  ag (.pointer (some ⟨gr,10,none⟩)),
  ag (cN (fD r)),
  ag (.bool (cA s.prom (fD r))),
  ag (.bool (!cA s.prom (fD r)))]
  [([],[]),([0],[(3,0)]),([1],[(4,1)]),([],[]),([3],[(6,3)]),([2,4],[(5,2),(7,4)]),([5],[(8,5)])] 14 rfl ak ak ak ?st1 ?Gg ?_
 case st1 =>
  simp only[aI]
  and_intros
  all_goals first|exact jN _|exact iQ _|exact mz|simp
 case Gg =>
  simp only[mS]
  and_intros
  all_goals try trivial
  all_goals
   intro V W i j
   try simp only[aI,aE,aF,ag]at j
   try simp[aL,aw,List.lookup,j,aE,aF,aS,execOp,ay,ag,aN,i,D,t,y,fD,go_sem]
  refine (u.aa W i).mono ?_
  rintro e L⟨rfl,k⟩
  exact⟨_,rfl,rfl,k⟩
 intro V W i j
 have h9:=j 6 aj
 simp only[aE,aF,ag]at h9
 clear j
 simp only[bF,Act.put,cO,cM,cL,h9]
 have HW:=ae (H.aa.st.st i)
 have kb:Below base w W:=i.mono H.aa.low
 have E:=ae (Tj s (fD r) base g W ⟨_,_,_,_,_,HW.aa⟩ (by have:=H.aa.sz;omega) (by have:=H.aa.low;have:=i.size;omega))
 have G:=(H.aa.bs.below i H.aa.bs.lt).cell
 have I:=(H.aa.br.below i H.aa.br.lt).cell
 clear D t y h9 u
 generalize J:cA s.prom (fD r)=B at *
 cases B
 ·have HQ:Hid (R=none):=ae fo;exact afv
 ·have HQ:Hid (R=some ⟨s.life,s.list,ia s.prom (fD r),s.ab⟩):=ae fo;go_wp2_with fail
  refine E.aa.mono ?_;rintro e M⟨rfl,A,hb⟩;have HS:=ae A;clear A;go_wp2;go_ret;exact⟨jL,O7,kb.trans hb⟩
section
variable {P:Program} {Q:Exit->Act->World->Prop}
def lG(h:List (List Nat×List (Nat×Nat)))(z:Nat):Nat->Nat->Bool
 | 0,_=>false
 | f+1,j=>match h[j]? with
  | none=>false
  | some y=>y.1.contains z||y.1.any (lG h z f)
theorem Ie{ops:Array Oper}{s:List (List Nat×List (Nat×Nat))}(G:qP ops s=true){L:Nat->Bool}(C:Lf ops L){z:Nat}:∀(f j:Nat),lG s z f j=true->L j=true->L z=true:=by
 intro f
 induction f with
 | zero=>intro j h _;cases h
 | succ f F =>
  intro j h B
  unfold lG at h
  cases hy:s[j]? with
  | none=>rw[hy]at h;cases h
  | some y =>
   rw[hy]at h;simp only[Bool.or_eq_true,List.contains_iff_mem,List.any_eq_true]at h;have E:=C.2 j B;have u:ops[j]?=some ops[j]:=by simp[E]
   have A:=List.all_eq_true.1 G (ops[j],j) (List.mem_zipIdx_iff_getElem?.2 (by rw[Array.getElem?_toList];exact u));simp only[hy,cz]at A;have D:∀i∈y.1,L i=true:=λi t=>C.1 j _ u B i (by simpa using List.all_eq_true.1 A.1.1 i t)
   rcases h with h|⟨i,t,h⟩
   ·exact D z h
   ·exact F i h (D i t)
theorem acE{ρ:Operand->Value}{w:World}(s x:Operand)(t ty e:TypeId)(base:Nat)(z:Value)(size bytes:Nat)(T:gJ P t e z size bytes)(v:Value)(n:Nat)(xs:List Value)(L:ρ s=v)(G:w.ownsRow base e size v n xs)
 (B:Nat) (A:Option Addr) (m c:Nat) (i:List Value) (j:ρ x=.slice A m c) (F:Reads w B size A m i) (C:∀u∈i,u.oneCell'=true)
 (D:(n+m)*(bytes+1)<=140737488355328) (I:base<=w.heap.size) :
 ∃h w',(execOp ρ (ay (.call { callee:=.builtin .append,args:=#[s,x],argTypes:=#[t,t] }) ty)).run P w=.ok (.value h) w'/\w'.ownsRow base e size h (n+m) (xs++i)/\Below base w w'/\w.grownBy w' v.ownBlock:=by
 obtain⟨h,w',H,E,J,M,y⟩:=Bb w base t ty e z size bytes T v n xs G B A m c i F C D I
 refine⟨h,w',?_,E,y,J⟩
 simp only[execOp,ay,resolve,invoke,builtin,Sem.run_bind,Sem.run_pure,Result.andThen_ok,List.map_toArray,j9,List.map_nil,L,j,H]
end
section
variable {P:Program} {Q:Exit->Act->World->Prop}
theorem nZ.X4{ops:Array Oper}{a0:Act}{C y u:World->Prop}{Le:World->World->Prop}{t:List (Value->World->Prop)}{z:Nat}(A:List (List Nat×List (Nat×Nat)))(U:qP ops A=true)
 (hg:∀W i,C W->Below W.heap.size W i->C i) (M:∀W i,y W->Below W.heap.size W i->y i) (O:∀W i,u W->Below W.heap.size W i->u i)
 (st:∀f∈t,∀v w w',f v w->Below w.heap.size w w'->f v w') (st2:∀j,j≠z->lG A z A.length j=false->∀v w w',tab t j v w->Le w w'->tab t j v w') :
 ∀(l:List Oper) (k:Nat) (B:List (List Nat×List (Nat×Nat))),nZ P a0 C y u Le (tab t) z k l B->Fq P ops a0 (DJ C y u t z) k l B:=by
 intro l
 induction l with
 | nil=>intro k B _;exact trivial
 | cons o r T =>
  intro k B h
  cases B with
  | nil=>exact False.elim h
  | cons x xs =>
   refine⟨?_,T _ _ h.2⟩;intro L V w H N I ⟨E,s,hp⟩;by_cases G:k=z
   ·subst G;have ob:=h.1;rw[if_pos rfl]at ob;obtain⟨Q,ob⟩:=ob;rw[H]at s;simp only[Bool.false_eq_true,if_false]at s;have ob:=ob V w E s λj hj=>hp j (I j hj)
    have next:∀v w',tab t k v w'->C w'->u w'->Le w w'->DJ C y u t k (dw L k) (bj V k v) w':=by
     intro v w' hv D F hb;have R:dw L k k=true:=by simp[dw]
     refine⟨D,by rw[if_pos R];exact F,λj hj=>?_⟩;unfold bj;by_cases hjk:j=k
     ·subst hjk;simpa using hv
     ·rw[if_neg hjk];have J:=(yO hj).resolve_left hjk;refine st2 j hjk ?_ _ _ _ (hp j J) hb;cases hf:lG A k A.length j with
      | false=>rfl
      | true=>rw[Ie U N _ _ hf J]at H;cases H
    rw[Q,if_pos (show aL V none=true from rfl)];generalize (execOp (aw x.2 a0 V) (ay o.op o.type)).run P w=q at *;cases q with
    | ok n w' =>
     cases n <;> simp only[Qi]at ob <;> simp only[mm]
     case value v=>exact next _ _ ob.1 ob.2.1 ob.2.2.1 ob.2.2.2
     case skip=>exact next _ _ ob.1 ob.2.1 ob.2.2.1 ob.2.2.2
     case enter f args => refine ob.mono ?_;rintro e w''⟨v,rfl,hv,D,F,hb⟩;exact⟨v,rfl,next _ _ hv D F hb⟩
    | halt x w'=>simp only[Qi]at ob
   ·have ob:=h.1;rw[if_neg G]at ob;have ob:=ob V w E λj hj=>hp j (I j hj)
    have next:∀v w',tab t k v w'->Below w.heap.size w w'->DJ C y u t z (dw L k) (bj V k v) w':=by
     intro v w' hv hb;have S:dw L k z=L z:=by simp[dw,Ne.symm G]
     refine⟨hg _ _ E hb,?_,λj hj=>?_⟩
     ·rw[S];by_cases hz:L z=true
      ·rw[if_pos hz]at s⊢;exact O _ _ s hb
      ·rw[if_neg hz]at s⊢;exact M _ _ s hb
     ·exact aeh
    exact aei
theorem S5{id:Nat}{ops:Array Oper}{y:Act}{w:World}(z:Nat)(C u t:World->Prop)(Le:World->World->Prop)(l:List (Value->World->Prop))(i:List (List Nat×List (Nat×Nat)))
 (n:Nat) (hn:y.tmps.size=n) (hm:P.follows .mixedOrders=true) (D:o8 ops n=true) (A:qP ops i=true) (hz:z<ops.size)
 (hg:∀W s,C W->Below W.heap.size W s->C s) (H:∀W s,u W->Below W.heap.size W s->u s) (B:∀W s,t W->Below W.heap.size W s->t s) (G:C w.drew) (hD:u w.drew)
 (st:∀f∈l,∀v w w',f v w->Below w.heap.size w w'->f v w') (st2:∀x∈l.zipIdx,(x.2==z||lG i z i.length x.2)=true∨∀v w w',x.1 v w->Le w w'->x.1 v w')
 (E:nZ P y C u t Le (tab l) z 0 ops.toList i)
 (fin:∀(V:Nat->Value) (w:World),C w->t w->(∀j,j<ops.size->tab l j (V j) w)->Q .normal (bF V ops.toList 0 y) w) :
 (Code.region id ops true).wp P Q y w:=by
 have F:∀j,j≠z->lG i z i.length j=false->∀v w w',tab l j v w->Le w w'->tab l j v w':=by exact VA
 exact EO (DJ C u t l z) n hn hm D ⟨G,O8,λ_ h=>vR⟩ (Oo i A (nZ.X4 i A hg H B st F _ _ _ E)) λV w h=>fin V w h.1 (by have:=h.2.1;simpa [hz]using this) λj hj=>h.2.2 j vT
end
