/-
  A broker in memory, and what its calls do to it (layer 20). Conditions: none.
-/
import Derived.Test.YtfndfpdhlbmboaaGreatMd12
import Derived.Deep.RegionLaw
import Derived.Lib.SlicesDelete
import Derived.Test.YtfndfpdhlbmboaaGreatMdz
set_option maxRecDepth 100000
set_option linter.constructorNameAsVariable false
set_option maxHeartbeats 16000000
set_option linter.unusedVariables false
set_option linter.unusedSimpArgs false
namespace Go.Proofs.YtfndfpdhlbmboaaGreat
open Go Go.RowKit _root_.Go.Proofs.Tryz
structure nU where
 g:Nat
 gl:Nat
 gd:Nat
 gr:Nat
 gt:Nat
 vd:Value
 vr:Value
 vp:Value
 vh:Value
 vl:Value
 vq:Value
 va:Value
 vt:Value
 vf:Value
 vw:Value
 kr:List (Int×Value)
abbrev G4(p:nU)(B:aZ):Array Value:=#[.int .i64 B.me,p.vp,p.vh,.pointer (some ⟨p.gl,0,none⟩),.int .u64 (B.st.life:Int),p.vl,p.vq,p.va,p.vt,.int .u64 (B.calls:Int),.map (some p.gr),p.vf,.map (some p.gt),p.vw]
def bw(p:nU)(k:Nat):Prop:=k=p.g∨k=p.gr∨k=p.gt∨kQ p.gl p.gd p.vd p.vr k
def Cv(l:List (Int×fH))(ak:List (Int×Value))(W:World):Prop:=ak.length=l.length/\∀i (h:i<ak.length) (h':i<l.length),ak[i].1=l[i].1/\mj l[i].2 ak[i].2 W
def pO(l:List aS):List (aS×Value):=l.zipIdx.map λp=>(p.1,.int .i64 (p.2:Int))
structure ZK(p:nU)(B:aZ)(W:World):Prop where
 par:aq cQ B.par p.vp W
 ah:aq cQ B.ah p.vh W
 list:aq aV B.st.list p.vl W
 prom:aq aV B.st.prom p.vq W
 ab:aq cd B.st.ab p.va W
 aC:aq df B.aC p.vt W
 fD:aq cd B.refused p.vf W
 waits:aq aV B.waits p.vw W
 bO:Cv B.bO p.kr W
structure bB(M:Nat->Prop)(p:nU)(B:aZ)(w:World):Prop where
 blk:ai w p.g 162 (G4 p B)
 lg:Sw p.gl p.gd p.vd p.vr B.dk w
 rep:eC encI w p.gr p.kr
 xb:eC mD w p.gt (pO B.told)
 bK:Fx M (ZK p B) w
 sub:∀k,bw p k->M k
 low:∀k,M k->k<w.heap.size
 ne:p.gr≠p.gt
section
variable {M M' X:Nat->Prop} {p p':nU} {B B':aZ} {w w' w'':World}
theorem bB.st(h:bB M p B w)(k:K w w'):bB M p B w' :=
 ⟨h.blk.ay k,h.lg.st k,h.rep.st k,h.xb.st k,h.bK.k k,h.sub,λb hb=>bz (h.low b hb) k.size,h.ne⟩
theorem eC.akl{gl gd vd vr d α}[DecidableEq α]{enc b}{ak:List (α×Value)}(h:eC enc w b ak)(l:Sw gl gd vd vr d w):¬kQ gl gd vd vr b:=λhk=>by
 obtain⟨n,xs,hn,j⟩:=l.row;rcases hk with rfl|hk|rfl|hk
 ·exact h.cells l.blk
 ·obtain⟨cur,hb⟩:=mq j hk;exact h.cells hb
 ·exact h.cells l.dk.blk
 ·obtain⟨cur,hb⟩:=mq l.dk.own hk;exact h.cells hb
theorem bB.apart(h:bB M p B w):p.g≠p.gr/\p.g≠p.gt/\¬kQ p.gl p.gd p.vd p.vr p.g/\¬kQ p.gl p.gd p.vd p.vr p.gr/\¬kQ p.gl p.gd p.vd p.vr p.gt:=by
 refine⟨λe=>h.rep.cells (e▸h.blk),λe=>h.xb.cells (e▸h.blk),λhk=>?_,h.rep.akl h.lg,h.xb.akl h.lg⟩;obtain⟨n,xs,hn,j⟩:=h.lg.row;rcases hk with e|hk|e|hk
 ·exact absurd (h.blk.ie (e▸h.lg.blk)) ax
 ·obtain⟨cur,hb⟩:=mq j hk;exact absurd (h.blk.ie hb) ax
 ·exact absurd (h.blk.ie (e▸h.lg.dk.blk)) ax
 ·obtain⟨cur,hb⟩:=mq h.lg.dk.own hk;exact absurd (h.blk.ie hb) ax
theorem bB.far(h:bB M p B w)(u:ag X w w')(t:∀k,X k->M k)(hn:∀k,X k->¬bw p k)(y:∀k,k<w.heap.size->M' k->M k)(A:∀k,bw p k->M' k)(C:∀k,M' k->k<w'.heap.size):bB M' p B w' :=
 ⟨h.blk.aW u λj=>hn _ j (.inl rfl),h.lg.aW u λk hk j=>hn k j (.inr (.inr (.inr hk))),h.rep.aW u λj=>hn _ j (.inr (.inl rfl)),h.xb.aW u λj=>hn _ j (.inr (.inr (.inl rfl))),h.bK.to u t y,A,C,h.ne⟩
theorem bB.cell(h:bB M p B w) i v(hb:ai (w.setCell ⟨p.g,i,none⟩ v) p.g 162 (G4 p' B'))
 (hp:p'.g=p.g/\p'.gl=p.gl/\p'.gd=p.gd/\p'.gr=p.gr/\p'.gt=p.gt/\p'.vd=p.vd/\p'.vr=p.vr/\p'.kr=p.kr) (I:B'.dk=B.dk/\B'.told=B.told)
 (D:∀W,ag M w W->ZK p B W->ZK p' B' W):bB M p' B' (w.setCell ⟨p.g,i,none⟩ v):=by
 obtain⟨R,E,C,j,A,J,L,F⟩:=hp
 obtain⟨H,G⟩:=I
 obtain⟨Q,N,O,S,T⟩:=h.apart
 have u:ag (λk=>k=p.g) w (w.setCell ⟨p.g,i,none⟩ v):=ag.bM (X:=λk=>k=p.g) rfl i v
 have y:=u.more λk hk=>h.sub k (.inl hk)
 refine⟨aA,?_,?_,?_,λW t=>D W (y.tr t) (h.bK W (y.tr t)),λk hk=>h.sub k ?_,λk hk=>by simpa using h.low k hk,by rw[j,A];exact h.ne⟩
 ·rw[E,C,J,L,H];exact h.lg.aW u λk hk e=>O (e▸hk)
 ·rw[j,F];exact h.rep.aW u λe=>Q e.symm
 ·rw[A,G];exact h.xb.aW u λe=>N e.symm
 ·grind [bw]
def nU.key(p:nU):Nat×Nat:=(p.g,p.gd)
theorem kg{p:nU}{a b}(h:p.key=(a,b)):p.g=a:=congrArg Prod.fst h
theorem Bv{p p':nU}(h:p'.key=p.key):p'.g=p.g:=congrArg Prod.fst h
def dK(M:Nat->Prop)(p:nU)(B':aZ)(w w':World):Prop :=
 ∃p',bB (λk=>M k∨bw p' k) p' B' w'/\ag (bw p) w w'/\p'.key=p.key/\∀k,bw p' k->bw p k∨w.heap.size<=k
theorem bB.less(h:bB M p B w)(t:∀k,bw p k->M' k)(j:∀k,M' k->M k):bB M' p B w:=⟨h.blk,h.lg,h.rep,h.xb,h.bK.less j,t,λk hk=>h.low k (j k hk),h.ne⟩
theorem bB.now(h:bB M p B w)(hg:p'.key=p.key)(j:∀k,bw p k->bw p' k∨w'.heap.size<=k)(u:ag (bw p') w' w):dK M p' B w' w :=
 ⟨p,h.less (λk hk=>.inr hk) (λk hk=>hk.elim id (h.sub k)),u,hg.symm,j⟩
theorem bB.n(h:bB M p B w)(k:K w w'):dK M p B w w' :=
 (h.st k).now rfl (λ_ h=>.inl h) (ag.aT k _)
theorem dK.tr{j p1}(u:ag (bw p) w w')(hg:p1.key=p.key)(A:∀k,bw p1 k->bw p k∨w.heap.size<=k)(B:∀k,M k->j k)(h:dK j p1 B' w' w''):dK M p B' w w'':=by
 obtain⟨p2,E,C,t,D⟩:=h;refine⟨p2,E.less (λk hk=>.inr hk) (λk hk=>hk.imp (B k) id),u.gF C λk hk y=>(A k y).resolve_right af,t.trans hg,λk hk=>?_⟩;rcases D k hk with a|a
 ·grind
 ·exact .inr (bn u.size a)
theorem dK.k(h:dK M p B' w w')(k:K w' w''):dK M p B' w w'':=by obtain⟨p2,y,t,j,u⟩:=h;exact⟨p2,y.st k,t.tr (ag.aT k _),j,u⟩
theorem dK.zD{w0}(h:dK M p B' w w')(k:K w0 w)(C:∀j,bw p j->j<w0.heap.size):dK M p B' w0 w':=by obtain⟨p2,B,y,t,A⟩:=h;exact⟨p2,B,(ag.aT k _).tr y,t,λj u=>(A j u).imp id λa=>bn k.size a⟩
end
theorem avX W:Cv [] [] W:=⟨rfl,λi h=>xy⟩
theorem bB.q{M p B w}(h:bB M p B w):∀W,K w W->∀i,W.cell? ⟨p.g,i,none⟩=(G4 p B)[i]?:=h.blk.cells
section
variable {P:Program} {a0:Act}
theorem atW{t} ρ ty W:∃v W',(execOp ρ (aG (.makeMap t none) ty)).run P W=.ok (.value v) W'/\∀b,Bd v=some b->W.heap.size<=b/\b<W'.heap.size :=
 ⟨.map (some W.heap.size),W.alloc (.map #[] 0),by simp[execOp,aG,Instr.makeMap,go_sem],λb hb=>by cases hb;simp⟩
theorem Vq l{s u t e z bytes}(T:fY P t e z 1 bytes){w ρ ty}(I:l.length*(bytes+1)<=140737488355328)(E:ρ s=.slice none 0 0)(y:aq cQ l (ρ u) w) :
 ∃v w',(execOp ρ (aG (.call { callee:=.builtin .append,args:=#[s,u],argTypes:=#[t,t] }) ty)).run P w=.ok (.value v) w'/\(∀b,Bd v=some b->w.heap.size<=b/\b<w'.heap.size)/\aB (λk=>k<w.heap.size) w.heap.size e cQ l v w'/\K w w':=by
 obtain⟨A,c,y,⟨css,B,C⟩,-⟩:=y
 have H:=OS B
 obtain⟨v',w',F,j,J,G,h6⟩:=FR (P:=P) w w.heap.size t ty e z 1 bytes T (.slice none 0 0) 0 [] (kU _ _ _ _) _ A l.length c css.flatten C B.ones aA (aD _)
 simp only[mQ,aO]at j
 refine⟨v',w',?_,λb hb=>?_,⟨css,j,aA,λW u=>fP⟩,h6⟩
 ·simp only[execOp,aG,resolve,invoke,builtin,Sem.run_bind,Sem.run_pure,Result.andThen_ok,List.map_toArray,jR,List.map_nil,E,y,F]
 ·have D:v'.ownBlock=some b:=by cases v' <;> first|exact hb|(rcases j.2 with ⟨h,-⟩|⟨_,_,_,h,-⟩ <;> cases h)
  exact j.lt b D
theorem au.ints{R:World->Prop}{Z:World->World->Prop}{A:List Nat}{D:List Oper->List (List Nat×List (Nat×Nat))->List (Value->World->Prop)->Prop}{m:Nat}{o:Oper}{r:List Oper}{x:List Nat×List (Nat×Nat)}{xs:List (List Nat×List (Nat×Nat))}{t:List (Value->World->Prop)}(y:Nat)(l:List Int){s u:Operand}{B e:TypeId}{z:Value}{bytes:Nat}(T:fY P B e z 1 bytes)
 (H:l.length*(bytes+1)<=140737488355328) (E:∀W,R W->y<=W.heap.size)
 (h:∀(V:Nat->Value) (w:World),R w->(∀j∈x.1,tab t j (V j) w)->aF x.2 a0 V s=.slice none 0 0/\aq cQ l (aF x.2 a0 V u) w)
 (k:au P a0 R Z A D m r xs (t++[λv W=>aB (λk=>k<y) y e cQ l v W])) (M:o.op=.call { callee:=.builtin .append,args:=#[s,u],argTypes:=#[B,B] }:=by rfl) (hg:o.guard=none:=by rfl) (I:∀v w w',aB (λk=>k<y) y e cQ l v w->Z w w'->aB (λk=>k<y) y e cQ l v w':=by exact λ_ _ _ h k=>h.st k) (J:A.contains t.length=false:=by (simp only[dx,fg,List.length_nil,List.contains_nil];try rfl)):au P a0 R Z A D (m+1) (o :: r) (x :: xs) t:=by
 refine au.op _ I (λV w C hp=>?_) k J
 obtain⟨O,F⟩:=h V w C hp
 obtain⟨v,w',Q,-,⟨css,G,N,L⟩,h6⟩:=Vq l T (ty:=o.type) H O F
 rw[hg,if_pos (show bR V none=true from rfl),M,Q]
 exact⟨⟨css,mN (E w C) G,N,λW u=>by rw[OS (L w' (ag.rf _ _))];exact FG _ _⟩,h6⟩
end
theorem ac1 p n v g w(j:∃A c,v=.slice A p.length c)(hg:ai w g 23 #[v])(hn:p.length<=1000000) :
 Calls prog 136 #[.int .i64 n,.pointer (some ⟨g,0,none⟩)] w λe w'=>e=.returned (.bool (fA p n))/\K w w':=by
 obtain⟨A,c,rfl⟩:=j
 have q:=hg.cell
 have kk:=K.rf w
 have HC:Hid (fA p n=(decide (0<=n)&&decide (n<(p.length:Int)))):=ae rfl
 generalize fA p n=R at *
 go_enter func136,ntmps136
 by_cases h0:0<=n
 ·by_cases h1:n<(p.length:Int)
  ·have HR:Hid (R=true):=ae Wh;exact yE
  ·have HR:Hid (R=false):=ae Wh;exact yE
 ·have HR:Hid (R=false):=ae agp;exact yE
def oV(me:Int)(p ah:List Int)(d:pC)(s:dA):aZ:=⟨me,p,ah,s,[],0,[],[],[],[],d⟩
theorem avY p ah me y Y C w(G:aq cQ p y w)(h2:aq cQ ah Y w)(dq:p.length<=1000000)(kJ:ah.length<=1000000)(F:C=.pointer none∨∃gd,C=.pointer (some ⟨gd,0,none⟩))
 (t:fk p=false∨fA p me=false∨C=.pointer none∨jt p ah=false) :
 Calls prog 86 #[.int .i64 me,y,Y,C] w λe w'=>e=.returned (.tuple #[.pointer none,.int .i64 (if fk p then 1 else 120)])/\K w w':=by
 have V:Hid ((if fk p then (1:Int)else 120)=if fk p then (1:Int)else 120):=ae rfl
 have E:Hid (xE p=if fk p then 0 else 120):=ae rfl
 have C1:=ae λW (k:K w W)=>KD p y W (bo G k) dq
 have hb:=ai.new w 23 #[y]
 have k1:=hb.aU
 have U:=av G
 have S:=ae λn g W hg=>ac1 p n y g W U hg dq
 obtain⟨A1,c1,rfl⟩:=U
 obtain⟨A2,c2,rfl,Z,-⟩:=h2
 have u:=ae Z
 generalize X:(if fk p then (1:Int)else 120)=R at V⊢
 have HR:=ae X
 generalize xE p=T at *
 clear G Z X
 go_enter func86,ntmps86
 go_upto_region 1 with (fail)
 generalize w.alloc _=w1 at *
 generalize w.heap.size=g at hb⊢
 have q:=hb.cell
 go_wp2_with fail
 apply aM (C1.aa w1 k1)
 intro w2 I
 replace hb:=hb.ay I
 replace k1:=k1.tr I
 clear q I
 cases ht:fk p
 ·have HQ:Hid (R=120):=ae agV;obtain rfl:T=120:=by rw[E.aa,ht];rfl
  clear ht t F;exact Ls
 have HQ:Hid (R=1):=ae agV
 obtain rfl:T=0:=by rw[E.aa,ht];rfl
 rw[ht]at t
 replace t:=t.resolve_left ax
 have A:=ae t
 have D:=ae F
 clear ht t F E HR V C1
 go_wp2_with fail
 apply aM (S.aa _ g w2 hb)
 intro Q L
 replace hb:=hb.ay L
 replace k1:=k1.tr L
 clear L
 cases hm:fA p me
 ·clear A D u;exact Ls
 rcases D.aa with rfl|⟨gd,rfl⟩
 ·clear A D u;exact Ls
 have N:=ae (by
  have:=A.aa;rw[hm]at this;exact (this.resolve_left ax).resolve_left aj)
 clear A D hm
 by_cases h3:ah.length<1
 ·have h3':(ah.length:Int)<1:=af;clear u;exact Ls
 have h3':¬(ah.length:Int)<1:=af
 by_cases h4:32<ah.length
 ·have h4':32<(ah.length:Int):=af;clear u;exact Ls
 have h4':¬32<(ah.length:Int):=af
 obtain⟨b,off,rfl,hcell⟩:=ints_at u.aa af
 have wW:=ae hcell
 have hh:Hid (¬ ∀k (h:k<ah.length),fA p ah[k]=true):=ae λh=>by
  have:=N.aa;rw[show jt p ah=true by
   simp only[jt,dC,decide_eq_true_eq,xC];exact⟨⟨af,af⟩,λx B=>by obtain⟨k,hk,rfl⟩:=List.mem_iff_getElem.1 B;exact h k hk⟩]at this
  cases this
 clear hcell u N
 go_wp2_with fail
 have O:=K.rf Q
 go_loopw [13,43,44,45,46,47,48,49,50] (fun _ i _ _ _ _ _ _ _ W=>∃j:Nat,j<=ah.length/\i=.int .i64 j/\Hid (∀k (h:k<ah.length),k<j->fA p ah[k]=true)/\K Q W) (fun _ i _ _ _ _ _ _ _ _=>ah.length-(intOf i).toNat)
 case atStart=>exact⟨0,af,rfl,ae λk _ h=>af,O⟩
 case round =>
  clear O;obtain⟨j,hj,rfl,H,kr⟩:=hrel;by_cases hlt:j<ah.length
  ·have aP:(j:Int)<ah.length:=af;have cj:=wW.aa wr (k1.tr kr) j hlt;have J:Hid (fA p ah[j]=true->∀k (h:k<ah.length),k<j+1->fA p ah[k]=true):=ae λh k hk hkj=>by
    by_cases e:k=j
    ·subst e;exact h
    ·exact H.aa k hk af
   generalize ah[j]=x at *;have pD:=hb.ay kr;go_wp2_with fail
   apply aM (S.aa _ g wr pD);intro w4 M;have kf:=k1.tr (kr.tr M);cases B:fA p x
   ·clear J H;go_wp2;go_ret2;exact⟨nW,kf⟩
   have wX:=ae (J.aa B);have gG:=kr.tr M;clear B J cj;go_wp2;go_roundw
   case rel=>exact⟨j+1,af,bI,wX,gG⟩
   case measure=>simp[intOf];omega
  ·exact absurd (λk h=>H.aa k h af) hh.aa
theorem kO.zD{gd vh j w0 w w'}(h:kO gd vh j w w')(k:K w0 w)(_:∀b,lP gd vh b->b<w0.heap.size):kO gd vh j w0 w':=⟨(ag.aT k _).tr h.up,λb hb=>(h.new b hb).imp id λa=>bn k.size a⟩
structure YI(gd:Nat)(vh:Value)(B:aZ)(w:World)(e:Ending)(w':World)(q:nU):Prop where
 ret:e=.returned (.tuple #[.pointer (some ⟨q.g,0,none⟩),.int .i64 0])
 dd:q.gd=gd
 br:bB (λk=>k<w.heap.size∨bw q k) q B w'
 up:ag (lP gd vh) w w'
 new:∀k,bw q k->lP gd vh k∨w.heap.size<=k
 g:w.heap.size<=q.g
def akm(gd:Nat)(vh:Value)(d:pC)(w:World)(e:Ending)(w':World):Prop:=∃j,e=.returned (.tuple #[.pointer none,.int .i64 90])/\JP gd j d w'/\kO gd vh j w w'
def D8(gd:Nat)(vh:Value)(d:pC)(s:dA)(me:Int)(p ah:List Int)(w:World)(e:Ending)(w':World):Prop :=
 if ir (cM (bP s))<=d.room then ∃q,YI gd vh (oV me p ah ⟨cM (bP s),d.room⟩ (bP s)) w e w' q else akm gd vh d w e w'
theorem Lt{M e base l v w Y}(h:aB Y base e cQ l v w)(y:∀b,v.ownBlock=some b->¬M b):Fx M (λW=>aq cQ l v W) w:=λW u=>by obtain⟨css,A,B,t⟩:=h;have j:=OS (t w (ag.rf _ _));exact Pa (i6 A u y) (by rw[j];exact FG _ _)
theorem KE{P t kt j}(u:P.underlying t=some (.map kt j)) W:(Instr.makeMap t none).run P W=.ok (.map (some W.heap.size)) (W.alloc (.map #[] 0)):=by simp[Instr.makeMap,run_underlying u,go_sem]
theorem acs gd vh d s p ah me S v2 w(h:JP gd vh d w)(hG:gS d s)(hA:Gr (d.eZ.map bL))(hl:s.life+1<18446744073709551616)(I:Fx (lP gd vh) (λW=>aq cQ p S W) w)(L:Fx (lP gd vh) (λW=>aq cQ ah v2 W) w)
 (ht:fk p=true) (hm:fA p me=true) (hh:jt p ah=true) :
 Calls prog 86 #[.int .i64 me,S,v2,.pointer (some ⟨gd,0,none⟩)] w (D8 gd vh d s me p ah w):=by
 have dq:p.length<=1000000:=Ws
 obtain⟨⟨kJ,wO⟩,hall⟩:(1<=ah.length/\ah.length<=32)/\∀x∈ah,fA p x=true:=by simpa only[jt,dC,decide_eq_true_eq,xC]using hh
 have zC:Hid (∀e w' q,ir (cM (bP s))<=d.room->YI gd vh (oV me p ah ⟨cM (bP s),d.room⟩ (bP s)) w e w' q->D8 gd vh d s me p ah w e w'):=ae λe w' q c h=>by unfold D8;rw[if_pos c];exact⟨q,h⟩
 have Bt:Hid (∀e w',¬ir (cM (bP s))<=d.room->akm gd vh d w e w'->D8 gd vh d s me p ah w e w'):=ae λe w' c h=>by unfold D8;rw[if_neg c];exact h
 have HB:Hid (∀W e w',D7 gd vh d s W e w'->if ir (cM (bP s))<=d.room then ∃gl E vr vl vp va,YE gd vh ⟨cM (bP s),d.room⟩ (bP s) W e w' gl E vr vl vp va else YF gd vh d W e w'):=ae λW e w' h=>h
 have C3:=ae λW (k:K w W)=>apf gd vh d s W (h.st k) hG hA hl
 generalize ir (cM (bP s))=DL at *
 generalize hd':(⟨cM (bP s),d.room⟩:pC)=d' at *
 generalize hs':bP s=y at *
 generalize D8 gd vh d s me p ah w=Post at *
 generalize hBP:D7 gd vh d s=BP at *
 have HDX:=ae h.lt
 have H1:=ae I
 have H2:=ae L
 clear hd' hs' hBP hG hl hh h
 have HTT:xE p=0:=by unfold xE;rw[if_pos ht]
 have C1:=ae λW (k:K w W)=>KD p S W (I.at k) dq
 rw[HTT]at C1
 have hb:=ai.new w 23 #[S]
 have G:=hb.aU
 have hs:=av I.now
 have C2:=ae λn g W hg=>ac1 p n S g W hs hg dq
 obtain⟨A1,c1,rfl⟩:=hs
 obtain⟨A2,c2,rfl,ew,-⟩:=L.now
 have vC:=ae ew
 clear I L ew HTT ht
 go_enter func86,ntmps86
 go_upto_region 1 with (fail)
 generalize w.alloc _=w1 at *
 generalize hg0:w.heap.size=g at hb⊢
 have SE:=ae hg0
 clear hg0
 have q:=hb.cell
 go_wp2_with fail
 apply aM (C1.aa w1 G)
 intro w2 k2
 replace hb:=hb.ay k2
 replace G:=G.tr k2
 clear q k2 C1
 go_wp2_with fail
 apply aM (C2.aa _ g w2 hb)
 intro w3 k3
 replace hb:=hb.ay k3
 replace G:=G.tr k3
 clear k3
 rw[hm]
 have h3':¬(ah.length:Int)<1:=af
 have h4':¬32<(ah.length:Int):=af
 obtain⟨b,off,rfl,hcell⟩:=ints_at vC.aa af
 have wW:=ae hcell
 have Rq:Hid (∀k (h:k<ah.length),fA p ah[k]=true):=ae λk hk=>hall _ (bZ hk)
 clear hcell vC hall hm
 go_wp2_with fail
 have kk:=K.rf w3
 go_loopw [13,43,44,45,46,47,48,49,50] (fun _ i _ _ _ _ _ _ _ W=>∃j:Nat,j<=ah.length/\i=.int .i64 j/\K w3 W) (fun _ i _ _ _ _ _ _ _ _=>ah.length-(intOf i).toNat)
 case atStart=>exact⟨0,af,rfl,kk⟩
 case round =>
  clear kk;obtain⟨j,hj,rfl,kr⟩:=hrel;by_cases hlt:j<ah.length
  ·have aP:(j:Int)<ah.length:=af;have cj:=wW.aa wr (G.tr kr) j hlt;have t:=Rq.aa j hlt;generalize ah[j]=x at *;have pD:=hb.ay kr;go_wp2_with fail
   apply aM (C2.aa _ g wr pD);intro w4 k4;rw[t];have gG:=kr.tr k4;clear t cj;go_wp2;go_roundw
   case rel=>exact⟨j+1,af,bI,gG⟩
   case measure=>simp[intOf];omega
  ·have aP:¬(j:Int)<ah.length:=af;have kr:=G.tr kr;have hb:=hb.ay af;clear hlt hj G Rq wW C2;go_wp2_with fail
   refine (C3.aa wr kr).mono ?_;intro e J R;replace R:=HB.aa _ _ _ R;have Y:=ae kr;have ZM:=ae hb;clear HB C3 hb kr;by_cases hfit:DL<=d.room
   ·rw[if_pos hfit]at R;obtain⟨gl,E,vr,vl,vp,va,⟨rfl,SC,D,G6,je,fL⟩⟩:=R;have y4:=ae hfit;have il:=ZM.aa.aW G6 λt=>by have:=HDX.aa _ t;have:=SE.aa;omega
    obtain⟨⟨Al,cl,rfl⟩,⟨Ap,cp,rfl⟩,Aa,ca,rfl⟩:(∃A c,vl=.slice A y.list.length c)/\(∃A c,vp=.slice A y.prom.length c)/\∃A c,va=.slice A y.ab.length c:=⟨av D.now.1,av D.now.2.1,av D.now.2.2⟩;have B:=ai.new J 46 mi;have Z:=B.cell;have z7:=B.frozen;have HLG:=ae SC;have HST:=ae D;have Di:=ae G6;have y5:=ae je;have Ni:=ae fL;clear SC D G6 je fL hfit;go_upto_region 14 with (fail);clear Z z7 B;have B:=ai.new J 46 (cP y (.slice Al y.list.length cl) (.slice Ap y.prom.length cp) (.slice Aa y.ab.length ca));have C:=B.aU;generalize J.alloc _=F at *;generalize J.heap.size=g7 at B⊢;have jH:=il.ay C;have q6:=jH.cells;have Z:=B.cells;have JR:Hid (∀W,K F W->aq cQ p (.slice A1 p.length c1) W):=ae λW k=>H1.aa W ((ag.aT Y.aa _).tr (Di.aa.tr (ag.aT (C.tr k) _)))
    have vC:Hid (∀W,K F W->aq cQ ah (.slice (some ⟨b,off,none⟩) ah.length c2) W):=ae λW k=>H2.aa W ((ag.aT Y.aa _).tr (Di.aa.tr (ag.aT (C.tr k) _)))
    clear il jH B;go_upto_region 16 with (fail);have qs:=And.intro q6 Z;refine abD 9 [7,8] [([],[]),([],[]),([1],[(62,1)]),([],[]),([3],[(64,3)]),([],[]),([],[]),([],[]),([],[]),([0,2,4,5,6,7,8],[(61,0),(63,2),(65,4),(66,5),(67,6),(68,7),(69,8)]),([9],[(70,9)]),([0,1,2,3,4,5,6,7,8,9,10],[(71,10)]),([0,1,2,3,4,5,6,7,8,9,10,11],[])] 72 ?_;iterate 2 refine au.i ?_
    refine au.ints F.heap.size p De af (λ_ k=>k.size) (λV W kW hp=>?_) ?_
    ·exact agW
    refine au.i ?_;refine au.ints F.heap.size ah De af (λ_ k=>k.size) (λV W kW hp=>?_) ?_
    ·exact agX
    iterate 2 refine au.i ?_
    refine au.op (λv W=>∃b,v=.map (some b)/\F.heap.size<=b/\eC encI W b []) (λ_ _ _ ⟨b,e,I,L⟩ k=>⟨b,e,I,L.st k⟩) (λV W kW hp=>?_) ?_
    ·simp[bR,execOp,aG,KE underlying159,cW];exact Wt
    refine au.op (λv W=>∃b,v=.map (some b)/\F.heap.size<=b/\eC mD W b []) (λ_ _ _ ⟨b,e,I,L⟩ k=>⟨b,e,I,L.st k⟩) (λV W kW hp=>?_) ?_
    ·simp[bR,execOp,aG,KE underlying160,cW];exact Wt
    clear qs;refine⟨λk hk=>?_,λV W kW hne hA=>?_⟩
    ·simp at hk;rcases hk with rfl|rfl
     ·exact Wu
     ·exact Wu
    simp only[aO,aR,cC,aJ,Nat.reduceAdd]at hA;obtain⟨e0,e1,T,e3,U,e5,e6,⟨H,e7,GG,JB⟩,⟨M,e8,rr,SF⟩,-⟩:=hA;obtain⟨A5,c5,e2⟩:=T.slice;obtain⟨A6,c6,e4⟩:=U.slice;rw[e2]at T;rw[e4]at U;have azj:H≠M:=λe=>hne 7 aj 8 aj ax rfl rfl H Wv (by rw[e8,e];rfl)
    apply aH.pure;rfl;simp[aF,List.lookup,bj,e0,e2,e4,e5,e6,e7,e8,execOp,aG,go_sem];rfl;refine aH.val (.pointer (some ⟨W.heap.size,0,none⟩)) (W.alloc (.cells #[.int .i64 me,.slice A5 p.length c5,.slice A6 ah.length c6,.pointer (some ⟨gl,0,none⟩),.int .u64 y.life,.slice Al y.list.length cl,.slice Ap y.prom.length cp,.slice Aa y.ab.length ca,.slice none 0 0,.int .u64 0,.map (some H),.slice none 0 0,.map (some M),.slice none 0 0] 162)) rfl agY ?_;apply aH.pure;rfl;simp[aF,List.lookup,bj,execOp,aG,go_sem];rfl;apply aH.pure;rfl;simp[aF,List.lookup,bj,execOp,aG,go_sem];rfl;refine aH.nil ?_;simp only[fZ,Act.put,sC,rI,rH,Nat.reduceAdd,bj,e0,e1,e2,e3,e4,e5,e6,e7,e8];have hbk:=ai.new W 162 #[.int .i64 me,.slice A5 p.length c5,.slice A6 ah.length c6,.pointer (some ⟨gl,0,none⟩),.int .u64 y.life,.slice Al y.list.length cl,.slice Ap y.prom.length cp,.slice Aa y.ab.length ca,.slice none 0 0,.int .u64 0,.map (some H),.slice none 0 0,.map (some M),.slice none 0 0];have O:=hbk.aU;generalize hWa:W.alloc _=Wa at *;generalize bC:W.heap.size=Q at *;have HQ:Hid (Post (.returned (.tuple #[.pointer (some ⟨Q,0,none⟩),.int .i64 0])) Wa):=ae (by
     have tM:=C.size;have zE:=kW.size;have p5:=Di.aa.size;have Nj:=Y.aa.size;have k5:=C.tr (kW.tr O);have akn:=HLG.aa.st k5;have az2:=HLG.aa.lt;have aES:=JB.lt;have aET:=SF.lt;have ako:=JB.st O;have akp:=SF.st O;refine zC.aa _ _ ⟨Q,gl,gd,H,M,E,vr,.slice A5 p.length c5,.slice A6 ah.length c6,.slice Al y.list.length cl,.slice Ap y.prom.length cp,.slice Aa y.ab.length ca,.slice none 0 0,.slice none 0 0,.slice none 0 0,[]⟩ y4.aa ⟨rfl,rfl,⟨hbk,akn,ako,akp,λW' u=>?_,λk hk=>.inr hk,λk hk=>?_,azj⟩,?_,λk hk=>?_,?_⟩
     ·have azk:∀k,k<J.heap.size->(k<w.heap.size∨k=Q∨k=H∨k=M∨kQ gl gd E vr k)->(k<wr.heap.size∨kQ gl gd E vr k):=λk hk t=>by
       rcases t with t|t|t|t|t
       ·exact .inl af
       ·omega
       ·omega
       ·omega
       ·exact .inr t
      have D:=(HST.aa.to (X:=λ_=>False) (N:=λk=>k<w.heap.size∨k=Q∨k=H∨k=M∨kQ gl gd E vr k) (ag.aT k5 _) (λk hk=>hk.elim) azk) W' u;have hno:∀(l:List Int) (A:Option Addr) (c:Nat),aB (λk=>k<F.heap.size) F.heap.size 3 cQ l (.slice A l.length c) W->∀b,(Value.slice A l.length c).ownBlock=some b->¬(b<w.heap.size∨b=Q∨b=H∨b=M∨kQ gl gd E vr b):=λl A c hO b hb t=>by
       have pg:=hO.blk b hb;obtain⟨css,hr,-,-⟩:=hO;obtain⟨cur,akq⟩:=mq hr hb;rcases t with t|t|t|t|t
       ·omega
       ·omega
       ·subst t;exact JB.cells akq
       ·subst t;exact SF.cells akq
       ·have:=az2 b t;omega
      have hi1:=(Lt T (hno p A5 c5 T)) W' ((ag.aT O _).tr u);have hi2:=(Lt U (hno ah A6 c6 U)) W' ((ag.aT O _).tr u);exact⟨hi1,hi2,D.1,D.2.1,D.2.2,gI _ _,gI _ _,gI _ _,avX _⟩
     ·have h9:=hbk.lt;rcases hk with hk|hk|hk|hk|hk
      ·omega
      ·exact hk▸h9
      ·exact hk▸ako.lt
      ·exact hk▸akp.lt
      ·exact akn.lt k hk
     ·exact (ag.aT Y.aa _).tr (Di.aa.tr (ag.aT k5 _))
     ·rcases hk with hk|hk|hk|hk
      ·right;show _<=k;simp only at hk;omega
      ·right;simp only at hk;omega
      ·right;simp only at hk;omega
      ·exact (y5.aa k hk).imp id λh=>af
     ·show w.heap.size<=Q;omega)
    clear JB SF hbk O T U zC Bt;go_wp2;exact HQ.aa
   ·rw[if_neg hfit]at R;obtain⟨E,rfl,hd,hu⟩:=R;have B:=ai.new J 46 mi;have Z:=B.cell;have z7:=B.frozen;have C:=B.aU;have HZ:=ae (Bt.aa _ _ hfit ⟨E,rfl,hd.st C,(hu.zD Y.aa HDX.aa).k C⟩);clear hd hu hfit zC Bt C;go_upto_region 14 with (fail);generalize J.alloc _=F at *;clear Z z7 B;go_wp2;exact HZ.aa
structure bE(B:aZ):Prop where
 tr:fk B.par=true
 me:fA B.par B.me=true
 hm:jt B.par B.ah=true
 dk:gS B.dk B.st
 tx:jI B.aC
 calls:B.calls<4611686018427387904
 bO:∀x∈B.bO,ed x.2=true/\pR x.2
 told:B.told.length<=1000000
 fD:B.refused.length<=1000000
 waits:∀x∈B.waits,bJ x=true/\cE x
 y6:B.waits.length<=1000000
theorem FN{p ah}(h:jt p ah=true):1<=ah.length/\ah.length<=32:=by
 grind [jt]
theorem acu{M p B w}(h:bB M p B w)(E:bE B) c :
 Calls prog 102 #[.pointer (some ⟨p.g,0,none⟩),.int .i64 c] w λe w'=>e=.returned (.bool (vX B c))/\K w w':=by
 have u:Hid (vX B c=(decide (0<=c)&&decide (c<(B.ah.length:Int))&&decide (B.ah[c.toNat]?=some B.me))):=ae rfl
 have q:=h.q
 have y:=h.bK.now.ah
 have H:=FN E.hm
 obtain⟨g,gl,gd,gr,gt,vd,vr,vp,vh,vl,vq,va,vt,vf,vw,kr⟩:=p
 simp only at q y
 clear h E
 obtain⟨A,c1,rfl,C,-⟩:=y
 obtain⟨b,I,rfl,D⟩:=ints_at C af
 generalize vX B c=R at *
 have J:=K.rf w
 clear C
 go_enter func102,ntmps102
 go_upto_region 1 with (fail)
 rcases (show ¬0<=c∨(0<=c/\¬c<(B.ah.length:Int))∨(0<=c/\c<(B.ah.length:Int)) by omega)with j|⟨j,t⟩|⟨j,t⟩
 have HR:Hid (R=false):=ae (by rw[u.aa];simp[j])
 have F:c<0:=af
 have qs:=And.intro q j
 rotate_left
 have HR:Hid (R=false):=ae (by rw[u.aa];simp[t])
 have F:(B.ah.length:Int)<=c:=af
 have qs:=And.intro q (And.intro j t)
 rotate_left
 obtain⟨n,rfl⟩:∃n:Nat,c=(n:Int):=⟨c.toNat,af⟩
 have hn:n<B.ah.length:=af
 have G:=λW k=>D W k n hn
 have HR:Hid (R=decide (B.ah[n]=B.me)):=ae (by rw[u.aa];simp[t,hn])
 generalize B.ah[n]=x at *
 have qs:=And.intro q (And.intro j (And.intro t G))
 all_goals
  clear u D
  refine dV 26 ?_
  iterate 26 refine au.i ?_
  clear qs
  intro V W kW hA
  simp only[aO,aR,cC,aJ,Nat.reduceAdd]at hA
  refine aH.h ?_
  go_wp2
  go_ret
  exact⟨fW,kW⟩
theorem ajD:(prog.info? 128).map (λi=>(i.zero,i.size,i.bytes))=some (some (.agg (gW wu (.slice none 0 0) (.slice none 0 0))),9,104):=by rfl
theorem JV:fY prog 123 128 (.agg (gW wu (.slice none 0 0) (.slice none 0 0))) 9 104:=⟨underlying123,ajD,rfl,ax⟩
def Ex(g:Nat)(x:aK)(v:Value)(W:World):Prop:=∃vf j,v=.agg (aE x vf j)/\Fx (λk=>k<g) (λW=>aV.rel x (aE x vf j).toList W) W
def Nk(g:Nat)(t:eI)(v:Value)(W:World):Prop:=∃vf j,v=.agg (gW t vf j)/\Fx (λk=>k<g) (λW=>df.rel t (gW t vf j).toList W) W
theorem agZ{g x} v w w'(h:Ex g x v w)(k:K w w'):Ex g x v w':=h.imp λ_ h=>h.imp λ_ h=>⟨h.1,h.2.k k⟩
theorem ajE{g x} v w w'(h:Nk g x v w)(k:K w w'):Nk g x v w':=h.imp λ_ h=>h.imp λ_ h=>⟨h.1,h.2.k k⟩
theorem X8{B g}(hg:g<=B){x v w}(h:wy B x v w):Ex g x v w:=by obtain⟨vf,t,e,j⟩:=B6 h;exact⟨vf,t,e,j.less λk hk=>bz hk hg⟩
theorem Ex.tx{g t vf j w}(h:Fx (λk=>k<g) (λW=>aV.rel t.e (aE t.e vf j).toList W) w):Fx (λk=>k<g) (λW=>df.rel t (gW t vf j).toList W) w:=h.mono λW ⟨y,u,e,h1,h2⟩=>by exact Qf
theorem OM l v w(h:aq df l v w)(U:∀t∈l,eJ t.e)(hn:l.length<=1000000) :
 Calls prog 187 #[v] w λe w'=>∃v',e=.returned v'/\aX w.heap.size w.heap.size 128 df l v' w'/\K w w':=by
 obtain⟨A,c,rfl,hl,hc⟩:=h
 have HS:=ae U
 clear U
 have Q:=K.rf w
 go_enter func187,ntmps187
 go_wp2_with fail
 go_loopw [3,5,8] (fun o _ i W=>∃j:Nat,j<=l.length/\i=.int .i64 j/\aB (fun k=>k<w.heap.size) w.heap.size 128 df (l.take j) o W/\K w W) (fun _ _ i _=>l.length-(intOf i).toNat)
 case atStart=>exact⟨0,af,rfl,by simpa using aB.nil _ _ _ _ _,Q⟩
 case round =>
  clear Q;obtain⟨j,hj,rfl,hO,kr⟩:=hrel;by_cases L:j<l.length
  ·have aP:(j:Int)<l.length:=af;obtain⟨b1,T,cs,rfl,hcl,O,I,d⟩:=eB hl j L ax;have HT:Hid (l.take (j+1)=l.take j++[l[j]]):=ae aj;have hst:=HS.aa _ (bZ L);generalize l[j]=t at *;obtain⟨vf,ve,rfl,J,H⟩:=O w (K.rf w);obtain⟨B,y,rfl⟩:=cA J;obtain⟨u,C,rfl⟩:=av H;have HE:Hid (∀W,K w W->dm t.e (.agg (aE t.e (.slice B t.e.f.length y) (.slice u t.e.es.length C))) W):=ae λW k=>⟨_,_,rfl,eO _ _ _ _ J k,bo H k⟩
   have I:∀W,K w W->W.cell? ⟨b1,T+j*9,none⟩=some (.int .i64 t.e.kind):=I;have d:∀W,K w W->∀i,i<9->W.cell? ⟨b1,T+j*9+i,none⟩=(gW t (.slice B t.e.f.length y) (.slice u t.e.es.length C))[i]?:=λW k i hi=>(d W k i hi).trans Array.getElem?_toList
   have gV:(l.take j).length<=1000000:=ba;have lq:=hO.blk;clear O hcl J H;have D:=ai.new wr 128 (gW t (.slice B t.e.f.length y) (.slice u t.e.es.length C));have Z:=D.aU;have pn:wr.heap.size<(wr.alloc (.cells (gW t (.slice B t.e.f.length y) (.slice u t.e.es.length C)) 128)).heap.size:=aj;go_upto_region 5 with (fail);have cK:=hO.st Z;generalize wr.alloc _=E at *;have p5:=kr.size;generalize wr.heap.size=g5 at D pn p5 lq⊢;generalize Value.slice B t.e.f.length y=vf at *;generalize Value.slice u t.e.es.length C=ve at *;have F:=kr.tr Z;clear d I;have qs:=D.cells;refine dV 8 ?_;iterate 3 refine au.i ?_
   refine au.c (Ex E.heap.size t.e) agZ (λW k=>(KC t.e _ W (HE.aa _ (F.tr k)) hst).mono λe w' ⟨v,e1,ho,k1⟩=>⟨v,e1,X8 k.size ho,k1⟩) ?_;iterate 2 refine au.i ?_
   refine au.op (Nk E.heap.size t) ajE (λV W kW hp=>?_) ?_
   ·exact Ww
   refine au.row (S:=df) (N:=λk=>k<E.heap.size) _ _ 9 104 JV rfl ax _ t rfl rfl (λV W kW hp=>?_) ?_
   ·exact ag0
   clear qs;intro V W kW hA;simp only[aO,aR,cC,aJ,Nat.reduceAdd]at hA;obtain⟨G,-,-,-,-,-,-,X,-⟩:=hA;have R:=cK.st kW;refine aH.push (.tmp 12) (.tmp 19) 123 _ 9 104 JV rfl rfl rfl u3 (l.take j) t G R (X.less λk hk=>?_) af (bn F.size kW.size) ?_
   ·grind
   intro v9 w9 M bC _ Y;rw[<- HT.aa]at M;have ZN:=(F.tr kW).trans (Y.mono (aD _));have qs:=True.intro;have hA:=G;refine aH.p ?_;refine aH.e ?_;clear G X R cK hO D Y bC qs hA;generalize V 7=v7 at *;go_wp2;go_roundw
   case rel=>exact⟨j+1,af,bI,M,ZN⟩
   case measure=>simp[intOf];omega
  ·have aP:¬(j:Int)<l.length:=af;rw[gQ af]at hO;have HO:=ae hO.toL;exact Wx
theorem atX{l a k}(hk:k<l.length)(h:nK a l[k]=true)(j:∀t∈l.take k,nK a t=false):jn l a=some k:=by
 grind [jn,List.findIdx?_eq_some_iff_getElem,List.mem_take_iff_getElem]
theorem ar2{l a}(j:∀t∈l,nK a t=false):jn l a=none:=by
 grind [nK,jn]
theorem atY{l a k}(h:jn l a=some k):sD l a=(k:Int):=by grind [sD]
theorem ar3{l a}(h:jn l a=none):sD l a=-1:=by grind [sD]
theorem avZ a t:nK a t=(decide (t.e.br=a.1)&&decide (t.e.life=a.2.1)&&decide (t.e.b6=a.2.2)):=by
 grind [nK,jD]
theorem aqF t a v g w(h:MZ t v w)(hg:ai w g 26 #[.int .i64 a.1,.int .u64 a.2.1,.int .u64 a.2.2]) :
 Calls prog 268 #[v,.pointer (some ⟨g,0,none⟩)] w λe w'=>e=.returned (.bool (nK a t))/\K w w':=by
 obtain⟨vf,H,rfl,y,j⟩:=h
 obtain⟨A,c,rfl⟩:=cA y
 obtain⟨D,d,rfl⟩:=av j
 clear y j
 have B:=ae (avZ a t)
 have q:=hg.cells
 have G:=λo=>(K.rf w).al o
 obtain⟨C,F,E⟩:=a
 obtain⟨⟨k,b,l,s,cl,u,f,es⟩,asked⟩:=t
 simp only at q B⊢
 generalize nK (C,F,E) ⟨⟨k,b,l,s,cl,u,f,es⟩,asked⟩=R at *
 go_enter func268,ntmps268
 go_wp2
 all_goals
  go_ret
  refine⟨?_,(K.rf w).al _⟩
  rw[B.aa]
  show Ending.returned (.bool _)=Ending.returned (.bool _)
  clear q G
  first|(simp_all;done)|(simp_all;omega)|(congr 2;rw[Bool.eq_iff_iff];simp_all;omega)
theorem aoA A c l a g w(h:zf df l A w)(U:l.length<=1000000)(hg:ai w g 26 #[.int .i64 a.1,.int .u64 a.2.1,.int .u64 a.2.2]) :
 Calls prog 267 #[.slice A l.length c,.func (Fn.func 268) #[] #[.pointer (some ⟨g,0,none⟩)]] w λe w'=>e=.returned (.int .i64 (sD l a))/\K w w':=by
 have E:=K.rf w
 go_enter func267,ntmps267
 go_wp2_with fail
 go_loopw [5,8] (fun _ i wr=>∃k:Nat,k<=l.length/\i=.int .i64 k/\Hid (∀t∈l.take k,nK a t=false)/\K w wr) (fun _ i _=>l.length-(intOf i).toNat)
 case atStart=>exact⟨0,af,rfl,ae aj,E⟩
 case round =>
  clear E;obtain⟨k,hk,rfl,C,kr⟩:=hrel;by_cases y:k<l.length
  ·have N:(k:Int)<l.length:=af;obtain⟨J,F,cs,rfl,R,D,B,d⟩:=eB h k y ax;have M:Hid (nK a l[k]=false->∀t∈l.take (k+1),nK a t=false):=by
    refine ae λh x u=>?_
    rw[gJ y]at u;rcases List.mem_append.1 u with u|u
    ·exact C.aa x u
    ·simp at u;rw[u];exact h
   have L:=ae λh=>atY (atX y h C.aa)
   generalize l[k]=t at *;obtain⟨vf,H,rfl,I,G⟩:=D wr kr;have B:∀W,K w W->W.cell? ⟨J,F+k*9,none⟩=some (.int .i64 t.e.kind):=B;have d:∀W,K w W->∀i,i<9->W.cell? ⟨J,F+k*9+i,none⟩=(gW t vf H)[i]?:=λW j O=>λQ=>(d W j O Q).trans Array.getElem?_toList
   clear D R;go_wp2_with fail
   apply cG (aqF t a _ g wr ⟨vf,H,rfl,I,G⟩ (hg.ay kr)) kr;intro S T kW;clear d B I G;cases u:nK a t
   ·have nR:=ae (M.aa u);exact IW
   ·have HE:=ae (L.aa u);exact Wy
  ·have N:¬(k:Int)<l.length:=af;have HE:=ae (by
    have:=C.aa;rw[gQ af]at this;exact ar3 (ar2 this))
   exact Lu
theorem Pf l a v w(h:aq df l v w)(B:l.length<=1000000) :
 Calls prog 183 #[v,cN a] w λe w'=>e=.returned (.int .i64 (sD l a))/\K w w':=by
 obtain⟨A,c,rfl,C,-⟩:=h
 have t:=ai.new w 26 #[.int .i64 a.1,.int .u64 a.2.1,.int .u64 a.2.2]
 have j:=t.aU
 have D:=X4 C j
 go_enter func183,ntmps183
 go_wp2_with fail
 generalize w.alloc _=y at *
 apply aM (aoA A c l a _ y D B t)
 intro E u
 go_wp2
 go_ret
 exact⟨rfl,j.tr u⟩
theorem av0(l:List eI)(a:aS):Ej l a=match jn l a with|none=>-1|some k=>if (l[k]?.map eI.asked)=some true then -1 else (k:Int):=by
 unfold Ej wg
 cases jn l a with
 | none=>rfl
 | some k =>
  grind
theorem ac2 l a v w(h:aq df l v w)(O:l.length<=1000000) :
 Calls prog 188 #[v,cN a] w λe w'=>e=.returned (.int .i64 (Ej l a))/\K w w':=by
 have F:=h
 obtain⟨A,c,rfl,M,-⟩:=h
 have N:=ai.new w 26 #[.int .i64 a.1,.int .u64 a.2.1,.int .u64 a.2.2]
 have G:=N.aU
 have y:=ae (av0 l a)
 have V:=ae λW (kW:K w W)=>Pf l a _ W (bo F kW) O
 have C:Hid (sD l a=match jn l a with|none=>-1|some k=>(k:Int)):=ae (by unfold sD;cases jn l a <;> rfl)
 have D:=ae λk h=>@KR l a k h
 generalize Ej l a=R at *
 generalize sD l a=I at *
 clear F
 go_enter func188,ntmps188
 go_wp2_with fail
 generalize w.alloc _=T at *
 apply cG (V.aa T G) G
 intro j Y kW
 cases hs:jn l a with
 | none =>
  obtain rfl:I=-1:=by rw[C.aa,hs]
  obtain rfl:R=-1:=by rw[y.aa,hs]
  go_wp2;go_ret;exact⟨rfl,kW⟩
 | some k =>
  obtain rfl:I=(k:Int):=by rw[C.aa,hs]
  obtain⟨t,B,-,-⟩:=D.aa k hs;obtain⟨hk,H⟩:=List.getElem?_eq_some_iff.1 B;have J:Hid (R=if t.asked=true then -1 else (k:Int)):=ae (by rw[y.aa,hs];simp[B]);obtain⟨U,L,cs,rfl,S,u,Q,d⟩:=eB M k hk ax;rw[H]at u;obtain⟨vf,Z,rfl,-,-⟩:=u j kW;have E:j.cell? ⟨U,L+k*9+8,none⟩=some (.bool t.asked):=d j kW 8 ax;have X:(k:Int)<l.length:=af;have GI:(0:Int)<=(k:Int):=af;clear d Q u S B H hs y C D;cases ha:t.asked
  ·obtain rfl:R=(k:Int):=by rw[J.aa,ha];rfl
   rw[ha]at E;go_wp2;go_ret;exact⟨rfl,kW⟩
  ·obtain rfl:R=-1:=by rw[J.aa,ha];rfl
   rw[ha]at E;go_wp2;go_ret;exact⟨rfl,kW⟩
theorem adM x v w(h:dm x v w)(B:cE x) :
 Calls prog 227 #[v] w λe w'=>e=.returned (.bool (qQ x))/\K w w':=by
 have C:=ae λW (kW:K w W)=>Uf x v W (LM h kW) B
 have HB:Hid (qQ x=decide (3000<((qE x).length:Int))):=ae (by
  unfold qQ Yf qE;rw[decide_eq_decide];omega)
 obtain⟨vf,A,rfl,-,-⟩:=h
 have j:=K.new w (.cells (aE x vf A) 126)
 go_enter func227,ntmps227
 go_wp2_with fail
 generalize w.alloc _=y at *
 refine (C.aa y j).mono ?_
 rintro e E⟨F,rfl,t,u⟩
 obtain⟨D,c2,rfl,-⟩:=eT t
 clear t
 go_wp2
 go_ret
 exact⟨FV,j.tr u⟩
theorem adN l t v u w(h:aq df l v w)(ht:MZ t u w)(hfit:cE t.e)(Z:eJ t.e)(hl:∀s∈l,eJ s.e)(hlen:l.length<=1000000) :
 Calls prog 166 #[v,u] w λe w'=>∃v',e=.returned (.tuple #[v',.int .i64 (uE l t).2])/\aX w.heap.size w.heap.size 128 df (uE l t).1 v' w'/\K w w':=by
 obtain⟨vf,ve,rfl,U,O⟩:=ht
 obtain⟨L,G,rfl⟩:=cA U
 obtain⟨E,Q,rfl⟩:=av O
 have J:Hid (∀W,K w W->dm t.e (.agg (aE t.e (.slice L t.e.f.length G) (.slice E t.e.es.length Q))) W):=ae λW k=>⟨_,_,rfl,eO _ _ _ _ U k,bo O k⟩
 have Y:=ae (ajv h)
 obtain⟨A,c,rfl⟩:=av h
 clear U O h
 have D:Hid (uE l t=if sD l (jD t.e)<0 then (if bJ t.e=false then (l,110)else if 8<=l.length then (l,171)else if qQ t.e then (l,172)else (l++[t],0))else (l,170)):=ae (by
  unfold uE sD
  cases jn l (jD t.e)with
  | none=>simp
  | some k =>
   simp only[Option.isSome_some,if_true];rw[if_neg af])
 generalize uE l t=R at *
 have HS:=ae Z
 have HL:=ae hl
 have HF:=ae hfit
 clear Z hl hfit
 have B:=ai.new w 128 (gW t (.slice L t.e.f.length G) (.slice E t.e.es.length Q))
 have y:=B.aU
 go_enter func166,ntmps166
 go_wp2
 go_step3
 go_wp2_with fail
 generalize w.alloc _=w1 at *
 have aEU:w.heap.size<=w.heap.size:=aD _
 generalize w.heap.size=g3 at B⊢
 generalize Value.slice L t.e.f.length G=vf at *
 generalize Value.slice E t.e.es.length Q=ve at *
 have qx:=B.cells
 refine (OM l _ w1 (Y.aa _ y) HL.aa hlen).mono ?_
 rintro e w2⟨u6,rfl,hO,k2⟩
 have bD:=y.tr k2
 go_wp2_with fail
 go_step3
 go_wp2_with fail
 refine (Pf l (jD t.e) _ w2 (Y.aa _ bD) hlen).mono ?_
 rintro e w3⟨rfl,T⟩
 have nt:=y.size
 replace hO:=hO.st T
 replace bD:=bD.tr T
 have j:=k2.tr T
 have HW:=ae (aX.low (aX.floor hO nt) nt)
 generalize hI:sD l (jD t.e)=I at D⊢
 clear hI
 by_cases hneg:I<0
 rotate_left
 ·have HQ:Hid (R=(l,170)):=ae (by rw[D.aa,if_neg hneg]);clear hO;exact IZ
 have iQ:Hid (R=if bJ t.e=false then (l,110)else if 8<=l.length then (l,171)else if qQ t.e then (l,172)else (l++[t],0)):=ae (by rw[D.aa,if_pos hneg])
 clear D
 go_wp2_with fail
 refine (KB t.e _ w3 (J.aa _ bD)).mono ?_
 rintro e w4⟨rfl,F⟩
 replace hO:=hO.st F
 replace bD:=bD.tr F
 replace j:=j.tr F
 cases hok:bJ t.e
 ·have HQ:Hid (R=(l,110)):=ae (by rw[iQ.aa,if_pos hok]);have HW:=ae (aX.low (aX.floor hO nt) nt);have hne:(pL t.e != 0)=true:=by rw[DH hok];rfl
  rw[DH hok];clear hO;exact IZ
 rw[KQ hok]
 by_cases h8:8<=l.length
 ·have xN:(8:Int)<=(l.length:Int):=af;have HQ:Hid (R=(l,171)):=ae (by rw[iQ.aa,if_neg (by rw[hok];decide),if_pos h8]);exact ag1
 have xN:¬(8:Int)<=(l.length:Int):=af
 go_wp2_with fail
 refine (adM t.e _ w4 (J.aa _ bD) HF.aa).mono ?_
 rintro e C⟨rfl,H⟩
 replace hO:=hO.st H
 replace bD:=bD.tr H
 replace j:=j.tr H
 cases hb:qQ t.e
 rotate_left
 ·have HQ:Hid (R=(l,172)):=ae ag2;exact ag1
 have HQ:Hid (R=(l++[t],0)):=ae ag2
 go_upto_region 10 with (fail)
 have dY:=B.ay j
 have lq:=hO.blk
 have p5:=j.size
 have dP:=bn p5 (aD C.heap.size)
 have qs:=dY.cells
 have hOY:=hO.tO
 refine dV 8 ?_
 iterate 3 refine au.i ?_
 refine au.c (Ex C.heap.size t.e) agZ (λW k=>(KC t.e _ W (J.aa _ (bD.tr k)) HS.aa).mono λe w' ⟨v,e1,ho,y⟩=>⟨v,e1,X8 k.size ho,y⟩) ?_
 iterate 2 refine au.i ?_
 refine au.op (Nk C.heap.size t) ajE (λV W kW hp=>?_) ?_
 ·exact Ww
 refine au.row (S:=df) (N:=λk=>k<C.heap.size) _ _ 9 104 JV rfl ax _ t rfl rfl (λV W kW hp=>?_) ?_
 ·exact ag0
 clear qs
 intro V W kW hA
 simp only[aO,aR,cC,aJ,Nat.reduceAdd]at hA
 obtain⟨M,-,-,-,-,-,-,f7,-⟩:=hA
 refine aH.push (.tmp 28) (.tmp 35) 123 _ 9 104 JV rfl rfl rfl u6 l t M (hOY.st kW) (f7.less λk hk=>?_) af (bn dP kW.size) ?_
 ·rcases hk with hk|hk
  ·omega
  ·have:=lq k hk;omega
 intro v9 w9 X bC _ aY
 have ZN:=(bD.tr kW).trans (aY.mono nt)
 have HW:=ae (aX.low (aX.floor X.toL nt) nt)
 have qs:=True.intro
 have hA:=M
 refine aH.p ?_
 refine aH.e ?_
 clear M f7 hOY hO B qx dY aY bC qs hA X
 generalize V 7=v7 at *
 go_wp2
 try rw[iq]
 go_ret2
 exact⟨_,nW,F3,ZN⟩
theorem ag3 t(u:t.e.f=[])(j:t.e.es=[]) w:MZ t (.agg (gW t (.slice none 0 0) (.slice none 0 0))) w :=
 ⟨_,_,rfl,by rw[u];exact⟨none,0,rfl,Reads.nil _ _ _ _⟩,by rw[j];exact gI _ _⟩
theorem av1{a c}(j:dW a)(t:cD c):cE (lX a c):=⟨Wz,j.1,t,j.2.1,j.2.2,B7,B7,B7⟩
theorem aqG l a c v w(h:aq df l v w)(F:dW a)(y:cD c)(G:∀s∈l,eJ s.e)(D:l.length<=1000000) :
 Calls prog 101 #[v,cN a,.int .i64 c] w λe w'=>∃v',e=.returned (.tuple #[v',.int .i64 (vW l a c).2])/\aX w.heap.size w.heap.size 128 df (vW l a c).1 v' w'/\K w w':=by
 have J:=ae (ajv h)
 have E:=ae λW (kW:K w W)=>adN l ⟨lX a c,false⟩ v _ W (bo h kW) (ag3 ⟨lX a c,false⟩ rfl rfl W) (av1 F y) (by simp[eJ,lX]) G D
 obtain⟨A,d,rfl⟩:=av h
 clear h
 have j:=K.new w (.cells #[.int .i64 a.1,.int .u64 a.2.1,.int .u64 a.2.2] 26)
 unfold vW
 generalize uE l ⟨lX a c,false⟩=R at *
 go_enter func101,ntmps101
 go_wp2_with fail
 generalize w.alloc _=B at *
 refine (E.aa B j).mono ?_
 rintro e H⟨I,rfl,t,u⟩
 have C:=ae (aX.low (aX.floor t j.size) j.size)
 clear t
 go_wp2
 go_ret2
 exact⟨_,rfl,C.aa,j.tr u⟩
theorem atZ l x v u w(h:aq df l v w)(G:dm x u w)(I:cE x)(J:eJ x)(M:∀s∈l,eJ s.e)(H:l.length<=1000000) :
 Calls prog 132 #[v,u] w λe w'=>∃v',e=.returned (.tuple #[v',.int .i64 (xJ l x).2])/\aX w.heap.size w.heap.size 128 df (xJ l x).1 v' w'/\K w w':=by
 obtain⟨vf,t,rfl,C,B⟩:=G
 have L:=ae λW (kW:K w W)=>adN l ⟨x,true⟩ v (.agg (gW ⟨x,true⟩ vf t)) W (bo h kW) ⟨vf,t,rfl,eO _ _ _ _ C kW,bo B kW⟩ I J M H
 obtain⟨A,d,rfl⟩:=av h
 clear h C B
 have j:=K.new w (.cells (aE x vf t) 126)
 unfold xJ
 generalize uE l ⟨x,true⟩=R at *
 go_enter func132,ntmps132
 go_wp2_with fail
 generalize w.alloc _=E at *
 refine (L.aa E j).mono ?_
 rintro e N⟨O,rfl,y,D⟩
 have F:=ae (aX.low (aX.floor y j.size) j.size)
 clear y
 go_wp2
 go_ret2
 exact⟨_,rfl,F.aa,j.tr D⟩
theorem Ua{α:Type} n:∀(css:List (List α)),(∀cs∈css,cs.length=n)->∀k,(css.take k).flatten=css.flatten.take (k*n)
 | [],_,k=>aj
 | c :: css,h,0=>aj
 | c :: css,h,k+1=>by have hc:=h c aj;have ih:=Ua n css (λx hx=>h x IQ) k;exact aga
theorem Ub{α:Type} n:∀(css:List (List α)),(∀cs∈css,cs.length=n)->∀k,(css.drop k).flatten=css.flatten.drop (k*n)
 | [],_,k=>aj
 | c :: css,h,0=>aj
 | c :: css,h,k+1=>by have hc:=h c aj;have j:=Ub n css (λx hx=>h x IQ) k;rw[List.drop_succ_cons,List.flatten_cons,j,List.drop_append,show List.drop ((k+1)*n) c=[]from List.drop_eq_nil_of_le PM,hc,show (k+1)*n-n=k*n by rw[Nat.succ_mul];omega,aO]
theorem ai.ajF:∀(vs:List Value) {w:World} {g o:Nat} {e:TypeId} {cur:Array Value},ai w g e cur->ai (w.setCells g o vs) g e (Lib.lay cur o vs)
 | [],_,_,_,_,_,h=>h
 | v :: r,_,_,o,_,_,h=>ai.ajF r (o:=o+1) (h.aQ o v)
theorem acv g:∀(vs:List Value) (o:Nat) (w:World),w.grownBy (w.setCells g o vs) (some g)
 | [],_,w=>⟨rfl,rfl,rfl,aD _,λ_ _ _=>rfl⟩
 | v :: r,o,w=>by have h:=acv g r (o+1) (w.setCell ⟨g,o,none⟩ v);exact⟨h.os,h.tape,h.output,by have j:=h.size;rw[show (w.setCell ⟨g,o,none⟩ v).heap.size=w.heap.size by simp]at j;exact j,λk hk t=>(h.block k tk t).trans (Below.heap_setCell w ⟨g,o,none⟩ v k (by rintro rfl;exact t rfl))⟩
theorem apg{P w t e z cur}(A:P.underlying t=some (.slice e))(C:∀w,(zeroValue e).run P w=.ok z w) g o(hb:ai w g e cur)(E:o+z.cells.size<=cur.size)(D:∀u∈z.cells.toList,u.oneCell'=true) :
 ∃w',(∀ty c,(Builtin.clear_ #[t] ty #[.slice (some ⟨g,o,none⟩) 1 c]).run P w=.ok (.tuple #[]) w')/\ai w' g e (cur.toList.take o++z.cells.toList++cur.toList.drop (o+z.cells.size)).toArray/\w.grownBy w' (some g):=by
 have j:=run_storeCells_at P g o e z.cells.toList 0 cur w hb af D
 simp only[Nat.add_zero,Array.length_toList]at j
 have y:(Builtin.zeroCells z.cells 1).toList=z.cells.toList:=by
  simp[Builtin.zeroCells];apply List.ext_getElem
  ·simp
  ·grind [Nat.mod_eq_of_lt]
 refine⟨_,λty c=>?_,setRow_heap w g cur _ e _ hb,⟨rfl,rfl,rfl,aj,λk hk B=>setRow_other w g k _ (λe=>B DU)⟩⟩
 simp[Builtin.clear_,run_underlying A,C,y,j]
theorem ayy W:(zeroValue 128).run prog W=.ok (.agg (gW wu (.slice none 0 0) (.slice none 0 0))) W:=by rfl
theorem apP l(base k j:Nat)(X:j=k+1) v w(h:aX base base 128 df l v w)(hk:k<l.length)(hlen:l.length<=1000000) :
 Calls prog 271 #[v,.int .i64 k,.int .i64 j] w λe w'=>∃v',e=.returned v'/\aX base base 128 df (l.eraseIdx k) v' w'/\w.grownBy w' v.ownBlock:=by
 obtain⟨css,M,hcl,F⟩:=h
 have E:∀cs∈css,cs.length=9:=(F w (aI.rf _ _ _)).lens
 have Z:=(F w (aI.rf _ _ _)).ones
 rcases M.2 with ⟨h0,EJ⟩|⟨g,cap,cur,rfl,g1,R,g3,Y,N,L⟩
 ·omega
 have N:cur.size=cap*9:=N
 have L:cur.toList.take (l.length*9)=css.flatten:=L
 have hb:ai w g 128 cur:=R
 have cR:css.flatten.length=l.length*9:=M.1
 obtain⟨y,G⟩:∃y,y=css.flatten.drop (j*9):=⟨_,rfl⟩
 obtain⟨m,hm⟩:∃m,m=l.length-j:=⟨_,rfl⟩
 have U:y.length=m*9:=aA
 have Yk:∀t u,y[t]?=some u->cur[j*9+t]?=some u:=by
  grind
 obtain⟨A,hA,hsrc⟩:∃A:Addr,(if cap=j then (some ⟨g,0,none⟩:Option Addr)else some ⟨g,j*9,none⟩)=some A/\Hid (∀t u,y[t]?=some u->w.drew.cell? (A.add t)=some u):=by
  by_cases h:cap=j
  ·refine⟨⟨g,0,none⟩,IM,λt u hu=>?_⟩;have h0:y.length=0:=af;rw[List.length_eq_zero_iff.1 h0]at hu;simp at hu
  ·refine⟨⟨g,j*9,none⟩,IM,λt u hu=>?_⟩;rw[Addr.add_lit];exact (hb.cell _).trans (Yk t u hu)
 have s1:Hid (y.length=m*9):=U
 have s2:Hid (∀u∈y,u.oneCell'=true):=λu hu=>Z u (List.mem_of_mem_drop (by rw[<- G];exact hu))
 have s3:Hid (∀t,t<y.length->(w.drew.cell? ⟨g,0+k*9+t,none⟩).isSome=true/\w.drew.frozen? ⟨g,0+k*9+t,none⟩=false):=by intro t Q;refine⟨?_,hb.frozen _⟩;show (w.cell? _).isSome=true;rw[hb.cell,Array.getElem?_eq_getElem af];rfl
 obtain⟨W1,D⟩:∃W1,W1=w.drew.setCells g (0+k*9) y:=⟨_,rfl⟩
 have T:ai W1 g 128 (Lib.lay cur (0+k*9) y):=by rw[D];exact ai.ajF y hb.drew
 have B:w.drew.grownBy W1 (some g):=by rw[D];exact acv g y _ _
 have H:(Lib.lay cur (0+k*9) y).size=cap*9:=by rw[Lib.lay_size,N]
 obtain⟨I,azU,S,C⟩:=apg (P:=prog) (w:=W1) (t:=123) (e:=128) underlying123 ayy g ((l.length-1)*9) T (by rw[H];show (l.length-1)*9+9<=_;omega) axp
 have V:Hid (aX base base 128 df (l.eraseIdx k) (.slice (some ⟨g,0,none⟩) (l.length-1) cap) I/\w.grownBy I (some g)):=by
  have ez:w.grownBy I (some g):=⟨C.os.trans B.os,C.tape.trans B.tape,C.output.trans B.output,bn B.size C.size,λk hk hne=>(C.block k (bz hk B.size) hne).trans (B.block k hk hne)⟩;have J:(l.eraseIdx k).length=l.length-1:=aA;have JW:(css.eraseIdx k).length=l.length-1:=aA;refine⟨⟨css.eraseIdx k,⟨?_,.inr ⟨g,cap,_,by rw[J],g1,S,af,Y,?_,?_⟩⟩,af,λw' u=>?_⟩,ez⟩
  ·rw[J,BQ 9 _ (λcs h=>E cs (List.mem_of_mem_eraseIdx h)),JW];rfl
  ·have h9:(Value.agg (gW wu (.slice none 0 0) (.slice none 0 0))).cells.size=9:=rfl;simp only[List.size_toArray,dx,qI,List.length_drop,Array.length_toList,H,h9];show _=cap*9;omega
  ·show List.take ((l.eraseIdx k).length*9) _=_;rw[J,eu,List.take_append_of_le_length aA,List.take_take,Nat.min_self,List.eraseIdx_eq_take_drop_succ,List.flatten_append,Ua 9 css E,Ub 9 css E,<- X,<- G];apply List.ext_getElem?;intro t;by_cases Q:t<(l.length-1)*9
   ·rw[List.getElem?_take_of_lt Q,Array.getElem?_toList,Lib.lay_get? _ _ _ _ af];by_cases h1:t<k*9
    ·grind
    grind
   grind
  ·have O:=F w' (aI.tr (aI.eU ez base) u);rw[List.eraseIdx_eq_take_drop_succ,List.eraseIdx_eq_take_drop_succ];exact (O.take k).append (O.drop (k+1))
 have hW:Hid (W1=w.drew.setCells g (0+k*9) y):=D
 obtain⟨W,hi0,hz0⟩:=Option.map_eq_some_iff.1 ajD
 have hz1:W.size=9:=aA
 have hlm:k+m=l.length-1:=af
 have hkc:k<=cap:=af
 have aEV:j<=cap:=af
 have fM:(k:Int)<l.length:=af
 have hkj:k≠j:=af
 have aEW:k<=j:=af
 have hjl:j<=l.length:=af
 have hcm:cap<=9223372036854775807:=Y
 have hmj:=hm.symm
 have wL:l.length-(l.length-1)=1:=af
 have Yt:¬(k:Int)=j:=af
 clear hm X
 clear D hcl F E Z M L hb cR G U Yk T B H S C R
 go_enter func271,ntmps271
 go_wp2_with fail
 go_region_law (refine step_append_room rfl (.tmp 22) (.tmp 25) 123 rfl 128 W 9 underlying123 hi0 hz1 g 0 k cap cV A m (cap-j) y cV s1.aa hsrc.aa s2.aa af s3.aa ?_;rw[<- hW.aa])
 go_wp2
 go_ret
 exact⟨_,rfl,V.aa.1,V.aa.2⟩
theorem ar4 l a v w(h:aq df l v w)(hl:∀s∈l,eJ s.e)(hlen:l.length<=1000000) :
 Calls prog 110 #[v,cN a] w λe w'=>∃v',e=.returned (.tuple #[v',.int .i64 (jx l a).2])/\aX w.heap.size w.heap.size 128 df (jx l a).1 v' w'/\K w w':=by
 have C1:=ae λW (kW:K w W)=>OM l v W (bo h kW) hl hlen
 have Y:=ae λW (kW:K w W)=>ac2 l a v W (bo h kW) hlen
 obtain⟨A,d,rfl⟩:=av h
 clear h
 have N:=ai.new w 26 #[.int .i64 a.1,.int .u64 a.2.1,.int .u64 a.2.2]
 have D:=N.aU
 have HI:Hid (Ej l a=match wg l a with|some k=>(k:Int)|none=>-1):=ae rfl
 have HC:Hid (jx l a=match wg l a with|none=>(l,170)|some k=>match l[k]? with|none=>(l,170)|some t=>(l.set k ⟨t.e,true⟩,0)):=ae rfl
 have J:=ae λk h=>@Pc l a k h
 generalize jx l a=R at *
 generalize Ej l a=I at *
 go_enter func110,ntmps110
 go_wp2_with fail
 generalize w.alloc _=H at *
 have C:=D.size
 have E:Hid (w.heap.size=w.heap.size):=ae rfl
 generalize ez:w.heap.size=g at N C E⊢
 replace E:=ae ez
 clear ez
 have qx:=N.cells
 apply rM (C1.aa H D) D
 intro v2 w2 y k2 B
 go_wp2_with fail
 apply aM (Y.aa w2 B)
 intro j O
 replace B:=B.tr O
 replace y:=y.st O
 clear C1 Y O
 cases ho:wg l a with
 | none => obtain rfl:I=-1:=DW;have HQ:Hid (R=(l,170)):=ae Lv;have M:=ae (aX.low (aX.floor y C) C);clear y ho HI HC J;go_wp2;go_ret2;exact⟨_,nW,by rw[HQ.aa,E.aa];exact M.aa,B⟩
 | some k =>
  obtain rfl:I=(k:Int):=DW;obtain⟨t,h1,-,-,-⟩:=J.aa k ho;have HQ:Hid (R=(l.set k ⟨t.e,true⟩,0)):=ae WA;obtain⟨hk,tQ⟩:=List.getElem?_eq_some_iff.1 h1;have fM:(k:Int)<l.length:=af;have GI:¬(k:Int)<0:=af;have S:=y.blk;obtain⟨css,G,hcl,F⟩:=y;have X:=(F j (aI.rf _ _ _)).lens;have U:k<css.length:=af;have Z:=(F j (aI.rf _ _ _)).Gl;have L:k*9+8<css.flatten.length:=by rw[Z];show k*9+8<l.length*9;omega
  rcases G.2 with ⟨h0,EJ⟩|⟨go,cap,cur,rfl,-⟩
  ·omega
  obtain⟨hcell,V⟩:=FF G;have d8:=hcell _ L;rw[List.getElem?_eq_getElem L]at d8;have z8:=V (k*9+8);have T:=VR G L (.bool true);have e9:css.flatten.set (k*9+8) (.bool true)=(css.set k ((css[k]).set 8 (.bool true))).flatten:=by rw[show k*9+8=k*df.size+8 from rfl];exact O4 df.size (.bool true) css X k 8 U ax
  rw[e9]at T;have hgo:=(S go rfl).1;have k4:K w (j.setCell ⟨go,k*9+8,none⟩ (.bool true)):=B.setCell (by have:=D.size;simp;omega) _;have M:Hid (aX g g 128 df (l.set k ⟨t.e,true⟩) (.slice (some ⟨go,0,none⟩) l.length cap) (j.setCell ⟨go,k*9+8,none⟩ (.bool true))):=by refine ae (aX.low (aX.floor (base:=H.heap.size) (lo:=H.heap.size) (e:=128) ⟨css.set k ((css[k]).set 8 (.bool true)),aA,by simp[hcl],λw' u=>?_⟩ C) C);have u3:aI H.heap.size (some go) j w':=aI.tr (a:=j) (b:=j.setCell ⟨go,k*9+8,none⟩ (.bool true)) ⟨rfl,rfl,rfl,aj,λi _ _ h3=>Below.heap_setCell j ⟨go,k*9+8,none⟩ (.bool true) i (by rintro rfl;exact h3 rfl)⟩ u;have Q:=F w' u3;refine Q.set k ?_;obtain⟨vf,ve,hcs,hf,he⟩:=Q.2 k hk U;rw[tQ]at hcs hf he;exact⟨vf,ve,by rw[hcs];rfl,hf,he⟩
  clear hcell V G T F X Z S HI HC J h1 ho;go_wp2;go_ret2;exact⟨_,nW,by rw[HQ.aa,E.aa];exact M.aa,k4⟩
theorem UI l a v w(h:aq df l v w)(V:∀s∈l,eJ s.e)(H:l.length<=1000000) :
 Calls prog 203 #[v,cN a] w λe w'=>∃v',e=.returned v'/\aX w.heap.size w.heap.size 128 df (fX l a) v' w'/\K w w':=by
 have O:=ae λW (kW:K w W)=>OM l v W (bo h kW) V H
 have L:=ae λW (kW:K w W)=>Pf l a v W (bo h kW) H
 obtain⟨A,d,rfl⟩:=av h
 clear h
 have B:=ai.new w 26 #[.int .i64 a.1,.int .u64 a.2.1,.int .u64 a.2.2]
 have u:=B.aU
 have HI:Hid (sD l a=match jn l a with|some k=>(k:Int)|none=>-1):=ae rfl
 have HC:Hid (fX l a=match jn l a with|none=>l|some k=>l.eraseIdx k):=ae rfl
 have D:=ae λk h=>@KR l a k h
 generalize fX l a=R at *
 go_enter func203,ntmps203
 go_wp2_with fail
 generalize w.alloc _=N at *
 apply bS (O.aa N u)
 rintro Z S⟨j,G⟩
 have q:=B.cells
 have hx2:=B.ay G
 have y:=u.tr G
 generalize sD l a=I at *
 clear B
 go_wp2_with fail
 apply aM (L.aa S y)
 intro U C
 replace y:=y.tr C
 have mm:=G.tr C
 replace j:=j.st C
 clear O L C
 cases ho:jn l a with
 | none => obtain rfl:I=-1:=DW;have HQ:Hid (R=l):=ae Lv;have HW:=ae (aX.low (aX.floor j u.size) u.size);clear j ho HI HC D;go_wp2;go_ret;exact⟨_,rfl,F3,y⟩
 | some k =>
  obtain rfl:I=(k:Int):=DW;have HQ:Hid (R=l.eraseIdx k):=ae Lv;obtain⟨t,M,-⟩:=D.aa k ho;obtain⟨hk,-⟩:=List.getElem?_eq_some_iff.1 M;have F:=apP l N.heap.size k (k+1) rfl Z U j hk H;rw[show ((k+1:Nat):Int)=(k:Int)+1 by omega]at F;have X:=ae F;clear F;have hb:=j.blk;have GI:¬(k:Int)<0:=af;have E:=u.size;have Y:=ae λg h=>bn E (hb g h).1
  have fM:(k:Int)<1000000:=af;clear j ho HI HC D M hb;go_wp2_with fail
  apply bS X.aa;rintro v4 w4⟨Q,J⟩;have HW:=ae (aX.low (aX.floor Q E) E);have T:=(aI.eU J 0).k y Y.aa;clear Q J;go_wp2;go_ret;exact⟨_,rfl,F3,T⟩
