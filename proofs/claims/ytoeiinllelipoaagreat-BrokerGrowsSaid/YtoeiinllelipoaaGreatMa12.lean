/-
  The walks of slices.Clone and bytes.Clone. Conditions: slices of at most a thousand million.
-/
import Derived.Test.YtoeiinllelipoaaGreatMa11
import Derived.Test.YtoeiinllelipoaaGreatMz
set_option maxRecDepth 100000
set_option maxHeartbeats 16000000
set_option linter.unusedVariables false
set_option linter.unusedSimpArgs false
namespace Go.Proofs.YtoeiinllelipoaaGreat
open Go Go.RowKit Tryz
theorem asV{P:Program}(w:World)(d:Nat)(t e:TypeId)(a:Option Addr)(l c:Nat)(h:P.underlying t=some (.slice e)):(Op.equalIn (d+1) t (.slice a l c) (.slice none 0 0)).run P w=.ok a.isNone w:=by cases a <;> simp[Op.equalIn,run_underlying h]
theorem asW{P:Program}(w:World)(t e:TypeId)(a:Option Addr)(l c:Nat)(h:P.underlying t=some (.slice e)):(Op.equal t (.slice a l c) (.slice none 0 0)).run P w=.ok a.isNone w:=asV w 9999 t e a l c h
theorem Pj{P:Program}(w:World)(t e:TypeId)(a:Option Addr)(l c:Nat)(h:P.underlying t=some (.slice e)):(binOp .eql t (.slice a l c) (.slice none 0 0)).run P w=.ok (.bool a.isNone) w:=by simp[binOp,asW w t e a l c h]
theorem Tk(A:Option Addr)(n c:Nat)(xs:List Value)(w:World)(hR:Reads w w.heap.size 1 A n xs)(h1:∀u∈xs,u.oneCell'=true)(hn:n<=1000000000) :
 Calls prog 211 #[.slice A n c] w λe w'=>∃i,e=.returned i/\w'.ownsRow w.heap.size 5 1 i n xs/\K w w':=by
 have kk:=K.rf w
 have j:=λ(W:World) (a:Option Addr) (l c:Nat)=>Pj (P:=prog) W 42 5 a l c underlying42
 go_enter func211,ntmps211
 cases A with
 | none => exact Pk
 | some ad => exact agn
theorem aoF(A:Option Addr)(n c:Nat)(xs:List Value)(w:World)(hR:Reads w w.heap.size 1 A n xs)(h1:∀u∈xs,u.oneCell'=true)(hn:n<=1000000000) :
 Calls prog 210 #[.slice A n c] w λe w'=>∃i,e=.returned i/\w'.ownsRow w.heap.size 5 1 i n xs/\K w w':=by
 have kk:=K.rf w
 have j:=λ(W:World) (a:Option Addr) (l c:Nat)=>Pj (P:=prog) W 42 5 a l c underlying42
 go_enter func210,ntmps210
 cases A with
 | none => exact Pk
 | some ad => exact agn
theorem aa9(A:Option Addr)(n c:Nat)(xs:List Value)(w:World)(hR:Reads w w.heap.size 3 A n xs)(j:∀u∈xs,u.oneCell'=true)(hn:n<=1000000000) :
 Calls prog 39 #[.slice A n c] w λe w'=>∃i,e=.returned i/\w'.ownsRow w.heap.size 46 3 i n xs/\K w w':=by
 have kk:=K.rf w
 have C:=λ(W:World) (a:Option Addr) (l c:Nat)=>Pj (P:=prog) W 32 46 a l c underlying32
 go_enter func39,ntmps39
 cases A with
 | none => exact Pk
 | some s =>
  have hb:=ai.new w 46 #[];have k1:K w (w.alloc (.cells #[] 46)):=(K.rf w).al _;have ho:(w.alloc (.cells #[] 46)).ownsRow w.heap.size 46 3 (.slice (some ⟨w.heap.size,0,none⟩) 0 0) 0 [] :=
   ⟨rfl,.inr ⟨w.heap.size,0,_,rfl,aG _,hb,aG _,Dp,aj,aj⟩⟩
  have t:=(hR.below k1 (aG _)).more k1.size;go_wp2_with (at_builtin;refine iC rfl _ _ 32 rfl w.heap.size 46 _ 3 24 uJ _ 0 [] rfl ho _ (some s) n c xs rfl t j ?p1 k1.size ?_)
  case p1=>omega
  intro y B cU _ _ hb4;have HO:Hid (B.ownsRow w.heap.size 46 3 y n xs):=ae VP;exact VQ
theorem aba(A:Option Addr)(n c:Nat)(xs:List Value)(w:World)(hR:Reads w w.heap.size 5 A n xs)(j:∀u∈xs,u.oneCell'=true)(hn:n<=1000000000) :
 Calls prog 254 #[.slice A n c] w λe w'=>∃i,e=.returned i/\w'.ownsRow w.heap.size 81 5 i n xs/\K w w':=by
 have kk:=K.rf w
 have C:=λ(W:World) (a:Option Addr) (l c:Nat)=>Pj (P:=prog) W 36 81 a l c underlying36
 go_enter func254,ntmps254
 cases A with
 | none => exact Pk
 | some s =>
  have hb:=ai.new w 81 #[];have k1:K w (w.alloc (.cells #[] 81)):=(K.rf w).al _;have ho:(w.alloc (.cells #[] 81)).ownsRow w.heap.size 81 5 (.slice (some ⟨w.heap.size,0,none⟩) 0 0) 0 [] :=
   ⟨rfl,.inr ⟨w.heap.size,0,_,rfl,aG _,hb,aG _,Dp,aj,aj⟩⟩
  have t:=(hR.below k1 (aG _)).more k1.size;go_wp2_with (at_builtin;refine iC rfl _ _ 36 rfl w.heap.size 81 _ 5 56 TF _ 0 [] rfl ho _ (some s) n c xs rfl t j ?p1 k1.size ?_)
  case p1=>omega
  intro y B cU _ _ hb4;have HO:Hid (B.ownsRow w.heap.size 81 5 y n xs):=ae VP;exact VQ
theorem arc(a b:Nat)(j:a<4294967296)(hb:b<4294967296):bits .or .i64 (a:Int) (b:Int)=((a ||| b:Nat):Int):=by
 have i:a ||| b<2^32:=Nat.or_lt_two_pow af af
 show IntKind.i64.wrap ((BitVec.ofInt 64 (a:Int) ||| BitVec.ofInt 64 (b:Int)).toNat:Int)=_;rw[BitVec.toNat_or,ofInt_u64 a af,ofInt_u64 b af,IntKind.wrap_i64];omega
theorem abb(g s u c fr k:Nat)(l:List UInt8)(w:World)(hb:ai w g 42 #[.slice (some ⟨s,u,none⟩) l.length c])(y:∀j (F:j<l.length),w.cell? ⟨s,u+j,none⟩=some (.int .u8 (l[j].toNat:Int)))
 (M:fr+k<=l.length) (O:l.length<=c) (H:0<k) (hk:k<=4) (N:l.length<=1000000000) :
 Calls prog 208 #[.int .i64 (fr:Int),.int .i64 (k:Int),.pointer (some ⟨g,0,none⟩)] w λe w'=>e=.returned (.int .i64 (iG ((l.drop fr).take k):Int))/\K w w':=by
 have kk:=K.rf w
 have q:=hb.cell
 have D:=ae y
 have R:(fr:Int)+(k:Int)<=(l.length:Int):=af
 have J:¬c=fr:=af
 clear y hb
 go_enter func208,ntmps208
 go_wp2_with fail
 go_loop [6,8,16] (fun n _ i=>∃j:Nat,j<=k/\i=.int .i64 (j:Int)/\∃m:Nat,n=.int .i64 (m:Int)/\Hid (m=iG ((l.drop fr).take j))) (fun _ _ i=>k-(intOf i).toNat)
 case atStart=>exact⟨0,af,rfl,0,rfl,ae (by simp[iG])⟩
 case round =>
  obtain⟨j,F,rfl,m,rfl,t⟩:=hrel;by_cases L:j<k
  ·have E:(j:Int)<(k:Int):=af;have Q:w.cell? ⟨s,u+fr+j,none⟩=some (.int .u8 ((l[fr+j]'af).toNat:Int)):=by have:=D.aa (fr+j) af;rwa [Nat.add_assoc]
   have G:=(l[fr+j]'af).toNat_lt;have A:Hid (iG ((l.drop fr).take (j+1))=m*256+(l[fr+j]'af).toNat):=ae (by rw[gE (by simp;omega),TR,t.aa];simp);have hm:m<16777216:=by have:=Kn ((l.drop fr).take j);rw[<- t.aa]at this;have B:((l.drop fr).take j).length<=3:=aU;have I:256^((l.drop fr).take j).length<=256^3:=Nat.pow_le_pow_right au B;omega
   generalize (l[fr+j]'af).toNat=x at *;have C:=ae (show bits BinOp.or IntKind.i64 ((m:Int)*256) (x:Int)=((m*256+x:Nat):Int) by
    rw[show (m:Int)*256=((m*256:Nat):Int) by simp,arc _ _ af af,nat_join 8 _ _ af af])
   go_wp2;go_round
   case rel=>exact⟨j+1,af,bO,m*256+x,by rw[C.aa],ae A.aa.symm⟩
   case measure=>simp[intOf];omega
  ·have E:¬(j:Int)<(k:Int):=af;obtain rfl:j=k:=af;go_wp2;go_ret;exact⟨by rw[<- t.aa];rfl,kk⟩
def frames(h:List (List UInt8)):List UInt8:=h.flatMap frame
theorem asX(i:List (List UInt8))(j:Nat)(h:j<i.length)(s:gV i[j]=true) :
 ∃rest,frames i=frames (i.take j)++(frame i[j]++rest)/\iG (((frames i).drop (frames (i.take j)).length).take 2)=i[j].length/\iG (((frames i).drop ((frames (i.take j)).length+2)).take 4)=zt i[j] /\
  ((frames i).take ((frames (i.take j)).length+6+i[j].length)).drop ((frames (i.take j)).length+6)=i[j]/\(frames i).length=(frames (i.take j)).length+6+i[j].length+rest.length/\(frames (i.take (j+1))).length=(frames (i.take j)).length+6+i[j].length:=by
 have e:frames i=frames (i.take j)++(frame i[j]++frames (i.drop (j+1))):=by unfold frames;conv=>lhs;rw[<- List.take_append_drop j i,List.flatMap_append,<- List.getElem_cons_drop h,oc]
 have t:i[j].length<=4000:=by simp only[gV,cz,decide_eq_true_eq]at s;exact s.2
 have u:=VO i[j]
 refine⟨_,e,?_,?_,?_,?_,?_⟩
 ·rw[e,List.drop_left,frame,dG,dG,List.take_left' (tL 2 _),UO];exact Nat.mod_eq_of_lt af
 ·rw[e,List.drop_append,List.drop_of_length_le af,aJ,Nat.add_sub_cancel_left,frame,dG,dG,List.drop_left' (tL 2 _),List.take_left' (tL 4 _),UO];exact Nat.mod_eq_of_lt af
 ·rw[e,Nat.add_assoc,List.take_append,eT (show (frames (i.take j)).length<=_ by omega),Nat.add_sub_cancel_left,List.drop_append,List.drop_of_length_le af,aJ,Nat.add_sub_cancel_left,
   List.take_left' (by rw[AX];rfl),frame,List.drop_left' (by simp[tL])]
 ·rw[e];simp only[cT,AX,wW];omega
 ·rw[gE h];simp only[frames,List.flatMap_append,oc,List.flatMap_nil,List.append_nil,cT,AX,wW];omega
theorem apW(s:List (List UInt8))(v:Value)(w:World)(A:Option Addr)(c:Nat)(hv:v=.slice A (frames s).length c)(O:Reads w w.heap.size 1 A (frames s).length (dy (frames s)))(C:(frames s).length<=c)(hn:(frames s).length<=1000000000)(J:∀b∈s,gV b=true) :
 Calls prog 157 #[v] w λe w'=>∃v',e=.returned (.tuple #[v',.int .i64 ((frames s).length:Int)])/\aT (λk=>k<w.heap.size) w.heap.size 42 i6 s v' w'/\K w w':=by
 subst hv
 have iZ:=ae J
 have R:=ae λj h=>asX s j h (J _ (bW h))
 have hrl:s.length<=(frames s).length:=by
  clear O C hn iZ R
  induction s with
  | nil=>simp
  | cons b s ih => have:=ih (λb hb=>J b Pm);simp only[frames,oc,cT,iE,AX,wW]at this⊢;omega
 have HE:Hid ((frames (s.take s.length)).length=(frames s).length):=ae (by rw[mC])
 obtain⟨L,hL⟩:∃L,L=frames s:=⟨_,rfl⟩
 rw[<- hL]at O C hn hrl HE R⊢
 clear hL J
 have hb0:=ai.new w 42 #[.slice A L.length c]
 have G:K w (w.alloc (.cells #[.slice A L.length c] 42)):=(K.rf w).al _
 go_enter func157,ntmps157
 go_wp2
 go_step3
 go_wp2_with fail
 generalize w.alloc _=w0 at *
 have sB:=(O.below G (aG _)).more G.size
 have jt:=aT.nil (λk=>k<w.heap.size) w0.heap.size 42 i6 w0
 clear O
 go_step3
 go_wp2_with fail
 go_loopw [4,5,7,8,9] (fun o at_ _ _ _ W=>∃j:Nat,j<=s.length/\at_=.int .i64 ((frames (s.take j)).length:Int)/\aT (fun k=>k<w.heap.size) w0.heap.size 42 i6 (s.take j) o W/\K w0 W) (fun _ at_ _ _ _ _=>L.length+1-(intOf at_).toNat)
 case atStart=>exact⟨0,af,rfl,by simpa using jt,K.rf w0⟩
 case round =>
  clear jt;obtain⟨j,hj,rfl,E,kr⟩:=hrel;have F:=hb0.below kr hb0.lt;have q:=F.cell;have hgr:=F.lt;have krw:=G.tr kr;by_cases U:j<s.length
  ·obtain⟨rest,h1,h2,h3,h4,h5,h6⟩:=R.aa j U;have hx:=iZ.aa _ (bW U);have HT:Hid (s.take (j+1)=s.take j++[s[j]]):=ae (gE U);simp only[gV,cz,decide_eq_true_eq]at hx;obtain⟨hx1,hx2⟩:=hx;have H6:=ae h6;generalize (frames (s.take j)).length=t at *;generalize s[j]=x at *;have I:(L.length:Int)=(t:Int)+6+(x.length:Int)+(rest.length:Int):=af;have Cl:6<(L.length:Int)-(t:Int):=af;have aO:((x.length:Int)==0)=false:=by rw[beq_eq_false_iff_ne];omega
   have hb2:¬4000<(x.length:Int):=af;have bD:¬((L.length:Int)-((t:Int)+6)<(x.length:Int)):=af;have hb4:(t:Int)+6+(x.length:Int)<=(c:Int):=af;clear I;have h0L:0<L.length:=af;have X:=(sB.below kr (aG _)).more kr.size;obtain⟨B,D,rfl,hbk,Q⟩:=X.at_ h0L;have Z:=ae (abb w.heap.size B D c t 2 L wr F Q af C af af hn);rw[h2]at Z;have C2:Hid (∀W,K wr W->Calls prog 208 #[.int .i64 ((t:Int)+2),.int .i64 4,.pointer (some ⟨w.heap.size,0,none⟩)] W λe w'=>e=.returned (.int .i64 (zt x:Int))/\K W w'):=ae λW k=>by have h:=abb w.heap.size B D c (t+2) 4 L W (F.below k hgr) (λi hi=>(k.cell (p:=⟨B,D+i,none⟩) hbk).trans (Q i hi)) af C af af hn;rw[h3]at h;exact h
   have hcut:=X.cut (t+6) (t+6+x.length) c af af C;rw[show ((dy L).take (t+6+x.length)).drop (t+6)=dy x from by unfold dy;rw[<- List.map_take,<- List.map_drop,h4],show t+6+x.length-(t+6)=x.length by omega,if_neg (show ¬c=t+6 by omega)]at hcut;have CS:=ae λW (k:K wr W)=>abV x (.slice (some ⟨B,D+(t+6),none⟩) x.length (c-(t+6))) W ⟨_,_,rfl,(hcut.below k (aG _)).more k.size⟩ af
   have CB:=ae λW (k:K wr W)=>aoF (some ⟨B,D+(t+6),none⟩) x.length (c-(t+6)) (dy x) W ((hcut.below k (aG _)).more k.size) (xw x) af
   have hcs:=VO x;clear h1 h2 h3 h4 h5 h6 hcut Q X;go_wp2_with fail
   refine Z.aa.mono ?_;rintro e w1⟨rfl,M⟩;have q1:=(F.below M hgr).cell;clear q;go_wp2_with fail
   rw[show t+6+x.length-(t+6)=x.length from by omega];refine (C2.aa w1 M).mono ?_;rintro e w2⟨rfl,k2⟩;have V:=M.tr k2;go_wp2_with fail
   refine (CS.aa w2 V).mono ?_;rintro e T⟨rfl,k3⟩;have Y:=V.tr k3;clear q1 M k2 V k3;generalize zt x=sx at *;go_wp2_with fail
   refine (CB.aa T Y).mono ?_;rintro e H⟨N,rfl,y,k4⟩;replace y:Own H T.heap.size 5 N x:=by unfold Own;exact y
   have qE:=Y.tr k4;have bN:=E.blk;have cE:=(E.st qE).st ((K.rf H).al (.cells #[N] 42));have hz:=Y.size;have hF:Fx (λk=>k<T.heap.size) (λW=>i6.rel x [N] W) H:=λW u=>⟨N,rfl,eN (eE y u λb hb h=>by have:=(y.lt b hb).1;omega)⟩
   obtain⟨A4,c4,rfl,-⟩:=y.slice;have hr:=fE.new (S:=i6) (e:=42) (v:=.slice A4 x.length c4) hF 0 (fw _);have MH:=(kr.tr qE).tr ((K.rf H).al (.cells #[.slice A4 x.length c4] 42));clear E hF y Z C2 CS CB;go_wp2_with (at_builtin;refine jK rfl _ _ 149 rfl _ 1 24 Rg rfl rfl cE _ rfl x ?p1 ?p2 ?p3 ?_)
   case p1=>exact hr.less λk hk=>ago
   case p2=>simp;omega
   case p3=>exact MH.size
   intro v9 w9 bG bJ _ bo;rw[<- HT.aa]at bG;have k9:K w0 w9:=by exact MH.trans bo
   clear hr cE;go_wp2;go_roundw
   case rel=>exact⟨j+1,af,by rw[H6.aa];go_num,bG,k9⟩
   case measure=>simp[intOf];omega
  ·obtain rfl:j=s.length:=af;rw[mC]at E;have I:((frames (s.take s.length)).length:Int)=(L.length:Int):=Kz;rw[I];have Cl:¬6<(L.length:Int)-(L.length:Int):=af;clear I;go_wp2;try rw[gS]
   go_ret2;exact⟨_,rfl,E.low G.size,krw⟩
structure kX(d:lq)(s:bA):Prop where
 gU:∀r∈d.gU,gh r=true/\nX r/\(bV r).length<=4000
 run:jn iL d.gU=some s
 fit:jw d.gU<=d.room
 room:d.room<=1048576
theorem asY(n:Nat):1<=(aD n).length:=by unfold aD;simp
theorem abW(r:Rec):1<=(bV r).length:=by have:=asY (bf r.kind);unfold bV;exact Va
theorem Uv{r:Rec}(h:(bV r).length<=4000):gV (bV r)=true:=by have:=abW r;simp[gV,h];exact this
theorem Tu(l:List Rec):(frames (l.map bV)).length=jw l:=by
 induction l with
 | nil=>rfl
 | cons r l h => simp only[frames,j9,oc,cT,AX]at h⊢;simp only[jw,j9,List.sum_cons]at h⊢;rw[h]
theorem asZ(l m:List Rec):jw (l++m)=jw l+jw m:=by simp[jw]
theorem as0(l:List Rec):7*l.length<=jw l:=by
 induction l with
 | nil=>simp[jw]
 | cons r l h => have:=abW r;simp only[jw,j9,List.sum_cons,iE,wW]at h⊢;omega
theorem avY(l:List Rec)(h:∀r∈l,gh r=true/\nX r):∀s t,p6 s->jn s l=some t->p6 t:=by
 induction l with
 | nil=>intro s t i e;injection e with e;exact e▸i
 | cons r l y =>
  intro s t i e
  simp only[jn]at e
  cases h1:fh s r with
  | none=>rw[h1]at e;cases e
  | some u => rw[h1]at e;obtain⟨a,b⟩:=h r aj;exact y (λq j=>h q (by simp[j])) u t (i.on a b h1) e
theorem avZ(l:List Rec):∀s t,jn s l=some t->t.list.length<=s.list.length+l.length/\t.prom.length<=s.prom.length+l.length/\t.ab.length<=s.ab.length+l.length:=by
 induction l with
 | nil=>intro s t e;injection e with e;subst e;simp
 | cons r l h =>
  intro s t e
  simp only[jn]at e
  cases h1:fh s r with
  | none=>rw[h1]at e;cases e
  | some u => rw[h1]at e;have a:=aw8 s u r h1;have b:=h u t e;simp only[iE];omega
theorem adu(l:List aq)(a:av):(ia l a).length<=l.length:=lV _ _
theorem axd{s t:bA}{r:Rec}(e:fh s r=some t):t.list.length+t.prom.length+t.ab.length<=s.list.length+s.prom.length+s.ab.length+1:=by
 unfold fh wO uD uE uH wP at e
 repeat' split at e
 all_goals first|(cases e;done)|(injection e with e;subst e)
 all_goals simp only[cT,iE,List.length_nil]
 all_goals first
  | omega
  | (have:=adu s.prom (ax r.e);omega)
  | (have:=adu s.prom (fD r);omega)
theorem av0(l:List Rec):∀s t,jn s l=some t->t.list.length+t.prom.length+t.ab.length<=s.list.length+s.prom.length+s.ab.length+l.length:=by
 induction l with
 | nil=>intro s t e;injection e with e;subst e;simp
 | cons r l h =>
  intro s t e
  simp only[jn]at e
  cases h1:fh s r with
  | none=>rw[h1]at e;cases e
  | some u => rw[h1]at e;have a:=axd h1;have b:=h u t e;simp only[iE];omega
theorem auQ{s t:bA}{r:Rec}(D:gh r=true)(e:fh s r=some t):∀q∈eP t,q∈eP s∨q=r∨q.kind=1:=by
 have C:∀(p:List aq) a q,q∈kV (ia p a)->q∈kV p:=λp a q hq=>by unfold kV at hq⊢;obtain⟨x,y,rfl⟩:=List.mem_map.1 hq;exact List.mem_map_of_mem (Ou.1 y).1
 have B:∀n,∀q∈wy n,q.kind=1:=λn q hq=>by exact agp
 intro q hq
 obtain⟨k,n,x,b,l,c⟩:=r
 have hk:=AR D
 simp only at hk
 unfold eP at hq⊢
 simp only[xG]at hq⊢
 unfold fh wO uD uE uH wP at e
 simp only at e
 repeat' split at e
 all_goals first|(cases e;done)|(injection e with e;subst e)
 all_goals try simp only at hq⊢
 all_goals rcases hq with ((hq|hq)|hq)|hq
 all_goals first
  | exact .inr (.inr (B _ _ hq))
  | exact .inl (.inl (.inl (.inr hq)))
  | exact .inl (.inl (.inr hq))
  | exact .inl (.inl (.inr (C _ _ _ hq)))
  | exact .inl (.inr hq)
  | skip
 ·unfold mg at hq;rename_i j hn u i;try simp only[Decidable.not_not]at hn
  rw[List.zipIdx_append,List.map_append,xG]at hq;rcases hq with hq|hq
  ·exact .inl (.inl (.inl (.inr hq)))
  ·simp at hq;rcases hk with ⟨g,_⟩|⟨_,-,rfl,rfl,rfl⟩|⟨g,_⟩
   ·omega
   ·exact .inr (.inl (by rw[hq,hn,j]))
   ·omega
 ·unfold kV at hq;rename_i j u i A h6;rw[List.map_append,xG]at hq;rcases hq with hq|hq
  ·exact .inl (.inl (.inr hq))
  ·simp at hq;rcases hk with ⟨g,_⟩|⟨g,-,rfl,rfl,rfl⟩|⟨g,_⟩
   ·omega
   ·obtain⟨rfl,rfl⟩:k=3/\n=0:=af;exact .inr (.inl hq)
   ·omega
 ·unfold oP at hq;rename_i j u i A h6;rw[List.map_append,xG]at hq;rcases hq with hq|hq
  ·exact .inl (.inr hq)
  ·simp at hq;rcases hk with ⟨g,_⟩|⟨g,_⟩|⟨_,_,rfl,rfl⟩
   ·omega
   ·omega
   ·subst i;exact .inr (.inl hq)
theorem as1(l:List Rec)(h:∀r∈l,gh r=true):∀s t,jn s l=some t->∀q∈eP t,q∈eP s∨q∈l∨q.kind=1:=by
 induction l with
 | nil=>intro s t e q i;injection e with e;subst e;exact .inl i
 | cons r l j =>
  intro s t e q i
  simp only[jn]at e
  cases h1:fh s r with
  | none=>rw[h1]at e;cases e
  | some u =>
   rw[h1]at e;rcases j (λq i=>h q (by simp[i])) u t e q i with a|a|a
   ·rcases auQ (h r aj) h1 q a with b|b|b
    ·exact .inl b
    ·exact .inr (.inl (by simp[b]))
    ·exact .inr (.inr b)
   ·exact .inr (.inl (by simp[a]))
   ·exact .inr (.inr a)
section
variable {d:lq} {s t:bA} {r:Rec}
theorem kX.inv(h:kX d s):p6 s:=avY _ (λr i=>⟨(h.gU r i).1,(h.gU r i).2.1⟩) _ _ p6.zero h.run
theorem kX.cnt(h:kX d s):d.gU.length<=150000:=by have:=as0 d.gU;have:=h.fit;have:=h.room;omega
theorem kX.len(h:kX d s):s.list.length<=150000/\s.prom.length<=150000/\s.ab.length<=150000:=by have a:=avZ _ _ _ h.run;have b:=h.cnt;simp only[iL,List.length_nil]at a;omega
theorem kX.tot(h:kX d s):s.list.length+s.prom.length+s.ab.length<=150000:=by have a:=av0 _ _ _ h.run;have b:=h.cnt;simp only[iL,List.length_nil]at a;omega
theorem kX.next(h:kX d s)(y:gh r=true)(u:nX r)(j:vX d r=true)(e:fh s r=some t):kX ⟨d.gU++[r],d.room⟩ t:=by
 simp only[vX,cz,decide_eq_true_eq]at j;refine⟨λq i=>?_,?_,?_,h.room⟩
 ·simp only[xG,List.mem_singleton]at i;rcases i with i|rfl
  ·exact h.gU q i
  ·exact⟨y,u,j.1⟩
 ·show jn iL (d.gU++[r])=_;rw[OD,h.run];simp[jn,e]
 ·rw[asZ];have:jw [r]=wW (bV r):=by simp[jw]
  rw[this];exact j.2
theorem p6.dS(h:p6 s):p6 (dS s):=⟨h.nl,h.np,h.na,h.lp,h.la,h.pa,h.wV,h.yq,h.Gk,Nat.mod_lt _ au⟩
theorem kX.small(h:kX d s):∀q∈eP (dS s),(bV q).length<=4000:=by
 intro q hq;have i:=VG h.inv.dS agq q hq;have hk:q∈eP s∨q.kind=1:=by
  unfold eP at hq⊢;simp only[xG]at hq⊢;rcases hq with ((hq|hq)|hq)|hq
  ·right;exact agp
  ·exact .inl (.inl (.inl (.inr hq)))
  ·exact .inl (.inl (.inr hq))
  ·exact .inl (.inr hq)
 have t:q∈d.gU∨q.kind=1:=by
  rcases hk with a|a
  ·rcases as1 _ (λr j=>(h.gU r j).1) _ _ h.run q a with b|b|b
   ·simp[eP,iL,wy,mg,kV,oP]at b
   ·exact .inl b
   ·exact .inr b
  ·exact .inr a
 rcases t with a|a
 ·exact (h.gU q a).2.2
 ·have e:bV q=aD (bf q.kind)++aD q.n:=av1;have u:=cG (bf q.kind) (fI q.kind);have y:=cG q.n i.2.2.1;rw[e,cT];omega
theorem kX.life(h:kX d s)(t:jw (eP (dS s))<=d.room):kX ⟨eP (dS s),d.room⟩ (dS s):=by have j:=VG h.inv.dS agq;exact⟨λq i=>⟨(j q i).1,(j q i).2,h.small q i⟩,auH h.inv.dS,t,h.room⟩
theorem kX.new{room:Nat}(h:room<=1048576):kX ⟨[],room⟩ iL:=⟨aj,rfl,by simp[jw],h⟩
end
structure iq(gd:Nat)(vh:Value)(l:List UInt8)(ie room:Nat)(w:World):Prop where
 blk:ai w gd 86 #[vh,.int .i64 (ie:Int),.int .i64 (room:Int)]
 own:Own w 0 5 vh l
 len:l.length<=room
 room:room<=1048576
def jf(gd:Nat)(vh:Value)(k:Nat):Prop:=k=gd∨vh.ownBlock=some k
structure lr(gd:Nat)(vh dA:Value)(w w':World):Prop where
 up:ah (jf gd vh) w w'
 new:∀k,jf gd dA k->jf gd vh k∨w.heap.size<=k
section
variable {gd:Nat} {vh dA LC:Value} {l:List UInt8} {ie room:Nat} {w w' w'':World}
theorem iq.st(h:iq gd vh l ie room w)(k:K w w'):iq gd vh l ie room w':=⟨h.blk.below k h.blk.lt,fZ h.own k,h.len,h.room⟩
theorem iq.ne(h:iq gd vh l ie room w):vh.ownBlock≠some gd:=λe=>by obtain⟨i,h1⟩:=gg h.own e;exact VR
theorem iq.lt(h:iq gd vh l ie room w):∀k,jf gd vh k->k<w.heap.size:=λk hk=>hk.elim (λe=>e▸h.blk.lt) λe=>(h.own.lt k e).2
theorem lr.rf(k:K w w'):lr gd vh vh w w':=⟨ah.bg k _,λ_ h=>.inl h⟩
theorem lr.tr(h:lr gd vh dA w w')(k:lr gd dA LC w' w''):lr gd vh LC w w'' :=
 ⟨h.up.iA k.up λb hb j=>(h.new b j).resolve_right af,λb hb=>(k.new b hb).elim (λi=>h.new b i) λi=>.inr (bq h.up.size i)⟩
theorem lr.k(h:lr gd vh dA w w')(k:K w' w''):lr gd vh dA w w'':=h.tr (lr.rf k)
end
theorem agr(room:Nat)(w:World)(h:room<=1048576) :
 Calls prog 7 #[.int .i64 (room:Int)] w λe w'=>e=.returned (.tuple #[.pointer (some ⟨w.heap.size,0,none⟩),.int .i64 0])/\iq w.heap.size (.slice none 0 0) [] 0 room w'/\K w w':=by
 have s:¬(room:Int)<0:=af
 have j:¬1048576<(room:Int):=af
 have hb:=ai.new w 86 #[.slice none 0 0,.int .i64 0,.int .i64 (room:Int)]
 have i:=(K.rf w).al (.cells #[.slice none 0 0,.int .i64 0,.int .i64 (room:Int)] 86)
 go_enter func7,ntmps7
 go_wp2
 go_ret2
 exact⟨rfl,⟨hb,iF _ _ _ _,aj,h⟩,i⟩
def uQ(l b:List UInt8)(room:Nat):List UInt8×Int:=if l.length+b.length<=room then (l++b,0)else (l,90)
theorem aoG(gd:Nat)(vh v:Value)(l b:List UInt8)(t room:Nat)(w:World)(h:iq gd vh l t room w)(hb:sl b v w)(hn:b.length<=1000000000) :
 Calls prog 252 #[.pointer (some ⟨gd,0,none⟩),v] w λe w'=>∃C,e=.returned (.int .i64 (uQ l b room).2)/\iq gd C (uQ l b room).1 t room w'/\lr gd vh C w w':=by
 have HA:Hid (uQ l b room=if l.length+b.length<=room then (l++b,0)else (l,90)):=ae rfl
 generalize uQ l b room=R at *
 have L:=h.ne
 obtain⟨A,c,rfl,-⟩:=h.own.slice
 obtain⟨Q,N,rfl,S⟩:=hb
 have Z:=h.len
 have O:=h.room
 have q:=h.blk.cells
 have H:=ae h
 clear h
 go_enter func252,ntmps252
 go_wp2
 refine JT 0 rfl ?_
 have E:IntKind.i64.wrap ((room:Int)-(l.length:Int))=(room:Int)-(l.length:Int):=IntWalk.i64_in _ af
 go_upto_region 3 with (fail)
 refine eM 13 [([],[]),([0],[(7,0)]),([],[]),([2],[(9,2)]),([3],[(10,3)]),([4],[(11,4)]),([],[]),([6],[(13,6)]),([7],[(14,7)]),([8],[(15,8)]),([9],[(16,9)]),([5,10],[(12,5),(17,10)]),([1,11],[(8,1),(18,11)])] 29 rfl ak ak ak ak au ?_
 simp only[dR,dN,ew,dP]
 iterate 13 (apply aV.is;intro V W j F;(try simp only[aI,aJ,aM,aE,aF,ag]at F);simp[aL,aw,List.lookup,F,aS,execOp,ay,ag,aN,j,q,E,go_sem];rfl)
 intro V W j u
 simp only[aJ,aM,eA,ag,Nat.reduceAdd]at u
 refine bu.nil ?_
 simp only[bF,Act.put,cO,cM,cL,Nat.reduceAdd,u]
 clear u q E
 have s:=ae (H.aa.st j)
 have G:=(S.below j (aG _)).more j.size
 have q:=s.aa.blk.cell
 by_cases hfit:l.length+b.length<=room
 ·have M:decide ((room:Int)-(l.length:Int)<(b.length:Int))=false:=aU;have HR:Hid (R=(l++b,0)):=ae ags;go_wp2_with (at_builtin;refine iC rfl _ _ 42 rfl 0 5 _ 1 1 TB _ _ _ rfl s.aa.own _ Q b.length N (dy b) rfl G (xw b) ?p1 (fw _) ?_)
  case p1=>omega
  intro i y cX D J hb2;have B:Own y 0 5 i (l++b):=agt;have hx2:=s.aa.blk.grown D λe=>L e.symm
  have I:i.ownBlock≠some gd:=λe=>by obtain⟨cur,h1⟩:=gg B e;exact Ph
  have hV:iq gd i (l++b) t room (y.setCell ⟨gd,0,none⟩ i) :=
   ⟨hx2.aR 0 i,eE B (ah.b6 (X:=λk=>k=gd) rfl 0 i) λk hk e=>I xy,aU,O⟩
  have hU:lr gd (.slice A l.length c) i w (y.setCell ⟨gd,0,none⟩ i):=by
   have T:=j.size;refine⟨((ah.bg j _).tr (ah.fM D λk hk=>.inr hk)).tr (ah.b6 (.inl rfl) 0 i),λk hk=>?_⟩;rcases hk with hk|hk
   ·exact .inl (.inl hk)
   ·rcases J with e|e <;> rw[e]at hk
    ·exact .inl (.inr hk)
    ·injection hk with hk;exact .inr af
  clear q;have q2:=hx2.cell;have U:=hx2.frozen;obtain⟨Y,c2,rfl,-⟩:=B.slice;simp only[cT]at hV hU;go_wp2;simp only[Exit.jump];exact agu
 ·have M:decide ((room:Int)-(l.length:Int)<(b.length:Int))=true:=aU;have HR:Hid (R=(l,90)):=ae agv;go_wp2_with fail
  go_step3;refine⟨rfl,?_⟩;go_wp2;rw[gS];go_ret;exact⟨_,fo,by rw[HR.aa];exact s.aa,lr.rf j⟩
theorem apX(gd:Nat)(vh:Value)(l:List UInt8)(j room:Nat)(w:World)(h:iq gd vh l j room w) :
 Calls prog 232 #[.pointer (some ⟨gd,0,none⟩)] w λe w'=>e=.returned (.int .i64 0)/\iq gd vh l l.length room w'/\lr gd vh vh w w':=by
 have i:=h.ne
 obtain⟨A,c,rfl,-⟩:=h.own.slice
 have q:=h.blk.cell
 have z:=h.blk.frozen
 have s:iq gd (.slice A l.length c) l l.length room (w.setCell ⟨gd,1,none⟩ (.int .i64 (l.length:Int))) :=
  ⟨h.blk.aR 1 (.int .i64 (l.length:Int)),eE h.own (ah.b6 (X:=λk=>k=gd) rfl 1 _) λk hk e=>i xy,h.len,h.room⟩
 have t:lr gd (.slice A l.length c) (.slice A l.length c) w (w.setCell ⟨gd,1,none⟩ (.int .i64 (l.length:Int))):=⟨ah.b6 (.inl rfl) 1 _,λ_ h=>.inl h⟩
 clear h
 go_enter func232,ntmps232
 go_wp2
 go_ret
 exact⟨rfl,s,t⟩
theorem ard(gd:Nat)(vh:Value)(l:List UInt8)(B room:Nat)(w:World)(h:iq gd vh l B room w) :
 Calls prog 159 #[.pointer (some ⟨gd,0,none⟩),.int .i64 (l.length:Int)] w λe w'=>e=.returned (.int .i64 0)/\iq gd vh l l.length room w'/\lr gd vh vh w w':=by
 have i:=h.ne
 have j:=h.own
 have y:∃A c,vh=.slice A l.length c/\l.length<=c:=by
  rcases j.2 with ⟨rfl,s⟩|⟨g,cap,D,rfl,-,-,u,-⟩
  ·exact⟨_,_,by rw[s],af⟩
  ·exact⟨_,_,rfl,u⟩
 obtain⟨A,c,rfl,E⟩:=y
 have q:=h.blk.cell
 have z:=h.blk.frozen
 have F:(l.length:Int)<=(c:Int):=af
 have t:iq gd (.slice A l.length c) l l.length room ((w.setCell ⟨gd,0,none⟩ (.slice A l.length c)).setCell ⟨gd,1,none⟩ (.int .i64 (l.length:Int))):=by refine⟨(h.blk.aR 0 (.slice A l.length c)).aR 1 (.int .i64 (l.length:Int)),?_,h.len,h.room⟩;exact eE (eE h.own (ah.b6 (X:=λk=>k=gd) rfl 0 _) λk hk e=>i xy) (ah.b6 (X:=λk=>k=gd) rfl 1 _) λk hk e=>i xy
 have C:lr gd (.slice A l.length c) (.slice A l.length c) w ((w.setCell ⟨gd,0,none⟩ (.slice A l.length c)).setCell ⟨gd,1,none⟩ (.int .i64 (l.length:Int))):=⟨(ah.b6 (.inl rfl) 0 _).tr (ah.b6 (.inl rfl) 1 _),λ_ h=>.inl h⟩
 clear h j
 go_enter func159,ntmps159
 go_wp2
 go_ret
 exact⟨rfl,t,C⟩
def wY(l b:List UInt8)(room:Nat):List UInt8×Int:=if b.length<=room then (b,0)else (l,90)
theorem apY(gd:Nat)(vh v:Value)(l b:List UInt8)(room:Nat)(w:World)(h:iq gd vh l l.length room w)(hb:sl b v w)(hn:b.length<=1000000000) :
 Calls prog 165 #[.pointer (some ⟨gd,0,none⟩),v] w λe w'=>∃y,e=.returned (.int .i64 (wY l b room).2)/\iq gd y (wY l b room).1 (wY l b room).1.length room w'/\lr gd vh y w w':=by
 have HA:Hid (wY l b room=if b.length<=room then (b,0)else (l,90)):=ae rfl
 generalize wY l b room=R at *
 have F:=h.room
 have C:=h.blk.lt
 obtain⟨G,E,rfl,J⟩:=hb
 have D:=ae (Tk G b.length E (dy b) w J (xw b) hn)
 have q:=h.blk.cell
 have H:=ae h
 clear h
 go_enter func165,ntmps165
 go_wp2
 refine JT 0 rfl ?_
 by_cases hfit:b.length<=room
 ·have I:¬(room:Int)<(b.length:Int):=af;have HR:Hid (R=(b,0)):=ae ags;go_wp2_with fail
  refine D.aa.mono ?_;rintro e u⟨i,rfl,t,B⟩;have s:Own u w.heap.size 5 i b:=t;have j:=H.aa.blk.below B C;have A:i.ownBlock≠some gd:=λe=>by have:=(s.lt gd e).1;omega
  have hV:iq gd i b b.length room ((u.setCell ⟨gd,0,none⟩ i).setCell ⟨gd,1,none⟩ (.int .i64 (b.length:Int))):=by refine⟨(j.aR 0 i).aR 1 (.int .i64 (b.length:Int)),?_,hfit,F⟩;exact eE (eE (my (fw _) t) (ah.b6 (X:=λk=>k=gd) rfl 0 i) λk hk e=>A xy) (ah.b6 (X:=λk=>k=gd) rfl 1 _) λk hk e=>A xy
  have hU:lr gd vh i w ((u.setCell ⟨gd,0,none⟩ i).setCell ⟨gd,1,none⟩ (.int .i64 (b.length:Int))) :=
   ⟨((ah.bg B _).tr (ah.b6 (.inl rfl) 0 i)).tr (ah.b6 (.inl rfl) 1 _),λk hk=>hk.elim (λe=>.inl (.inl e)) λe=>.inr (s.lt k e).1⟩
  clear q;have N:=j.cell;have L:=j.frozen;obtain⟨M,c2,rfl,-⟩:=s.slice;clear s t j;go_wp2;try simp only[Exit.jump]
  exact agu
 ·have I:(room:Int)<(b.length:Int):=af;have HR:Hid (R=(l,90)):=ae agv;go_wp2_with fail
  go_step3;refine⟨rfl,?_⟩;go_wp2;rw[gS];go_ret;exact⟨_,fo,by rw[HR.aa];exact H.aa,lr.rf (K.rf w)⟩
theorem apZ(gd:Nat)(vh:Value)(l:List UInt8)(u room:Nat)(w:World)(h:iq gd vh l u room w) :
 Calls prog 158 #[.pointer (some ⟨gd,0,none⟩)] w λe w'=>∃j,e=.returned j/\Own w' w.heap.size 5 j l/\K w w':=by
 have E:=h.len
 have F:=h.room
 obtain⟨A,c,rfl,i⟩:=h.own.slice
 have q:=h.blk.cell
 have t:=ae (Tk A l.length c (dy l) w i (xw l) af)
 clear h i
 go_enter func158,ntmps158
 go_wp2_with fail
 refine t.aa.mono ?_
 rintro e B⟨y,rfl,s,C⟩
 have D:Hid (Own B w.heap.size 5 y l):=ae s
 clear s
 go_wp2
 go_ret
 exact⟨_,rfl,D.aa,C⟩
theorem arf(g base lo:Nat)(v u:Value)(l b:List UInt8)(w:World)(hb:ai w g 42 #[v])(j:Own w base 5 v l)(G:sl b u w)(y:lo<=g/\lo<=base/\lo<=w.heap.size)(U:base<=w.heap.size)(hn:b.length<=1000000000)(hl:l.length<=1000000000) :
 Calls prog 222 #[u,.pointer (some ⟨g,0,none⟩)] w λe w'=>∃L,e=.returned (.int .i64 (Fz b))/\ai w' g 42 #[L]/\Own w' base 5 L (l++yZ b)/\Below lo w w':=by
 have H:=ae (apV b u w G hn)
 have cC:(yZ b).length<=4006:=by exact agw
 obtain⟨A,c,rfl,R⟩:=G
 generalize yZ b=f at *
 go_enter func222,ntmps222
 go_wp2_with fail
 refine H.aa.mono ?_
 rintro e W⟨V,rfl,M,t⟩
 have s:=hb.below t hb.lt
 have B:=TQ (aG _) j t
 obtain⟨T,c1,rfl,O⟩:=M.slice
 have hz:=t.size
 have Q:v.ownBlock≠some g:=λe=>by obtain⟨S,h1⟩:=gg B e;exact absurd (h1.ja s) au
 have q:=s.cell
 clear H hb j R
 go_wp2_with (at_builtin;refine iC rfl _ _ 42 rfl base 5 _ 1 1 TB _ _ _ rfl B _ T f.length c1 (dy f) rfl O (xw f) ?p1 af ?_)
 case p1=>omega
 intro i C cX D _ I
 have j:Own C base 5 i (l++f):=agt
 have hx2:=s.grown D λe=>Q e.symm
 have N:i.ownBlock≠some g:=λe=>by obtain⟨S,h1⟩:=gg j e;exact Ph
 have E:=hx2.aR 0 i
 have J:Own (C.setCell ⟨g,0,none⟩ i) base 5 i (l++f):=eE j (ah.b6 (X:=λk=>k=g) rfl 0 i) λk hk e=>N xy
 have F:Below lo w (C.setCell ⟨g,0,none⟩ i):=((t.mono y.2.2).trans (I.mono y.2.1)).setCell (p:=⟨g,0,none⟩) y.1 i
 have q2:=hx2.cell
 have Y:=hx2.frozen
 clear q s B hx2 cX D I
 obtain⟨Z,c2,rfl,-⟩:=j.slice
 simp only[cT]at E J F
 go_wp2
 go_ret
 exact⟨_,rfl,E,J,F⟩
def yS(h:List (List UInt8)):List UInt8×Int:=if h.all gV then (frames h,0)else ([],30)
def yT(h:List (List UInt8)):List UInt8:=h.flatMap yZ
theorem abn(i:List (List UInt8)):(yT i).length<=i.length*4006:=by
 induction i with
 | nil=>simp[yT]
 | cons b i j =>
  have s:(yZ b).length<=4006:=by exact agw
  simp only[yT,oc,cT,iE]at j⊢;omega
theorem abX{i:List (List UInt8)}(h:i.all gV=true):yT i=frames i:=by
 unfold yT frames
 rw[pU]at h
 induction i with
 | nil=>rfl
 | cons b i j => rw[oc,oc,j (λx hx=>h x Ds),yZ,if_pos (h b aj)]
theorem aaV(s:List (List UInt8))(v:Value)(w:World)(h:ar i6 s v w)(hn:s.length<=200000)(hb:∀b∈s,b.length<=1000000000) :
 Calls prog 164 #[v] w λe w'=>∃t,e=.returned (.tuple #[t,.int .i64 (yS s).2])/\Own w' w.heap.size 5 t (yS s).1/\K w w':=by
 have J:Hid (yS s=if s.all gV then (frames s,0)else ([],30)):=ae rfl
 generalize yS s=R at *
 obtain⟨A,c,rfl,hl,-⟩:=h
 have HB:=ae hb
 have y:=ai.new w 42 #[.slice none 0 0]
 have k0:=(K.rf w).al (.cells #[.slice none 0 0] 42)
 clear hb
 go_enter func164,ntmps164
 go_wp2_with fail
 generalize w.alloc _=w0 at *
 have F:Own w0 w.heap.size 5 (.slice none 0 0) []:=iF _ _ _ _
 go_loopw [7,8,12] (fun _ _ i W=>∃(j:Nat) (t:Value),j<=s.length/\i=.int .i64 (j:Int)/\ai W w.heap.size 42 #[t]/\Own W w.heap.size 5 t (yT (s.take j))/\Hid ((s.take j).all gV=true)/\Below w.heap.size w W) (fun _ _ i _=>s.length-(intOf i).toNat)
 case atStart=>exact⟨0,_,af,rfl,y,by simpa [yT]using F,ae aj,k0⟩
 case round =>
  clear y F;obtain⟨j,t,hj,rfl,y,B,D,kr⟩:=hrel;by_cases C:j<s.length
  ·have ba:(j:Int)<(s.length:Int):=af;obtain⟨b1,off,cs,rfl,Y,G,T,d⟩:=dM hl j C au;have Z:=HB.aa _ (bW C);have N:Hid (s.take (j+1)=s.take j++[s[j]]):=ae (gE C);have E:Hid (gV s[j]=false->R=([],30)):=ae λh=>by rw[J.aa,if_neg];simp only[pU];intro X;have:=X _ (bW C);rw[h]at this;cases this
   generalize s[j]=b at *;obtain⟨u,rfl,O⟩:=G w (K.rf w);have cj:wr.cell? ⟨b1,off+j,none⟩=some u:=by have:=T wr kr;simpa [i6]using this
   have S:=iQ _ _ _ _ O kr;obtain⟨I,M,rfl⟩:∃I M,u=.slice I b.length M:=by obtain⟨A,c,e,-⟩:=O;exact⟨A,c,e⟩
   have gA:=abn (s.take j);have aDe:(s.take j).length<=200000:=aU;have C1:=ae (arf w.heap.size w.heap.size w.heap.size t _ (yT (s.take j)) b wr y B S ⟨aG _,aG _,kr.size⟩ kr.size Z af);have L:Hid (Fz b=if gV b then 0 else 30):=ae rfl;clear d T Y G S y B;go_wp2_with fail
   refine C1.aa.mono ?_;rintro e w2⟨H,rfl,hx2,V,U⟩;cases hok:gV b
   ·have eB:=ae (E.aa hok);rw[show Fz b=30 by rw[L.aa,hok];rfl];clear hok;go_wp2;go_ret2;exact⟨_,KY,by rw[eB.aa];exact iF _ _ _ _,kr.trans U⟩
   ·have HA:Hid ((s.take (j+1)).all gV=true):=ae (by rw[N.aa,List.all_append,D.aa];simp[hok]);rw[show Fz b=0 by rw[L.aa,hok];rfl];have eY:Own w2 w.heap.size 5 H (yT (s.take (j+1))):=by rw[N.aa];simpa [yT]using V
    clear hok V;go_wp2;go_roundw
    case rel=>exact⟨j+1,H,af,bO,hx2,eY,HA,kr.trans U⟩
    case measure=>simp[intOf];omega
  ·have ba:¬(j:Int)<(s.length:Int):=af;obtain rfl:j=s.length:=af;have eB:Hid (R=(frames s,0)):=ae (by have:=D.aa;rw[mC]at this;rw[J.aa,if_pos this]);have E:Hid (Own wr w.heap.size 5 t (frames s)):=ae (by have Q:=D.aa;rw[mC]at B Q;rw[<- abX Q];exact B);have q:=y.cell;clear B y;go_wp2;go_ret2;exact⟨_,KY,by rw[eB.aa];exact E.aa,kr⟩
theorem Td(s:List (List UInt8))(v:Value)(w:World)(h:ar i6 s v w)(hn:s.length<=200000)(hb:∀b∈s,b.length<=1000000000) :
 Calls prog 162 #[v] w λe w'=>∃Q,e=.returned Q/\aT (λk=>k<w.heap.size) w.heap.size 42 i6 s Q w'/\K w w':=by
 obtain⟨A,c,rfl,hl,-⟩:=h
 have HB:=ae hb
 obtain⟨i,J,E,L,hz2⟩:=info_parts ajA
 have Z:∀W:World,(Instr.makeSlice 149 (.int .i64 0) (.int .i64 (s.length:Int))).run prog W=.ok (.slice (some ⟨W.heap.size,0,none⟩) 0 s.length) (W.alloc (.cells (madeCells #[.slice none 0 0] s.length) 42)):=by intro W;have h:=run_make (P:=prog) W 149 42 i (.slice none 0 0) underlying149 J E .i64 .i64 0 (s.length:Int) af af UJ af;rw[L]at h;simpa [Value.cells]using h
 clear J E L hz2 hb
 have D:=ai.new w 42 (madeCells #[.slice none 0 0] s.length)
 have k0:=(K.rf w).al (.cells (madeCells #[.slice none 0 0] s.length) 42)
 go_enter func162,ntmps162
 go_wp2_with fail
 generalize w.alloc _=w0 at *
 have N:aT (λk=>k<w.heap.size) w.heap.size 42 i6 [] (.slice (some ⟨w.heap.size,0,none⟩) 0 s.length) w0 :=
  ⟨[],Tg (xs:=[]) (rest:=List.replicate s.length (.slice none 0 0)) (aG _) (by rw[aJ,<- toList_madeCells_one];exact D) rfl aj Dp,rfl,λ_ _=>Each.nil _ _⟩
 clear Z D
 go_loopw [3,5,11] (fun o _ i W=>∃j:Nat,j<=s.length/\i=.int .i64 (j:Int)/\aT (fun k=>k<w.heap.size) w.heap.size 42 i6 (s.take j) o W/\K w W) (fun _ _ i _=>s.length-(intOf i).toNat)
 case atStart=>exact⟨0,af,rfl,by simpa using N,k0⟩
 case round =>
  clear N;obtain⟨j,hj,rfl,hO,kr⟩:=hrel;by_cases C:j<s.length
  ·have ba:(j:Int)<(s.length:Int):=af;obtain⟨b1,off,cs,rfl,Y,G,R,d⟩:=dM hl j C au;have bN:=HB.aa _ (bW C);have X:Hid (s.take (j+1)=s.take j++[s[j]]):=ae (gE C);generalize s[j]=b at *;obtain⟨u,rfl,hu⟩:=G w (K.rf w);have cj:wr.cell? ⟨b1,off+j,none⟩=some u:=by have:=R wr kr;simpa [i6]using this
   obtain⟨Au,cu,rfl,V⟩:=iQ _ _ _ _ hu kr;have O:=ae (Tk Au b.length cu (dy b) wr V (xw b) bN);have hbv:=hO.blk;clear d R Y G V;go_wp2_with fail
   refine O.aa.mono ?_;rintro e B⟨y,rfl,t,H⟩;replace t:Own B wr.heap.size 5 y b:=by unfold Own;exact t
   have T:=(hO.st H).st ((K.rf B).al (.cells #[y] 42));have hz:=kr.size;have M:Fx (λk=>k<wr.heap.size) (λW=>i6.rel b [y] W) B:=λW u=>⟨y,rfl,eN (eE t u λb hb h=>by have:=(t.lt b hb).1;omega)⟩
   obtain⟨I,c4,rfl,-⟩:=t.slice;have F:=fE.new (S:=i6) (e:=42) (v:=.slice I b.length c4) M 0 (fw _);have U:=(kr.tr H).tr ((K.rf B).al (.cells #[.slice I b.length c4] 42));clear hO M t O;go_wp2_with (at_builtin;refine jK rfl _ _ 149 rfl _ 1 24 Rg rfl rfl T _ rfl b ?p1 ?p2 ?p3 ?_)
   case p1=>exact F.less λk hk=>by rcases hk with hk|hk;omega;have:=hbv k hk;omega
   case p2=>simp;omega
   case p3=>exact U.size
   intro v9 w9 bG bJ _ bo;rw[<- X.aa]at bG;have k9:=U.trans bo;clear F T;exact VS
  ·have ba:¬(j:Int)<(s.length:Int):=af;obtain rfl:j=s.length:=af;rw[mC]at hO;exact Pn
structure jY(gl gd:Nat)(vh vr:Value)(l:List UInt8)(ie room:Nat)(w:World):Prop where
 dk:iq gd vh l ie room w
 blk:ai w gl 224 #[.pointer (some ⟨gd,0,none⟩),vr]
 row:∃n xs,n<=l.length/\w.ownsRow 0 42 1 vr n xs
def jg(gl gd:Nat)(vh vr:Value)(k:Nat):Prop:=k=gl∨vr.ownBlock=some k∨jf gd vh k
structure nN(gl gd:Nat)(vh vr dA uT:Value)(w w':World):Prop where
 up:ah (jg gl gd vh vr) w w'
 new:∀k,jg gl gd dA uT k->jg gl gd vh vr k∨w.heap.size<=k
section
variable {gl gd:Nat} {vh vr dA uT LC akt:Value} {l:List UInt8} {ie room:Nat} {w w' w'':World}
theorem jY.st(h:jY gl gd vh vr l ie room w)(k:K w w'):jY gl gd vh vr l ie room w':=by obtain⟨n,xs,hn,i⟩:=h.row;exact⟨h.dk.st k,h.blk.below k h.blk.lt,n,xs,hn,fZ i k⟩
theorem jY.lt(h:jY gl gd vh vr l ie room w):∀k,jg gl gd vh vr k->k<w.heap.size:=λk hk=>by
 obtain⟨n,xs,hn,i⟩:=h.row;rcases hk with rfl|hk|hk
 ·exact h.blk.lt
 ·exact (i.lt k hk).2
 ·exact h.dk.lt k hk
theorem jY.apart(h:jY gl gd vh vr l ie room w):¬jf gd vh gl/\(∀k,vr.ownBlock=some k->¬jf gd vh k)/\vr.ownBlock≠some gl:=by
 obtain⟨n,xs,hn,i⟩:=h.row;refine⟨λhk=>?_,λk hk t=>?_,λe=>?_⟩
 ·rcases hk with e|e
  ·exact absurd (h.blk.ja (e▸h.dk.blk)) au
  ·obtain⟨j,h1⟩:=gg h.dk.own e;exact VR
 ·obtain⟨j,h1⟩:=gg i hk;rcases t with rfl|e
  ·exact absurd (h1.ja h.dk.blk) au
  ·obtain⟨u,s⟩:=gg h.dk.own e;exact absurd (h1.ja s) au
 ·obtain⟨j,h1⟩:=gg i e;exact VR
theorem jY.aku{i:List UInt8}{j:Nat}(h:jY gl gd vh vr l ie room w)(d:iq gd dA i j room w')(u:lr gd vh dA w w')(y:l.length<=i.length):jY gl gd dA vr i j room w'/\nN gl gd vh vr dA vr w w':=by
 obtain⟨t,A,-⟩:=h.apart;obtain⟨n,xs,hn,s⟩:=h.row;refine⟨⟨d,h.blk.bT u.up t,n,xs,bq hn y,eE s u.up A⟩,⟨u.up.more λk hk=>.inr (.inr hk),λk hk=>?_⟩⟩;rcases hk with hk|hk|hk
 ·exact .inl (.inl hk)
 ·exact .inl (.inr (.inl hk))
 ·exact (u.new k hk).imp (λh=>.inr (.inr h)) id
theorem nN.rf(k:K w w'):nN gl gd vh vr vh vr w w':=⟨ah.bg k _,λ_ h=>.inl h⟩
theorem nN.tr(h:nN gl gd vh vr dA uT w w')(k:nN gl gd dA uT LC akt w' w''):nN gl gd vh vr LC akt w w'' :=
 ⟨h.up.iA k.up λb hb j=>(h.new b j).resolve_right af,λb hb=>(k.new b hb).elim (λi=>h.new b i) λi=>.inr (bq h.up.size i)⟩
end
theorem TK(h:List (List UInt8)):h.length<=(frames h).length:=by
 induction h with
 | nil=>simp
 | cons b h i => simp only[frames,oc,cT,iE,AX,wW]at i⊢;omega
def oA(l:List UInt8)(h:List (List UInt8))(room:Nat):List UInt8×Int:=if h.all gV then uQ l (frames h) room else (l,30)
theorem aoH(gl gd:Nat)(vh vr v:Value)(l:List UInt8)(J room:Nat)(rs:List (List UInt8))(w:World)(h:jY gl gd vh vr l J room w)(T:Fx (jg gl gd vh vr) (λW=>ar i6 rs v W) w)(rK:rs.length<=200000)(hb:∀b∈rs,b.length<=1000000000) :
 Calls prog 231 #[.pointer (some ⟨gl,0,none⟩),v] w λe w'=>∃dA uT,e=.returned (.int .i64 (oA l rs room).2)/\jY gl gd dA uT (oA l rs room).1 J room w'/\nN gl gd vh vr dA uT w w':=by
 have HA:Hid (oA l rs room=if rs.all gV then uQ l (frames rs) room else (l,30)):=ae rfl
 have HD:Hid (uQ l (frames rs) room=if l.length+(frames rs).length<=room then (l++frames rs,0)else (l,90)):=ae rfl
 have HF:Hid (yS rs=if rs.all gV then (frames rs,0)else ([],30)):=ae rfl
 generalize oA l rs room=R at *
 have C1:=ae (aaV rs v w T.now rK hb)
 have cC:(yS rs).1.length<=1000000000:=by exact agx
 have H:=ae h
 have HV:=ae T
 have Zi:=ae hb
 obtain⟨A,c,rfl⟩:=az T.now
 have q:=h.blk.cells
 clear h T hb
 go_enter func231,ntmps231
 go_wp2_with fail
 refine C1.aa.mono ?_
 rintro e w1⟨v1,rfl,L,I⟩
 generalize yS rs=F at *
 cases hok:rs.all gV
 ·have Y:Hid (F=([],30)):=ae agy;have eB:Hid (R=(l,30)):=ae agz;rw[Y.aa];clear hok L cC;go_wp2;go_ret;exact⟨vh,vr,KY,by rw[eB.aa];exact H.aa.st I,nN.rf I⟩
 have Y:Hid (F=(frames rs,0)):=ae agA
 have eB:Hid (R=uQ l (frames rs) room):=ae agB
 rw[Y.aa]at L cC⊢
 have M:=ae (H.aa.st I)
 obtain⟨A1,c1,rfl,-⟩:=L.slice
 have C2:=ae (aoG gd vh _ l (frames rs) J room w1 M.aa.dk (eN L) cC)
 have q1:=q w1 I
 clear hok q
 go_wp2_with fail
 refine C2.aa.mono ?_
 rintro e Q⟨D,rfl,iY,U⟩
 obtain⟨n,xs,hnl,hrow⟩:=M.aa.row
 replace hrow:=eE hrow U.up M.aa.apart.2.1
 obtain⟨Et,MI⟩:=M.aa.aku iY U (by rw[HD.aa];split <;> simp)
 have N:=ae ((nN.rf I).tr MI)
 have B:=ae Et
 have sH:Fx (jg gl gd D vr) (λW=>ar i6 rs (.slice A rs.length c) W) Q:=HV.aa.to N.aa.up (λ_ h=>h) λk hk hx=>(N.aa.new k hx).resolve_right af
 clear iY U Et MI L q1 HA HF C1 C2
 by_cases hfit:l.length+(frames rs).length<=room
 rotate_left
 ·have yw:Hid (uQ l (frames rs) room=(l,90)):=ae agC;rw[yw.aa];clear hfit;go_wp2;go_ret;exact⟨D,vr,Po,by rw[eB.aa];exact B.aa,N.aa⟩
 have yw:Hid (uQ l (frames rs) room=(l++frames rs,0)):=ae agD
 rw[yw.aa]at B⊢
 obtain⟨-,-,hne⟩:=B.aa.apart
 have q:=B.aa.blk.cells
 have C3:=ae λW (k:K Q W)=>Td rs _ W (sH.at k) rK Zi.aa
 clear hfit HD sH HV
 go_upto_region 9 with (fail)
 refine aaR [0] (λ_=>.pointer (some ⟨gl,0,none⟩)) 7 [([],[]),([],[]),([1],[(28,1)]),([2],[(29,2)]),([3],[(30,3)]),([],[]),([5],[(32,5)]),([4,6],[(31,4),(33,6)]),([0,1,2,3,4,5,6,7],[(27,0)]),([0,1,2,3,4,5,6,7,8],[(35,8)]),([0,1,2,3,4,5,6,7,9],[(36,9),(34,7)])] 37 rfl ak ak ak ak au ?fr ?_
 case fr => intro j hj;simp at hj;subst hj;exact⟨_,_,rfl,rfl,rfl,aj,λV W _=>by simp[aw,List.lookup,execOp,ay,go_sem]⟩
 simp only[dR,dN,ew,dP]
 iterate 6 (apply aV.is;intro V W i E;(try simp only[aI,aJ,aM,aE,aF,ag]at E);simp[aL,aw,List.lookup,E,aS,execOp,ay,ag,aN,i,q,go_sem];rfl)
 refine aV.op (λv W=>aT (λk=>k<Q.heap.size) Q.heap.size 42 i6 rs v W) (λ_ _ _ h k=>h.st k) (λV W i E=>?_) ?_
 ·simp only[aI,aJ,aM,aE,aF,ag]at E;simp[aL,aw,List.lookup,E,aS,execOp,ay,go_sem];refine (C3.aa W i).mono ?_;rintro e w4⟨v4,rfl,cE,k4⟩;exact⟨_,rfl,(cE.low i.size).less λk hk=>bB hk i.size,k4⟩
 intro V W i hA
 simp only[aJ,aM,eA,ag,Nat.reduceAdd]at hA
 obtain⟨e0,e1,e2,e3,e4,e5,hO,-⟩:=hA
 have C:=B.aa.st i
 have ax2:=fZ hrow i
 obtain⟨css,kp,ayT,hE6⟩:=hO
 have hEn:=hE6 W (ah.rf _ _)
 have yr:=B.aa.dk.len
 have pF:=B.aa.dk.room
 have rL:(l++frames rs).length<=1048576:=af
 have Zj:=TK rs
 obtain⟨A6,c6,e6⟩:=az (aT.ar ⟨css,kp,ayT,hE6⟩)
 rw[e6]at kp
 have hR6:=Reads.xz kp
 refine bu.app (.tmp 31) (.tmp 33) 149 _ 1 24 Rg rfl rfl vr n xs ?_ ax2 W.heap.size A6 rs.length c6 css.flatten ?_ ?_ hEn.ones ?_ (fw _) ?_
 ·simp[aw,List.lookup,e4]
 ·simp[aw,List.lookup,e6]
 ·exact hR6
 ·simp only[cT]at rL;omega
 intro v9 s S O dc _
 have G:=C.blk.grown O λe=>hne e.symm
 have Z:iq gd D (l++frames rs) J room s:=by
  obtain⟨-,a2,-⟩:=C.apart;have u:ah (λk=>vr.ownBlock=some k) W s:=ah.fM O λk hk=>hk
  exact⟨C.dk.blk.bT u λe=>a2 _ e (.inl rfl),eE C.dk.own u λk hk e=>a2 _ e (.inr hk),yr,pF⟩
 have ayU:v9.ownBlock≠some gl:=λe=>by obtain⟨cur,h1⟩:=gg S e;exact absurd (h1.ja G) au
 have hgd:gl≠gd:=λe=>C.apart.1 (.inl e)
 have pE:D.ownBlock≠some gl:=λe=>C.apart.1 (.inr e)
 have q9:=G.cell
 have z9:=G.frozen
 obtain⟨y,t,rfl⟩:∃A c,v9=.slice A (n+rs.length) c:=by
  rcases S.2 with ⟨rfl,h0⟩|⟨g,cap,cur,rfl,-⟩
  ·exact⟨_,_,by rw[h0]⟩
  ·exact⟨_,_,rfl⟩
 iterate 2 (apply bu.pure;rfl;(simp[aw,List.lookup,bj,e0,execOp,ay,go_sem];rfl))
 refine bu.skip (s.setCell ⟨gl,1,none⟩ (.slice y (n+rs.length) t)) rfl VT ?_
 refine bu.nil ?_
 simp only[bF,Act.put,cO,cM,cL,Nat.reduceAdd]
 have u9:ah (λk=>k=gl) s (s.setCell ⟨gl,1,none⟩ (.slice y (n+rs.length) t)):=ah.b6 (X:=λk=>k=gl) rfl 1 _
 have hV:jY gl gd D (.slice y (n+rs.length) t) (l++frames rs) J room (s.setCell ⟨gl,1,none⟩ (.slice y (n+rs.length) t)):=by refine⟨⟨Z.blk.bT u9 λe=>hgd e.symm,eE Z.own u9 λk hk e=>pE xy,yr,pF⟩,G.aR 1 (.slice y (n+rs.length) t),_,_,?_,eE S u9 λk hk e=>ayU xy⟩;exact Va
 have hU:nN gl gd vh vr D (.slice y (n+rs.length) t) w (s.setCell ⟨gl,1,none⟩ (.slice y (n+rs.length) t)):=by
  refine N.aa.tr ⟨((ah.bg i _).tr (ah.fM O λk hk=>.inr (.inl hk))).tr (ah.b6 (.inl rfl) 1 _),λk hk=>?_⟩;have hsz:=i.size;rcases hk with hk|hk|hk
  ·exact .inl (.inl hk)
  ·rcases dc with e|e <;> rw[e]at hk
   ·exact .inl (.inr (.inl hk))
   ·injection hk with hk;exact .inr af
  ·exact .inl (.inr (.inr hk))
 clear q9 z9 S O G Z e0 e1 e2 e3 e4 e5
 go_wp2
 go_ret
 exact⟨Po,_,_,by rw[eB.aa,yw.aa];exact hV,hU⟩
