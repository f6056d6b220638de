/-
  The walk of frame.Wrap (layer 3). Conditions: bytes of at most a thousand million.
-/
import Derived.Test.YtfndfpdhlbmboaaGreatMa10
import Derived.Test.YtfndfpdhlbmboaaGreatMz
set_option maxRecDepth 100000
set_option linter.constructorNameAsVariable false
set_option maxHeartbeats 16000000
set_option linter.unusedVariables false
set_option linter.unusedSimpArgs false
namespace Go.Proofs.YtfndfpdhlbmboaaGreat
open Go Go.RowKit _root_.Go.Proofs.Tryz
def ib(b:List UInt8):Bool:=decide (1<=b.length)&&decide (b.length<=4000)
def frame(b:List UInt8):List UInt8:=be 2 b.length++be 4 (zV b)++b
def zD(b:List UInt8):List UInt8:=if ib b then frame b else []
def FI(b:List UInt8):Int:=if ib b then 0 else 30
theorem Bm b:(frame b).length=xu b:=by simp[frame,uz,xu];omega
theorem aqc b v w(h:sl b v w)(hn:b.length<=1000000000) :
 Calls prog 312 #[v] w λe w'=>∃v',e=.returned (.tuple #[v',.int .i64 (FI b)])/\Own w' w.heap.size 5 v' (zD b)/\K w w':=by
 have CS:=ae λW (k:K w W)=>acx b v W (nC _ _ _ _ h k) hn
 have hcs:=VN b
 obtain⟨A,c,rfl,L⟩:=h
 have kk:=K.rf w
 have HF:Hid (zD b=if ib b then be 2 b.length++be 4 (zV b)++b else []):=ae rfl
 have HC:Hid (FI b=if ib b then 0 else 30):=ae rfl
 have HK:Hid (ib b=(decide (1<=b.length)&&decide (b.length<=4000))):=ae rfl
 generalize FI b=R at *
 generalize zD b=F at *
 generalize ib b=E at *
 generalize zV b=s at *
 go_enter func312,ntmps312
 by_cases h0:0<b.length
 rotate_left
 ·have h0':((b.length:Int)==0)=true:=by rw[beq_iff_eq];omega
  obtain rfl:E=false:=by rw[HK.aa,decide_eq_false (show ¬1<=b.length by omega)];rfl
  exact agf
 have h0':((b.length:Int)==0)=false:=by rw[beq_eq_false_iff_ne];omega
 by_cases h1:4000<b.length
 ·have h1':4000<(b.length:Int):=af;obtain rfl:E=false:=by rw[HK.aa,decide_eq_false (show ¬b.length<=4000 by omega),Bool.and_false]
  exact agf
 have h1':(b.length:Int)<=4000:=af
 obtain rfl:E=true:=by rw[HK.aa,decide_eq_true (show 1<=b.length by omega),decide_eq_true (show b.length<=4000 by omega)];rfl
 have HR:Hid (R=0/\F=be 2 b.length++be 4 s++b):=ae ⟨HC.aa,HF.aa⟩
 clear HK HC HF
 obtain⟨i,S,C,G,hz2⟩:=info_parts Xw
 have Rp:∀W:World,(Instr.makeSlice 94 (.int .i64 0) (.int .i64 (6+(b.length:Int)))).run prog W=.ok (.slice (some ⟨W.heap.size,0,none⟩) 0 (6+b.length)) (W.alloc (.cells (madeCells #[.int .u8 0] (6+b.length)) 5)):=by intro W;have h:=run_make (P:=prog) W 94 5 i (.int .u8 0) underlying94 S C .i64 .i64 0 (6+(b.length:Int)) af af U0 af;rw[G]at h;simpa [Value.cells,show ((6:Int)+(b.length:Int)).toNat=6+b.length from by omega]using h
 clear S C G hz2
 have O:=ah.new w 5 (madeCells #[.int .u8 0] (6+b.length))
 have u:=ah.new (w.alloc (.cells (madeCells #[.int .u8 0] (6+b.length)) 5)) 94 #[.slice (some ⟨w.heap.size,0,none⟩) 0 (6+b.length)]
 have U:=O.alloc (.cells #[.slice (some ⟨w.heap.size,0,none⟩) 0 (6+b.length)] 94)
 have j:=K.lq w (.cells (madeCells #[.int .u8 0] (6+b.length)) 5) (.cells #[.slice (some ⟨w.heap.size,0,none⟩) 0 (6+b.length)] 94)
 simp only[World.size_alloc]at u
 go_wp2_with fail
 generalize (w.alloc (.cells (madeCells #[.int .u8 0] (6+b.length)) 5)).alloc (.cells #[.slice (some ⟨w.heap.size,0,none⟩) 0 (6+b.length)] 94)=w0 at *
 have Q:Own w0 w.heap.size 5 (.slice (some ⟨w.heap.size,0,none⟩) 0 (6+b.length)) [] :=
  Oo (xs:=[]) (rest:=List.replicate (6+b.length) (.int .u8 0)) (aC _) (by rw[aO,<- toList_madeCells_one];exact U) rfl aj Bn
 have C:=u.lt
 refine (abF (w.heap.size+1) w.heap.size w.heap.size 2 b.length _ [] w0 u Q ⟨af,af,af⟩ af af af aj).mono ?_
 rintro e w1⟨v1,rfl,I,B,V⟩
 replace j:=j.trans V
 rw[aO]at B
 have eE:=uz 2 b.length
 generalize be 2 b.length=D at *
 clear u Q U O V Rp
 go_wp2_with fail
 refine (CS.aa w1 j).mono ?_
 rintro e w2⟨rfl,t⟩
 have y:=I.av t
 have H:=Uf (aC _) B t
 replace j:=j.tr t
 have hz2:=y.lt
 clear I B t CS
 go_wp2_with fail
 refine (abF (w.heap.size+1) w.heap.size w.heap.size 4 s v1 D w2 y H ⟨af,af,af⟩ af af hcs af).mono ?_
 rintro e w3⟨v3,rfl,T,M,N⟩
 replace j:=j.trans N
 have X:=(L.below j (aC _)).more j.size
 have q3:=T.cell
 have kP:(D++be 4 s).length=6:=by simp[uz,eE]
 have Y6:=j.size
 clear y H N L
 generalize D++be 4 s=hd at *
 go_wp2_with (at_builtin;refine iF rfl _ _ 94 rfl w.heap.size 5 _ 1 1 TB _ _ _ rfl M _ A b.length c (dP b) rfl X (wO b) ?p1 Y6 ?_)
 case p1=>omega
 intro v4 w4 J _ _ Z
 have HO:Hid (Own w4 w.heap.size 5 v4 (hd++b)):=ae (by unfold Own;rw[Kf,cF,kP];exact J)
 have Y:=j.trans Z
 clear J M T q3
 go_wp2
 go_ret2
 exact⟨_,by rw[HR.aa.1];rfl,by rw[HR.aa.2];exact HO.aa,Y⟩
theorem arx(a b:Nat)(t:a<4294967296)(hb:b<4294967296):bits .or .i64 (a:Int) (b:Int)=((a ||| b:Nat):Int):=by
 have j:a ||| b<2^32:=Nat.or_lt_two_pow af af
 show IntKind.i64.wrap ((BitVec.ofInt 64 (a:Int) ||| BitVec.ofInt 64 (b:Int)).toNat:Int)=_;rw[BitVec.toNat_or,ofInt_u64 a af,ofInt_u64 b af,IntKind.wrap_i64];omega
theorem abG g y A c t k(l:List UInt8) w(hb:ah w g 94 #[.slice (some ⟨y,A,none⟩) l.length c])(B:∀j (I:j<l.length),w.cell? ⟨y,A+j,none⟩=some (.int .u8 (l[j].toNat:Int)))
 (Q:t+k<=l.length) (U:l.length<=c) (O:0<k) (hk:k<=4) (R:l.length<=1000000000) :
 Calls prog 205 #[.int .i64 t,.int .i64 k,.pointer (some ⟨g,0,none⟩)] w λe w'=>e=.returned (.int .i64 (iG ((l.drop t).take k):Int))/\K w w':=by
 have H:=K.rf w
 have q:=hb.cell
 have D:=ae B
 have L:(t:Int)+k<=(l.length:Int):=af
 have S:¬c=t:=af
 clear B hb
 go_enter func205,ntmps205
 go_wp2_with fail
 go_loop [6,8,16] (fun n _ i=>∃j:Nat,j<=k/\i=.int .i64 j/\∃m:Nat,n=.int .i64 m/\Hid (m=iG ((l.drop t).take j))) (fun _ _ i=>k-(intOf i).toNat)
 case atStart=>exact⟨0,af,rfl,0,rfl,ae (by simp[iG])⟩
 case round =>
  obtain⟨j,I,rfl,m,rfl,u⟩:=hrel;by_cases T:j<k
  ·have E:(j:Int)<k:=af;have M:w.cell? ⟨y,A+t+j,none⟩=some (.int .u8 ((l[t+j]'af).toNat:Int)):=by have:=D.aa (t+j) af;rwa [Nat.add_assoc]
   have J:=(l[t+j]'af).toNat_lt;have C:Hid (iG ((l.drop t).take (j+1))=m*256+(l[t+j]'af).toNat):=ae (by rw[gj (by simp;omega),Ug,u.aa];simp);have hm:m<16777216:=by have:=KH ((l.drop t).take j);rw[<- u.aa]at this;have G:((l.drop t).take j).length<=3:=aY;have N:256^((l.drop t).take j).length<=256^3:=Nat.pow_le_pow_right ay G;omega
   generalize (l[t+j]'af).toNat=x at *;have F:=ae (show bits BinOp.or IntKind.i64 ((m:Int)*256) (x:Int)=((m*256+x:Nat):Int) by
    rw[show (m:Int)*256=((m*256:Nat):Int) by simp,arx _ _ af af,nat_join 8 _ _ af af])
   go_wp2;go_round
   case rel=>exact⟨j+1,af,bJ,m*256+x,by rw[F.aa],ae C.aa.symm⟩
   case measure=>simp[intOf];omega
  ·have E:¬(j:Int)<k:=af;obtain rfl:j=k:=af;go_wp2;go_ret;exact⟨by rw[<- u.aa];rfl,H⟩
def frames(j:List (List UInt8)):List UInt8:=j.flatMap frame
theorem atm t j(h:j<t.length)(u:ib t[j]=true) :
 ∃rest,frames t=frames (t.take j)++(frame t[j]++rest)/\iG (((frames t).drop (frames (t.take j)).length).take 2)=t[j].length/\iG (((frames t).drop ((frames (t.take j)).length+2)).take 4)=zV t[j] /\
  ((frames t).take ((frames (t.take j)).length+6+t[j].length)).drop ((frames (t.take j)).length+6)=t[j]/\(frames t).length=(frames (t.take j)).length+6+t[j].length+rest.length/\(frames (t.take (j+1))).length=(frames (t.take j)).length+6+t[j].length:=by
 have e:frames t=frames (t.take j)++(frame t[j]++frames (t.drop (j+1))):=by unfold frames;conv=>lhs;rw[<- List.take_append_drop j t,List.flatMap_append,<- List.getElem_cons_drop h,rI]
 have A:t[j].length<=4000:=by simp only[ib,dE,decide_eq_true_eq]at u;exact u.2
 have y:=VN t[j]
 refine⟨_,e,?_,?_,?_,?_,?_⟩
 ·rw[e,List.drop_left,frame,dY,dY,List.take_left' (uz 2 _),U3];exact Nat.mod_eq_of_lt af
 ·rw[e,List.drop_append,List.drop_of_length_le af,aO,Nat.add_sub_cancel_left,frame,dY,dY,List.drop_left' (uz 2 _),List.take_left' (uz 4 _),U3];exact Nat.mod_eq_of_lt af
 ·rw[e,Nat.add_assoc,List.take_append,fM (show (frames (t.take j)).length<=_ by omega),Nat.add_sub_cancel_left,List.drop_append,List.drop_of_length_le af,aO,Nat.add_sub_cancel_left,
   List.take_left' (by rw[Bm];rfl),frame,List.drop_left' (by simp[uz])]
 ·rw[e];simp only[cF,Bm,xu];omega
 ·rw[gj h];simp only[frames,List.flatMap_append,rI,List.flatMap_nil,List.append_nil,cF,Bm,xu];omega
theorem aqd t v w A c(hv:v=.slice A (frames t).length c)(O:Reads w w.heap.size 1 A (frames t).length (dP (frames t)))(E:(frames t).length<=c)(hn:(frames t).length<=1000000000)(H:∀b∈t,ib b=true) :
 Calls prog 117 #[v] w λe w'=>∃v',e=.returned (.tuple #[v',.int .i64 ((frames t).length:Int)])/\aA (λk=>k<w.heap.size) w.heap.size 94 jP t v' w'/\K w w':=by
 subst hv
 have jO:=ae H
 have Y:=ae λj h=>atm t j h (H _ (bS h))
 have hrl:t.length<=(frames t).length:=by
  clear O E hn jO Y
  induction t with
  | nil=>simp
  | cons b t ih => have:=ih (λb hb=>H b PS);simp only[frames,rI,cF,eQ,Bm,xu]at this⊢;omega
 have HE:Hid ((frames (t.take t.length)).length=(frames t).length):=ae (by rw[lL])
 obtain⟨L,hL⟩:∃L,L=frames t:=⟨_,rfl⟩
 rw[<- hL]at O E hn hrl HE Y⊢
 clear hL H
 have hb0:=ah.new w 94 #[.slice A L.length c]
 have I:=hb0.aS
 go_enter func117,ntmps117
 go_wp2
 go_step3
 go_wp2_with fail
 generalize w.alloc _=w0 at *
 have AE:=(O.below I (aC _)).more I.size
 have js:=aA.nil (λk=>k<w.heap.size) w0.heap.size 94 jP w0
 clear O
 go_step3
 go_wp2_with fail
 go_loopw [4,5,7,8,9] (fun o at_ _ _ _ W=>∃j:Nat,j<=t.length/\at_=.int .i64 ((frames (t.take j)).length:Int)/\aA (fun k=>k<w.heap.size) w0.heap.size 94 jP (t.take j) o W/\K w0 W) (fun _ at_ _ _ _ _=>L.length+1-(intOf at_).toNat)
 case atStart=>exact⟨0,af,rfl,by simpa using js,K.rf w0⟩
 case round =>
  clear js;obtain⟨j,hj,rfl,D,kr⟩:=hrel;have C:=hb0.av kr;have q:=C.cell;have hgr:=C.lt;have krw:=I.tr kr;by_cases T:j<t.length
  ·obtain⟨rest,h1,h2,h3,h4,h5,h6⟩:=Y.aa j T;have hx:=jO.aa _ (bS T);have HT:=ae (gj T);simp only[ib,dE,decide_eq_true_eq]at hx;obtain⟨hx1,hx2⟩:=hx;have H6:=ae h6;generalize (frames (t.take j)).length=y at *;generalize t[j]=x at *;have N:(L.length:Int)=y+6+(x.length:Int)+rest.length:=af;have Jj:6<(L.length:Int)-(y:Int):=af;have aN:((x.length:Int)==0)=false:=by rw[beq_eq_false_iff_ne];omega
   have hb2:¬4000<(x.length:Int):=af;have bG:¬((L.length:Int)-((y:Int)+6)<(x.length:Int)):=af;have hb4:(y:Int)+6+(x.length:Int)<=c:=af;clear N;have h0L:0<L.length:=af;have Z:=(AE.below kr (aC _)).more kr.size;obtain⟨F,G,rfl,hbk,hcell⟩:=Z.at_ h0L;have X:=ae (abG w.heap.size F G c y 2 L wr C hcell af E af af hn);rw[h2]at X;have C2:Hid (∀W,K wr W->Calls prog 205 #[.int .i64 ((y:Int)+2),.int .i64 4,.pointer (some ⟨w.heap.size,0,none⟩)] W λe w'=>e=.returned (.int .i64 (zV x:Int))/\K W w'):=ae λW k=>by have h:=abG w.heap.size F G c (y+2) 4 L W (C.below k hgr) (λi hi=>(k.cell (p:=⟨F,G+i,none⟩) hbk).trans (hcell i hi)) af E af af hn;rw[h3]at h;exact h
   have hcut:=Z.cut (y+6) (y+6+x.length) c af af E;rw[show ((dP L).take (y+6+x.length)).drop (y+6)=dP x from by unfold dP;rw[<- List.map_take,<- List.map_drop,h4],show y+6+x.length-(y+6)=x.length by omega,if_neg (show ¬c=y+6 by omega)]at hcut;have CS:=ae λW (k:K wr W)=>acx x (.slice (some ⟨F,G+(y+6),none⟩) x.length (c-(y+6))) W ⟨_,_,rfl,(hcut.below k (aC _)).more k.size⟩ af
   have CB:=ae λW (k:K wr W)=>aoP (some ⟨F,G+(y+6),none⟩) x.length (c-(y+6)) (dP x) W ((hcut.below k (aC _)).more k.size) (wO x) af
   have hcs:=VN x;clear h1 h2 h3 h4 h5 h6 hcut hcell Z;go_wp2_with fail
   refine X.aa.mono ?_;rintro e w1⟨rfl,Q⟩;have q1:=(C.below Q hgr).cell;clear q;go_wp2_with fail
   rw[show y+6+x.length-(y+6)=x.length from by omega];refine (C2.aa w1 Q).mono ?_;rintro e w2⟨rfl,k2⟩;have R:=Q.tr k2;go_wp2_with fail
   refine (CS.aa w2 R).mono ?_;rintro e V⟨rfl,k3⟩;have U:=R.tr k3;clear q1 Q k2 R k3;generalize zV x=sx at *;go_wp2_with fail
   refine (CB.aa V U).mono ?_;rintro e J⟨M,rfl,B,k4⟩;replace B:Own J V.heap.size 5 M x:=by unfold Own;exact B
   have qi:=U.tr k4;have bR:=D.blk;have cB:=(D.st qi).st ((K.rf J).al (.cells #[M] 94));have hz:=U.size;have hF:Fx (λk=>k<V.heap.size) (λW=>jP.rel x [M] W) J:=λW u=>⟨M,rfl,eK (iK B u λb hb h=>by have:=(B.lt b hb).1;omega)⟩
   obtain⟨A4,c4,rfl,-⟩:=B.slice;have hr:=ew.new (S:=jP) (e:=94) (v:=.slice A4 x.length c4) hF 0 (eV _);have ML:=(kr.tr qi).tr ((K.rf J).al (.cells #[.slice A4 x.length c4] 94));clear D hF B X C2 CS CB;go_wp2_with (at_builtin;refine jt rfl _ _ 119 rfl _ 1 24 RL rfl rfl cB _ rfl x ?p1 ?p2 ?p3 ?_)
   case p1=>exact hr.less λk hk=>agh
   case p2=>simp;omega
   case p3=>exact ML.size
   intro v9 w9 bq bB _ aZ;rw[<- HT.aa]at bq;have k9:K w0 w9:=by exact ML.trans aZ
   clear hr cB;go_wp2;go_roundw
   case rel=>exact⟨j+1,af,by rw[H6.aa];go_num,bq,k9⟩
   case measure=>simp[intOf];omega
  ·obtain rfl:j=t.length:=af;rw[lL]at D;have N:((frames (t.take t.length)).length:Int)=(L.length:Int):=KS;rw[N];have Jj:¬6<(L.length:Int)-(L.length:Int):=af;clear N;go_wp2;try rw[gq]
   go_ret2;exact⟨_,rfl,D.low I.size,krw⟩
structure ic(d:oK)(s:dc):Prop where
 eT:∀r∈d.eT,eo r=true/\jT r/\(bM r).length<=4000
 run:i6 dw d.eT=some s
 fit:iO d.eT<=d.room
 room:d.room<=1048576
theorem atn n:1<=(az n).length:=by grind [az]
theorem acy r:1<=(bM r).length:=by
 grind [atn,bf,bM,cF]
theorem UK{r}(h:(bM r).length<=4000):ib (bM r)=true:=by
 grind [acy,ib]
theorem OE l:(frames (l.map bM)).length=iO l:=by
 induction l with
 | nil=>rfl
 | cons r l j =>
  grind [frames,cF,Bm,iO]
theorem ato l:7*l.length<=iO l:=by
 induction l with
 | nil=>simp[iO]
 | cons r l j =>
  grind [acy,iO,eQ,xu]
theorem awD l(h:∀r∈l,eo r=true/\jT r):∀s t,qX s->i6 s l=some t->qX t:=by
 induction l with
 | nil=>intro s t i e;injection e with e;exact e▸i
 | cons r l j =>
  intro s t i e
  simp only[i6]at e
  cases h1:dU s r with
  | none=>rw[h1]at e;cases e
  | some u => rw[h1]at e;obtain⟨a,b⟩:=h r aj;exact j (λq y=>h q aG) u t (i.on a b h1) e
theorem awE l:∀s t,i6 s l=some t->t.list.length<=s.list.length+l.length/\t.prom.length<=s.prom.length+l.length/\t.ab.length<=s.ab.length+l.length:=by
 induction l with
 | nil=>intro s t e;injection e with e;subst e;simp
 | cons r l j =>
  intro s t e
  simp only[i6]at e
  cases h1:dU s r with
  | none=>rw[h1]at e;cases e
  | some u =>
   rw[h1]at e
   have a:=ajd s u r h1
   grind
theorem avq l a:(iM l a).length<=l.length:=ll _ _
theorem ax3{s t r}(e:dU s r=some t):t.list.length+t.prom.length+t.ab.length<=s.list.length+s.prom.length+s.ab.length+1:=by
 unfold dU yQ xj xm xp yR at e
 grind [cF,eQ,List.length_nil,avq,ar,iA]
theorem awF l:∀s t,i6 s l=some t->t.list.length+t.prom.length+t.ab.length<=s.list.length+s.prom.length+s.ab.length+l.length:=by
 induction l with
 | nil=>intro s t e;injection e with e;subst e;simp
 | cons r l j =>
  intro s t e
  simp only[i6]at e
  cases h1:dU s r with
  | none=>rw[h1]at e;cases e
  | some u =>
   rw[h1]at e
   have a:=ax3 h1
   grind
theorem avr{s t r}(B:eo r=true)(e:dU s r=some t):∀q∈dF t,q∈dF s∨q=r∨q.kind=1:=by
 have A:∀(p:List aK) a q,q∈kM (iM p a)->q∈kM p:=λp a q j=>by
  grind [kM,List.mem_map_of_mem,OX]
 have u:∀n,∀q∈vH n,q.kind=1:=λn q j=>by
  grind [eo,dU,dF,vH]
 intro q j
 obtain⟨k,n,x,b,l,c⟩:=r
 have hk:=zn B
 simp only at hk
 unfold dF at j⊢
 simp only[DK]at j⊢
 unfold dU yQ xj xm xp yR at e
 simp only at e
 repeat' split at e
 all_goals first|(cases e;done)|(injection e with e;subst e)
 all_goals try simp only at j⊢
 all_goals rcases j with ((j|j)|j)|j
 all_goals first
  | exact .inr (.inr (u _ _ j))
  | exact .inl (.inl (.inl (.inr j)))
  | exact .inl (.inl (.inr j))
  | exact .inl (.inl (.inr (A _ _ _ j)))
  | exact .inl (.inr j)
  | skip
 ·grind [eo,dU,dF,lT]
 ·grind [eo,dU,dF,kM]
 ·unfold oY at j;rename_i C D y E h6;rw[List.map_append,DK]at j;rcases j with j|j
  ·exact .inl (.inr j)
  ·simp at j;rcases hk with ⟨g,_⟩|⟨g,_⟩|⟨_,_,rfl,rfl⟩
   ·omega
   ·omega
   ·subst y;exact .inr (.inl j)
theorem atp l(h:∀r∈l,eo r=true):∀s t,i6 s l=some t->∀q∈dF t,q∈dF s∨q∈l∨q.kind=1:=by
 induction l with
 | nil=>intro s t e q j;injection e with e;subst e;exact .inl j
 | cons r l y =>
  intro s t e q j
  simp only[i6]at e
  cases h1:dU s r with
  | none=>rw[h1]at e;cases e
  | some u =>
   rw[h1]at e;rcases y (λq j=>h q aG) u t e q j with a|a|a
   ·rcases avr (h r aj) h1 q a with b|b|b;all_goals grind
   all_goals grind
section
variable {d:oK} {s t:dc} {r:Rec}
theorem ic.inv(h:ic d s):qX s:=awD _ (λr j=>⟨(h.eT r j).1,(h.eT r j).2.1⟩) _ _ qX.zero h.run
theorem ic.cnt(h:ic d s):d.eT.length<=150000:=by have:=ato d.eT;have:=h.fit;have:=h.room;omega
theorem ic.len(h:ic d s):s.list.length<=150000/\s.prom.length<=150000/\s.ab.length<=150000:=by have a:=awE _ _ _ h.run;have b:=h.cnt;simp only[dw,List.length_nil]at a;omega
theorem ic.tot(h:ic d s):s.list.length+s.prom.length+s.ab.length<=150000:=by have a:=awF _ _ _ h.run;have b:=h.cnt;simp only[dw,List.length_nil]at a;omega
theorem ic.next(h:ic d s)(A:eo r=true)(y:jT r)(u:tG d r=true)(e:dU s r=some t):ic ⟨d.eT++[r],d.room⟩ t:=by
 simp only[tG,dE,decide_eq_true_eq]at u;refine⟨λq j=>?_,?_,?_,h.room⟩
 ·simp only[DK,List.mem_singleton]at j;rcases j with j|rfl
  ·exact h.eT q j
  ·grind
 ·show i6 dw (d.eT++[r])=_;rw[Pd,h.run];simp[i6,e]
 ·grind [eo,jT,tG,dU,iO,xu,bM]
theorem qX.cZ(h:qX s):qX (cZ s):=⟨h.nl,h.np,h.na,h.lp,h.la,h.pa,h.yU,h.yV,h.Gs,Nat.mod_lt _ ay⟩
theorem ic.small(h:ic d s):∀q∈dF (cZ s),(bM q).length<=4000:=by
 intro q y;have j:=VB h.inv.cZ agi q y;have hk:q∈dF s∨q.kind=1:=by
  grind [dF,cZ,bM,vH]
 have u:q∈d.eT∨q.kind=1:=by
  rcases hk with a|a
  ·rcases atp _ (λr t=>(h.eT r t).1) _ _ h.run q a with b|b|b
   ·grind [dF,dw,vH,lT,kM,oY]
   ·grind
   ·omega
  ·omega
 rcases u with a|a
 ·exact (h.eT q a).2.2
 ·have e:bM q=az (bf q.kind)++az q.n:=by grind [bM]
  have B:=cI (bf q.kind) (fW q.kind);have A:=cI q.n j.2.2.1;rw[e,cF];omega
theorem ic.life(h:ic d s)(u:iO (dF (cZ s))<=d.room):ic ⟨dF (cZ s),d.room⟩ (cZ s):=by have t:=VB h.inv.cZ agi;exact⟨λq j=>⟨(t q j).1,(t q j).2,h.small q j⟩,ave h.inv.cZ,u,h.room⟩
theorem ic.new{room}(h:room<=1048576):ic ⟨[],room⟩ dw:=⟨aj,rfl,by simp[iO],h⟩
end
structure gB(gd:Nat)(vh:Value)(l:List UInt8)(gG room:Nat)(w:World):Prop where
 blk:ah w gd 145 #[vh,.int .i64 (gG:Int),.int .i64 (room:Int)]
 own:Own w 0 5 vh l
 len:l.length<=room
 room:room<=1048576
def kY(gd:Nat)(vh:Value)(k:Nat):Prop:=k=gd∨vh.ownBlock=some k
structure jQ(gd:Nat)(vh dx:Value)(w w':World):Prop where
 up:ag (kY gd vh) w w'
 new:∀k,kY gd dx k->kY gd vh k∨w.heap.size<=k
section
variable {gd:Nat} {vh dx LN:Value} {l:List UInt8} {gG room:Nat} {w w' w'':World}
theorem gB.st(h:gB gd vh l gG room w)(k:K w w'):gB gd vh l gG room w':=⟨h.blk.av k,pA h.own k,h.len,h.room⟩
theorem gB.ne(h:gB gd vh l gG room w):vh.ownBlock≠some gd:=λe=>by obtain⟨cur,h1⟩:=lI h.own e;exact VO
theorem gB.lt(h:gB gd vh l gG room w):∀k,kY gd vh k->k<w.heap.size:=λk hk=>hk.elim (λe=>e▸h.blk.lt) λe=>(h.own.lt k e).2
theorem jQ.rf(k:K w w'):jQ gd vh vh w w':=⟨ag.aT k _,λ_ h=>.inl h⟩
theorem jQ.tr(h:jQ gd vh dx w w')(k:jQ gd dx LN w' w''):jQ gd vh LN w w'' :=
 ⟨h.up.gg k.up λb hb t=>(h.new b t).resolve_right af,λb hb=>(k.new b hb).elim (λj=>h.new b j) λj=>.inr (bn h.up.size j)⟩
theorem jQ.k(h:jQ gd vh dx w w')(k:K w' w''):jQ gd vh dx w w'':=h.tr (jQ.rf k)
end
theorem agj(room:Nat) w(h:room<=1048576) :
 Calls prog 41 #[.int .i64 room] w λe w'=>e=.returned (.tuple #[.pointer (some ⟨w.heap.size,0,none⟩),.int .i64 0])/\gB w.heap.size (.slice none 0 0) [] 0 room w'/\K w w':=by
 have t:¬(room:Int)<0:=af
 have u:¬1048576<(room:Int):=af
 have hb:=ah.new w 145 #[.slice none 0 0,.int .i64 0,.int .i64 room]
 have j:=hb.aS
 go_enter func41,ntmps41
 go_wp2
 go_ret2
 exact⟨rfl,⟨hb,jV _ _ _ _,aj,h⟩,j⟩
def sW(l b:List UInt8)(room:Nat):List UInt8×Int:=if l.length+b.length<=room then (l++b,0)else (l,90)
theorem abm gd vh v l b u room w(h:gB gd vh l u room w)(hb:sl b v w)(hn:b.length<=1000000000) :
 Calls prog 59 #[.pointer (some ⟨gd,0,none⟩),v] w λe w'=>∃C,e=.returned (.int .i64 (sW l b room).2)/\gB gd C (sW l b room).1 u room w'/\jQ gd vh C w w':=by
 have HA:Hid (sW l b room=if l.length+b.length<=room then (l++b,0)else (l,90)):=ae rfl
 generalize sW l b room=R at *
 have M:=h.ne
 obtain⟨A,c,rfl,-⟩:=h.own.slice
 obtain⟨F,G,rfl,O⟩:=hb
 have S:=h.len
 have Q:=h.room
 have q:=h.blk.cells
 have H:=ae h
 clear h
 go_enter func59,ntmps59
 go_wp2
 refine J6 0 rfl ?_
 have E:IntKind.i64.wrap ((room:Int)-(l.length:Int))=(room:Int)-(l.length:Int):=IntWalk.i64_in _ af
 go_upto_region 3 with (fail)
 have qs:=And.intro q E
 refine dD 13 [([],[]),([0],[(7,0)]),([],[]),([2],[(9,2)]),([3],[(10,3)]),([4],[(11,4)]),([],[]),([6],[(13,6)]),([7],[(14,7)]),([8],[(15,8)]),([9],[(16,9)]),([5,10],[(12,5),(17,10)]),([1,11],[(8,1),(18,11)])] 29 ?_
 iterate 13 refine au.i ?_
 clear qs
 intro V W kW hA
 simp only[aO,aQ,cz,aJ,Nat.reduceAdd]at hA
 refine aH.h ?_
 clear hA q E
 have t:=ae (H.aa.st kW)
 have J:=(O.below kW (aC _)).more kW.size
 have q:=t.aa.blk.cell
 by_cases hfit:l.length+b.length<=room
 ·have I:decide ((room:Int)-(l.length:Int)<b.length)=false:=aY;have HR:Hid (R=(l++b,0)):=ae agk;go_wp2_with (at_builtin;refine iF rfl _ _ 94 rfl 0 5 _ 1 1 TB _ _ _ rfl t.aa.own _ F b.length G (dP b) rfl J (wO b) ?p1 (eV _) ?_)
  case p1=>omega
  intro j B dq D N hb2;have y:Own B 0 5 j (l++b):=agl;have hx2:=t.aa.blk.grown D λe=>M e.symm
  have L:j.ownBlock≠some gd:=λe=>by obtain⟨cur,h1⟩:=lI y e;exact PR
  have hV:gB gd j (l++b) u room (B.setCell ⟨gd,0,none⟩ j) :=
   ⟨hx2.aM 0 j,iK y (ag.bL (X:=λk=>k=gd) rfl 0 j) λk hk e=>L uE,aY,Q⟩
  have hU:jQ gd (.slice A l.length c) j w (B.setCell ⟨gd,0,none⟩ j):=by
   have U:=kW.size;refine⟨((ag.aT kW _).tr (ag.eM D λk hk=>.inr hk)).tr (ag.bL (.inl rfl) 0 j),λk hk=>?_⟩;rcases hk with hk|hk
   ·exact .inl (.inl hk)
   ·rcases N with e|e <;> rw[e]at hk
    ·exact .inl (.inr hk)
    ·injection hk with hk;exact .inr af
  clear q;have T:=hx2.cell;have Z:=hx2.frozen;obtain⟨Y,c2,rfl,-⟩:=y.slice;simp only[cF]at hV hU;go_wp2;simp only[Exit.jump];exact agm
 ·have I:decide ((room:Int)-(l.length:Int)<b.length)=true:=aY;have HR:Hid (R=(l,90)):=ae agn;go_wp2_with fail
  go_step3;refine⟨rfl,?_⟩;go_wp2;rw[gq];go_ret;exact⟨_,fE,by rw[HR.aa];exact t.aa,jQ.rf kW⟩
theorem aqe gd vh l t room w(h:gB gd vh l t room w) :
 Calls prog 305 #[.pointer (some ⟨gd,0,none⟩)] w λe w'=>e=.returned (.int .i64 0)/\gB gd vh l l.length room w'/\jQ gd vh vh w w':=by
 have y:=h.ne
 obtain⟨A,c,rfl,-⟩:=h.own.slice
 have q:=h.blk.cell
 have z:=h.blk.frozen
 have j:gB gd (.slice A l.length c) l l.length room (w.setCell ⟨gd,1,none⟩ (.int .i64 l.length)) :=
  ⟨h.blk.aM 1 (.int .i64 l.length),iK h.own (ag.bL (X:=λk=>k=gd) rfl 1 _) λk hk e=>y uE,h.len,h.room⟩
 have u:jQ gd (.slice A l.length c) (.slice A l.length c) w (w.setCell ⟨gd,1,none⟩ (.int .i64 l.length)):=⟨ag.bL (.inl rfl) 1 _,λ_ h=>.inl h⟩
 clear h
 go_enter func305,ntmps305
 go_wp2
 go_ret
 exact⟨rfl,j,u⟩
theorem ary gd vh l C room w(h:gB gd vh l C room w) :
 Calls prog 118 #[.pointer (some ⟨gd,0,none⟩),.int .i64 l.length] w λe w'=>e=.returned (.int .i64 0)/\gB gd vh l l.length room w'/\jQ gd vh vh w w':=by
 have t:=h.ne
 have j:=h.own
 have E:∃A c,vh=.slice A l.length c/\l.length<=c:=by
  rcases j.2 with ⟨rfl,B⟩|⟨g,cap,cur,rfl,-,-,u,-⟩
  ·exact⟨_,_,by rw[B],af⟩
  ·exact⟨_,_,rfl,u⟩
 obtain⟨A,c,rfl,G⟩:=E
 have q:=h.blk.cell
 have z:=h.blk.frozen
 have F:(l.length:Int)<=c:=af
 have y:gB gd (.slice A l.length c) l l.length room ((w.setCell ⟨gd,0,none⟩ (.slice A l.length c)).setCell ⟨gd,1,none⟩ (.int .i64 l.length)):=by refine⟨(h.blk.aM 0 (.slice A l.length c)).aM 1 (.int .i64 l.length),?_,h.len,h.room⟩;exact iK (iK h.own (ag.bL (X:=λk=>k=gd) rfl 0 _) λk hk e=>t uE) (ag.bL (X:=λk=>k=gd) rfl 1 _) λk hk e=>t uE
 have D:jQ gd (.slice A l.length c) (.slice A l.length c) w ((w.setCell ⟨gd,0,none⟩ (.slice A l.length c)).setCell ⟨gd,1,none⟩ (.int .i64 l.length)):=⟨(ag.bL (.inl rfl) 0 _).tr (ag.bL (.inl rfl) 1 _),λ_ h=>.inl h⟩
 clear h j
 go_enter func118,ntmps118
 go_wp2
 go_ret
 exact⟨rfl,y,D⟩
def xv(l b:List UInt8)(room:Nat):List UInt8×Int:=if b.length<=room then (b,0)else (l,90)
theorem aqf gd vh v l b room w(h:gB gd vh l l.length room w)(hb:sl b v w)(hn:b.length<=1000000000) :
 Calls prog 285 #[.pointer (some ⟨gd,0,none⟩),v] w λe w'=>∃C,e=.returned (.int .i64 (xv l b room).2)/\gB gd C (xv l b room).1 (xv l b room).1.length room w'/\jQ gd vh C w w':=by
 have HA:Hid (xv l b room=if b.length<=room then (b,0)else (l,90)):=ae rfl
 generalize xv l b room=R at *
 have M:=h.room
 have J:=h.blk.lt
 obtain⟨E,G,rfl,L⟩:=hb
 have I:=ae (Ow E b.length G (dP b) w L (wO b) hn)
 have q:=h.blk.cell
 have H:=ae h
 clear h
 go_enter func285,ntmps285
 go_wp2
 refine J6 0 rfl ?_
 by_cases hfit:b.length<=room
 ·have F:¬(room:Int)<b.length:=af;have HR:Hid (R=(b,0)):=ae agk;go_wp2_with fail
  refine I.aa.mono ?_;rintro e A⟨j,rfl,y,B⟩;have u:Own A w.heap.size 5 j b:=y;have t:=H.aa.blk.below B J;have D:j.ownBlock≠some gd:=λe=>by have:=(u.lt gd e).1;omega
  have hV:gB gd j b b.length room ((A.setCell ⟨gd,0,none⟩ j).setCell ⟨gd,1,none⟩ (.int .i64 b.length)):=by refine⟨(t.aM 0 j).aM 1 (.int .i64 b.length),?_,hfit,M⟩;exact iK (iK (mg (eV _) y) (ag.bL (X:=λk=>k=gd) rfl 0 j) λk hk e=>D uE) (ag.bL (X:=λk=>k=gd) rfl 1 _) λk hk e=>D uE
  have hU:jQ gd vh j w ((A.setCell ⟨gd,0,none⟩ j).setCell ⟨gd,1,none⟩ (.int .i64 b.length)) :=
   ⟨((ag.aT B _).tr (ag.bL (.inl rfl) 0 j)).tr (ag.bL (.inl rfl) 1 _),λk hk=>hk.elim (λe=>.inl (.inl e)) λe=>.inr (u.lt k e).1⟩
  clear q;have N:=t.cell;have Q:=t.frozen;obtain⟨O,c2,rfl,-⟩:=u.slice;clear u y t;go_wp2;try simp only[Exit.jump]
  exact agm
 ·have F:(room:Int)<b.length:=af;have HR:Hid (R=(l,90)):=ae agn;go_wp2_with fail
  go_step3;refine⟨rfl,?_⟩;go_wp2;rw[gq];go_ret;exact⟨_,fE,by rw[HR.aa];exact H.aa,jQ.rf (K.rf w)⟩
theorem abW gd vh l B room w(h:gB gd vh l B room w) :
 Calls prog 60 #[.pointer (some ⟨gd,0,none⟩)] w λe w'=>∃v',e=.returned v'/\Own w' w.heap.size 5 v' l/\K w w':=by
 have G:=h.len
 have F:=h.room
 obtain⟨A,c,rfl,j⟩:=h.own.slice
 have q:=h.blk.cell
 have D:=ae (Ow A l.length c (dP l) w j (wO l) af)
 clear h j
 go_enter func60,ntmps60
 go_wp2_with fail
 refine D.aa.mono ?_
 rintro e E⟨y,rfl,t,u⟩
 have C:Hid (Own E w.heap.size 5 y l):=ae t
 clear t
 go_wp2
 go_ret
 exact⟨_,rfl,C.aa,u⟩
theorem apk gd vh l room keep w(h:gB gd vh l l.length room w)(hk:cJ keep) :
 Calls prog 45 #[.pointer (some ⟨gd,0,none⟩),.int .i64 keep] w λe w'=>e=.returned (.tuple #[])/\gB gd vh l l.length room w'/\jQ gd vh vh w w':=by
 have E:=h.ne
 have U:=h.len
 have O:=h.room
 have S:∃A c,vh=.slice A l.length c/\l.length<=c:=by
  rcases h.own.2 with ⟨rfl,I⟩|⟨g,cap,cur,rfl,-,-,M,-⟩
  ·exact⟨_,_,by rw[I],af⟩
  ·exact⟨_,_,rfl,M⟩
 obtain⟨A,c,rfl,Y⟩:=S
 have L:(l.length:Int)<=c:=af
 have q:=h.blk.cells
 have B:IntKind.i64.wrap ((l.length:Int)-(l.length:Int))=0:=by rw[Int.sub_self];rfl
 have H:=ae h
 clear h
 go_enter func45,ntmps45
 go_upto_region 1 with (fail)
 have qs:=And.intro q B
 refine dD 14 [([],[]),([0],[(6,0)]),([],[]),([2],[(8,2)]),([3],[(9,3)]),([4],[(10,4)]),([5],[(11,5)]),([],[]),([7],[(13,7)]),([8],[(14,8)]),([9],[(15,9)]),([6,10],[(12,6),(16,10)]),([1,11],[(7,1),(17,11)]),([12],[(18,12)])] 39 ?_
 iterate 14 refine au.i ?_
 clear qs
 intro V W kW hA
 simp only[aO,aQ,cz,aJ,Nat.reduceAdd]at hA
 refine aH.h ?_
 rw[show min (max keep 0) (IntKind.i64.wrap 0)=0 from by
  rw[show IntKind.i64.wrap 0=0 from rfl];omega]
 have j:=H.aa.st kW
 have G:=j.blk.cell
 have z:=j.blk.frozen
 have t:=j.blk.aM 1 (.int .i64 l.length)
 have R:=iK j.own (ag.bL (X:=λk=>k=gd) rfl 1 (.int .i64 l.length)) λk hk e=>E uE
 have T:ag (kY gd (.slice A l.length c)) w (W.setCell ⟨gd,1,none⟩ (.int .i64 l.length)):=(ag.aT kW _).tr (ag.bL (.inl rfl) 1 _)
 clear hA q B
 go_upto_region 3 with (fail)
 generalize W.setCell _ _=y at *
 clear G z
 have C:=(show ah y gd 145 #[.slice A l.length c,.int .i64 l.length,.int .i64 room]from t).cells
 have qs:=And.intro C L
 refine dD 10 [([],[]),([],[]),([1],[(28,1)]),([2],[(29,2)]),([3],[(30,3)]),([],[]),([5],[(32,5)]),([6],[(33,6)]),([7],[(34,7)]),([4,8],[(31,4),(35,8)]),([0,1,2,3,4,5,6,7,8,9],[(27,0)]),([0,1,2,3,4,5,6,7,8,9,10],[(37,10)]),([0,1,2,3,4,5,6,7,8,9,11],[(38,11),(36,9)])] 39 ?_
 iterate 10 refine au.i ?_
 clear qs
 intro V W kW hA
 simp only[aO,aQ,cz,aJ,Nat.reduceAdd]at hA
 have u:=(show ah y gd 145 #[.slice A l.length c,.int .i64 l.length,.int .i64 room]from t).below kW (show gd<y.heap.size from t.lt)
 have N:=pA R kW
 have F:=u.cell
 have D:=u.frozen
 clear C
 iterate 2 (apply aH.pure;rfl;(simp[aE,List.lookup,ba,hA,execOp,aF,go_sem];rfl))
 refine aH.skip (W.setCell ⟨gd,0,none⟩ (.slice A l.length c)) rfl (by simp[aE,List.lookup,ba,hA,execOp,aF,F,D,go_sem]) ?_
 refine aH.e ?_
 have Q:gB gd (.slice A l.length c) l l.length room (W.setCell ⟨gd,0,none⟩ (.slice A l.length c)) :=
  ⟨u.aM 0 (.slice A l.length c),iK N (ag.bL (X:=λk=>k=gd) rfl 0 _) λk hk e=>E uE,U,O⟩
 have J:jQ gd (.slice A l.length c) (.slice A l.length c) w (W.setCell ⟨gd,0,none⟩ (.slice A l.length c)):=⟨(T.tr (ag.aT kW _)).tr (ag.bL (.inl rfl) 0 _),λ_ h=>.inl h⟩
 clear F D hA
 go_wp2
 all_goals
  go_end0
  exact⟨rfl,Q,J⟩
theorem arz g base lo v u l b w(hb:ah w g 94 #[v])(t:Own w base 5 v l)(L:sl b u w)(C:lo<=g/\lo<=base/\lo<=w.heap.size)(U:base<=w.heap.size)(hn:b.length<=1000000000)(Z:l.length<=1000000000) :
 Calls prog 311 #[u,.pointer (some ⟨g,0,none⟩)] w λe w'=>∃v',e=.returned (.int .i64 (FI b))/\ah w' g 94 #[v']/\Own w' base 5 v' (l++zD b)/\Below lo w w':=by
 have E:=ae (aqc b u w L hn)
 have W:(zD b).length<=4006:=ago
 obtain⟨A,c,rfl,N⟩:=L
 generalize zD b=f at *
 go_enter func311,ntmps311
 go_wp2_with fail
 refine E.aa.mono ?_
 rintro e w1⟨Y,rfl,Q,B⟩
 have y:=hb.av B
 have D:=Uf (aC _) t B
 obtain⟨O,c1,rfl,T⟩:=Q.slice
 have hz:=B.size
 have S:v.ownBlock≠some g:=λe=>by obtain⟨cur,h1⟩:=lI D e;exact absurd (h1.gM y) ay
 have q:=y.cell
 clear E hb t N
 go_wp2_with (at_builtin;refine iF rfl _ _ 94 rfl base 5 _ 1 1 TB _ _ _ rfl D _ O f.length c1 (dP f) rfl T (wO f) ?p1 af ?_)
 case p1=>omega
 intro j J dq G _ M
 have t:Own J base 5 j (l++f):=agl
 have hx2:=y.grown G λe=>S e.symm
 have R:j.ownBlock≠some g:=λe=>by obtain⟨cur,h1⟩:=lI t e;exact PR
 have I:=hx2.aM 0 j
 have F:Own (J.setCell ⟨g,0,none⟩ j) base 5 j (l++f):=iK t (ag.bL (X:=λk=>k=g) rfl 0 j) λk hk e=>R uE
 have H:=((B.mono C.2.2).trans (M.mono C.2.1)).setCell (p:=⟨g,0,none⟩) C.1 j
 have V:=hx2.cell
 have z2:=hx2.frozen
 clear q y D hx2 dq G M
 obtain⟨A2,c2,rfl,-⟩:=t.slice
 simp only[cF]at I F H
 go_wp2
 go_ret
 exact⟨_,rfl,I,F,H⟩
def zA(j:List (List UInt8)):List UInt8×Int:=if j.all ib then (frames j,0)else ([],30)
def zB(j:List (List UInt8)):List UInt8:=j.flatMap zD
theorem abX j:(zB j).length<=j.length*4006:=by
 induction j with
 | nil=>simp[zB]
 | cons b j t => have u:(zD b).length<=4006:=ago;simp only[zB,rI,cF,eQ]at t⊢;omega
theorem acz{j}(h:j.all ib=true):zB j=frames j:=by
 unfold zB frames
 rw[uO]at h
 induction j with
 | nil=>rfl
 | cons b j t => rw[rI,rI,t (λx hx=>h x Dn),zD,if_pos (h b aj)]
theorem abn t v w(h:aq jP t v w)(hn:t.length<=200000)(hb:∀b∈t,b.length<=1000000000) :
 Calls prog 284 #[v] w λe w'=>∃v',e=.returned (.tuple #[v',.int .i64 (zA t).2])/\Own w' w.heap.size 5 v' (zA t).1/\K w w':=by
 have Q:Hid (zA t=if t.all ib then (frames t,0)else ([],30)):=ae rfl
 generalize zA t=R at *
 obtain⟨A,c,rfl,hl,-⟩:=h
 have HB:=ae hb
 have y:=ah.new w 94 #[.slice none 0 0]
 have Y:=y.aS
 clear hb
 go_enter func284,ntmps284
 go_wp2_with fail
 generalize w.alloc _=w0 at *
 have O:Own w0 w.heap.size 5 (.slice none 0 0) []:=jV _ _ _ _
 go_loopw [7,8,12] (fun _ _ i W=>∃(j:Nat) (v':Value),j<=t.length/\i=.int .i64 j/\ah W w.heap.size 94 #[v']/\Own W w.heap.size 5 v' (zB (t.take j))/\Hid ((t.take j).all ib=true)/\Below w.heap.size w W) (fun _ _ i _=>t.length-(intOf i).toNat)
 case atStart=>exact⟨0,_,af,rfl,y,by simpa [zB]using O,ae aj,Y⟩
 case round =>
  clear y O;obtain⟨j,v',hj,rfl,y,B,D,kr⟩:=hrel;by_cases C:j<t.length
  ·have aP:(j:Int)<t.length:=af;obtain⟨b1,off,cs,rfl,hcl,S,d0,d⟩:=ed hl j C ay;have bR:=HB.aa _ (bS C);have N:=ae (gj C);have E:Hid (ib t[j]=false->R=([],30)):=ae λh=>by rw[Q.aa,if_neg];simp only[uO];intro h2;have:=h2 _ (bS C);rw[h]at this;cases this
   generalize t[j]=b at *;obtain⟨u,rfl,T⟩:=S w (K.rf w);have cj:wr.cell? ⟨b1,off+j,none⟩=some u:=VP;have I:=nC _ _ _ _ T kr;obtain⟨L,M,rfl⟩:∃L M,u=.slice L b.length M:=by obtain⟨A,c,e,-⟩:=T;exact⟨A,c,e⟩
   have gV:=abX (t.take j);have aD7:(t.take j).length<=200000:=aY;have V:=ae (arz w.heap.size w.heap.size w.heap.size v' _ (zB (t.take j)) b wr y B I ⟨aC _,aC _,kr.size⟩ kr.size bR af);have U:Hid (FI b=if ib b then 0 else 30):=ae rfl;clear d d0 hcl S I y B;go_wp2_with fail
   refine V.aa.mono ?_;rintro e w2⟨G,rfl,X,H,F⟩;cases hok:ib b
   ·have eZ:=ae (E.aa hok);rw[show FI b=30 by rw[U.aa,hok];rfl];clear hok;go_wp2;go_ret2;exact⟨_,K0,by rw[eZ.aa];exact jV _ _ _ _,kr.trans F⟩
   ·have Z:Hid ((t.take (j+1)).all ib=true):=ae (by rw[N.aa,List.all_append,D.aa];simp[hok]);rw[show FI b=0 by rw[U.aa,hok];rfl];have eD:Own w2 w.heap.size 5 G (zB (t.take (j+1))):=by rw[N.aa];simpa [zB]using H
    clear hok H;go_wp2;go_roundw
    case rel=>exact⟨j+1,G,af,bJ,X,eD,Z,kr.trans F⟩
    case measure=>simp[intOf];omega
  ·have aP:¬(j:Int)<t.length:=af;obtain rfl:j=t.length:=af;have eZ:Hid (R=(frames t,0)):=ae (by have:=D.aa;rw[lL]at this;rw[Q.aa,if_pos this]);have E:Hid (Own wr w.heap.size 5 v' (frames t)):=ae (by have J:=D.aa;rw[lL]at B J;rw[<- acz J];exact B);have q:=y.cell;clear B y;go_wp2;go_ret2;exact⟨_,K0,by rw[eZ.aa];exact E.aa,kr⟩
theorem TG t v w(h:aq jP t v w)(hn:t.length<=200000)(hb:∀b∈t,b.length<=1000000000) :
 Calls prog 121 #[v] w λe w'=>∃v',e=.returned v'/\aA (λk=>k<w.heap.size) w.heap.size 94 jP t v' w'/\K w w':=by
 obtain⟨A,c,rfl,hl,-⟩:=h
 have Z:=ae hb
 obtain⟨i,Q,R,J,hz2⟩:=info_parts aje
 have Rp:∀W:World,(Instr.makeSlice 119 (.int .i64 0) (.int .i64 t.length)).run prog W=.ok (.slice (some ⟨W.heap.size,0,none⟩) 0 t.length) (W.alloc (.cells (madeCells #[.slice none 0 0] t.length) 94)):=by intro W;have h:=run_make (P:=prog) W 119 94 i (.slice none 0 0) underlying119 Q R .i64 .i64 0 (t.length:Int) af af U0 af;rw[J]at h;simpa [Value.cells]using h
 clear Q R J hz2 hb
 have D:=ah.new w 94 (madeCells #[.slice none 0 0] t.length)
 have X:=D.aS
 go_enter func121,ntmps121
 go_wp2_with fail
 generalize w.alloc _=w0 at *
 have U:aA (λk=>k<w.heap.size) w.heap.size 94 jP [] (.slice (some ⟨w.heap.size,0,none⟩) 0 t.length) w0 :=
  ⟨[],Oo (xs:=[]) (rest:=List.replicate t.length (.slice none 0 0)) (aC _) (by rw[aO,<- toList_madeCells_one];exact D) rfl aj Bn,rfl,λ_ _=>Each.nil _ _⟩
 clear Rp D
 go_loopw [3,5,11] (fun o _ i W=>∃j:Nat,j<=t.length/\i=.int .i64 j/\aA (fun k=>k<w.heap.size) w.heap.size 94 jP (t.take j) o W/\K w W) (fun _ _ i _=>t.length-(intOf i).toNat)
 case atStart=>exact⟨0,af,rfl,by simpa using U,X⟩
 case round =>
  clear U;obtain⟨j,hj,rfl,hO,kr⟩:=hrel;by_cases E:j<t.length
  ·have aP:(j:Int)<t.length:=af;obtain⟨b1,off,cs,rfl,hcl,N,d0,d⟩:=ed hl j E ay;have bR:=Z.aa _ (bS E);have V:=ae (gj E);generalize t[j]=b at *;obtain⟨u,rfl,hu⟩:=N w (K.rf w);have cj:wr.cell? ⟨b1,off+j,none⟩=some u:=VP;obtain⟨Au,cu,rfl,H⟩:=nC _ _ _ _ hu kr;have G:=ae (Ow Au b.length cu (dP b) wr H (wO b) bR);have hbv:=hO.blk;clear d d0 hcl N H;go_wp2_with fail
   refine G.aa.mono ?_;rintro e B⟨C,rfl,y,I⟩;replace y:Own B wr.heap.size 5 C b:=by unfold Own;exact y
   have L:=(hO.st I).st ((K.rf B).al (.cells #[C] 94));have hz:=kr.size;have T:Fx (λk=>k<wr.heap.size) (λW=>jP.rel b [C] W) B:=λW u=>⟨C,rfl,eK (iK y u λb hb h=>by have:=(y.lt b hb).1;omega)⟩
   obtain⟨O,c4,rfl,-⟩:=y.slice;have F:=ew.new (S:=jP) (e:=94) (v:=.slice O b.length c4) T 0 (eV _);have M:=(kr.tr I).tr ((K.rf B).al (.cells #[.slice O b.length c4] 94));clear hO T y G;go_wp2_with (at_builtin;refine jt rfl _ _ 119 rfl _ 1 24 RL rfl rfl L _ rfl b ?p1 ?p2 ?p3 ?_)
   case p1=>exact F.less λk hk=>by rcases hk with hk|hk;omega;have:=hbv k hk;omega
   case p2=>simp;omega
   case p3=>exact M.size
   intro v9 w9 bq bB _ Y;rw[<- V.aa]at bq;have k9:=M.trans Y;clear F L;exact VQ
  ·have aP:¬(j:Int)<t.length:=af;obtain rfl:j=t.length:=af;rw[lL]at hO;exact PT
structure jR(gl gd:Nat)(vh vr:Value)(l:List UInt8)(gG room:Nat)(w:World):Prop where
 dk:gB gd vh l gG room w
 blk:ah w gl 195 #[.pointer (some ⟨gd,0,none⟩),vr]
 row:∃n xs,n<=l.length/\w.ownsRow 0 94 1 vr n xs
def jS(gl gd:Nat)(vh vr:Value)(k:Nat):Prop:=k=gl∨vr.ownBlock=some k∨kY gd vh k
structure nM(gl gd:Nat)(vh vr dx wh:Value)(w w':World):Prop where
 up:ag (jS gl gd vh vr) w w'
 new:∀k,jS gl gd dx wh k->jS gl gd vh vr k∨w.heap.size<=k
section
variable {gl gd:Nat} {vh vr dx wh LN ajV:Value} {l:List UInt8} {gG room:Nat} {w w' w'':World}
theorem jR.st(h:jR gl gd vh vr l gG room w)(k:K w w'):jR gl gd vh vr l gG room w':=by obtain⟨n,xs,hn,j⟩:=h.row;exact⟨h.dk.st k,h.blk.av k,n,xs,hn,pA j k⟩
theorem jR.lt(h:jR gl gd vh vr l gG room w):∀k,jS gl gd vh vr k->k<w.heap.size:=λk hk=>by
 obtain⟨n,xs,hn,j⟩:=h.row;rcases hk with rfl|hk|hk
 ·exact h.blk.lt
 ·exact (j.lt k hk).2
 ·exact h.dk.lt k hk
theorem jR.apart(h:jR gl gd vh vr l gG room w):¬kY gd vh gl/\(∀k,vr.ownBlock=some k->¬kY gd vh k)/\vr.ownBlock≠some gl:=by
 obtain⟨n,xs,hn,j⟩:=h.row;refine⟨λhk=>?_,λk hk u=>?_,λe=>?_⟩
 ·rcases hk with e|e
  ·exact absurd (h.blk.gM (e▸h.dk.blk)) ay
  ·obtain⟨cur,h1⟩:=lI h.dk.own e;exact VO
 ·obtain⟨cur,h1⟩:=lI j hk;rcases u with rfl|e
  ·exact absurd (h1.gM h.dk.blk) ay
  ·obtain⟨y,t⟩:=lI h.dk.own e;exact absurd (h1.gM t) ay
 ·obtain⟨cur,h1⟩:=lI j e;exact VO
theorem jR.IV{l' j}(h:jR gl gd vh vr l gG room w)(d:gB gd dx l' j room w')(u:jQ gd vh dx w w')(B:l.length<=l'.length):jR gl gd dx vr l' j room w'/\nM gl gd vh vr dx vr w w':=by
 obtain⟨t,y,-⟩:=h.apart;obtain⟨n,xs,hn,A⟩:=h.row;refine⟨⟨d,h.blk.aX u.up t,n,xs,bn hn B,iK A u.up y⟩,⟨u.up.more λk hk=>.inr (.inr hk),λk hk=>?_⟩⟩;rcases hk with hk|hk|hk
 ·exact .inl (.inl hk)
 ·exact .inl (.inr (.inl hk))
 ·exact (u.new k hk).imp (λh=>.inr (.inr h)) id
theorem nM.rf(k:K w w'):nM gl gd vh vr vh vr w w':=⟨ag.aT k _,λ_ h=>.inl h⟩
theorem nM.tr(h:nM gl gd vh vr dx wh w w')(k:nM gl gd dx wh LN ajV w' w''):nM gl gd vh vr LN ajV w w'' :=
 ⟨h.up.gg k.up λb hb t=>(h.new b t).resolve_right af,λb hb=>(k.new b hb).elim (λj=>h.new b j) λj=>.inr (bn h.up.size j)⟩
end
theorem OM j:j.length<=(frames j).length:=by
 induction j with
 | nil=>simp
 | cons b j t =>
  grind [frames,cF,eQ,Bm,xu]
def nN(l:List UInt8)(j:List (List UInt8))(room:Nat):List UInt8×Int:=if j.all ib then sW l (frames j) room else (l,30)
theorem atq{P e w base ρ} s u j ty z size bytes(T:fK P j e z size bytes) v n vs(F:ρ s=v)(E:w.ownsRow base e size v n vs) B A m c t(G:ρ u=.slice A m c)(C:Reads w B size A m t)(y:∀u∈t,u.oneCell'=true)
 (H:(n+m)*(bytes+1)<=140737488355328) (D:base<=w.heap.size) :
 ∃v' w',(execOp ρ (aF (.call { callee:=.builtin .append,args:=#[s,u],argTypes:=#[j,j] }) ty)).run P w=.ok (.value v') w'/\w'.ownsRow base e size v' (n+m) (vs++t)/\w.grownBy w' v.ownBlock/\(v'.ownBlock=v.ownBlock∨v'.ownBlock=some w.heap.size)/\Below base w w':=by
 obtain⟨v',w',I,h⟩:=Fo (P:=P) w base j ty e z size bytes T v n vs E B A m c t C y H D
 refine⟨v',w',?_,h⟩
 subst F
 simp only[execOp,aF,resolve,invoke,builtin,Sem.run_bind,Sem.run_pure,Result.andThen_ok,List.map_toArray,jU,List.map_nil,G,I]
theorem aoQ gl gd vh vr v l I room rs w(h:jR gl gd vh vr l I room w)(U:Fx (jS gl gd vh vr) (λW=>aq jP rs v W) w)(rZ:rs.length<=200000)(hb:∀b∈rs,b.length<=1000000000) :
 Calls prog 304 #[.pointer (some ⟨gl,0,none⟩),v] w λe w'=>∃dx wh,e=.returned (.int .i64 (nN l rs room).2)/\jR gl gd dx wh (nN l rs room).1 I room w'/\nM gl gd vh vr dx wh w w':=by
 have HA:Hid (nN l rs room=if rs.all ib then sW l (frames rs) room else (l,30)):=ae rfl
 have HD:Hid (sW l (frames rs) room=if l.length+(frames rs).length<=room then (l++frames rs,0)else (l,90)):=ae rfl
 have HF:Hid (zA rs=if rs.all ib then (frames rs,0)else ([],30)):=ae rfl
 generalize nN l rs room=R at *
 have C1:=ae (abn rs v w U.now rZ hb)
 have cL:(zA rs).1.length<=1000000000:=agp
 have H:=ae h
 have HV:=ae U
 have Y9:=ae hb
 obtain⟨A,c,rfl⟩:=aw U.now
 have q:=h.blk.cells
 clear h U hb
 go_enter func304,ntmps304
 go_wp2_with fail
 refine C1.aa.mono ?_
 rintro e w1⟨v1,rfl,E,L⟩
 generalize zA rs=F at *
 cases hok:rs.all ib
 ·have Gu:Hid (F=([],30)):=ae agq;have eZ:Hid (R=(l,30)):=ae agr;rw[Gu.aa];clear hok E cL;go_wp2;go_ret;exact⟨vh,vr,K0,by rw[eZ.aa];exact H.aa.st L,nM.rf L⟩
 have Gu:Hid (F=(frames rs,0)):=ae ags
 have eZ:Hid (R=sW l (frames rs) room):=ae agt
 rw[Gu.aa]at E cL⊢
 have Y:=ae (H.aa.st L)
 obtain⟨A1,c1,rfl,-⟩:=E.slice
 have C2:=ae (abm gd vh _ l (frames rs) I room w1 Y.aa.dk (eK E) cL)
 have q1:=q w1 L
 clear hok q
 go_wp2_with fail
 refine C2.aa.mono ?_
 rintro e G⟨D,rfl,fI,kZ⟩
 obtain⟨n,xs,hnl,S⟩:=Y.aa.row
 replace S:=iK S kZ.up Y.aa.apart.2.1
 obtain⟨qu,MM⟩:=Y.aa.IV fI kZ (by rw[HD.aa];split <;> simp)
 have T:=ae ((nM.rf L).tr MM)
 have j:=ae qu
 have tY:=HV.aa.to T.aa.up (λ_ h=>h) λk hk hx=>(T.aa.new k hx).resolve_right af
 clear fI kZ qu MM E q1 HA HF C1 C2
 by_cases hfit:l.length+(frames rs).length<=room
 rotate_left
 ·have yX:Hid (sW l (frames rs) room=(l,90)):=ae agu;rw[yX.aa];clear hfit;go_wp2;go_ret;exact⟨D,vr,PU,by rw[eZ.aa];exact j.aa,T.aa⟩
 have yX:Hid (sW l (frames rs) room=(l++frames rs,0)):=ae agv
 rw[yX.aa]at j⊢
 obtain⟨-,-,hne⟩:=j.aa.apart
 have q:=j.aa.blk.cells
 clear hfit HD HV
 go_upto_region 9 with (fail)
 have ajW:=λk hk=>(S.lt k hk).2
 have LM:¬vr.ownBlock=some gl:=λe=>hne e
 have qs:=λW (u:ag (λk=>vr.ownBlock=some k) G W)=>(j.aa.blk.aX u LM).cell
 refine Ol 8 [7] (λW=>ag (λk=>vr.ownBlock=some k) G W) (λW W'=>W.grownBy W' vr.ownBlock) (λk vs W=>if k=0 then W.ownsRow 0 94 1 vr n xs else ∃t Z,vs=[t]/\W.ownsRow 0 94 1 t (n+rs.length) Z/\∀b,t.ownBlock=some b->vr.ownBlock=some b∨G.heap.size<=b)
  [([],[]),([],[]),([1],[(28,1)]),([2],[(29,2)]),([3],[(30,3)]),([],[]),([5],[(32,5)]),([4,6],[(31,4),(33,6)]),([0,1,2,3,4,5,6,7],[(27,0)]),([0,1,2,3,4,5,6,7,8],[(35,8)]),([0,1,2,3,4,5,6,7,9],[(36,9),(34,7)])] 37
  (λ_ _ h k=>h.tr (ag.aT k _)) (λ_ _ h=>Bi h _) (λk vs W W' h kW=>by
   split at h
   ·next J=>rw[if_pos J];exact pA h kW
   ·next J =>
    rw[if_neg J];obtain⟨t,Z,e1,C,O⟩:=h;exact⟨t,Z,e1,pA C kW,O⟩) (ag.rf _ _) (λ_=>S) ?_
 iterate 6 refine au.i ?_
 refine au.c (λv W=>aA (λk=>k<G.heap.size) G.heap.size 94 jP rs v W) (λ_ _ _ h k=>h.up (ag.eM (X:=λk=>vr.ownBlock=some k) k λ_ e=>e) ajW λk hk=>by have:=ajW k hk;omega)
  (λW u=>(TG rs _ W (tY W (u.more λ_ h=>.inr (.inl h))) rZ Y9.aa).mono λe w4 ⟨v4,e1,cB,k4⟩=>⟨v4,e1,(cB.low u.size).less λk hk=>bz hk u.size,k4⟩) ?_
 refine au.s ?_
 clear qs
 refine⟨⟨⟨_,_,rfl,rfl,rfl,λV W hW hD hp=>?_⟩,trivial⟩,λV W hW hD hA=>?_⟩
 ·simp only[cd,aO,aQ,bW,bY,aJ]at hp;obtain⟨e4,hO,-⟩:=hp;obtain⟨A6,c6,e6⟩:=aw hO.aq;rw[e6]at hO;obtain⟨css,ng,-,hE6⟩:=hO;have hrf:=OM rs;have tX:=j.aa.dk.len;have nJ:=j.aa.dk.room;have Jk:(l++frames rs).length<=1048576:=af;change jM _ _ ((execOp (aE [(31,4),(33,6)] _ V) (aF (.call { callee:=.builtin .append,args:=#[.tmp 31,.tmp 33],argTypes:=#[119,119] }) 119)).run _ _);obtain⟨t,w9,hrun,C,O,h3,-⟩:=atq (P:=prog) (ρ:=aE [(31,4),(33,6)] _ V) (.tmp 31) (.tmp 33) 119 119 _ 1 24 RL vr n xs (by simp[aE,List.lookup,e4]) hD W.heap.size A6 rs.length c6 css.flatten (by simp[aE,List.lookup,e6]) (Reads.uH ng) (hE6 W (ag.rf _ _)).ones (by simp only[cF]at Jk;omega) (eV _);rw[hrun];exact⟨hW.tr (ag.eM O λ_ e=>e),O,⟨t,_,rfl,C,λb hb=>h3.elim (λh=>.inl (h▸hb)) λh=>.inr afJ⟩,trivial⟩
 simp only[aO,aQ,cz,aJ,Nat.reduceAdd]at hA
 obtain⟨e0,-⟩:=hA
 obtain⟨t,Z,Q,N,cQ⟩:=hD
 injection Q with Q
 have tX:=j.aa.dk.len
 have nJ:=j.aa.dk.room
 have M:=j.aa.blk.aX hW LM
 have tZ:gB gd D (l++frames rs) I room W:=by obtain⟨-,a2,-⟩:=j.aa.apart;exact⟨j.aa.dk.blk.aX hW λe=>a2 _ e (.inl rfl),iK j.aa.dk.own hW λk hk e=>a2 _ e (.inr hk),tX,nJ⟩
 have azE:t.ownBlock≠some gl:=λe=>by obtain⟨cur,C⟩:=lI N e;exact absurd (C.gM M) ay
 have hgd:gl≠gd:=λe=>j.aa.apart.1 (.inl e)
 have wi:D.ownBlock≠some gl:=λe=>j.aa.apart.1 (.inr e)
 have q9:=M.cell
 have z9:=M.frozen
 obtain⟨B,y,rfl⟩:∃A c,t=.slice A (n+rs.length) c:=by
  rcases N.2 with ⟨rfl,J⟩|⟨g,cap,cur,rfl,-⟩
  ·exact⟨_,_,by rw[J]⟩
  ·exact⟨_,_,rfl⟩
 have hA:=And.intro e0 Q
 have qs:=And.intro q9 z9
 iterate 2 refine aH.p ?_
 refine aH.s ?_
 refine aH.e ?_
 have u9:ag (λk=>k=gl) W (W.setCell ⟨gl,1,none⟩ (.slice B (n+rs.length) y)):=ag.bL (X:=λk=>k=gl) rfl 1 _
 have hV:jR gl gd D (.slice B (n+rs.length) y) (l++frames rs) I room (W.setCell ⟨gl,1,none⟩ (.slice B (n+rs.length) y)):=by refine⟨⟨tZ.blk.aX u9 λe=>hgd e.symm,iK tZ.own u9 λk hk e=>wi uE,tX,nJ⟩,M.aM 1 (.slice B (n+rs.length) y),_,_,?_,iK N u9 λk hk e=>azE uE⟩;have:=OM rs;simp only[cF];omega
 have hU:nM gl gd vh vr D (.slice B (n+rs.length) y) w (W.setCell ⟨gl,1,none⟩ (.slice B (n+rs.length) y)):=by
  refine T.aa.tr ⟨(hW.more λk hk=>.inr (.inl hk)).tr (ag.bL (.inl rfl) 1 _),λk hk=>?_⟩;rcases hk with hk|hk|hk
  ·exact .inl (.inl hk)
  ·exact (cQ k hk).imp (λh=>.inr (.inl h)) id
  ·exact .inl (.inr (.inr hk))
 clear q9 z9 qs hA N M tZ e0 Q
 go_wp2
 go_ret
 exact⟨_,_,PU,by rw[eZ.aa,yX.aa];exact hV,hU⟩
