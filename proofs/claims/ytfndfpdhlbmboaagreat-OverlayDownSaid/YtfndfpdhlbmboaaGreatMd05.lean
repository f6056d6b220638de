/-
  The walks of entry.number, small, readID and may (layer 11). Conditions: none.
-/
import Derived.Test.YtfndfpdhlbmboaaGreatMd04
import Derived.Test.YtfndfpdhlbmboaaGreatMdz
set_option maxRecDepth 100000
set_option linter.constructorNameAsVariable false
set_option maxHeartbeats 16000000
set_option linter.unusedVariables false
set_option linter.unusedSimpArgs false
namespace Go.Proofs.YtfndfpdhlbmboaaGreat
open Go Go.RowKit _root_.Go.Proofs.Tryz
def fC(a:aS):List UInt8:=az (bf a.1)++(az a.2.1++az a.2.2)
theorem abM l v a w(h:sl l v w)(hl:l.length<=900000000)(W:dW a) :
 Calls prog 277 #[v,cN a] w λe w'=>∃v',e=.returned v'/\Own w' w.heap.size 5 v' (l++fC a)/\K w w':=by
 obtain⟨A,c,rfl,N⟩:=h
 obtain⟨b,j,B⟩:=a
 obtain⟨h0,y,C⟩:=W
 simp only at h0 y C
 have p0:=cS (bf b) (gP b)
 have p1:=cS j y
 have p2:=cS B C
 have D:=ai.new w 26 #[.int .i64 b,.int .u64 j,.int .u64 B]
 have u:=D.aU
 have Q:=(N.below u (aD _)).more u.size
 go_enter func277,ntmps277
 go_wp2_with fail
 generalize w.alloc _=S at *
 have qx:=D.cells
 rw[DK b]
 apply bS (xp A _ c l (bf b) (gP b) S _ Q (aD _) af)
 rintro v2 F⟨J,t⟩
 obtain⟨R,c2,rfl,T⟩:=(eT J)
 have ew:(l++az (bf b)).length<=900000009:=ba
 generalize E:(l++az (bf b)).length=V at *
 clear E
 go_wp2_with fail
 apply bS (xp R V c2 _ j y F _ T (aD _) af)
 rintro v3 M⟨H,U⟩
 replace t:=t.tr U
 obtain⟨X,c3,rfl,O⟩:=(eT H)
 have qX:(l++az (bf b)++az j).length<=900000018:=ba
 generalize Y:(l++az (bf b)++az j).length=Z at *
 clear Y
 go_wp2_with fail
 apply bS (xp X Z c3 _ B C M _ O (aD _) af)
 rintro v4 w4⟨L,G⟩
 have I:=u.tr (t.tr G)
 go_wp2
 go_ret
 refine⟨_,rfl,ua ?_ L (by simp[fC]),I⟩
 exact bn u.size t.size
theorem KF(g:Nat)(l:List UInt8)(wr:Bool)(n:Nat)(w:World)(h:Rd w g l wr)(hn:n<=1000000) :
 Calls prog 208 #[.pointer (some ⟨g,0,none⟩),.int .i64 (n:Int)] w λe w'=>e=.returned (.int .i64 ((min (aw l wr).1 n:Nat):Int))/\ox g (aw l wr).2.1 (aw l wr).2.2 w w':=by
 have j:=ae (tj g l wr w h)
 have u:=nX l wr
 clear h
 generalize aw l wr=a at *
 obtain⟨x,D,B⟩:=a
 simp only at j u⊢
 by_cases C:n<x
 ·have y:(n:Int)<(x:Int):=af;rw[show min x n=n by omega];go_enter func208,ntmps208;go_wp2_with fail
  refine j.aa.mono ?_;rintro e A⟨rfl,t⟩;go_wp2;go_ret;exact⟨by first|rfl|simp <;> omega,t⟩
 ·have y:¬(n:Int)<(x:Int):=af;rw[show min x n=x by omega];go_enter func208,ntmps208;go_wp2_with fail
  refine j.aa.mono ?_;rintro e A⟨rfl,t⟩;go_wp2;go_ret;exact⟨by first|rfl|simp <;> omega,t⟩
theorem ai.went{w w' g b t cs l wr}(h:ai w b t cs)(k:ox g l wr w w')(j:b≠g):ai w' b t cs:=h.grown k.2 (by simpa using j)
theorem Rd.al{w g l wr}(h:Rd w g l wr) o:Rd (w.alloc o) g l wr:=h.ay ((K.rf w).al o)
theorem Rd.set{w g b l wr}(h:Rd w g l wr)(hb:g<b) i u:Rd (w.setCell ⟨b,i,none⟩ u) g l wr:=h.below (Below.setCell (cT b w) (aD _) u) hb
def Cq:Bc aS:=λl wr =>
 (((min (aw l wr).1 16:Nat),(aw (aw l wr).2.1 (aw l wr).2.2).1,(aw (aw (aw l wr).2.1 (aw l wr).2.2).2.1 (aw (aw l wr).2.1 (aw l wr).2.2).2.2).1),
  (aw (aw (aw l wr).2.1 (aw l wr).2.2).2.1 (aw (aw l wr).2.1 (aw l wr).2.2).2.2).2)
theorem ab1 g l wr w(h:Rd w g l wr) :
 Calls prog 211 #[.pointer (some ⟨g,0,none⟩)] w λe w'=>e=.returned (cN (Cq l wr).1)/\ox g (Cq l wr).2.1 (Cq l wr).2.2 w w':=by
 have fL:=h.lt
 have dc:=ai.new w 26 #[.int .i64 0,.int .u64 0,.int .u64 0]
 have hm0:w.grownBy (w.alloc (.cells #[.int .i64 0,.int .u64 0,.int .u64 0] 26)) (some g):=DD (BV w _) _
 have h0:=h.al (.cells #[.int .i64 0,.int .u64 0,.int .u64 0] 26)
 have hz1:w.heap.size<(w.alloc (.cells #[.int .i64 0,.int .u64 0,.int .u64 0] 26)).heap.size:=aj
 have H:=λW hW=>KF g l wr 16 W hW af
 unfold Cq
 generalize aw l wr=a at *
 obtain⟨x,l1,eW⟩:=a
 simp only at H⊢
 have G:=tj g l1 eW
 generalize aw l1 eW=a at *
 obtain⟨y,l2,wr2⟩:=a
 simp only at G⊢
 have J:=tj g l2 wr2
 generalize aw l2 wr2=a at *
 obtain⟨z,l3,Cz⟩:=a
 simp only at J⊢
 replace H:=ae H
 replace G:=ae G
 replace J:=ae J
 go_enter func211,ntmps211
 go_wp2_with fail
 generalize w.alloc _=w1 at *
 apply aM (H.aa w1 h0)
 intro C D
 have R:=dc.went D af
 have S:=oO hm0 D.2
 have hz2:=D.2.size
 have kJ:=D.1
 clear D dc hm0 h0 h
 go_wp2_with fail
 have Y:=ai.new C 26 #[.int .i64 ((min x 16:Nat):Int),.int .u64 0,.int .u64 0]
 have dN:=R.alloc (.cells #[.int .i64 ((min x 16:Nat):Int),.int .u64 0,.int .u64 0] 26)
 have T:=kJ.al (.cells #[.int .i64 ((min x 16:Nat):Int),.int .u64 0,.int .u64 0] 26)
 have sN:=DD S (.cells #[.int .i64 ((min x 16:Nat):Int),.int .u64 0,.int .u64 0] 26)
 have ix:C.heap.size<(C.alloc (.cells #[.int .i64 ((min x 16:Nat):Int),.int .u64 0,.int .u64 0] 26)).heap.size:=aj
 clear kJ R S
 generalize C.alloc _=w3 at *
 generalize hh:C.heap.size=h at *
 clear hh
 apply aM (G.aa w3 T)
 intro M A
 have F:=Y.went A af
 have U:=dN.went A af
 have wP:=oO sN A.2
 have Q:=A.1
 have gM:=A.2.size
 have j:=F.cell 1
 have z1:=F.frozen 1
 simp at j
 clear A Y dN sN T
 go_upto_region 3 with (fail)
 have dY:=F.aQ 1 (.int .u64 y)
 have iy:=U.far (p:=⟨h,1,none⟩) ba (.int .u64 y)
 have EP:=yA wP (p:=⟨h,1,none⟩) ba (.int .u64 y)
 have hn5:=Q.set (b:=h) af 1 (.int .u64 y)
 have p5:M.heap.size<=(M.setCell ⟨h,1,none⟩ (.int .u64 y)).heap.size:=aj
 clear F U wP Q j z1
 generalize M.setCell _ _=w5 at *
 go_wp2_with fail
 apply aM (J.aa w5 hn5)
 intro O B
 have u:=dY.went B af
 have nP:=iy.went B af
 have zj:=oO EP B.2
 have X:=B.1
 have tM:=B.2.size
 have E:=u.cell 0
 have j:=u.cell 1
 have I:=u.cell 2
 have z2:=u.frozen 2
 simp at E j I
 clear B dY iy EP hn5
 go_upto_region 4 with (fail)
 have N:=u.aQ 2 (.int .u64 z)
 have t:=nP.far (p:=⟨h,2,none⟩) ba (.int .u64 z)
 have JB:=yA zj (p:=⟨h,2,none⟩) ba (.int .u64 z)
 have RZ:=X.set (b:=h) af 2 (.int .u64 z)
 have GG:O.heap.size<=(O.setCell ⟨h,2,none⟩ (.int .u64 z)).heap.size:=aj
 clear u nP zj X E j I z2
 generalize O.setCell _ _=w7 at *
 have E:=N.cell 0
 have j:=N.cell 1
 have I:=N.cell 2
 simp at E j I
 have r0:=t.cell 0
 have r1:=t.cell 1
 have r2:=t.cell 2
 have y0:=t.frozen 0
 have y1:=t.frozen 1
 have y2:=t.frozen 2
 simp at r0 r1 r2
 go_wp2
 have L:=((t.aQ 0 (.int .i64 ((min x 16:Nat):Int))).aQ 1 (.int .u64 y)).aQ 2 (.int .u64 z)
 have e0:=L.cell 0
 have V:=L.cell 1
 have Z:=L.cell 2
 simp at e0 V Z
 refine bodyPost_ret (v:=cN ((min x 16:Nat),y,z)) (by simp[results,results211,go_sem,e0,V,Z]) rfl ?_
 refine⟨rfl,?_,?_⟩
 ·exact ((RZ.set af _ _).set af _ _).set af _ _
 ·exact yA (yA (yA JB aj _) aj _) aj _
theorem avq x:(pL x==0)=bJ x:=by grind [pL,bJ]
theorem adE x v w(h:p6 x v w) :
 Calls prog 212 #[v] w λe w'=>e=.returned (.bool (dR x))/\K w w':=by
 obtain⟨vf,B,rfl,D,he⟩:=h
 obtain⟨k,n,x,b,l,s⟩:=x
 simp only at D he
 have C:=ai.new w 197 (eY ⟨k,n,x,b,l,s⟩ vf B)
 have k1:=C.aU
 have HO:Hid (dR ⟨k,n,x,b,l,s⟩=if k=1 then FW x&&xI ⟨k,n,x,b,l,s⟩else if k=2 then bJ x&&xI ⟨k,n,x,b,l,s⟩else if k=3 then decide (n=0)&&bJ x&&xI ⟨k,n,x,b,l,s⟩
  else if k=4∨k=5 then qH b&&decide (n=0)&&FW x else false):=ae rfl
 have E:Hid (xI ⟨k,n,x,b,l,s⟩=(decide (b=0)&&decide (l=0)&&decide (s=0))):=ae rfl
 generalize dR ⟨k,n,x,b,l,s⟩=R at *
 have ER:∀W,K w W->dm x (.agg (aE x vf B)) W:=λW k=>⟨vf,B,rfl,eO _ _ _ _ D k,bo he k⟩
 clear D he
 go_enter func212,ntmps212
 go_upto_region 1 with (fail)
 generalize w.alloc _=F at *
 generalize w.heap.size=g at C⊢
 have I:=C.cells
 have M:=K.rf F
 generalize xI ⟨k,n,x,b,l,s⟩=m at *
 go_cut [0,3]from 4 to 7 (fun _ v wc=>v=.bool m/\wc=F)
 case first =>
  go_wp2;all_goals
   go_meet
   case rel=>(refine⟨?_,rfl⟩;rw[E.aa];clear I HO;simp_all)
 case rest =>
 obtain⟨rfl,rfl⟩:=hcut
 clear E
 by_cases u:k=1
 ·subst u;rw[if_pos rfl]at HO;go_wp2_with fail
  apply cG (ack x _ _ (ER _ k1)) k1;intro w2 k2 bD;cases he:FW x
  ·exact afQ
  ·exact afR
 by_cases t:k=3
 ·subst t;rw[if_neg ax,if_neg ax,if_pos rfl]at HO;by_cases hn:n=0;rotate_left
  ·have y:((n:Int) != 0)=true:=by simpa using hn
   have HR:Hid (R=false):=ae afS;clear HO;exact DT
  subst hn;have y:(((0:Nat):Int) != 0)=false:=aj;exact afT
 by_cases j:k=2
 ·subst j;rw[if_neg ax,if_pos rfl]at HO;exact afT
 have O:(k==1)=false:=by simpa using u
 have L:(k==2)=false:=by simpa using j
 have T:(k==3)=false:=by simpa using t
 rw[if_neg u,if_neg j,if_neg t]at HO
 clear u j t
 have G:(k=4∨k=5)∨(¬k=4/\¬k=5):=af
 rcases G with A|⟨h4,h5⟩
 ·rw[if_pos A]at HO;have H:(k==4||k==5)=true:=by simpa using A
  go_upto_region 6 with (fail);rcases A with rfl|rfl;all_goals
   clear H
   go_wp2_with fail
   apply cG (acV (b,l,s) _) k1
   intro w2 k2 bD
   cases hh:qH b
   ·have HR:Hid (R=false):=ae (by rw[HO.aa,hh];rfl);exact PZ
   by_cases hn:n=0
   rotate_left
   ·have y:((n:Int)==0)=false:=by simpa using hn
    have HR:Hid (R=false):=ae afS;exact PZ
   subst hn
   have y:(((0:Nat):Int)==0)=true:=aj
   have HR:Hid (R=FW x):=ae (by rw[HO.aa,hh];simp)
   go_wp2_with fail
   apply aM (ack x _ _ (ER _ bD))
   intro N J
   replace bD:=bD.tr J
   go_wp2
   go_ret
   exact⟨fW,bD⟩
 ·have HR:Hid (R=false):=ae (by rw[HO.aa,if_neg (by omega)]);have Q:(k==4)=false:=IP;have S:(k==5)=false:=Ln;clear HO h4 h5;exact DT
theorem apG A c l w B(H:Reads w B 4 A l.length (l.flatMap nI))(t:B<=w.heap.size)(J:∀x∈l,cD x.2.1/\cD x.2.2.1) :
 Calls prog 289 #[.slice A l.length c] w λe w' =>
  ∃v',e=.returned (.tuple #[v',.int .i64 (ko l)])/\Own w' w.heap.size 5 v' (Co l)/\Below w.heap.size w w':=by
 have hch:=ae (Un A c l w B H t)
 cases hok:fN l
 ·have HE:Hid (ko l=40):=ae P4;have HR:Hid (Co l=[]):=ae (by simp[Co,hok]);clear hok;have hne:(ko l != 0)=true:=iK;go_enter func289,ntmps289;exact afU
 ·have HE:Hid (ko l=0):=ae P4;have HR:Hid (Co l=jT l):=ae (by simp[Co,hok]);have hne:(ko l != 0)=false:=iK;obtain⟨h1,im,hL⟩:=Pp hok;have zk:=ae λk=>aem l k hok J
  have HA:=ae (VM hL);have HI:=ae J;have HS:=ae (as8 l);have Zp:=ae H;clear hok hL J H;go_enter func289,ntmps289;go_wp2_with fail
  apply aM hch.aa;intro w1 aN;go_wp2_with fail
  apply bS (xp none 0 0 [] l.length af w1 0 (Reads.nil _ _ _ _) af af);rintro v2 w2⟨F,S⟩;have Gj:=aN.trans (S.mono aN.size);rw[aO]at F;have ho:=ua aN.size F rfl;clear F aN S;go_wp2_with fail
  go_loopw [5,19] (fun o i wr=>∃k:Nat,k<=l.length/\i=.int .i64 k/\Own wr w.heap.size 5 o (az l.length++(l.take k).flatMap kX)/\Below w.heap.size w wr) (fun _ i _=>l.length-(intOf i).toNat)
  case atStart=>exact⟨0,af,rfl,by simpa using ho,Gj⟩
  case round =>
   obtain⟨k,hk,rfl,hok,hb⟩:=hrel;by_cases u:k<l.length
   ·have fM:(k:Int)<l.length:=af;obtain⟨b,D,rfl,C,hcell⟩:=Zp.aa.Ri af;obtain⟨Z,Q,X,R⟩:=hcell k u;have d0:=(hb.cell (p:=⟨b,D+k*4,none⟩) (bz C t)).trans Z;have d1:=(hb.cell (p:=⟨b,D+k*4+1,none⟩) (bz C t)).trans Q;have d2:=(hb.cell (p:=⟨b,D+k*4+2,none⟩) (bz C t)).trans X;have d3:=(hb.cell (p:=⟨b,D+k*4+3,none⟩) (bz C t)).trans R;clear Z Q X R hcell;have hz:=hb.size;have hsz:=UU (HA.aa _ (bZ u));have N:=(HI.aa _ (bZ u)).2;have Y:=ae (HS.aa k u);have U:=zk.aa k;generalize l[k]=x at *;obtain⟨s,j,vn,vs⟩:=x;simp only at d0 d1 d2 d3 hsz N Y;obtain⟨Yq,aEH⟩:=hsz;generalize (l.take k).flatMap kX=T at *;obtain⟨A1,c1,rfl,L⟩:=hok.slice;have hlm:=U;generalize kH:(az l.length++T).length=m1 at L U⊢;clear kH hok;have RP:=λW=>run_bytes_of_string (P:=prog) W 9 94 5 s underlying9 underlying94 underlying5
    go_wp2_with fail
    have V:=ai.new wr 76 #[.string s,.int .i64 j,.int .i64 vn,.string vs];have O:Below wr.heap.size wr ((wr.alloc (.cells #[.string s,.int .i64 j,.int .i64 vn,.string vs] 76)).alloc (.cells (bytesRow s (grownCap (wr.alloc (.cells #[.string s,.int .i64 j,.int .i64 vn,.string vs] 76)) s.size 0 5)) 5 ((bytesRow s (grownCap (wr.alloc (.cells #[.string s,.int .i64 j,.int .i64 vn,.string vs] 76)) s.size 0 5)).size,(bytesRow s (grownCap (wr.alloc (.cells #[.string s,.int .i64 j,.int .i64 vn,.string vs] 76)) s.size 0 5)).size+1))).drew:=(((cT _ _).alloc (aD _) _).alloc aj _).drew;have sM:=(L.below O (aD _)).more (B':=wr.heap.size+1+1) af;apply bS (O2 A1 _ m1 c1 s.size _ _ (dX s) _ (wr.heap.size+1+1) sM (Reads.ajQ _ s _ _ _ (wr.heap.size+1) aj) aj af af);rintro v3 G⟨y,E⟩;have M:=((V.alloc (.cells (bytesRow s (grownCap (wr.alloc (.cells #[.string s,.int .i64 j,.int .i64 vn,.string vs] 76)) s.size 0 5)) 5 ((bytesRow s (grownCap (wr.alloc (.cells #[.string s,.int .i64 j,.int .i64 vn,.string vs] 76)) s.size 0 5)).size,(bytesRow s (grownCap (wr.alloc (.cells #[.string s,.int .i64 j,.int .i64 vn,.string vs] 76)) s.size 0 5)).size+1))).drew).below E ba;have I:=O.trans (E.mono ba);have q1:=M.cell 1;have q2:=M.cell 2;have q3:=M.cell 3;simp at q1 q2 q3;clear O E L sM V RP;have y:Own G wr.heap.size 5 v3 (az l.length++T++(az s.size++dX s)):=ua ba y aj;obtain⟨A3,c3,rfl,wM⟩:=y.slice;have hpl:=cS s.size af;have hss:s.data.size<=16:=Yq;have hHm:=ae (rfl:(az l.length++T++(az s.size++dX s)).length=(az l.length++T++(az s.size++dX s)).length);have sN:(az l.length++T++(az s.size++dX s)).length<=3000:=by
     grind
    generalize (az l.length++T++(az s.size++dX s)).length=m3 at *;clear y;go_wp2_with fail
    apply bS (ach A3 m3 c3 _ j vn vs G G.heap.size wM (aD _) af af N.1 N.2);rintro v4 w4⟨eo,hb4⟩;have MJ:=(hb.trans (I.mono hz)).trans (hb4.mono (bn hz I.size));have eo:=ua (bn hz I.size) eo rfl;rw[<- Y.aa]at eo;exact afV
   ·have fM:¬(k:Int)<l.length:=af;have ho:Own wr w.heap.size 5 u5 (Co l):=by
     rw[HR.aa];unfold jT
     grind
    clear hok;go_wp2;go_ret2;simp_all
section
variable {l la lb:List cZ} {b:List UInt8} {v va vb:Value} {w:World}
theorem arM(h:ji l v w)(t:∀x∈l,cD x.2.1/\cD x.2.2.1):Calls prog 289 #[v] w λe w' =>
 ∃v',e=.returned (.tuple #[v',.int .i64 (ko l)])/\Own w' w.heap.size 5 v' (Co l)/\Below w.heap.size w w':=by
 obtain⟨A,c,rfl,j⟩:=h
 exact apG A c l w _ j (aD _) t
end
theorem ath{k n s}(j:-9223372036854775808<=n)(u:n<=9223372036854775807)(t:s.size<=40):(nZ k n s).length<=67:=by have u:=cS (bf k) (gP _);have A:=cS (wi k n) (Lb _ _ j af);have y:=cS s.size af;have B:s.data.size<=40:=t;simp[nZ];omega
def Gd(t:dH):List UInt8:=if t.2.1==8 then []else nZ t.2.2.1 t.2.2.2.1 t.2.2.2.2
theorem ajS{t}(h:gD t=true):t.2.2.2.2.size<=40:=by
 obtain⟨_,_,_,h8,hn⟩:=FD h;by_cases e:t.2.1=8
 ·have:=h8 e;rw[this];decide
 ·grind [IE]
theorem adF{t}(h:gD t=true)(j:jB t):(Gd t).length<=67:=by
 have u:=ajS h;unfold Gd;split
 ·simp
 ·exact ath j.2.2.1 j.2.2.2 u
theorem awY{t}(h:gD t=true)(j:jB t):(ku t).length<=101:=by
 obtain⟨u,_,_,_,_⟩:=FD h
 have y:=adF h j
 have C:=cS t.1.size af
 have A:=cS (bf t.2.1) (gP _)
 have B:t.1.data.size<=16:=u
 unfold ku
 unfold Gd at y
 grind
theorem ati(l:List dH)(hk:∀x∈l,(ku x).length<=101):(l.flatMap ku).length<=101*l.length:=by
 induction l with
 | nil=>simp
 | cons y l j =>
  grind
theorem atj l k(j:okF l=true)(t:∀x∈l,jB x):(az l.length++(l.take k).flatMap ku).length<=1000:=by
 grind [DF,cS,ati,awY,om,dx]
theorem arN(l:List dH)(k:Nat)(h:k<l.length):az l.length++(l.take (k+1)).flatMap ku=az l.length++(l.take k).flatMap ku++(az l[k].1.size++dX l[k].1)++az (bf l[k].2.1)++Gd l[k]:=by rw[gJ h,List.flatMap_append,uy,List.flatMap_nil,List.append_nil];simp only[ku,Gd,eu]
theorem apa A c l w B(U:Reads w B 5 A l.length (l.flatMap fR))(u:B<=w.heap.size)(V:∀x∈l,jB x) :
 Calls prog 290 #[.slice A l.length c] w λe w' =>
  ∃v',e=.returned (.tuple #[v',.int .i64 (mW l)])/\Own w' w.heap.size 5 v' (Ck l)/\Below w.heap.size w w':=by
 have hch:=ae (Um A c l w B U u)
 cases hok:okF l
 ·have HE:Hid (mW l=50):=ae PX;have HR:Hid (Ck l=[]):=ae (by simp[Ck,hok]);clear hok;have hne:(mW l != 0)=true:=iK;go_enter func290,ntmps290;exact afU
 ·have HE:Hid (mW l=0):=ae PX;have HR:Hid (Ck l=jC l):=ae (by simp[Ck,hok]);have hne:(mW l != 0)=false:=iK;obtain⟨h8,hL⟩:=DF hok;have zk:=ae λk=>atj l k hok V
  have HA:=ae hL;have HI:=ae V;have HS:=ae (arN l);have Zp:=ae U;clear hok hL V U;go_enter func290,ntmps290;go_wp2_with fail
  apply aM hch.aa;intro w1 aN;go_wp2_with fail
  apply bS (xp none 0 0 [] l.length af w1 0 (Reads.nil _ _ _ _) af af);rintro v2 w2⟨S,hb2⟩;have Gj:=aN.trans (hb2.mono aN.size);rw[aO]at S;have ho:=ua aN.size S rfl;clear S aN hb2;go_wp2_with fail
  go_loopw [5,19] (fun o i wr=>∃k:Nat,k<=l.length/\i=.int .i64 k/\Own wr w.heap.size 5 o (az l.length++(l.take k).flatMap ku)/\Below w.heap.size w wr) (fun _ i _=>l.length-(intOf i).toNat)
  case atStart=>exact⟨0,af,rfl,by simpa using ho,Gj⟩
  case round =>
   obtain⟨k,hk,rfl,hok,hb⟩:=hrel;by_cases D:k<l.length
   ·have fM:(k:Int)<l.length:=af;obtain⟨b,C,rfl,y,hcell⟩:=Zp.aa.Mc af;obtain⟨e0,e1,e2,e3,e4⟩:=hcell k D;have d0:=(hb.cell (p:=⟨b,C+k*5,none⟩) (bz y u)).trans e0;have d1:=(hb.cell (p:=⟨b,C+k*5+1,none⟩) (bz y u)).trans e1;have d2:=(hb.cell (p:=⟨b,C+k*5+2,none⟩) (bz y u)).trans e2;have d3:=(hb.cell (p:=⟨b,C+k*5+3,none⟩) (bz y u)).trans e3;have d4:=(hb.cell (p:=⟨b,C+k*5+4,none⟩) (bz y u)).trans e4;clear e0 e1 e2 e3 e4 hcell;have hz:=hb.size;have L:=HA.aa _ (bZ D);have hpt:=FD L;have azL:=ajS L;have O:=(HI.aa _ (bZ D)).2;have HVL:=ae (adF L (HI.aa _ (bZ D)));have M:=ae (HS.aa k D);have hlk:=zk.aa k;clear L;generalize l[k]=x at *;obtain⟨s,op,j,vn,vs⟩:=x;simp only at d0 d1 d2 d3 d4 hpt azL O M;obtain⟨Yq,eH,R3,-,-⟩:=hpt;generalize (l.take k).flatMap ku=T at *;obtain⟨A1,c1,rfl,X⟩:=hok.slice;have hlm:=hlk;generalize kH:(az l.length++T).length=m1 at X hlk⊢;clear kH hok;have RP:=λW=>run_bytes_of_string (P:=prog) W 9 94 5 s underlying9 underlying94 underlying5
    go_wp2_with fail
    have dL:=ai.new wr 73 #[.string s,.int .i64 op,.int .i64 j,.int .i64 vn,.string vs];have Q:Below wr.heap.size wr ((wr.alloc (.cells #[.string s,.int .i64 op,.int .i64 j,.int .i64 vn,.string vs] 73)).alloc (.cells (bytesRow s (grownCap (wr.alloc (.cells #[.string s,.int .i64 op,.int .i64 j,.int .i64 vn,.string vs] 73)) s.size 0 5)) 5 ((bytesRow s (grownCap (wr.alloc (.cells #[.string s,.int .i64 op,.int .i64 j,.int .i64 vn,.string vs] 73)) s.size 0 5)).size,(bytesRow s (grownCap (wr.alloc (.cells #[.string s,.int .i64 op,.int .i64 j,.int .i64 vn,.string vs] 73)) s.size 0 5)).size+1))).drew:=(((cT _ _).alloc (aD _) _).alloc aj _).drew;have sM:=(X.below Q (aD _)).more (B':=wr.heap.size+1+1) af;apply bS (O2 A1 _ m1 c1 s.size _ _ (dX s) _ (wr.heap.size+1+1) sM (Reads.ajQ _ s _ _ _ (wr.heap.size+1) aj) aj af af);rintro v3 I⟨G,H⟩;have t:=((dL.alloc (.cells (bytesRow s (grownCap (wr.alloc (.cells #[.string s,.int .i64 op,.int .i64 j,.int .i64 vn,.string vs] 73)) s.size 0 5)) 5 ((bytesRow s (grownCap (wr.alloc (.cells #[.string s,.int .i64 op,.int .i64 j,.int .i64 vn,.string vs] 73)) s.size 0 5)).size,(bytesRow s (grownCap (wr.alloc (.cells #[.string s,.int .i64 op,.int .i64 j,.int .i64 vn,.string vs] 73)) s.size 0 5)).size+1))).drew).below H ba;have J:=Q.trans (H.mono ba);have hgt:wr.heap.size<I.heap.size:=bz ba H.size;have q1:=t.cell 1;have q2:=t.cell 2;have Z:=t.cell 3;have Y:=t.cell 4;simp at q1 q2 Z Y;clear Q H X sM dL RP;have G:Own I wr.heap.size 5 v3 (az l.length++T++(az s.size++dX s)):=ua ba G aj;obtain⟨A3,c3,rfl,N⟩:=G.slice;have hpl:=cS s.size af;have hss:s.data.size<=16:=Yq;have sN:(az l.length++T++(az s.size++dX s)).length<=1100:=by
     grind
    have wP:(az l.length++T++(az s.size++dX s)++az (bf op)).length<=1200:=by have:=cS (bf op) (gP op);simp only[dx]at sN⊢;omega
    generalize (az l.length++T++(az s.size++dX s)).length=m3 at N sN⊢;clear G;have ix:=J.size;go_wp2_with fail
    have hN:=xp A3 m3 c3 _ (bf op) (gP op) I I.heap.size N (aD _) af;rw[show ((bf op:Nat):Int)=op by unfold bf;omega]at hN;apply bS hN;rintro v4 R⟨eo,hb4⟩;have F:=t.below hb4 hgt;have r1:=F.cell 1;have r2:=F.cell 2;have r3:=F.cell 3;have r4:=F.cell 4;simp at r1 r2 r3 r4;clear q1 q2 Z Y t F N;have MJ:=(hb.trans (J.mono hz)).trans (hb4.mono (bn hz J.size));have gM:=MJ.size;have eo:=ua (bn hz J.size) eo rfl;by_cases hop:op=8
    ·subst hop;have eo:Own R w.heap.size 5 v4 (az l.length++(l.take (k+1)).flatMap ku):=by rw[M.aa];simpa [Gd]using eo
     exact afV
    ·obtain⟨A4,c4,rfl,hR4⟩:=eo.slice;generalize (az l.length++T++(az s.size++dX s)++az (bf op)).length=m4 at hR4 wP⊢;clear eo;go_wp2_with fail
     apply bS (ach A4 m4 c4 _ j vn vs R R.heap.size hR4 (aD _) af af O.2.1 O.2.2);rintro v5 w5⟨E,il⟩;have azM:=MJ.trans (il.mono gM);have E:=ua gM E rfl;have E:Own w5 w.heap.size 5 v5 (az l.length++(l.take (k+1)).flatMap ku):=by rw[M.aa];simpa [Gd,hop]using E
     go_wp2;go_roundw
     case rel=>exact⟨k+1,af,bI,E,azM⟩
     case measure=>simp[intOf];omega
   ·have fM:¬(k:Int)<l.length:=af;have ho:Own wr w.heap.size 5 u5 (Ck l):=by
     rw[HR.aa];unfold jC
     grind
    clear hok;go_wp2;go_ret2;simp_all
theorem aqr{l v w}(h:fF l v w)(t:∀x∈l,jB x):Calls prog 290 #[v] w λe w' =>
 ∃v',e=.returned (.tuple #[v',.int .i64 (mW l)])/\Own w' w.heap.size 5 v' (Ck l)/\Below w.heap.size w w':=by
 obtain⟨A,c,rfl,j⟩:=h
 exact apa A c l w _ j (aD _) t
section
variable {P:Program} {Q:Exit->Act->World->Prop}
def au(P:Program)(A:Act)(R:World->Prop)(S:World->World->Prop)(u:List Nat)(y:List Oper->List (List Nat×List (Nat×Nat))->List (Value->World->Prop)->Prop):Nat->List Oper->List (List Nat×List (Nat×Nat))->List (Value->World->Prop)->Prop
 | 0,r,xs,t=>y r xs t
 | _+1,[],_,_=>False
 | _+1,_ :: _,[],_=>False
 | m + 1,o :: r,x :: xs,t=>(u.contains t.length=true/\∃ψ:Value->Prop,au P A R S u y m r xs (t++[λv _=>ψ v]))∨(u.contains t.length=false/\∃φ:Value->World->Prop,(∀v w w',φ v w->S w w'->φ v w') /\
  (∀(V:Nat->Value) (w:World),R w->(∀j∈x.1,tab t j (V j) w)->if bR V o.guard=true then cW P φ w ((execOp (aF x.2 A V) (aG o.op o.type)).run P w)else φ undef w) /\
  au P A R S u y m r xs (t++[φ]))
def Jk(P:Program)(y:Act)(ops:Array Oper)(A:List (List Nat×List (Nat×Nat)))(R:World->Prop)(S:World->World->Prop)(u:List Nat)(D:Nat->List Value->World->Prop)(t:List (Value->World->Prop)):Nat->List Nat->Prop
 | _,[]=>True
 | k,i :: r=>(∃o x,ops[i]?=some o/\A[i]?=some x/\o.guard=none/\∀(V:Nat->Value) (W:World),R W->D k (u.map V) W->(∀j∈x.1,tab t j (V j) W) ->
  kI P (λv W'=>R W'/\S W W'/\D (k+1) ((u.map V).set k v) W'/\tab t i v W') ((execOp (aF x.2 y V) (aG o.op o.type)).run P W))/\Jk P y ops A R S u D t (k+1) r
theorem Jk.at{y ops A R S u D t} :
 ∀(l:List Nat) (k:Nat),Jk P y ops A R S u D t k l->∀(j i:Nat),l[j]?=some i->∃o x,ops[i]?=some o/\A[i]?=some x/\o.guard=none/\∀(V:Nat->Value) (W:World),R W->D (k+j) (u.map V) W->(∀j∈x.1,tab t j (V j) W) ->
  kI P (λv W'=>R W'/\S W W'/\D (k+j+1) ((u.map V).set (k+j) v) W'/\tab t i v W') ((execOp (aF x.2 y V) (aG o.op o.type)).run P W)
 | [],_,_,j,i,h=>xy
 | _ :: r,k,h,0,i,e=>by simp at e;subst e;exact h.1
 | _ :: r,k,h,j+1,i,e=>by have:=Jk.at r (k+1) h.2 j i B4;rwa [show k+1+j=k+(j+1) by omega]at this
def Ei(u:List (List Nat×List (Nat×Nat)))(t:List Nat)(m:Nat):Bool :=
 t.all (λi=>decide (i<m))&&(List.range t.length).all λk=>(List.range k).all λj=>qP u (t.getD j 0) u.length (t.getD k 0)
theorem atk{ops:Array Oper}{B R S A C} :
 ∀(m:Nat) (l:List Oper) (u:List (List Nat×List (Nat×Nat))) (t:List (Value->World->Prop)),
  au P B R S A C m l u t->(m<=l.length)->(∀i o x,ops[t.length+i]?=some o->l[i]?=some o->u[i]?=some x->∀j∈x.1,j<t.length+i)->(∀i o,l[i]?=some o->ops[t.length+i]?=some o) ->
  (∀φ∈t,∀v w w',φ v w->S w w'->φ v w') ->
  ∃s,C (l.drop m) (u.drop m) (t++s)/\s.length=m/\(∀φ∈t++s,∀v w w',φ v w->S w w'->φ v w')/\∀i o x,i<m->l[i]?=some o->u[i]?=some x->A.contains (t.length+i)=false->ajP P B R (tab (t++s)) (t.length+i) o.op o.type o.guard x.1 x.2:=by
 intro m
 induction m with
 | zero => intro l u t h _ _ _ D;exact⟨[],by grind [au],rfl,by simpa using D,λi o x U=>af⟩
 | succ m Y =>
  intro l u t h N F G D
  cases l with
  | nil=>exact False.elim h
  | cons o r =>
  cases u with
  | nil=>exact False.elim h
  | cons x xs =>
   obtain⟨φ,st,X,Cx⟩:∃φ:Value->World->Prop,(∀v w w',φ v w->S w w'->φ v w')/\au P B R S A C m r xs (t++[φ]) /\
    (A.contains t.length=true∨(A.contains t.length=false/\∀(V:Nat->Value) (w:World),R w->(∀j∈x.1,tab t j (V j) w)->if bR V o.guard=true then cW P φ w ((execOp (aF x.2 B V) (aG o.op o.type)).run P w)else φ undef w)):=by
    rcases h with ⟨h1,ψ,h2⟩|⟨h1,φ,h2,h3,h4⟩
    ·grind
    ·grind
   have e:(t++[φ]).length=t.length+1:=aj;obtain⟨s,H,T,L,J⟩:=Y r xs (t++[φ]) X (by simpa using N)
    (λi o' E h1 h2 h3 j y=>by
     rw[e]at h1⊢;have:=F (i+1) o' E (by rwa [show t.length+(i+1)=t.length+1+i by omega]) yB Lo j y;omega)
    (λi o' h1=>by
     rw[e,show t.length+1+i=t.length+(i+1) by omega];exact G (i+1) o' BZ)
    (fun ψ O=>by
     rcases List.mem_append.1 O with h1|h1
     ·exact D ψ h1
     ·simp at h1;subst h1;exact st)
   have Z:tab (t++φ :: s) t.length=φ:=by unfold tab;funext v w;simp[List.getD_eq_getElem?_getD]
   have Q:∀j,j<t.length->tab (t++φ :: s) j=tab t j:=by intro j y;unfold tab;funext v w;simp only[List.getD_eq_getElem?_getD];rw[List.getElem?_append_left y]
   have M:t++[φ]++s=t++φ :: s:=aj;rw[M]at H L J;refine⟨φ :: s,H,by simp[T],L,?_⟩
   ·intro i o' E U h1 h2 I;cases i with
    | zero =>
     simp at h1 h2;subst h1 h2;intro V w hk hp;rw[Nat.add_zero,Z];rcases Cx with h|⟨_,W⟩
     ·rw[Nat.add_zero,h]at I;cases I
     ·exact W V w hk λj y=>by have hlt:=F 0 o x (G 0 o aj) aj aj j y;have:=hp j y;rwa [Q j af]at this
    | succ i => have:=J i o' E af BZ yB (by rwa [e,show t.length+1+i=t.length+(i+1) by omega]);rwa [e,show t.length+1+i=t.length+(i+1) by omega]at this
theorem avr{ops A t m}(N:uq ops A=true)(G:Ei A t m=true)(R:t.Nodup){L}(D:Closed ops L){k i o}(J:t[k]?=some i)(X:ops[i]?=some o)(H:L i=false)(T:∀j∈ahead o,L j=true) :
 (t.filter L).length=k/\(t.filter (upd L i)).length=k+1:=by
 have hk:=(List.getElem?_eq_some_iff.1 J).1
 have B:t[k]=i:=(List.getElem?_eq_some_iff.1 J).2
 simp only[Ei,dC]at G
 have O:∀a b (u:a<b) (hb:b<t.length),qP A (t[a]'af) A.length t[b]=true:=λa b u hb=>by
  have V:=List.all_eq_true.1 (List.all_eq_true.1 G.2 b (List.mem_range.2 hb)) a (List.mem_range.2 u)
  grind
 have W:Closed ops (upd L i):=by
  refine⟨λj o' S y a u=>?_,λj y=>?_⟩
  ·unfold upd;split
   ·rfl
   ·rcases yz y with rfl|y
    ·grind
    ·exact D.1 j o' S y a u
  ·rcases yz y with rfl|y
   ·grind
   ·exact D.2 j y
 have E:∀a (u:a<k),L (t[a]'af)=true:=λa u=>by
  grind [IB,upd,yz,List.getElem_inj]
 have F:∀a (u:a<t.length),k<a->L t[a]=false:=λa u Q=>by
  cases h:L t[a]with
  | false=>rfl
  | true => have:=IB N D _ _ (O k a Q u) h;rw[B,H]at this;cases this
 have key:∀(M:Nat->Bool) (q:Nat),(∀a (u:a<t.length),M t[a]=decide (a<q))->q<=t.length->(t.filter M).length=q:=by
  intro M q I U;have e:t.filter M=t.take q:=by
   conv=>lhs;rw[<- List.take_append_drop q t]
   rw[List.filter_append,List.filter_eq_self.2 (λx C=>by
    obtain⟨a,u,e⟩:=List.mem_take_iff_getElem.1 C;rw[<- e,I a af];simp;omega),List.filter_eq_nil_iff.2 (λx C=>by
     obtain⟨a,u,e⟩:=List.mem_drop_iff_getElem.1 C;rw[<- e,I];simp),List.append_nil]
  rw[e,qI];omega
 refine⟨key L k (λa u=>?_) af,key (upd L i) (k+1) (λa u=>?_) af⟩
 ·rcases Nat.lt_trichotomy a k with h|h|h
  ·rw[E a h];simp[h]
  ·subst h;rw[B,H];simp
  ·rw[F a u h];simp;omega
 ·unfold upd;rcases Nat.lt_trichotomy a k with h|h|h
  ·rw[E a h];simp;omega
  ·subst h;rw[if_pos B];simp
  ·rw[if_neg (λe=>by rw[<- B]at e;have:=(List.getElem_inj R).1 e;omega),F a u h];simp;omega
theorem avs{V i v}{t:List Nat}(h:i∉t):t.map (bj V i v)=t.map V:=List.map_congr_left λj u=>by unfold bj;rw[if_neg (by rintro rfl;exact h u)]
theorem avt{V k i v}{j:List Nat}(B:j.Nodup)(t:j[k]?=some i):j.map (bj V i v)=(j.map V).set k v:=by
 obtain⟨hk,A⟩:=List.getElem?_eq_some_iff.1 t
 refine List.ext_getElem aj λa u y=>?_
 simp only[List.length_map]at u
 rw[List.getElem_map,List.getElem_set,List.getElem_map]
 unfold bj
 grind [List.getElem_inj]
def Bd:Value->Option Nat
 | .map m=>m
 | v=>v.ownBlock
def ajw(P:Program)(u:Act)(ops:Array Oper)(y:List (List Nat×List (Nat×Nat)))(R:World->Prop)(t:List (Value->World->Prop))(ds:List Nat):Prop :=
 ∀k∈ds,∃o x,ops[k]?=some o/\y[k]?=some x/\o.guard=none/\∀(V:Nat->Value) (W:World),R W->(∀j∈x.1,tab t j (V j) W)->∃v W',(execOp (aF x.2 u V) (aG o.op o.type)).run P W=.ok (.value v) W'/\∀b,Bd v=some b->W.heap.size<=b/\b<W'.heap.size
def X5(ds:List Nat)(L:Nat->Bool)(V:Nat->Value):Prop:=∀i∈ds,∀j∈ds,i≠j->L i=true->L j=true->∀b,Bd (V i)=some b->Bd (V j)≠some b
def QZ(ds:List Nat)(L:Nat->Bool)(V:Nat->Value)(W:World):Prop:=(∀i∈ds,L i=true->∀b,Bd (V i)=some b->b<W.heap.size)/\X5 ds L V
theorem QZ.next{ds L V W W' k v}(h:QZ ds L V W)(J:∀i∈ds,W.heap.size<=W'.heap.size)(I:k∈ds->∀b,Bd v=some b->W.heap.size<=b/\b<W'.heap.size):QZ ds (upd L k) (bj V k v) W':=by
 have key:∀i∈ds,upd L k i=true->∀b,Bd (bj V k v i)=some b->b<W'.heap.size/\(i=k->W.heap.size<=b)/\(i≠k->b<W.heap.size):=λi u t b hb=>by
  unfold bj at hb;by_cases y:i=k
  ·grind
  ·rw[if_neg y]at hb;have:=h.1 i u ((yz t).resolve_left y) b hb;grind
 refine⟨λi u t b hb=>(key i u t b hb).1,λi u j C F t E b B A=>?_⟩;have H:=key i u t b B;have G:=key j C E b A;by_cases y:i=k
 ·omega
 ·by_cases D:j=k
  ·omega
  ·unfold bj at B A;rw[if_neg y]at B;rw[if_neg D]at A;exact h.2 i u j C F ((yz t).resolve_left y) ((yz E).resolve_left D) b B A
def azO(P:Program)(u:Act)(ops:Array Oper)(A:List (List Nat×List (Nat×Nat)))(R:World->Prop)(t:List (Value->World->Prop))(y:List (Nat×Nat×(Value->Value))):Prop :=
 ∀q∈y,∃o x,ops[q.1]?=some o/\A[q.1]?=some x/\o.guard=none/\q.2.1∈x.1/\∀(V:Nat->Value) (W:World),R W->(∀j∈x.1,tab t j (V j) W)->∃W',(execOp (aF x.2 u V) (aG o.op o.type)).run P W=.ok (.value (q.2.2 (V q.2.1))) W'
def R4(j:List (Nat×Nat×(Value->Value)))(L:Nat->Bool)(V:Nat->Value):Prop:=∀q∈j,L q.1=true->L q.2.1=true/\V q.1=q.2.2 (V q.2.1)
theorem R4.next{u L V k v}(h:R4 u L V)(hk:L k=false)(C:∀q∈u,q.1=k->L q.2.1=true/\v=q.2.2 (V q.2.1)):R4 u (upd L k) (bj V k v):=λq A B=>by
 have key:L q.2.1=true->upd L k q.2.1=true/\bj V k v q.2.1=V q.2.1:=λj=>by
  have:q.2.1≠k:=λe=>by rw[e,hk]at j;cases j
  unfold upd bj;rw[if_neg this,if_neg this];exact⟨j,rfl⟩
 by_cases t:q.1=k
 ·obtain⟨j,y⟩:=C q A t;rw[(key j).2,t];exact⟨(key j).1,by unfold bj;rw[if_pos rfl];exact y⟩
 ·obtain⟨j,y⟩:=h q A ((yz B).resolve_left t);rw[(key j).2];exact⟨(key j).1,by unfold bj;rw[if_neg t];exact y⟩
theorem T6{id:Nat}{ops:Array Oper}{u:Act}{w:World}(m:Nat)(A:List Nat)(R:World->Prop)(S:World->World->Prop)(D:Nat->List Value->World->Prop)(E:List (List Nat×List (Nat×Nat)))(n:Nat)(ds:List Nat)(fs:List (Nat×Nat×(Value->Value)))
 (hR:∀W W',R W->Below W.heap.size W W'->R W') (hS:∀W W',Below W.heap.size W W'->S W W') (hD:∀k vs W W',D k vs W->Below W.heap.size W W'->D k vs W') (r0:R w) (d0:∀vs,D 0 vs w)
 (h:au P u R S A (λr xs t=>Jk P u ops E R S A D t 0 A/\ajw P u ops E R t ds/\azO P u ops E R t fs/\∀(V:Nat->Value) (W:World),R W->D A.length (A.map V) W->X5 ds (λ_=>true) V->(∀q∈fs,V q.1=q.2.2 (V q.2.1))->cC V W 0 t->aH P u (λV W=>Q .normal (fZ V ops.toList 0 u) W) m r xs V W) m ops.toList E [])
 (hn:u.tmps.size=n:=by rfl) (hm:P.follows .mixedOrders=true:=by kernel_rfl) (hok:sy ops n=true:=by kernel_rfl) (hpl:uq ops E=true:=by kernel_rfl) (gV:I8 E m ops.size=true:=by kernel_rfl) (GM:Ei E A m=true:=by kernel_rfl) (xP:A.Nodup:=by decide) (sP:m<=ops.size:=by decide) (hsz:∀i∈ds,∀W W',S W W'->W.heap.size<=W'.heap.size:=by simp) (CG:ds.all (λk=>decide (k<m)&&!A.contains k)=true:=by decide) (MM:(fs.map (·.1)).all (λk=>decide (k<m)&&!A.contains k)=true:=by decide) :
 (Code.region id ops true).wp P Q u w:=by
 have CG:=λk hk=>by simpa using List.all_eq_true.1 CG k hk
 have MM:∀q∈fs,q.1<m/\q.1∉A:=λq hq=>by simpa using List.all_eq_true.1 MM _ (List.mem_map_of_mem hq)
 have Zq:Ra [] E m ops.size=true:=by
  simp only[Ra,List.all_nil,Bool.true_and];refine List.all_eq_true.2 λk hk=>?_
  have h1:=List.all_eq_true.1 gV k hk;simp only[Bool.or_eq_true,decide_eq_true_eq]at h1⊢;refine h1.imp (λh=>h) λC=>List.all_eq_true.2 λj hj=>?_
  have F:=List.all_eq_true.1 C j hj;simp only[List.contains_nil,Bool.false_or];exact F
 have R6:=λi G=>by simp only[Ei,dC]at GM;simpa using List.all_eq_true.1 GM.1 i G
 have Mf:∀(i:Nat) (o:Oper),ops[i]?=some o->∃x:List Nat×List (Nat×Nat),E[i]?=some x/\∀j∈x.1,j∈ahead o:=by
  intro i o B
  have F:=List.all_eq_true.1 hpl (o,i) (List.mem_zipIdx_iff_getElem?.2 (by rw[Array.getElem?_toList];exact B))
  cases M:E[i]? with
  | none=>simp only[M]at F;cases F
  | some x => simp only[M,dC]at F;exact⟨x,rfl,λj hj=>by simpa using List.all_eq_true.1 F.1.1 j hj⟩
 obtain⟨s,⟨MN,hFr,hFu,hF⟩,hs,hst,hq⟩:=atk (ops:=ops) m ops.toList E [] h (by simpa using sP)
  (λi o x h1 C F j hj=>by
   simp only[List.length_nil,mQ]at h1⊢;obtain⟨y,hy,hyj⟩:=Mf i o h1;rw[hy]at F;injection F with F;subst F;have:=hyj j hj;have N:=List.all_eq_true.1 hok (o,i) (List.mem_zipIdx_iff_getElem?.2 (by rw[Array.getElem?_toList];exact h1));simp only[dC]at N;have h6:=List.all_eq_true.1 N.1.1.1.1 j this;simpa using h6)
  (λi o h1=>by
   simp only[List.length_nil,mQ];rw[<- Array.getElem?_toList];exact h1)
  aj
 simp only[aO,List.length_nil,mQ]at hF hst hq MN hFr hFu
 have iO:=hs
 let T:Nat->(Nat->Value)->World->Prop:=λi V W=>aH P u (λV W=>Q .normal (fZ V ops.toList 0 u) W) i (ops.toList.drop i) (E.drop i) V W
 have hT:∀i o x,ops[i]?=some o->E[i]?=some x->∀V W,T i V W=(if bR V o.guard=true then kI P (λv w'=>T (i+1) (bj V i v) w') ((execOp (aF x.2 u V) (aG o.op o.type)).run P W)else T (i+1) (bj V i undef) W):=by
  intro i o x B M V W;have hlt:i<ops.toList.length:=by simpa using (Array.getElem?_eq_some_iff.1 B).1
  have hlx:=(List.getElem?_eq_some_iff.1 M).1;have e1:ops.toList.drop i=o :: ops.toList.drop (i+1):=by
   rw[<- List.getElem_cons_drop hlt];congr 1;have:ops.toList[i]?=some o:=by rw[Array.getElem?_toList];exact B
   exact (List.getElem?_eq_some_iff.1 this).2
  have e2:E.drop i=x :: E.drop (i+1):=by rw[<- List.getElem_cons_drop hlx];congr 1;exact (List.getElem?_eq_some_iff.1 M).2
  show aH P u _ i _ _ V W=_;rw[e1,e2];rfl
 let I:(Nat->Bool)->(Nat->Value)->World->Prop:=λL V W =>
  ((∀i,m<=i->i<ops.size->L i=false)->R W/\(∀j,L j=true->tab s j (V j) W)/\D (A.filter L).length (A.map V) W/\QZ ds L V W/\R4 fs L V) /\
  (∀k,m<k->k<=ops.size->(∀j,j<k->L j=true)->(∀j,k<=j->j<ops.size->L j=false)->T k V W)
 have R7:Below w.heap.size w w.drew:=Below.drew (cT _ _)
 refine Ue I n hn hm hok ⟨λ_=>⟨hR _ _ r0 R7,(λ_ hj=>P5),by rw[List.filter_eq_nil_iff.2 (by simp)];exact hD _ _ _ _ (d0 _) R7,⟨λ_ _ h=>yC,λ_ _ _ _ _ h=>yC⟩,λ_ _ h=>yC⟩,λk hk _ hL _=>by have:=hL 0 (by omega);cases this⟩ ?_ ?_
 ·intro k o B L V W qY hcl Z hI;have hlt:=(Array.getElem?_eq_some_iff.1 B).1;obtain⟨x,M,GN⟩:=Mf k o B;have hgd:∀j b,o.guard=some (j,b)->j∈ahead o:=λj b hg=>by have N:=List.all_eq_true.1 hok (o,k) (List.mem_zipIdx_iff_getElem?.2 (by rw[Array.getElem?_toList];exact B));simp only[dC,hg,List.contains_iff_mem]at N;exact N.1.2.1
  have hex:execOp (za ops u V o) o=execOp (aF x.2 u V) (aG o.op o.type):=by
   have h1:=List.all_eq_true.1 hpl (o,k) (List.mem_zipIdx_iff_getElem?.2 (by rw[Array.getElem?_toList];exact B));simp only[M,dC]at h1;rw[<- Us];refine execOp_congr o (λcs b e=>by rw[e]at h1;exact absurd h1.1.2 (by simp)) λy hy=>?_
   exact afW
  have hwg:wants V o=bR V o.guard:=by
   unfold wants bR
   cases hg:o.guard with
   | none=>rfl
   | some y=>rfl
  rw[hwg,hex];have noL:∀i,k<m->m<=i->i<ops.size->L i=false:=by
   intro i R8 h1 C
   cases CI:L i with
   | false=>rfl
   | true =>
    have MO:ops[i]?=some ops[i]:=by simp[C]
    have:=Ut hpl Zq hcl h1 MO (λj hj=>hcl.1 i _ MO CI j hj) k af aj;rw[qY]at this;cases this
  by_cases R8:k<m
  ·obtain⟨hk,hp,X,hap,heq⟩:=hI.1 λi h1 C=>noL i R8 h1 C
   have later:∀v w',(∀i,m<i->i<=ops.size->(∀j,j<i->upd L k j=true)->(∀j,i<=j->j<ops.size->upd L k j=false)->T i (bj V k v) w'):=by intro v w' i h1 C F _;have h4:=F m h1;unfold upd at h4;rw[if_neg af,noL m R8 (aD _) af]at h4;cases h4
   by_cases tQ:k∈A
   ·obtain⟨q,lI,pk⟩:=List.mem_iff_getElem.1 tQ;have Zr:=List.getElem?_eq_some_iff.2 ⟨lI,pk⟩;obtain⟨o',x',H,J,hg,hrun⟩:=MN.at A 0 q k Zr;rw[B]at H;injection H with H;subst H;rw[M]at J;injection J with J;subst J;obtain⟨c1,c2⟩:=avr hpl GM xP hcl Zr B qY Z;simp only[mQ]at hrun;rw[c1]at X;have hr:=hrun V W hk X (λj hj=>hp j (Z j (GN j hj)));rw[hg,if_pos (show bR V none=true from rfl)];have next:∀v w',R w'/\S W w'/\D (q+1) ((A.map V).set q v) w'/\tab s k v w'->I (upd L k) (bj V k v) w':=by
     rintro v w'⟨g1,g2,g3,g4⟩;refine⟨λ_=>⟨g1,λj hj=>?_,by rw[c2,avt xP Zr];exact g3,hap.next (λi G=>hsz i G _ _ g2) λh=>absurd tQ (CG k h).2,heq.next qY λq hq e=>absurd (e▸tQ) (MM q hq).2⟩,later v w'⟩;by_cases hjk:j=k
     ·subst hjk;simpa [bj]using g4
     ·unfold bj;rw[if_neg hjk];exact UA hst _ _ _ _ (hp j ((yz hj).resolve_left hjk)) g2
    generalize (execOp (aF x.2 u V) (aG o.op o.type)).run P W=q at *;cases q with
    | ok nx w' =>
     cases nx <;> simp only[kI]at hr⊢
     case value v=>exact next _ _ hr
     case skip=>exact next _ _ hr
     case enter f args => apply bS hr;intro v w'' Y;exact⟨v,rfl,next _ _ Y⟩
    | halt x w'=>simp only[kI]at hr
   ·have O:=hq k o x R8 (by rw[Array.getElem?_toList];exact B) M (by simpa using tQ) V W hk (λj hj=>hp j (Z j (GN j hj)));have cR:A.filter (upd L k)=A.filter L:=List.filter_congr λj hj=>by unfold upd;rw[if_neg (by rintro rfl;exact tQ hj)]
    have next:∀v w',tab s k v w'->Below W.heap.size W w'->(k∈ds->∀b,Bd v=some b->W.heap.size<=b/\b<w'.heap.size)->(∀q∈fs,q.1=k->L q.2.1=true/\v=q.2.2 (V q.2.1))->I (upd L k) (bj V k v) w':=by
     intro v w' Y hb hf hg;refine⟨λ_=>⟨hR _ _ hk hb,λj hj=>?_,by rw[cR,avs tQ];exact hD _ _ _ _ X hb,hap.next (λ_ _=>hb.size) hf,heq.next qY hg⟩,later v w'⟩;unfold bj;by_cases hjk:j=k
     ·subst hjk;simpa using Y
     ·rw[if_neg hjk];exact UA hst _ _ _ _ (hp j ((yz hj).resolve_left hjk)) (hS _ _ hb)
    have ju:k∈ds->bR V o.guard=true/\∃v W',(execOp (aF x.2 u V) (aG o.op o.type)).run P W=.ok (.value v) W'/\∀b,Bd v=some b->W.heap.size<=b/\b<W'.heap.size:=λrW=>by obtain⟨o',x',H,J,hg,h9⟩:=hFr k rW;rw[B]at H;injection H with H;subst H;rw[M]at J;injection J with J;subst J;exact⟨by rw[hg];rfl,h9 V W hk λj hj=>hp j (Z j (GN j hj))⟩
    have GP:∀q∈fs,q.1=k->bR V o.guard=true/\L q.2.1=true/\∃W',(execOp (aF x.2 u V) (aG o.op o.type)).run P W=.ok (.value (q.2.2 (V q.2.1))) W':=λq hq e=>by obtain⟨o',x',H,J,hg,hj,h9⟩:=hFu q hq;rw[e,B]at H;injection H with H;subst H;rw[e,M]at J;injection J with J;subst J;exact⟨by rw[hg];rfl,Z _ (GN _ hj),h9 V W hk λj hj=>hp j (Z j (GN j hj))⟩
    by_cases Gn:bR V o.guard=true
    ·rw[if_pos Gn]at O⊢;generalize (execOp (aF x.2 u V) (aG o.op o.type)).run P W=q at *;cases q with
     | ok nx w' =>
      cases nx <;> simp only[cW]at O <;> simp only[kI]
      case value v=>exact next _ _ O.1 O.2 (λrW=>by obtain⟨-,v2,W2,e,h9⟩:=ju rW;cases e;exact h9) λq hq e=>by obtain⟨-,h1,W2,e⟩:=GP q hq e;cases e;exact⟨h1,rfl⟩
      case skip=>exact next _ _ O.1 O.2 (λrW=>afX) λq hq e=>afY
      case enter f args => apply bS O;rintro v w''⟨Y,hb⟩;exact⟨v,rfl,next _ _ Y hb (λrW=>afX) λq hq e=>afY⟩
     | halt x w'=>simp only[cW]at O
    ·rw[if_neg Gn]at O⊢;exact next _ _ O (cT _ _) (λrW=>absurd (ju rW).1 Gn) λq hq e=>absurd (GP q hq e).1 Gn
  ·have hall:=Ut hpl Zq hcl af B Z;have hno:∀i,k<=i->i<ops.size->L i=false:=by
    intro i h1 C;by_cases hik:i=k
    ·rw[hik];exact qY
    ·cases CI:L i with
     | false=>rfl
     | true =>
      have MO:ops[i]?=some ops[i]:=by simp[C]
      have:=Ut hpl Zq hcl af MO (λj hj=>hcl.1 i _ MO CI j hj) k af aj;rw[qY]at this;cases this
   have U:T k V W:=by
    by_cases azP:k=m
    ·subst azP;obtain⟨hk,hp,X,hap,heq⟩:=hI.1 hno;rw[List.filter_eq_self.2 λi G=>hall i (R6 i G) aj]at X;refine hF V W hk X (λi G j hj hij _ _=>hap.2 i G j hj hij (hall i (CG i G).1 aj) (hall j (CG j hj).1 aj)) (λq hq=>(heq q hq (hall _ (MM q hq).1 aj)).2) ?_;have:=afI (V:=V) (w:=W) s [] (λj _ C=>by
      simp at C;exact hp j (hall j af aj))
     simpa using this
    ·exact hI.2 k af af (λj hj=>hall j hj aj) hno
   rw[hT k o x B M]at U;have next:∀v w',T (k+1) (bj V k v) w'->I (upd L k) (bj V k v) w':=by
    intro v w' Y;refine⟨λh1=>?_,λi h1 C F h4=>?_⟩
    ·have:=h1 k af hlt;unfold upd at this;rw[if_pos rfl]at this;cases this
    ·have G:i=k+1:=by
      rcases Nat.lt_trichotomy i (k+1)with N|N|N
      ·have:=h4 k af hlt;unfold upd at this;rw[if_pos rfl]at this;cases this
      ·exact N
      ·have:=F (k+1) N;unfold upd at this;rw[if_neg af,hno (k+1) af af]at this;cases this
     rw[G];exact Y
   by_cases Gn:bR V o.guard=true
   ·rw[if_pos Gn]at U⊢;generalize (execOp (aF x.2 u V) (aG o.op o.type)).run P W=q at *;cases q with
    | ok nx w' =>
     cases nx <;> simp only[kI]at U⊢
     case value v=>exact next _ _ U
     case skip=>exact next _ _ U
     case enter f args => apply bS U;intro v w'' Y;exact⟨v,rfl,next _ _ Y⟩
    | halt x w'=>simp only[kI]at U
   ·rw[if_neg Gn]at U⊢;exact next _ _ U
 ·intro V W hI;by_cases kK:m<ops.size
  ·have:=hI.2 ops.size kK (aD _) (λj hj=>DR) (λj h1 C=>af);have e:T ops.size V W=Q .normal (fZ V ops.toList 0 u) W:=by show aH P u _ _ _ _ _ W=_;rw[List.drop_eq_nil_of_le aj];rfl
   rw[e]at this;exact this
  ·have CM:m=ops.size:=af;subst CM;obtain⟨hk,hp,X,hap,heq⟩:=hI.1 (λi h1 C=>af);rw[List.filter_eq_self.2 λi G=>by simpa using R6 i G]at X;have h9:=hF V W hk X (λi G j hj hij _ _=>hap.2 i G j hj hij (by simpa using (CG i G).1) (by simpa using (CG j hj).1)) (λq hq=>(heq q hq (by simpa using (MM q hq).1)).2) (by
    have:=afI (V:=V) (w:=W) s [] (λj _ C=>by
     simp at C;exact hp j ba)
    simpa using this)
   rw[List.drop_eq_nil_of_le aj]at h9;exact h9
end
