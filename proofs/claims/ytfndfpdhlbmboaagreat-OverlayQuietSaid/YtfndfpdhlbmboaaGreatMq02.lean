/-
  The walks of entry.number, small, readID and may (layer 11). Conditions: none.
-/
import Derived.Test.YtfndfpdhlbmboaaGreatMq01
import Derived.Deep.CutBlock
import Derived.Test.YtfndfpdhlbmboaaGreatMqz
set_option maxRecDepth 100000
set_option maxHeartbeats 16000000
set_option linter.all false
namespace Go.Proofs.YtfndfpdhlbmboaaGreat
open Go Go.RowKit _root_.Go.Proofs.Tryz
def fA(a:aT):List UInt8:=az (aZ a.1)++(az a.2.1++az a.2.2)
theorem abE l v a w(h:sl l v w)(hl:l.length<=900000000)(Y:dJ a) :
 Calls prog 277 #[v,cA a] w λe w'=>∃v',e=.returned v'/\Own w' w.heap.size 5 v' (l++fA a)/\K w w':=by
 obtain⟨A,c,rfl,H⟩:=h
 obtain⟨b,j,D⟩:=a
 obtain⟨F,y,C⟩:=Y
 simp only at F y C
 have:=cS (aZ b) (gH b)
 have p1:=cS j y
 have B:=ah.new w 26 #[.int .i64 b,.int .u64 j,.int .u64 D]
 have u:=B.aS
 have R:=(H.below u (aD _)).more u.size
 go_in
 go_wp2_with fail
 generalize w.alloc _=I at *
 have:=B.cells
 rw[DQ b]
 apply bN (wW A _ c l (aZ b) (gH b) I _ R (aD _) af)
 rintro v2 N⟨G,t⟩
 obtain⟨X,c2,rfl,J⟩:=(eK G)
 have:(l++az (aZ b)).length<=900000009:=aY
 generalize hm2:(l++az (aZ b)).length=V at *
 go_wp2_with fail
 apply bN (wW X V c2 _ j y N _ J (aD _) af)
 rintro v3 Q⟨L,U⟩
 replace t:=t.tr U
 obtain⟨W,c3,rfl,T⟩:=(eK L)
 have:(l++az (aZ b)++az j).length<=900000018:=aY
 generalize xG:(l++az (aZ b)++az j).length=S at *
 go_wp2_with fail
 apply bN (wW W S c3 _ D C Q _ T (aD _) af)
 rintro v4 w4⟨O,M⟩
 have E:=u.tr (t.tr M)
 go_wp2
 go_ret
 refine⟨_,rfl,tH ?_ O (by simp[fA]),E⟩
 exact bo u.size t.size
theorem KD(g:Nat)(l:List UInt8)(wr:Bool)(n:Nat)(w:World)(h:Rd w g l wr)(hn:n<=1000000) :
 Calls prog 208 #[.pointer (some ⟨g,0,none⟩),.int .i64 (n:Int)] w λe w'=>e=.returned (.int .i64 ((min (aw l wr).1 n:Nat):Int))/\nU g (aw l wr).2.1 (aw l wr).2.2 w w':=by
 have j:=ae (sM g l wr w h)
 have u:=nM l wr
 generalize aw l wr=a at *
 obtain⟨x,D,B⟩:=a
 simp only at j u⊢
 by_cases C:n<x
 ·have A:(n:Int)<(x:Int):=af;rw[show min x n=n by omega];go_in;go_wp2_with fail
  refine j.aa.mono ?_;rintro e y⟨rfl,t⟩;go_wp2;go_ret;exact⟨by first|rfl|simp <;> omega,t⟩
 ·have A:¬(n:Int)<(x:Int):=af;rw[show min x n=x by omega];go_in;go_wp2_with fail
  refine j.aa.mono ?_;rintro e y⟨rfl,t⟩;go_wp2;go_ret;exact⟨by first|rfl|simp <;> omega,t⟩
theorem ah.went{w w' g b t cs l wr}(h:ah w b t cs)(k:nU g l wr w w')(j:b≠g):ah w' b t cs:=h.grown k.2 (by simpa using j)
theorem Rd.al{w g l wr}(h:Rd w g l wr) o:Rd (w.alloc o) g l wr:=h.ay ((K.rf w).al o)
theorem Rd.set{w g b l wr}(h:Rd w g l wr)(hb:g<b) i u:Rd (w.setCell ⟨b,i,none⟩ u) g l wr:=h.below (Below.setCell (cP b w) (aD _) u) hb
def Cu:Bg aT:=λl wr =>
 (((min (aw l wr).1 16:Nat),(aw (aw l wr).2.1 (aw l wr).2.2).1,(aw (aw (aw l wr).2.1 (aw l wr).2.2).2.1 (aw (aw l wr).2.1 (aw l wr).2.2).2.2).1),
  (aw (aw (aw l wr).2.1 (aw l wr).2.2).2.1 (aw (aw l wr).2.1 (aw l wr).2.2).2.2).2)
theorem abU g l wr w(h:Rd w g l wr) :
 Calls prog 211 #[.pointer (some ⟨g,0,none⟩)] w λe w'=>e=.returned (cA (Cu l wr).1)/\nU g (Cu l wr).2.1 (Cu l wr).2.2 w w':=by
 have:=h.lt
 have dH:=ah.new w 26 #[.int .i64 0,.int .u64 0,.int .u64 0]
 have hm0:w.grownBy (w.alloc (.cells #[.int .i64 0,.int .u64 0,.int .u64 0] 26)) (some g):=DJ (B4 w _) _
 have h0:=h.al (.cells #[.int .i64 0,.int .u64 0,.int .u64 0] 26)
 have:w.heap.size<(w.alloc (.cells #[.int .i64 0,.int .u64 0,.int .u64 0] 26)).heap.size:=aj
 have E:=λW Y=>KD g l wr 16 W Y af
 unfold Cu
 generalize aw l wr=a at *
 obtain⟨x,T,Q⟩:=a
 simp only at E⊢
 have F:=sM g T Q
 generalize aw T Q=a at *
 obtain⟨y,U,O⟩:=a
 simp only at F⊢
 have C:=sM g U O
 generalize aw U O=a at *
 obtain⟨z,l3,CY⟩:=a
 simp only at C⊢
 replace E:=ae E
 replace F:=ae F
 replace C:=ae C
 go_in
 go_wp2_with fail
 generalize w.alloc _=w1 at *
 apply aI (E.aa w1 h0)
 intro J A
 have bG:=dH.went A af
 have hm2:=oG hm0 A.2
 have:=A.2.size
 have lD:=A.1
 go_wp2_with fail
 have fM:=ah.new J 26 #[.int .i64 ((min x 16:Nat):Int),.int .u64 0,.int .u64 0]
 have dU:=bG.alloc (.cells #[.int .i64 ((min x 16:Nat):Int),.int .u64 0,.int .u64 0] 26)
 have xH:=lD.al (.cells #[.int .i64 ((min x 16:Nat):Int),.int .u64 0,.int .u64 0] 26)
 have xG:=DJ hm2 (.cells #[.int .i64 ((min x 16:Nat):Int),.int .u64 0,.int .u64 0] 26)
 generalize J.alloc _=w3 at *
 generalize hh:J.heap.size=h at *
 apply aI (F.aa w3 xH)
 intro X D
 have H:=fM.went D af
 have Z:=dU.went D af
 have Bm:=oG xG D.2
 have hn4:=D.1
 have t:=H.cell 1
 have:=H.frozen 1
 simp at t
 go_upto_region 3 with fail
 have eB:=H.aP 1 (.int .u64 y)
 have iL:=Z.far (p:=⟨h,1,none⟩) aY (.int .u64 y)
 have Jr:=yx Bm (p:=⟨h,1,none⟩) aY (.int .u64 y)
 have hn5:=hn4.set (b:=h) af 1 (.int .u64 y)
 generalize X.setCell _ _=w5 at *
 go_wp2_with fail
 apply aI (C.aa w5 hn5)
 intro w6 B
 have u:=eB.went B af
 have oV:=iL.went B af
 have V:=oG Jr B.2
 have Js:=B.1
 have L:=u.cell 0
 have t:=u.cell 1
 have I:=u.cell 2
 have:=u.frozen 2
 simp at L t I
 go_upto_region 4 with fail
 have G:=u.aP 2 (.int .u64 z)
 have j:=oV.far (p:=⟨h,2,none⟩) aY (.int .u64 z)
 have Jt:=yx V (p:=⟨h,2,none⟩) aY (.int .u64 z)
 have RV:=Js.set (b:=h) af 2 (.int .u64 z)
 generalize w6.setCell _ _=w7 at *
 have L:=G.cell 0
 have t:=G.cell 1
 have I:=G.cell 2
 simp at L t I
 have r0:=j.cell 0
 have r1:=j.cell 1
 have r2:=j.cell 2
 have:=j.frozen 0
 have:=j.frozen 1
 have:=j.frozen 2
 simp at r0 r1 r2
 go_wp2
 have M:=((j.aP 0 (.int .i64 ((min x 16:Nat):Int))).aP 1 (.int .u64 y)).aP 2 (.int .u64 z)
 have S:=M.cell 0
 have R:=M.cell 1
 have N:=M.cell 2
 simp at S R N
 refine bodyPost_ret (v:=cA ((min x 16:Nat),y,z)) (by simp[results,results211,go_sem,S,R,N]) rfl ?_
 refine⟨rfl,?_,?_⟩
 ·exact ((RV.set af _ _).set af _ _).set af _ _
 ·exact yx (yx (yx Jt aj _) aj _) aj _
theorem au0 x:(qY x==0)=bH x:=by grind [qY,bH]
theorem adu x v w(h:pQ x v w) :
 Calls prog 212 #[v] w λe w'=>e=.returned (.bool (dL x))/\K w w':=by
 obtain⟨vf,u,rfl,E,he⟩:=h
 obtain⟨k,n,x,b,l,s⟩:=x
 simp only at E he
 have j:=ah.new w 197 (eY ⟨k,n,x,b,l,s⟩ vf u)
 have k1:=j.aS
 have HO:Hid (dL ⟨k,n,x,b,l,s⟩=if k=1 then FQ x&&xq ⟨k,n,x,b,l,s⟩else if k=2 then bH x&&xq ⟨k,n,x,b,l,s⟩else if k=3 then decide (n=0)&&bH x&&xq ⟨k,n,x,b,l,s⟩
  else if k=4∨k=5 then qX b&&decide (n=0)&&FQ x else false):=ae rfl
 have G:Hid (xq ⟨k,n,x,b,l,s⟩=(decide (b=0)&&decide (l=0)&&decide (s=0))):=ae rfl
 generalize dL ⟨k,n,x,b,l,s⟩=R at *
 have EK:∀W,K w W->dx x (.agg (aE x vf u)) W:=λW k=>⟨vf,u,rfl,eu _ _ _ _ E k,bj he k⟩
 go_in
 go_upto_region 1 with fail
 generalize w.alloc _=D at *
 generalize w.heap.size=g at j⊢
 have F:=j.cells
 have:=K.rf D
 generalize xq ⟨k,n,x,b,l,s⟩=m at *
 go_cut [0,3]from 4 to 7 (fun _ v wc=>v=.bool m/\wc=D)
 case first =>
  go_wp2;all_goals
   go_meet
   case rel=>(refine⟨?_,rfl⟩;rw[G.aa];clear F HO;simp_all)
 case rest =>
 obtain⟨rfl,rfl⟩:=hcut
 by_cases C:k=1
 ·subst C;rw[if_pos rfl]at HO;go_wp2_with fail
  apply cF (acd x _ _ (EK _ k1)) k1;intro w2 k2 bB;cases he:FQ x
  ·exact afM
  ·exact afN
 by_cases B:k=3
 ·subst B;rw[if_neg ax,if_neg ax,if_pos rfl]at HO;by_cases hn:n=0;rotate_left
  ·have y:((n:Int) != 0)=true:=by simpa using hn
   have HR:Hid (R=false):=ae afO;exact mW
  subst hn;have y:(((0:Nat):Int) != 0)=false:=aj;exact afP
 by_cases t:k=2
 ·subst t;rw[if_neg ax,if_pos rfl]at HO;exact afP
 have:(k==1)=false:=by simpa using C
 have:(k==2)=false:=by simpa using t
 have:(k==3)=false:=by simpa using B
 rw[if_neg C,if_neg t,if_neg B]at HO
 have H:(k=4∨k=5)∨(¬k=4/\¬k=5):=af
 rcases H with A|⟨h4,h5⟩
 ·rw[if_pos A]at HO;have:(k==4||k==5)=true:=by simpa using A
  go_upto_region 6 with fail;rcases A with rfl|rfl;all_goals
   go_wp2_with fail
   apply cF (acO (b,l,s) _) k1
   intro w2 k2 bB
   cases hh:qX b
   ·have HR:Hid (R=false):=ae (by rw[HO.aa,hh];rfl);exact PY
   by_cases hn:n=0
   rotate_left
   ·have y:((n:Int)==0)=false:=by simpa using hn
    have HR:Hid (R=false):=ae afO;exact PY
   subst hn
   have y:(((0:Nat):Int)==0)=true:=aj
   have HR:Hid (R=FQ x):=ae (by rw[HO.aa,hh];simp)
   go_wp2_with fail
   apply aI (acd x _ _ (EK _ bB))
   intro N I
   replace bB:=bB.tr I
   go_wp2
   go_ret
   exact⟨fJ,bB⟩
 ·have HR:Hid (R=false):=ae (by rw[HO.aa,if_neg (by omega)]);have:(k==4)=false:=Iy;have:(k==5)=false:=Lo;exact mW
theorem ao4 A c l w B(M:Reads w B 4 A l.length (l.flatMap kJ))(t:B<=w.heap.size)(Q:∀x∈l,bR x.2.1/\bR x.2.2.1) :
 Calls prog 289 #[.slice A l.length c] w λe w' =>
  ∃v',e=.returned (.tuple #[v',.int .i64 (jX l)])/\Own w' w.heap.size 5 v' (Cs l)/\Below w.heap.size w w':=by
 have hch:=ae (Uk A c l w B M t)
 cases hok:fN l
 ·have HE:Hid (jX l=40):=ae PZ;have HR:Hid (Cs l=[]):=ae (by simp[Cs,hok]);have X:(jX l != 0)=true:=iq;exact afQ
 ·have HE:Hid (jX l=0):=ae PZ;have HR:Hid (Cs l=jC l):=ae (by simp[Cs,hok]);have X:(jX l != 0)=false:=iq;obtain⟨h1,jn,hL⟩:=Pn hok;have zn:=ae λk=>aeh l k hok Q
  have HA:=ae (VI hL);have HI:=ae Q;have HS:=ae (asG l);have Y8:=ae M;go_in;go_wp2_with fail
  apply aI hch.aa;intro w1 aR;go_wp2_with fail
  apply bN (wW none 0 0 [] l.length af w1 0 (Reads.nil _ _ _ _) af af);rintro v2 w2⟨J,hb2⟩;have Gh:=aR.trans (hb2.mono aR.size);rw[aN]at J;have I:=tH aR.size J rfl;go_wp2_with fail
  go_loopw [5,19] (fun o i wr=>∃k:Nat,k<=l.length/\i=.int .i64 k/\Own wr w.heap.size 5 o (az l.length++(l.take k).flatMap jY)/\Below w.heap.size w wr) (fun _ i _=>l.length-(intOf i).toNat)
  case atStart=>exact⟨0,af,rfl,by simpa using I,Gh⟩
  case round =>
   obtain⟨k,hk,rfl,hok,hb⟩:=hrel;by_cases u:k<l.length
   ·have fe:(k:Int)<l.length:=af;obtain⟨b,C,rfl,y,hcell⟩:=Y8.aa.Mj af;obtain⟨e0,e1,Z,e3⟩:=hcell k u;have d0:=(hb.cell (p:=⟨b,C+k*4,none⟩) (bw y t)).trans e0;have d1:=(hb.cell (p:=⟨b,C+k*4+1,none⟩) (bw y t)).trans e1;have d2:=(hb.cell (p:=⟨b,C+k*4+2,none⟩) (bw y t)).trans Z;have d3:=(hb.cell (p:=⟨b,C+k*4+3,none⟩) (bw y t)).trans e3;have hz:=hb.size;have U:=UT (HA.aa _ (bT u));have D:=(HI.aa _ (bT u)).2;have R:=ae (HS.aa k u);have L:=zn.aa k;generalize l[k]=x at *;obtain⟨s,j,vn,vs⟩:=x;simp only at d0 d1 d2 d3 U D R;obtain⟨Yc,aFo⟩:=U;generalize (l.take k).flatMap jY=T at *;obtain⟨A1,c1,rfl,N⟩:=hok.slice;have:=L;generalize mH:(az l.length++T).length=m1 at N L⊢;have:=λW=>run_bytes_of_string (P:=prog) W 9 94 5 s underlying9 underlying94 underlying5
    go_wp2_with fail
    have eH:=ah.new wr 76 #[.string s,.int .i64 j,.int .i64 vn,.string vs];have O:Below wr.heap.size wr ((wr.alloc (.cells #[.string s,.int .i64 j,.int .i64 vn,.string vs] 76)).alloc (.cells (bytesRow s (grownCap (wr.alloc (.cells #[.string s,.int .i64 j,.int .i64 vn,.string vs] 76)) s.size 0 5)) 5 ((bytesRow s (grownCap (wr.alloc (.cells #[.string s,.int .i64 j,.int .i64 vn,.string vs] 76)) s.size 0 5)).size,(bytesRow s (grownCap (wr.alloc (.cells #[.string s,.int .i64 j,.int .i64 vn,.string vs] 76)) s.size 0 5)).size+1))).drew:=(((cP _ _).alloc (aD _) _).alloc aj _).drew;have xF:=(N.below O (aD _)).more (B':=wr.heap.size+1+1) af;apply bN (OV A1 _ m1 c1 s.size _ _ (dS s) _ (wr.heap.size+1+1) xF (Reads.ajU _ s _ _ _ (wr.heap.size+1) aj) aj af af);rintro v3 G⟨E,S⟩;have H:=((eH.alloc (.cells (bytesRow s (grownCap (wr.alloc (.cells #[.string s,.int .i64 j,.int .i64 vn,.string vs] 76)) s.size 0 5)) 5 ((bytesRow s (grownCap (wr.alloc (.cells #[.string s,.int .i64 j,.int .i64 vn,.string vs] 76)) s.size 0 5)).size,(bytesRow s (grownCap (wr.alloc (.cells #[.string s,.int .i64 j,.int .i64 vn,.string vs] 76)) s.size 0 5)).size+1))).drew).below S aY;have F:=O.trans (S.mono aY);have Y:=H.cell 1;have q2:=H.cell 2;have V:=H.cell 3;simp at Y q2 V;have E:Own G wr.heap.size 5 v3 (az l.length++T++(az s.size++dS s)):=tH aY E aj;obtain⟨A3,c3,rfl,xD⟩:=E.slice;have:=cS s.size af;have:s.data.size<=16:=Yc;have:=ae (rfl:(az l.length++T++(az s.size++dS s)).length=(az l.length++T++(az s.size++dS s)).length);have:(az l.length++T++(az s.size++dS s)).length<=3000:=by
     grind
    generalize (az l.length++T++(az s.size++dS s)).length=m3 at *;go_wp2_with fail
    apply bN (ab9 A3 m3 c3 _ j vn vs G G.heap.size xD (aD _) af af D.1 D.2);rintro v4 w4⟨fw,hb4⟩;have MO:=(hb.trans (F.mono hz)).trans (hb4.mono (bo hz F.size));have fw:=tH (bo hz F.size) fw rfl;rw[<- R.aa]at fw;exact afR
   ·have fe:¬(k:Int)<l.length:=af;have I:Own wr w.heap.size 5 u5 (Cs l):=by
     rw[HR.aa];unfold jC
     grind
    go_wp2;go_ret2;simp_all
section
variable {l la lb:List cM} {b:List UInt8} {v va vb:Value} {w:World}
theorem arf(h:iy l v w)(t:∀x∈l,bR x.2.1/\bR x.2.2.1):Calls prog 289 #[v] w λe w' =>
 ∃v',e=.returned (.tuple #[v',.int .i64 (jX l)])/\Own w' w.heap.size 5 v' (Cs l)/\Below w.heap.size w w':=by
 obtain⟨A,c,rfl,j⟩:=h
 exact ao4 A c l w _ j (aD _) t
end
theorem asQ{k n s}(t:-9223372036854775808<=n)(j:n<=9223372036854775807)(y:s.size<=40):(nO k n s).length<=67:=by have j:=cS (aZ k) (gH _);have:=cS (vG k n) (Lc _ _ t af);have:=cS s.size af;simp[nO];omega
def Ga(t:cX):List UInt8:=if t.2.1==8 then []else nO t.2.2.1 t.2.2.2.1 t.2.2.2.2
theorem ajV{t}(h:gj t=true):t.2.2.2.2.size<=40:=by
 obtain⟨_,_,_,h8,hn⟩:=Fu h;by_cases e:t.2.1=8
 ·have:=h8 e;rw[this];decide
 ·grind [Io]
theorem adv{t}(h:gj t=true)(j:iB t):(Ga t).length<=67:=by
 have u:=ajV h;unfold Ga;split
 ·simp
 ·exact asQ j.2.2.1 j.2.2.2 u
theorem awH{t}(h:gj t=true)(y:iB t):(jL t).length<=101:=by
 obtain⟨u,_,_,_,_⟩:=Fu h
 have j:=adv h y
 have:=cS t.1.size af
 have:=cS (aZ t.2.1) (gH _)
 have:t.1.data.size<=16:=u
 unfold jL
 unfold Ga at j
 grind
theorem asR(l:List cX)(hk:∀x∈l,(jL x).length<=101):(l.flatMap jL).length<=101*l.length:=by
 induction l with
 | nil=>simp
 | cons y l j =>
  grind
theorem asS l k(j:okF l=true)(t:∀x∈l,iB x):(az l.length++(l.take k).flatMap jL).length<=1000:=by
 grind [DK,cS,asR,awH,nQ,dq]
theorem arh(l:List cX)(k:Nat)(h:k<l.length):az l.length++(l.take (k+1)).flatMap jL=az l.length++(l.take k).flatMap jL++(az l[k].1.size++dS l[k].1)++az (aZ l[k].2.1)++Ga l[k]:=by rw[gg h,List.flatMap_append,vC,List.flatMap_nil,List.append_nil];simp only[jL,Ga,dQ]
theorem aox A c l w B(hR:Reads w B 5 A l.length (l.flatMap fq))(t:B<=w.heap.size)(hi:∀x∈l,iB x) :
 Calls prog 290 #[.slice A l.length c] w λe w' =>
  ∃v',e=.returned (.tuple #[v',.int .i64 (nt l)])/\Own w' w.heap.size 5 v' (Cn l)/\Below w.heap.size w w':=by
 have hch:=ae (Uj A c l w B hR t)
 cases hok:okF l
 ·have HE:Hid (nt l=50):=ae PW;have HR:Hid (Cn l=[]):=ae (by simp[Cn,hok]);have hne:(nt l != 0)=true:=iq;exact afQ
 ·have HE:Hid (nt l=0):=ae PW;have HR:Hid (Cn l=jt l):=ae (by simp[Cn,hok]);have hne:(nt l != 0)=false:=iq;obtain⟨h8,hL⟩:=DK hok;have zn:=ae λk=>asS l k hok hi
  have HA:=ae hL;have HI:=ae hi;have HS:=ae (arh l);have Y8:=ae hR;go_in;go_wp2_with fail
  apply aI hch.aa;intro w1 aR;go_wp2_with fail
  apply bN (wW none 0 0 [] l.length af w1 0 (Reads.nil _ _ _ _) af af);rintro v2 w2⟨eT,hb2⟩;have Gh:=aR.trans (hb2.mono aR.size);rw[aN]at eT;have Q:=tH aR.size eT rfl;go_wp2_with fail
  go_loopw [5,19] (fun o i wr=>∃k:Nat,k<=l.length/\i=.int .i64 k/\Own wr w.heap.size 5 o (az l.length++(l.take k).flatMap jL)/\Below w.heap.size w wr) (fun _ i _=>l.length-(intOf i).toNat)
  case atStart=>exact⟨0,af,rfl,by simpa using Q,Gh⟩
  case round =>
   obtain⟨k,hk,rfl,hok,hb⟩:=hrel;by_cases D:k<l.length
   ·have fe:(k:Int)<l.length:=af;obtain⟨b,E,rfl,u,hcell⟩:=Y8.aa.I5 af;obtain⟨e0,e1,e2,e3,e4⟩:=hcell k D;have d0:=(hb.cell (p:=⟨b,E+k*5,none⟩) (bw u t)).trans e0;have d1:=(hb.cell (p:=⟨b,E+k*5+1,none⟩) (bw u t)).trans e1;have d2:=(hb.cell (p:=⟨b,E+k*5+2,none⟩) (bw u t)).trans e2;have d3:=(hb.cell (p:=⟨b,E+k*5+3,none⟩) (bw u t)).trans e3;have d4:=(hb.cell (p:=⟨b,E+k*5+4,none⟩) (bw u t)).trans e4;have hz:=hb.size;have M:=HA.aa _ (bT D);have Y:=Fu M;have azB:=ajV M;have J:=(HI.aa _ (bT D)).2;have:=ae (adv M (HI.aa _ (bT D)));have O:=ae (HS.aa k D);have hlk:=zn.aa k;generalize l[k]=x at *;obtain⟨s,op,j,vn,vs⟩:=x;simp only at d0 d1 d2 d3 d4 Y azB J O;obtain⟨Yc,gM,Y9,-,-⟩:=Y;generalize (l.take k).flatMap jL=T at *;obtain⟨A1,c1,rfl,U⟩:=hok.slice;have:=hlk;generalize mH:(az l.length++T).length=m1 at U hlk⊢;have:=λW=>run_bytes_of_string (P:=prog) W 9 94 5 s underlying9 underlying94 underlying5
    go_wp2_with fail
    have eH:=ah.new wr 73 #[.string s,.int .i64 op,.int .i64 j,.int .i64 vn,.string vs];have V:Below wr.heap.size wr ((wr.alloc (.cells #[.string s,.int .i64 op,.int .i64 j,.int .i64 vn,.string vs] 73)).alloc (.cells (bytesRow s (grownCap (wr.alloc (.cells #[.string s,.int .i64 op,.int .i64 j,.int .i64 vn,.string vs] 73)) s.size 0 5)) 5 ((bytesRow s (grownCap (wr.alloc (.cells #[.string s,.int .i64 op,.int .i64 j,.int .i64 vn,.string vs] 73)) s.size 0 5)).size,(bytesRow s (grownCap (wr.alloc (.cells #[.string s,.int .i64 op,.int .i64 j,.int .i64 vn,.string vs] 73)) s.size 0 5)).size+1))).drew:=(((cP _ _).alloc (aD _) _).alloc aj _).drew;have xF:=(U.below V (aD _)).more (B':=wr.heap.size+1+1) af;apply bN (OV A1 _ m1 c1 s.size _ _ (dS s) _ (wr.heap.size+1+1) xF (Reads.ajU _ s _ _ _ (wr.heap.size+1) aj) aj af af);rintro v3 H⟨N,L⟩;have y:=((eH.alloc (.cells (bytesRow s (grownCap (wr.alloc (.cells #[.string s,.int .i64 op,.int .i64 j,.int .i64 vn,.string vs] 73)) s.size 0 5)) 5 ((bytesRow s (grownCap (wr.alloc (.cells #[.string s,.int .i64 op,.int .i64 j,.int .i64 vn,.string vs] 73)) s.size 0 5)).size,(bytesRow s (grownCap (wr.alloc (.cells #[.string s,.int .i64 op,.int .i64 j,.int .i64 vn,.string vs] 73)) s.size 0 5)).size+1))).drew).below L aY;have F:=V.trans (L.mono aY);have hgt:wr.heap.size<H.heap.size:=bw aY L.size;have q1:=y.cell 1;have q2:=y.cell 2;have q3:=y.cell 3;have q4:=y.cell 4;simp at q1 q2 q3 q4;have N:Own H wr.heap.size 5 v3 (az l.length++T++(az s.size++dS s)):=tH aY N aj;obtain⟨A3,c3,rfl,xD⟩:=N.slice;have:=cS s.size af;have:s.data.size<=16:=Yc;have X:(az l.length++T++(az s.size++dS s)).length<=1100:=by
     grind
    have Bm:(az l.length++T++(az s.size++dS s)++az (aZ op)).length<=1200:=by have:=cS (aZ op) (gH op);simp only[dq]at X⊢;omega
    generalize (az l.length++T++(az s.size++dS s)).length=m3 at xD X⊢;have:=F.size;go_wp2_with fail
    have hN:=wW A3 m3 c3 _ (aZ op) (gH op) H H.heap.size xD (aD _) af;rw[show ((aZ op:Nat):Int)=op by unfold aZ;omega]at hN;apply bN hN;rintro v4 I⟨fw,hb4⟩;have G:=y.below hb4 hgt;have r1:=G.cell 1;have r2:=G.cell 2;have r3:=G.cell 3;have r4:=G.cell 4;simp at r1 r2 r3 r4;have MO:=(hb.trans (F.mono hz)).trans (hb4.mono (bo hz F.size));have R:=MO.size;have fw:=tH (bo hz F.size) fw rfl;by_cases S:op=8
    ·subst S;have fw:Own I w.heap.size 5 v4 (az l.length++(l.take (k+1)).flatMap jL):=by rw[O.aa];simpa [Ga]using fw
     exact afR
    ·obtain⟨A4,c4,rfl,Z⟩:=fw.slice;generalize (az l.length++T++(az s.size++dS s)++az (aZ op)).length=m4 at Z Bm⊢;go_wp2_with fail
     apply bN (ab9 A4 m4 c4 _ j vn vs I I.heap.size Z (aD _) af af J.2.1 J.2.2);rintro v5 w5⟨C,ix⟩;have azC:=MO.trans (ix.mono R);have C:=tH R C rfl;have C:Own w5 w.heap.size 5 v5 (az l.length++(l.take (k+1)).flatMap jL):=by rw[O.aa];simpa [Ga,S]using C
     go_wp2;go_roundw
     case rel=>exact⟨k+1,af,bD,C,azC⟩
     case measure=>simp[intOf];omega
   ·have fe:¬(k:Int)<l.length:=af;have Q:Own wr w.heap.size 5 u5 (Cn l):=by
     rw[HR.aa];unfold jt
     grind
    go_wp2;go_ret2;simp_all
theorem apW{l v w}(h:eI l v w)(t:∀x∈l,iB x):Calls prog 290 #[v] w λe w' =>
 ∃v',e=.returned (.tuple #[v',.int .i64 (nt l)])/\Own w' w.heap.size 5 v' (Cn l)/\Below w.heap.size w w':=by
 obtain⟨A,c,rfl,j⟩:=h
 exact aox A c l w _ j (aD _) t
section
variable {P:Program} {Q:Exit->Act->World->Prop}
def ar(P:Program)(y:Act)(R:World->Prop)(S:World->World->Prop)(u:List Nat)(A:List Oper->List (List Nat×List (Nat×Nat))->List (Value->World->Prop)->Prop):Nat->List Oper->List (List Nat×List (Nat×Nat))->List (Value->World->Prop)->Prop
 | 0,r,xs,t=>A r xs t
 | _+1,[],_,_=>False
 | _+1,_ :: _,[],_=>False
 | m + 1,o :: r,x :: xs,t=>(u.contains t.length=true/\∃ψ:Value->Prop,ar P y R S u A m r xs (t++[λv _=>ψ v]))∨(u.contains t.length=false/\∃φ:Value->World->Prop,(∀v w w',φ v w->S w w'->φ v w') /\
  (∀(V:Nat->Value) (w:World),R w->(∀j∈x.1,tab t j (V j) w)->if bO V o.guard=true then cU P φ w ((execOp (aF x.2 y V) (aG o.op o.type)).run P w)else φ undef w) /\
  ar P y R S u A m r xs (t++[φ]))
def I7(P:Program)(A:Act)(ops:Array Oper)(y:List (List Nat×List (Nat×Nat)))(R:World->Prop)(S:World->World->Prop)(u:List Nat)(D:Nat->List Value->World->Prop)(t:List (Value->World->Prop)):Nat->List Nat->Prop
 | _,[]=>True
 | k,i :: r=>(∃o x,ops[i]?=some o/\y[i]?=some x/\o.guard=none/\∀(V:Nat->Value) (W:World),R W->D k (u.map V) W->(∀j∈x.1,tab t j (V j) W) ->
  jO P (λv W'=>R W'/\S W W'/\D (k+1) ((u.map V).set k v) W'/\tab t i v W') ((execOp (aF x.2 A V) (aG o.op o.type)).run P W))/\I7 P A ops y R S u D t (k+1) r
theorem I7.at{A ops y R S u D t} :
 ∀(l:List Nat) (k:Nat),I7 P A ops y R S u D t k l->∀(j i:Nat),l[j]?=some i->∃o x,ops[i]?=some o/\y[i]?=some x/\o.guard=none/\∀(V:Nat->Value) (W:World),R W->D (k+j) (u.map V) W->(∀j∈x.1,tab t j (V j) W) ->
  jO P (λv W'=>R W'/\S W W'/\D (k+j+1) ((u.map V).set (k+j) v) W'/\tab t i v W') ((execOp (aF x.2 A V) (aG o.op o.type)).run P W)
 | [],_,_,j,i,h=>xb
 | _ :: r,k,h,0,i,e=>by simp at e;subst e;exact h.1
 | _ :: r,k,h,j+1,i,e=>by have:=I7.at r (k+1) h.2 j i Lp;rwa [show k+1+j=k+(j+1) by omega]at this
def Ej(u:List (List Nat×List (Nat×Nat)))(t:List Nat)(m:Nat):Bool :=
 t.all (λi=>decide (i<m))&&(List.range t.length).all λk=>(List.range k).all λj=>qA u (t.getD j 0) u.length (t.getD k 0)
theorem asT{ops:Array Oper}{B R S A C} :
 ∀(m:Nat) (l:List Oper) (u:List (List Nat×List (Nat×Nat))) (t:List (Value->World->Prop)),
  ar P B R S A C m l u t->(m<=l.length)->(∀i o x,ops[t.length+i]?=some o->l[i]?=some o->u[i]?=some x->∀j∈x.1,j<t.length+i)->(∀i o,l[i]?=some o->ops[t.length+i]?=some o) ->
  (∀φ∈t,∀v w w',φ v w->S w w'->φ v w') ->
  ∃s,C (l.drop m) (u.drop m) (t++s)/\s.length=m/\(∀φ∈t++s,∀v w w',φ v w->S w w'->φ v w')/\∀i o x,i<m->l[i]?=some o->u[i]?=some x->A.contains (t.length+i)=false->ajT P B R (tab (t++s)) (t.length+i) o.op o.type o.guard x.1 x.2:=by
 intro m
 induction m with
 | zero => intro l u t h _ _ _ E;exact⟨[],by grind [ar],rfl,by simpa using E,λi o x Y=>af⟩
 | succ m ih =>
  intro l u t h N J G E
  cases l with
  | nil=>exact False.elim h
  | cons o r =>
  cases u with
  | nil=>exact False.elim h
  | cons x xs =>
   obtain⟨φ,st,U,T⟩:∃φ:Value->World->Prop,(∀v w w',φ v w->S w w'->φ v w')/\ar P B R S A C m r xs (t++[φ]) /\
    (A.contains t.length=true∨(A.contains t.length=false/\∀(V:Nat->Value) (w:World),R w->(∀j∈x.1,tab t j (V j) w)->if bO V o.guard=true then cU P φ w ((execOp (aF x.2 B V) (aG o.op o.type)).run P w)else φ undef w)):=by
    rcases h with ⟨h1,ψ,h2⟩|⟨h1,φ,h2,h3,h4⟩
    ·grind
    ·grind
   have e:(t++[φ]).length=t.length+1:=aj;obtain⟨s,F,Z,I,L⟩:=ih r xs (t++[φ]) U (by simpa using N)
    (λi o' D h1 h2 h3 j y=>by
     rw[e]at h1⊢;have:=J (i+1) o' D (by rwa [show t.length+(i+1)=t.length+1+i by omega]) yy Lq j y;omega)
    (λi o' h1=>by
     rw[e,show t.length+1+i=t.length+(i+1) by omega];exact G (i+1) o' B8)
    (fun ψ O=>by
     rcases List.mem_append.1 O with h1|h1
     ·exact E ψ h1
     ·simp at h1;subst h1;exact st)
   have Q:tab (t++φ :: s) t.length=φ:=by unfold tab;funext v w;simp[List.getD_eq_getElem?_getD]
   have X:∀j,j<t.length->tab (t++φ :: s) j=tab t j:=by intro j y;unfold tab;funext v w;simp only[List.getD_eq_getElem?_getD];rw[List.getElem?_append_left y]
   have W:t++[φ]++s=t++φ :: s:=aj;rw[W]at F I L;refine⟨φ :: s,F,by simp[Z],I,?_⟩
   ·intro i o' D Y h1 h2 H;cases i with
    | zero =>
     simp at h1 h2;subst h1 h2;intro V w hk hp;rw[Nat.add_zero,Q];rcases T with h|⟨_,M⟩
     ·rw[Nat.add_zero,h]at H;cases H
     ·exact M V w hk λj y=>by have hlt:=J 0 o x (G 0 o aj) aj aj j y;have:=hp j y;rwa [X j af]at this
    | succ i => have:=L i o' D af B8 yy (by rwa [e,show t.length+1+i=t.length+(i+1) by omega]);rwa [e,show t.length+1+i=t.length+(i+1) by omega]at this
theorem au1{ops B t m}(O:tQ ops B=true)(J:Ej B t m=true)(N:t.Nodup){L}(D:Closed ops L){k i o}(I:t[k]?=some i)(T:ops[i]?=some o)(G:L i=false)(W:∀j∈ahead o,L j=true) :
 (t.filter L).length=k/\(t.filter (upd L i)).length=k+1:=by
 have hk:=(List.getElem?_eq_some_iff.1 I).1
 have A:t[k]=i:=(List.getElem?_eq_some_iff.1 I).2
 simp only[Ej,dz]at J
 have S:∀a b (u:a<b) (hb:b<t.length),qA B (t[a]'af) B.length t[b]=true:=λa b u hb=>by
  have U:=List.all_eq_true.1 (List.all_eq_true.1 J.2 b (List.mem_range.2 hb)) a (List.mem_range.2 u)
  grind
 have V:Closed ops (upd L i):=by
  refine⟨λj o' R y a u=>?_,λj y=>?_⟩
  ·unfold upd;split
   ·rfl
   ·rcases yw y with rfl|y
    ·grind
    ·exact D.1 j o' R y a u
  ·rcases yw y with rfl|y
   ·grind
   ·exact D.2 j y
 have E:∀a (u:a<k),L (t[a]'af)=true:=λa u=>by
  grind [Ik,upd,yw,List.getElem_inj]
 have H:∀a (u:a<t.length),k<a->L t[a]=false:=λa u Q=>by
  cases h:L t[a]with
  | false=>rfl
  | true => have:=Ik O D _ _ (S k a Q u) h;rw[A,G]at this;cases this
 have key:∀(M:Nat->Bool) (q:Nat),(∀a (u:a<t.length),M t[a]=decide (a<q))->q<=t.length->(t.filter M).length=q:=by
  intro M q F X;have e:t.filter M=t.take q:=by
   conv=>lhs;rw[<- List.take_append_drop q t]
   rw[List.filter_append,List.filter_eq_self.2 (λx C=>by
    obtain⟨a,u,e⟩:=List.mem_take_iff_getElem.1 C;rw[<- e,F a af];simp;omega),List.filter_eq_nil_iff.2 (λx C=>by
     obtain⟨a,u,e⟩:=List.mem_drop_iff_getElem.1 C;rw[<- e,F];simp),List.append_nil]
  rw[e,p8];omega
 refine⟨key L k (λa u=>?_) af,key (upd L i) (k+1) (λa u=>?_) af⟩
 ·rcases Nat.lt_trichotomy a k with h|h|h
  ·rw[E a h];simp[h]
  ·subst h;rw[A,G];simp
  ·rw[H a u h];simp;omega
 ·unfold upd;rcases Nat.lt_trichotomy a k with h|h|h
  ·rw[E a h];simp;omega
  ·subst h;rw[if_pos A];simp
  ·rw[if_neg (λe=>by rw[<- A]at e;have:=(List.getElem_inj N).1 e;omega),H a u h];simp;omega
theorem au2{V i v}{t:List Nat}(h:i∉t):t.map (ba V i v)=t.map V:=List.map_congr_left λj u=>by unfold ba;rw[if_neg (by rintro rfl;exact h u)]
theorem au3{V k i v}{j:List Nat}(B:j.Nodup)(u:j[k]?=some i):j.map (ba V i v)=(j.map V).set k v:=by
 obtain⟨hk,y⟩:=List.getElem?_eq_some_iff.1 u
 refine List.ext_getElem aj λa t A=>?_
 simp only[List.length_map]at t
 rw[List.getElem_map,List.getElem_set,List.getElem_map]
 unfold ba
 grind [List.getElem_inj]
def Bn:Value->Option Nat
 | .map m=>m
 | v=>v.ownBlock
def ajD(P:Program)(y:Act)(ops:Array Oper)(u:List (List Nat×List (Nat×Nat)))(R:World->Prop)(t:List (Value->World->Prop))(ds:List Nat):Prop :=
 ∀k∈ds,∃o x,ops[k]?=some o/\u[k]?=some x/\o.guard=none/\∀(V:Nat->Value) (W:World),R W->(∀j∈x.1,tab t j (V j) W)->∃v W',(execOp (aF x.2 y V) (aG o.op o.type)).run P W=.ok (.value v) W'/\∀b,Bn v=some b->W.heap.size<=b/\b<W'.heap.size
def XO(ds:List Nat)(L:Nat->Bool)(V:Nat->Value):Prop:=∀i∈ds,∀j∈ds,i≠j->L i=true->L j=true->∀b,Bn (V i)=some b->Bn (V j)≠some b
def QY(ds:List Nat)(L:Nat->Bool)(V:Nat->Value)(W:World):Prop:=(∀i∈ds,L i=true->∀b,Bn (V i)=some b->b<W.heap.size)/\XO ds L V
theorem QY.next{ds L V W W' k v}(h:QY ds L V W)(H:∀i∈ds,W.heap.size<=W'.heap.size)(I:k∈ds->∀b,Bn v=some b->W.heap.size<=b/\b<W'.heap.size):QY ds (upd L k) (ba V k v) W':=by
 have key:∀i∈ds,upd L k i=true->∀b,Bn (ba V k v i)=some b->b<W'.heap.size/\(i=k->W.heap.size<=b)/\(i≠k->b<W.heap.size):=λi u t b hb=>by
  unfold ba at hb;by_cases y:i=k
  ·grind
  ·rw[if_neg y]at hb;have:=h.1 i u ((yw t).resolve_left y) b hb;grind
 refine⟨λi u t b hb=>(key i u t b hb).1,λi u j D F t C b A B=>?_⟩;have:=key i u t b A;have:=key j D C b B;by_cases y:i=k
 ·omega
 ·by_cases E:j=k
  ·omega
  ·unfold ba at A B;rw[if_neg y]at A;rw[if_neg E]at B;exact h.2 i u j D F ((yw t).resolve_left y) ((yw C).resolve_left E) b A B
def azE(P:Program)(A:Act)(ops:Array Oper)(u:List (List Nat×List (Nat×Nat)))(R:World->Prop)(t:List (Value->World->Prop))(y:List (Nat×Nat×(Value->Value))):Prop :=
 ∀q∈y,∃o x,ops[q.1]?=some o/\u[q.1]?=some x/\o.guard=none/\q.2.1∈x.1/\∀(V:Nat->Value) (W:World),R W->(∀j∈x.1,tab t j (V j) W)->∃W',(execOp (aF x.2 A V) (aG o.op o.type)).run P W=.ok (.value (q.2.2 (V q.2.1))) W'
def RX(j:List (Nat×Nat×(Value->Value)))(L:Nat->Bool)(V:Nat->Value):Prop:=∀q∈j,L q.1=true->L q.2.1=true/\V q.1=q.2.2 (V q.2.1)
theorem RX.next{u L V k v}(h:RX u L V)(hk:L k=false)(C:∀q∈u,q.1=k->L q.2.1=true/\v=q.2.2 (V q.2.1)):RX u (upd L k) (ba V k v):=λq A B=>by
 have key:L q.2.1=true->upd L k q.2.1=true/\ba V k v q.2.1=V q.2.1:=λj=>by
  have:q.2.1≠k:=λe=>by rw[e,hk]at j;cases j
  unfold upd ba;rw[if_neg this,if_neg this];exact⟨j,rfl⟩
 by_cases t:q.1=k
 ·obtain⟨j,y⟩:=C q A t;rw[(key j).2,t];exact⟨(key j).1,by unfold ba;rw[if_pos rfl];exact y⟩
 ·obtain⟨j,y⟩:=h q A ((yw B).resolve_left t);rw[(key j).2];exact⟨(key j).1,by unfold ba;rw[if_neg t];exact y⟩
theorem T3{id:Nat}{ops:Array Oper}{u:Act}{w:World}(m:Nat)(A:List Nat)(R:World->Prop)(S:World->World->Prop)(D:Nat->List Value->World->Prop)(G:List (List Nat×List (Nat×Nat)))(n:Nat)(ds:List Nat)(fs:List (Nat×Nat×(Value->Value)))
 (hR:∀W W',R W->Below W.heap.size W W'->R W') (hS:∀W W',Below W.heap.size W W'->S W W') (hD:∀k vs W W',D k vs W->Below W.heap.size W W'->D k vs W') (r0:R w) (d0:∀vs,D 0 vs w)
 (h:ar P u R S A (λr xs t=>I7 P u ops G R S A D t 0 A/\ajD P u ops G R t ds/\azE P u ops G R t fs/\∀(V:Nat->Value) (W:World),R W->D A.length (A.map V) W->XO ds (λ_=>true) V->(∀q∈fs,V q.1=q.2.2 (V q.2.1))->b6 V W 0 t->aH P u (λV W=>Q .normal (fT V ops.toList 0 u) W) m r xs V W) m ops.toList G [])
 (hn:u.tmps.size=n:=by rfl) (hm:P.follows .mixedOrders=true:=by kernel_rfl) (hok:rT ops n=true:=by kernel_rfl) (hpl:tQ ops G=true:=by kernel_rfl) (im:IV G m ops.size=true:=by kernel_rfl) (GG:Ej G A m=true:=by kernel_rfl) (EL:A.Nodup:=by decide) (oX:m<=ops.size:=by decide) (hsz:∀i∈ds,∀W W',S W W'->W.heap.size<=W'.heap.size:=by simp) (Da:ds.all (λk=>decide (k<m)&&!A.contains k)=true:=by decide) (MU:(fs.map (·.1)).all (λk=>decide (k<m)&&!A.contains k)=true:=by decide) :
 (Code.region id ops true).wp P Q u w:=by
 have Da:=λk hk=>by simpa using List.all_eq_true.1 Da k hk
 have MU:∀q∈fs,q.1<m/\q.1∉A:=λq hq=>by simpa using List.all_eq_true.1 MU _ (List.mem_map_of_mem hq)
 have Za:Q9 [] G m ops.size=true:=by
  simp only[Q9,List.all_nil,Bool.true_and];refine List.all_eq_true.2 λk hk=>?_
  have h1:=List.all_eq_true.1 im k hk;simp only[Bool.or_eq_true,decide_eq_true_eq]at h1⊢;refine h1.imp (λh=>h) λC=>List.all_eq_true.2 λj hj=>?_
  have E:=List.all_eq_true.1 C j hj;simp only[List.contains_nil,Bool.false_or];exact E
 have htm:=λi F=>by simp only[Ej,dz]at GG;simpa using List.all_eq_true.1 GG.1 i F
 have Ml:∀(i:Nat) (o:Oper),ops[i]?=some o->∃x:List Nat×List (Nat×Nat),G[i]?=some x/\∀j∈x.1,j∈ahead o:=by
  intro i o B
  have E:=List.all_eq_true.1 hpl (o,i) (List.mem_zipIdx_iff_getElem?.2 (by rw[Array.getElem?_toList];exact B))
  cases M:G[i]? with
  | none=>simp only[M]at E;cases E
  | some x => simp only[M,dz]at E;exact⟨x,rfl,λj hj=>by simpa using List.all_eq_true.1 E.1.1 j hj⟩
 obtain⟨s,⟨R3,hFr,hFu,hF⟩,hs,hst,hq⟩:=asT (ops:=ops) m ops.toList G [] h (by simpa using oX)
  (λi o x h1 C E j hj=>by
   simp only[List.length_nil,mz]at h1⊢;obtain⟨y,hy,hyj⟩:=Ml i o h1;rw[hy]at E;injection E with E;subst E;have:=hyj j hj;have N:=List.all_eq_true.1 hok (o,i) (List.mem_zipIdx_iff_getElem?.2 (by rw[Array.getElem?_toList];exact h1));simp only[dz]at N;have h6:=List.all_eq_true.1 N.1.1.1.1 j this;simpa using h6)
  (λi o h1=>by
   simp only[List.length_nil,mz];rw[<- Array.getElem?_toList];exact h1)
  aj
 simp only[aN,List.length_nil,mz]at hF hst hq R3 hFr hFu
 have je:=hs
 let T:Nat->(Nat->Value)->World->Prop:=λi V W=>aH P u (λV W=>Q .normal (fT V ops.toList 0 u) W) i (ops.toList.drop i) (G.drop i) V W
 have hT:∀i o x,ops[i]?=some o->G[i]?=some x->∀V W,T i V W=(if bO V o.guard=true then jO P (λv w'=>T (i+1) (ba V i v) w') ((execOp (aF x.2 u V) (aG o.op o.type)).run P W)else T (i+1) (ba V i undef) W):=by
  intro i o x B M V W;have hlt:i<ops.toList.length:=by simpa using (Array.getElem?_eq_some_iff.1 B).1
  have hlx:=(List.getElem?_eq_some_iff.1 M).1;have e1:ops.toList.drop i=o :: ops.toList.drop (i+1):=by
   rw[<- List.getElem_cons_drop hlt];congr 1;have:ops.toList[i]?=some o:=by rw[Array.getElem?_toList];exact B
   exact (List.getElem?_eq_some_iff.1 this).2
  have e2:G.drop i=x :: G.drop (i+1):=by rw[<- List.getElem_cons_drop hlx];congr 1;exact (List.getElem?_eq_some_iff.1 M).2
  show aH P u _ i _ _ V W=_;rw[e1,e2];rfl
 let I:(Nat->Bool)->(Nat->Value)->World->Prop:=λL V W =>
  ((∀i,m<=i->i<ops.size->L i=false)->R W/\(∀j,L j=true->tab s j (V j) W)/\D (A.filter L).length (A.map V) W/\QY ds L V W/\RX fs L V) /\
  (∀k,m<k->k<=ops.size->(∀j,j<k->L j=true)->(∀j,k<=j->j<ops.size->L j=false)->T k V W)
 have R4:Below w.heap.size w w.drew:=Below.drew (cP _ _)
 refine Uc I n hn hm hok ⟨λ_=>⟨hR _ _ r0 R4,(λ_ hj=>P4),by rw[List.filter_eq_nil_iff.2 (by simp)];exact hD _ _ _ _ (d0 _) R4,⟨λ_ _ h=>yz,λ_ _ _ _ _ h=>yz⟩,λ_ _ h=>yz⟩,λk hk _ hL _=>by have:=hL 0 (by omega);cases this⟩ ?_ ?_
 ·intro k o B L V W qL hcl hal hI;have hlt:=(Array.getElem?_eq_some_iff.1 B).1;obtain⟨x,M,GH⟩:=Ml k o B;have hgd:∀j b,o.guard=some (j,b)->j∈ahead o:=λj b hg=>by have N:=List.all_eq_true.1 hok (o,k) (List.mem_zipIdx_iff_getElem?.2 (by rw[Array.getElem?_toList];exact B));simp only[dz,hg,List.contains_iff_mem]at N;exact N.1.2.1
  have hex:execOp (zk ops u V o) o=execOp (aF x.2 u V) (aG o.op o.type):=by
   have h1:=List.all_eq_true.1 hpl (o,k) (List.mem_zipIdx_iff_getElem?.2 (by rw[Array.getElem?_toList];exact B));simp only[M,dz]at h1;rw[<- Uq];refine execOp_congr o (λcs b e=>by rw[e]at h1;exact absurd h1.1.2 (by simp)) λy hy=>?_
   exact afS
  have hwg:wants V o=bO V o.guard:=by
   unfold wants bO
   cases hg:o.guard with
   | none=>rfl
   | some y=>rfl
  rw[hwg,hex];have noL:∀i,k<m->m<=i->i<ops.size->L i=false:=by
   intro i R5 h1 C
   cases Db:L i with
   | false=>rfl
   | true =>
    have MV:ops[i]?=some ops[i]:=by simp[C]
    have:=Ur hpl Za hcl h1 MV (λj hj=>hcl.1 i _ MV Db j hj) k af aj;rw[qL]at this;cases this
  by_cases R5:k<m
  ·obtain⟨hk,hp,Y,hap,heq⟩:=hI.1 λi h1 C=>noL i R5 h1 C
   have later:∀v w',(∀i,m<i->i<=ops.size->(∀j,j<i->upd L k j=true)->(∀j,i<=j->j<ops.size->upd L k j=false)->T i (ba V k v) w'):=by intro v w' i h1 C E _;have h4:=E m h1;unfold upd at h4;rw[if_neg af,noL m R5 (aD _) af]at h4;cases h4
   by_cases uy:k∈A
   ·obtain⟨q,mI,s9⟩:=List.mem_iff_getElem.1 uy;have Zb:=List.getElem?_eq_some_iff.2 ⟨mI,s9⟩;obtain⟨o',x',H,J,hg,hrun⟩:=R3.at A 0 q k Zb;rw[B]at H;injection H with H;subst H;rw[M]at J;injection J with J;subst J;obtain⟨c1,c2⟩:=au1 hpl GG EL hcl Zb B qL hal;simp only[mz]at hrun;rw[c1]at Y;have hr:=hrun V W hk Y (λj hj=>hp j (hal j (GH j hj)));rw[hg,if_pos (show bO V none=true from rfl)];have next:∀v w',R w'/\S W w'/\D (q+1) ((A.map V).set q v) w'/\tab s k v w'->I (upd L k) (ba V k v) w':=by
     rintro v w'⟨g1,g2,g3,g4⟩;refine⟨λ_=>⟨g1,λj hj=>?_,by rw[c2,au3 EL Zb];exact g3,hap.next (λi F=>hsz i F _ _ g2) λh=>absurd uy (Da k h).2,heq.next qL λq hq e=>absurd (e▸uy) (MU q hq).2⟩,later v w'⟩;by_cases Z:j=k
     ·subst Z;simpa [ba]using g4
     ·unfold ba;rw[if_neg Z];exact UA hst _ _ _ _ (hp j ((yw hj).resolve_left Z)) g2
    generalize (execOp (aF x.2 u V) (aG o.op o.type)).run P W=q at *;cases q with
    | ok nx w' =>
     cases nx <;> simp only[jO]at hr⊢
     case value v=>exact next _ _ hr
     case skip=>exact next _ _ hr
     case enter f args => apply bN hr;intro v w'' X;exact⟨v,rfl,next _ _ X⟩
    | halt x w'=>simp only[jO]at hr
   ·have O:=hq k o x R5 (by rw[Array.getElem?_toList];exact B) M (by simpa using uy) V W hk (λj hj=>hp j (hal j (GH j hj)));have cN:A.filter (upd L k)=A.filter L:=List.filter_congr λj hj=>by unfold upd;rw[if_neg (by rintro rfl;exact uy hj)]
    have next:∀v w',tab s k v w'->Below W.heap.size W w'->(k∈ds->∀b,Bn v=some b->W.heap.size<=b/\b<w'.heap.size)->(∀q∈fs,q.1=k->L q.2.1=true/\v=q.2.2 (V q.2.1))->I (upd L k) (ba V k v) w':=by
     intro v w' X hb hf hg;refine⟨λ_=>⟨hR _ _ hk hb,λj hj=>?_,by rw[cN,au2 uy];exact hD _ _ _ _ Y hb,hap.next (λ_ _=>hb.size) hf,heq.next qL hg⟩,later v w'⟩;unfold ba;by_cases Z:j=k
     ·subst Z;simpa using X
     ·rw[if_neg Z];exact UA hst _ _ _ _ (hp j ((yw hj).resolve_left Z)) (hS _ _ hb)
    have mg:k∈ds->bO V o.guard=true/\∃v W',(execOp (aF x.2 u V) (aG o.op o.type)).run P W=.ok (.value v) W'/\∀b,Bn v=some b->W.heap.size<=b/\b<W'.heap.size:=λsk=>by obtain⟨o',x',H,J,hg,h9⟩:=hFr k sk;rw[B]at H;injection H with H;subst H;rw[M]at J;injection J with J;subst J;exact⟨by rw[hg];rfl,h9 V W hk λj hj=>hp j (hal j (GH j hj))⟩
    have Jv:∀q∈fs,q.1=k->bO V o.guard=true/\L q.2.1=true/\∃W',(execOp (aF x.2 u V) (aG o.op o.type)).run P W=.ok (.value (q.2.2 (V q.2.1))) W':=λq hq e=>by obtain⟨o',x',H,J,hg,hj,h9⟩:=hFu q hq;rw[e,B]at H;injection H with H;subst H;rw[e,M]at J;injection J with J;subst J;exact⟨by rw[hg];rfl,hal _ (GH _ hj),h9 V W hk λj hj=>hp j (hal j (GH j hj))⟩
    by_cases Gn:bO V o.guard=true
    ·rw[if_pos Gn]at O⊢;generalize (execOp (aF x.2 u V) (aG o.op o.type)).run P W=q at *;cases q with
     | ok nx w' =>
      cases nx <;> simp only[cU]at O <;> simp only[jO]
      case value v=>exact next _ _ O.1 O.2 (λsk=>by obtain⟨-,v2,W2,e,h9⟩:=mg sk;cases e;exact h9) λq hq e=>by obtain⟨-,h1,W2,e⟩:=Jv q hq e;cases e;exact⟨h1,rfl⟩
      case skip=>exact next _ _ O.1 O.2 (λsk=>afT) λq hq e=>afU
      case enter f args => apply bN O;rintro v w''⟨X,hb⟩;exact⟨v,rfl,next _ _ X hb (λsk=>afT) λq hq e=>afU⟩
     | halt x w'=>simp only[cU]at O
    ·rw[if_neg Gn]at O⊢;exact next _ _ O (cP _ _) (λsk=>absurd (mg sk).1 Gn) λq hq e=>absurd (Jv q hq e).1 Gn
  ·have hall:=Ur hpl Za hcl af B hal;have hno:∀i,k<=i->i<ops.size->L i=false:=by
    intro i h1 C;by_cases hik:i=k
    ·rw[hik];exact qL
    ·cases Db:L i with
     | false=>rfl
     | true =>
      have MV:ops[i]?=some ops[i]:=by simp[C]
      have:=Ur hpl Za hcl af MV (λj hj=>hcl.1 i _ MV Db j hj) k af aj;rw[qL]at this;cases this
   have U:T k V W:=by
    by_cases azF:k=m
    ·subst azF;obtain⟨hk,hp,Y,hap,heq⟩:=hI.1 hno;rw[List.filter_eq_self.2 λi F=>hall i (htm i F) aj]at Y;refine hF V W hk Y (λi F j hj hij _ _=>hap.2 i F j hj hij (hall i (Da i F).1 aj) (hall j (Da j hj).1 aj)) (λq hq=>(heq q hq (hall _ (MU q hq).1 aj)).2) ?_;have:=afF (V:=V) (w:=W) s [] (λj _ C=>by
      simp at C;exact hp j (hall j af aj))
     simpa using this
    ·exact hI.2 k af af (λj hj=>hall j hj aj) hno
   rw[hT k o x B M]at U;have next:∀v w',T (k+1) (ba V k v) w'->I (upd L k) (ba V k v) w':=by
    intro v w' X;refine⟨λh1=>?_,λi h1 C E h4=>?_⟩
    ·have:=h1 k af hlt;unfold upd at this;rw[if_pos rfl]at this;cases this
    ·have F:i=k+1:=by
      rcases Nat.lt_trichotomy i (k+1)with N|N|N
      ·have:=h4 k af hlt;unfold upd at this;rw[if_pos rfl]at this;cases this
      ·exact N
      ·have:=E (k+1) N;unfold upd at this;rw[if_neg af,hno (k+1) af af]at this;cases this
     rw[F];exact X
   by_cases Gn:bO V o.guard=true
   ·rw[if_pos Gn]at U⊢;generalize (execOp (aF x.2 u V) (aG o.op o.type)).run P W=q at *;cases q with
    | ok nx w' =>
     cases nx <;> simp only[jO]at U⊢
     case value v=>exact next _ _ U
     case skip=>exact next _ _ U
     case enter f args => apply bN U;intro v w'' X;exact⟨v,rfl,next _ _ X⟩
    | halt x w'=>simp only[jO]at U
   ·rw[if_neg Gn]at U⊢;exact next _ _ U
 ·intro V W hI;by_cases wh:m<ops.size
  ·have:=hI.2 ops.size wh (aD _) (λj hj=>DV) (λj h1 C=>af);have e:T ops.size V W=Q .normal (fT V ops.toList 0 u) W:=by show aH P u _ _ _ _ _ W=_;rw[List.drop_eq_nil_of_le aj];rfl
   rw[e]at this;exact this
  ·have EN:m=ops.size:=af;subst EN;obtain⟨hk,hp,Y,hap,heq⟩:=hI.1 (λi h1 C=>af);rw[List.filter_eq_self.2 λi F=>by simpa using htm i F]at Y;have h9:=hF V W hk Y (λi F j hj hij _ _=>hap.2 i F j hj hij (by simpa using (Da i F).1) (by simpa using (Da j hj).1)) (λq hq=>(heq q hq (by simpa using (MU q hq).1)).2) (by
    have:=afF (V:=V) (w:=W) s [] (λj _ C=>by
     simp at C;exact hp j aY)
    simpa using this)
   rw[List.drop_eq_nil_of_le aj]at h9;exact h9
end
section
variable {P:Program} {Q:Exit->Act->World->Prop} {a0:Act} {R:World->Prop} {Z:World->World->Prop} {tl:List Nat} {Fin akg:List Oper->List (List Nat×List (Nat×Nat))->List (Value->World->Prop)->Prop} {E:(Nat->Value)->World->Prop} {n m:Nat} {o:Oper} {r:List Oper} {x:List Nat×List (Nat×Nat)} {xs:List (List Nat×List (Nat×Nat))} {t:List (Value->World->Prop)}
theorem ar.imp(u:∀r xs t,Fin r xs t->akg r xs t):∀(m:Nat) (r:List Oper) (xs:List (List Nat×List (Nat×Nat))) (t:List (Value->World->Prop)),ar P a0 R Z tl Fin m r xs t->ar P a0 R Z tl akg m r xs t
 | 0,r,xs,t,h=>u r xs t h
 | m+1,[],_,_,h=>h.elim
 | m+1,_ :: _,[],_,h=>h.elim
 | m+1,o :: r,x :: xs,t,h=>by
  rcases h with ⟨j,ψ,y⟩|⟨j,φ,y,A,B⟩
  ·exact .inl ⟨j,ψ,ar.imp u m r xs _ y⟩
  ·exact .inr ⟨j,φ,y,A,ar.imp u m r xs _ B⟩
theorem OI{id:Nat}{ops:Array Oper}{w:World}(m:Nat)(j:List Nat)(R:World->Prop)(S:World->World->Prop)(D:Nat->List Value->World->Prop)(u:List (List Nat×List (Nat×Nat)))(n:Nat)
 (M:∀W W',R W->Below W.heap.size W W'->R W') (I:∀W W',Below W.heap.size W W'->S W W') (F:∀k vs W W',D k vs W->Below W.heap.size W W'->D k vs W') (G:R w) (C:∀vs,D 0 vs w)
 (h:ar P a0 R S j (λr xs t=>I7 P a0 ops u R S j D t 0 j/\∀(V:Nat->Value) (W:World),R W->D j.length (j.map V) W->b6 V W 0 t->aH P a0 (λV W=>Q .normal (fT V ops.toList 0 a0) W) m r xs V W) m ops.toList u [])
 (hn:a0.tmps.size=n:=by rfl) (hm:P.follows .mixedOrders=true:=by kernel_rfl) (y:rT ops n=true:=by kernel_rfl) (A:tQ ops u=true:=by kernel_rfl) (O:IV u m ops.size=true:=by kernel_rfl) (N:Ej u j m=true:=by kernel_rfl) (L:j.Nodup:=by decide) (J:m<=ops.size:=by decide) :
 (Code.region id ops true).wp P Q a0 w :=
 T3 m j R S D u n [] [] M I F G C (ar.imp (λr xs t h=>⟨h.1,λ_ h=>yz,λ_ h=>yz,λV W E H _ _ B=>h.2 V W E H B⟩) _ _ _ _ h) hn hm y A O N L J aj rfl rfl
theorem OP{id:Nat}{ops:Array Oper}{w:World}(m:Nat)(j:List (List Nat×List (Nat×Nat)))(n:Nat)
 (h:ar P a0 (K w) (λw w'=>Below w.heap.size w w') [] (λr xs t=>∀(V:Nat->Value) (W:World),K w W->b6 V W 0 t->aH P a0 (λV W=>Q .normal (fT V ops.toList 0 a0) W) m r xs V W) m ops.toList j [])
 (hn:a0.tmps.size=n:=by rfl) (hm:P.follows .mixedOrders=true:=by kernel_rfl) (u:rT ops n=true:=by kernel_rfl) (y:tQ ops j=true:=by kernel_rfl) (D:IV j m ops.size=true:=by kernel_rfl) (B:m<=ops.size:=by decide) :
 (Code.region id ops true).wp P Q a0 w :=
 OI m [] (K w) (λw w'=>Below w.heap.size w w') (λ_ _ _=>True) j n (λ_ _ h k=>h.tr k) (λ_ _ h=>h) (λ_ _ _ _ _ _=>trivial) (K.rf w) (λ_=>trivial)
  (ar.imp (λr xs t h=>⟨trivial,λV W A _ C=>h V W A C⟩) _ _ _ _ h) hn hm u y D (by simp[Ej]) aj B
def ayV(ops:Array Oper):List (List Nat×List (Nat×Nat)) :=
 ops.toList.map λo=>((List.range ops.size).filter (ahead o).contains,o.op.operands.toList.filterMap λy=>match y with
  | .tmp t=>((ahead o).find? λj=>pz ops j==some t).map λj=>(t,j)
  | _=>none)
theorem dK{id ops w} m{j n}
 (h:ar P a0 (K w) (λw w'=>Below w.heap.size w w') [] (λr xs t=>∀(V:Nat->Value) (W:World),K w W->b6 V W 0 t->aH P a0 (λV W=>Q .normal (fT V ops.toList 0 a0) W) m r xs V W) m ops.toList j [])
 (C:ayV ops=j:=by conv=>lhs;cbv) (hn:a0.tmps.size=n:=by rfl) (hm:P.follows .mixedOrders=true:=by kernel_rfl) (u:rT ops n=true:=by kernel_rfl) (y:tQ ops j=true:=by kernel_rfl) (B:IV j m ops.size=true:=by kernel_rfl) (A:m<=ops.size:=by decide) :
 (Code.region id ops true).wp P Q a0 w:=OP m j n h hn hm u y B A
theorem abx{id:Nat}{ops:Array Oper}{w:World}(m:Nat)(ds:List Nat)(j:List (List Nat×List (Nat×Nat)))(n:Nat)
 (h:ar P a0 (K w) (λw w'=>Below w.heap.size w w') [] (λr xs t=>ajD P a0 ops j (K w) t ds/\∀(V:Nat->Value) (W:World),K w W->XO ds (λ_=>true) V->b6 V W 0 t->aH P a0 (λV W=>Q .normal (fT V ops.toList 0 a0) W) m r xs V W) m ops.toList j [])
 (hn:a0.tmps.size=n:=by rfl) (hm:P.follows .mixedOrders=true:=by kernel_rfl) (u:rT ops n=true:=by kernel_rfl) (y:tQ ops j=true:=by kernel_rfl) (F:IV j m ops.size=true:=by kernel_rfl) (D:m<=ops.size:=by decide) (B:ds.all (λk=>decide (k<m)&&!([]:List Nat).contains k)=true:=by decide) :
 (Code.region id ops true).wp P Q a0 w :=
 T3 m [] (K w) (λw w'=>Below w.heap.size w w') (λ_ _ _=>True) j n ds [] (λ_ _ h k=>h.tr k) (λ_ _ h=>h) (λ_ _ _ _ _ _=>trivial) (K.rf w) (λ_=>trivial)
  (ar.imp (λr xs t h=>⟨trivial,h.1,λ_ h=>yz,λV W A _ C _ E=>h.2 V W A C E⟩) _ _ _ _ h) hn hm u y F (by simp[Ej]) aj D (λ_ _ _ _ h=>h.size) B rfl
theorem ar.op(φ:Value->World->Prop)(st:∀v w w',φ v w->Z w w'->φ v w')
 (h:∀(V:Nat->Value) (w:World),R w->(∀j∈x.1,tab t j (V j) w)->if bO V o.guard=true then cU P φ w ((execOp (aF x.2 a0 V) (aG o.op o.type)).run P w)else φ undef w)
 (k:ar P a0 R Z tl Fin m r xs (t++[φ])) (e:tl.contains t.length=false:=by (simp only[dq,eQ,List.length_nil,List.contains_nil];try rfl)):ar P a0 R Z tl Fin (m+1) (o :: r) (x :: xs) t:=.inr ⟨e,φ,st,h,k⟩
theorem ar.s(k:ar P a0 R Z tl Fin m r xs (t++[Rh]))(e:tl.contains t.length=true:=by (simp only[dq,eQ,List.length_nil,List.contains_nil];try rfl)):ar P a0 R Z tl Fin (m+1) (o :: r) (x :: xs) t:=.inl ⟨e,λ_=>True,k⟩
theorem ar.kn(ψ:Value->Prop)(k:ar P a0 R Z tl Fin m r xs (t++[λv _=>ψ v]))(e:tl.contains t.length=true:=by (simp only[dq,eQ,List.length_nil,List.contains_nil];try rfl)):ar P a0 R Z tl Fin (m+1) (o :: r) (x :: xs) t:=.inl ⟨e,ψ,k⟩
theorem XY c:∀v w w',aJ c v w->Z w w'->aJ c v w':=λ_ _ _ h _=>h
theorem ar.i{c:Value}(k:ar P a0 R Z tl Fin m r xs (t++[aJ c]))
 (h:∀(V:Nat->Value) (w:World),R w->(∀j∈x.1,tab t j (V j) w)->if bO V o.guard=true then cU P (aJ c) w ((execOp (aF x.2 a0 V) (aG o.op o.type)).run P w)else aJ c undef w:=by
  intro V W kW hp;try simp only[cz,aN,aQ,bV,bW,aJ]at hp
  simp[bO,aF,List.lookup,hp,cU,execOp,aG,aJ,cP,kW,qs,go_sem];rfl) (e:tl.contains t.length=false:=by (simp only[dq,eQ,List.length_nil,List.contains_nil];try rfl)):ar P a0 R Z tl Fin (m+1) (o :: r) (x :: xs) t:=.inr ⟨e,aJ c,XY c,h,k⟩
theorem ar.is(c:Value)
 (h:∀(V:Nat->Value) (w:World),R w->(∀j∈x.1,tab t j (V j) w)->if bO V o.guard=true then cU P (aJ c) w ((execOp (aF x.2 a0 V) (aG o.op o.type)).run P w)else aJ c undef w)
 (k:ar P a0 R Z tl Fin m r xs (t++[aJ c])) (e:tl.contains t.length=false:=by (simp only[dq,eQ,List.length_nil,List.contains_nil];try rfl)):ar P a0 R Z tl Fin (m+1) (o :: r) (x :: xs) t:=.inr ⟨e,aJ c,XY c,h,k⟩
theorem ar.d(φ:Value->World->Prop)(st:∀v w w',φ v w->Z w w'->φ v w'){f:FuncId}{args:(Nat->Value)->Array Value}
 (B:∀V W,R W->(∀j∈x.1,tab t j (V j) W)->Calls P f (args V) W λe w'=>∃v,e=.returned v/\φ v w'/\K W w') (k:ar P a0 R Z tl Fin m r xs (t++[φ]))
 (h:∀(V:Nat->Value) (w:World),R w->(∀j∈x.1,tab t j (V j) w)->bO V o.guard=true/\(execOp (aF x.2 a0 V) (aG o.op o.type)).run P w=.ok (.enter f (args V)) w:=by
  intro V W kW hp;try simp only[cz,aN,aQ,bV,bW,aJ]at hp
  simp[bO,aF,List.lookup,hp,execOp,aG,qs,go_sem];try exact⟨rfl,rfl⟩
  all_goals fail) (e:tl.contains t.length=false:=by (simp only[dq,eQ,List.length_nil,List.contains_nil];try rfl)):ar P a0 R Z tl Fin (m+1) (o :: r) (x :: xs) t :=
 .inr ⟨e,φ,st,λV W kW hp=>by rw[if_pos (h V W kW hp).1,(h V W kW hp).2];exact (B V W kW hp).mono λe w' ⟨v,A,u,y⟩=>⟨v,A,u,y⟩,k⟩
theorem ar.c(φ:Value->World->Prop)(st:∀v w w',φ v w->Z w w'->φ v w'){f:FuncId}{args:Array Value}
 (u:∀W,R W->Calls P f args W λe w'=>∃v,e=.returned v/\φ v w'/\K W w') (k:ar P a0 R Z tl Fin m r xs (t++[φ]))
 (h:∀(V:Nat->Value) (w:World),R w->(∀j∈x.1,tab t j (V j) w)->bO V o.guard=true/\(execOp (aF x.2 a0 V) (aG o.op o.type)).run P w=.ok (.enter f args) w:=by
  intro V W kW hp;try simp only[cz,aN,aQ,bV,bW,aJ]at hp
  simp[bO,aF,List.lookup,hp,execOp,aG,qs,go_sem];try exact⟨rfl,rfl⟩
  all_goals fail) (e:tl.contains t.length=false:=by (simp only[dq,eQ,List.length_nil,List.contains_nil];try rfl)):ar P a0 R Z tl Fin (m+1) (o :: r) (x :: xs) t :=
 ar.d (args:=λ_=>args) φ st (λ_ W k _=>u W k) k h e
theorem ar.v{c:Value}{f:FuncId}{args:Array Value}(A:∀W,R W->Calls P f args W λe w'=>e=.returned c/\K W w')(k:ar P a0 R Z tl Fin m r xs (t++[aJ c]))
 (h:∀(V:Nat->Value) (w:World),R w->(∀j∈x.1,tab t j (V j) w)->bO V o.guard=true/\(execOp (aF x.2 a0 V) (aG o.op o.type)).run P w=.ok (.enter f args) w:=by
  intro V W kW hp;try simp only[cz,aN,aQ,bV,bW,aJ]at hp
  simp[bO,aF,List.lookup,hp,execOp,aG,qs,go_sem];try exact⟨rfl,rfl⟩
  all_goals fail) (e:tl.contains t.length=false:=by (simp only[dq,eQ,List.length_nil,List.contains_nil];try rfl)):ar P a0 R Z tl Fin (m+1) (o :: r) (x :: xs) t :=
 ar.c (aJ c) (XY c) (λW k=>(A W k).mono λe w' ⟨u,y⟩=>⟨c,u,rfl,y⟩) k h e
theorem ar.row{α:Type}{S:dV α}{e:TypeId}{N:Nat->Prop}(u:TypeId)(z:Value)(size bytes:Nat)(T:fS P u e z size bytes)(I:S.size=size)(B:size<=16777216)(A:Operand)(y:α)(C:o.op=.buildSlice u 1 #[(0,A)])(hg:o.guard=none)
 (h:∀(V:Nat->Value) (w:World),R w->(∀j∈x.1,tab t j (V j) w)->uv N S y (aF x.2 a0 V A) w)
 (k:ar P a0 R Z tl Fin m r xs (t++[ez N 0 e S y])) (D:∀v w w',ez N 0 e S y v w->Z w w'->ez N 0 e S y v w':=by exact awE _ _ _ _ _) (F:tl.contains t.length=false:=by (simp only[dq,eQ,List.length_nil,List.contains_nil];try rfl)):ar P a0 R Z tl Fin (m+1) (o :: r) (x :: xs) t:=by
 refine ar.op (ez N 0 e S y) D (λV w G hp=>?_) k F
 obtain⟨H,E⟩:=h V w G hp
 rw[hg,if_pos (show bO V none=true from rfl),C,acb (P:=P) (w:=w) u _ z size bytes T A rfl af B]
 exact⟨ez.new E 0 (eE _),(K.rf w).al _⟩
theorem aH.p{k:Nat}{V:Nat->Value}{w:World}{v:Value}(h:aH P a0 E (k+1) r xs (ba V k v) w)(j:(execOp (aF x.2 a0 V) (aG o.op o.type)).run P w=.ok (.value v) w:=by
 simp[aF,List.lookup,ba,hA,execOp,aG,qs,go_sem];try rfl) (hg:o.guard=none:=by rfl):aH P a0 E k (o :: r) (x :: xs) V w:=aH.pure v hg j h
theorem aH.s{k:Nat}{V:Nat->Value}{w w':World}(h:aH P a0 E (k+1) r xs (ba V k undef) w')(j:(execOp (aF x.2 a0 V) (aG o.op o.type)).run P w=.ok .skip w':=by
 simp[aF,List.lookup,ba,hA,execOp,aG,qs,go_sem];try rfl) (hg:o.guard=none:=by rfl):aH P a0 E k (o :: r) (x :: xs) V w:=aH.skip w' hg j h
theorem aH.e{k:Nat}{ops:List Oper}{a:Act}{V:Nat->Value}{w:World}(h:Q .normal a w)(e:fT V ops 0 a0=a:=by
 simp only[fT,Act.put,rW,rh,qZ,Nat.reduceAdd,ba];try rfl):aH P a0 (λV W=>Q .normal (fT V ops 0 a0) W) k [] xs V w:=aH.nil (e▸h)
theorem aH.h{k:Nat}{ops:List Oper}{a:Act}{V:Nat->Value}{w:World}(h:Q .normal a w)(e:fT V ops 0 a0=a:=by
 simp only[fT,Act.put,rW,rh,qZ,Nat.reduceAdd,ba,hA];try rfl):aH P a0 (λV W=>Q .normal (fT V ops 0 a0) W) k [] xs V w:=aH.nil (e▸h)
end
theorem uP{l v w}(n:Nat)(h:sl l v w)(hn:n<18446744073709551616)(t:l.length<=1000000000) :
 Calls prog 146 #[v,.int .u64 n] w λe w'=>∃v',e=.returned v'/\Own w' w.heap.size 5 v' (l++az n)/\K w w':=by
 obtain⟨A,c,rfl,j⟩:=h
 exact wW A _ c l n hn w _ j (aD _) t
theorem Py{l b v u w}(h:sl l v w)(k:sl b u w)(y:l.length<=1000000000)(hb:b.length<=1000000000) :
 Calls prog 248 #[v,u] w λe w'=>∃v',e=.returned v'/\Own w' w.heap.size 5 v' (l++ij b)/\K w w':=by
 obtain⟨A,c,rfl,t⟩:=h
 obtain⟨D,d,rfl,j⟩:=k
 apply bN (OV A D _ c _ d l b w _ t j (aD _) y hb)
 rintro v' w'⟨B,hk⟩
 grind [sl,ij]
theorem XP w:sl [] (.slice none 0 0) w:=⟨none,0,rfl,Reads.nil _ _ _ _⟩
def pq(x:aL):List UInt8:=if bH x then ei x else []
theorem adw x(h:cE x):(lh x).length<=54:=by
 obtain⟨_,_,_,j,u,t,_⟩:=h
 grind [cS,aZ,gH,lh,dq]
def AJ(x:aL)(k:Nat):List UInt8:=lh x++az x.es.length++(x.es.take k).flatMap λe=>ij (jC e)
theorem ari(x:aL)(k:Nat)(h:k<x.es.length):AJ x (k+1)=AJ x k++ij (jC x.es[k]):=by unfold AJ;rw[gg h,List.flatMap_append,vC,List.flatMap_nil,List.append_nil];simp only[dQ]
theorem asU x k(j:cE x)(h8:x.es.length<=8)(u:∀e∈x.es,fN e=true):(AJ x k).length<=20000:=by
 have:=adw x j;have:=cS x.es.length af;have:=acL (x.es.take k) λe t=>⟨u e (nQ t),j.2.2.2.2.2.2.2 e (nQ t)⟩
 have:(x.es.take k).length<=8:=aB;unfold AJ;simp only[dq];omega
theorem Ud x v w(h:dx x v w)(hfit:cE x) :
 Calls prog 247 #[v] w λe w' =>
  ∃v',e=.returned (.tuple #[v',.int .i64 (qY x)])/\Own w' w.heap.size 5 v' (pq x)/\K w w':=by
 have Q:=ae λW h=>Kx x v W h
 have h':=h
 obtain⟨vf,Z,rfl,hf,he⟩:=h
 have I:=ah.new w 126 (aE x vf Z)
 have y:=I.aS
 have O:=ae (ayb h')
 have HF:=ae hfit
 have L:=ae (adw x hfit)
 obtain⟨hik,hib,hic,U,Y,hiu,Yd,akh⟩:=hfit
 cases hok:bH x
 ·have HE:=ae (Fy hok);have HR:Hid (pq x=[]):=ae (by simp[pq,hok]);have hne:(qY x != 0)=true:=iq;go_in;go_wp2_with fail
  generalize w.alloc _=w1 at *;refine (Q.aa _ (O.aa _ y)).mono ?_;rintro e w2⟨rfl,t⟩;go_wp2;go_ret2;exact⟨_,rfl,VS,y.tr t⟩
 have HE:=ae (KO hok)
 have HR:Hid (pq x=ei x):=ae (by simp[pq,hok])
 have hne:(qY x != 0)=false:=iq
 obtain⟨-,-,hkk⟩:=DI hok
 have HH:Hid (lh x=az (aZ x.kind)++fA (x.br,x.life,x.bY)++az (aZ x.cl)++az x.sub):=ae (by simp[lh,fA])
 have h8:x.kind=1->x.es.length<=8/\∀e∈x.es,fN e=true:=by
  grind
 have hf2:x.kind=2->okF x.f=true:=by
  grind
 have jE:x.kind=1∨x.kind=2∨x.kind=3:=af
 have H1:=ae λh=>VK (x:=x) h
 have H2:=ae λh=>VL (x:=x) h
 have H3:=ae λh1 h2=>afw (x:=x) h1 h2
 have HU:=ae (ari x)
 have HUL:=ae λk h=>asU x k HF.aa (h8 h).1 (h8 h).2
 have Bo:Hid (AJ x 0=lh x++az x.es.length):=ae (by simp[AJ])
 have HUE:Hid (AJ x x.es.length=lh x++az x.es.length++x.es.flatMap λe=>ij (jC e)):=ae (by simp[AJ])
 obtain⟨k,b,l,s,cl,u,f,es⟩:=x
 simp only at I y hf he hik hib hic U Y hiu Yd akh h8 hf2 jE HH H1 H2 H3 HU HUL Bo HUE hne HE HR Q O L⊢
 generalize lh ⟨k,b,l,s,cl,u,f,es⟩=hd at *
 generalize AJ ⟨k,b,l,s,cl,u,f,es⟩=up at *
 generalize pq ⟨k,b,l,s,cl,u,f,es⟩=R at *
 generalize ei ⟨k,b,l,s,cl,u,f,es⟩=E at *
 generalize qY ⟨k,b,l,s,cl,u,f,es⟩=C at *
 go_in
 go_wp2_with fail
 generalize w.alloc _=w1 at *
 generalize w.heap.size=g at I⊢
 have qx:=I.cells
 have s5:=eu _ _ _ _ hf y
 have Y6:=bj he y
 refine (Q.aa _ (O.aa _ y)).mono ?_
 rintro e w2⟨rfl,t⟩
 go_upto_region 4 with fail
 have Zd:=λW (kW:K w2 W)=>qx W (t.tr kW)
 have p0:=cS (aZ k) (gH k)
 have pi0:(fA (b,l,s)).length<=27:=by have g2:=cS (aZ b) (gH b);have g3:=cS l U;have g4:=cS s Y;simp only[fA,dq];omega
 have qs:=And.intro Zd (DQ k)
 refine dK 7 ?_
 iterate 3 refine ar.i ?_
 refine ar.c (sl (az (aZ k))) (nP _) (λW _=>(uP (aZ k) (XP W) (gH k) aj).mono λe w'' ⟨v',e1,M,hb⟩=>⟨v',e1,eK (aN (az _)▸M),hb⟩) ?_
 iterate 2 refine ar.i ?_
 refine ar.op (sl (az (aZ k)++fA (b,l,s))) (nP _) (λV W kW hp=>?_) ?_
 ·simp only[cz,aN,aQ,bV,bW,aJ]at hp;simp[bO,aF,List.lookup,hp,cU,execOp,aG,go_sem];refine (abE _ _ (b,l,s) W hp.1 af ⟨hib,U,Y⟩).mono ?_;rintro e w''⟨v',rfl,M,hb⟩;exact⟨v',rfl,eK M,hb⟩
 intro V w3 k3 hA
 simp only[aN,aQ,b6,aJ,Nat.reduceAdd]at hA
 refine aH.p (aH.h ?_)
 have h7:=hA.2.2.2.2.2.2.1
 generalize V 6=v3 at *
 replace t:=t.tr k3
 have pO:(az (aZ k)++fA (b,l,s)).length<=100:=aY
 generalize az (aZ k)++fA (b,l,s)=b3 at *
 go_wp2_with fail
 rw[DQ cl]
 refine (uP (aZ cl) h7 (gH cl) af).mono ?_
 rintro e w4⟨v4,rfl,fw,k4⟩
 have h4:=eK fw
 replace t:=t.tr k4
 have lE:(b3++az (aZ cl)).length<=110:=by have:=cS (aZ cl) (gH cl);simp;omega
 generalize b3++az (aZ cl)=b4 at *
 go_wp2_with fail
 refine (uP u h4 hiu af).mono ?_
 rintro e w5⟨v5,rfl,T,k5⟩
 rw[<- HH.aa]at T
 have h5:=eK T
 have hrow:=tH (base:=w.heap.size) (bo y.size t.size) T rfl
 replace t:=t.tr k5
 have EO:=y.tr t
 obtain rfl|rfl|rfl:=jE
 ·obtain⟨h8,hall⟩:=h8 rfl;obtain⟨D,d,rfl,hes,hd⟩:=Y6;have Bq:=L.aa;go_wp2_with fail
  refine (uP es.length h5 af af).mono ?_;rintro e w6⟨v6,rfl,B,H⟩;rw[<- Bo.aa]at B;have Q7:=tH (base:=w.heap.size) (bo y.size t.size) B rfl;replace t:=t.tr H;go_wp2_with fail
  go_loopw [5,7,8,9,46] (fun o _ _ _ i wr=>∃j:Nat,j<=es.length/\i=.int .i64 j/\Own wr w.heap.size 5 o (up j)/\K w1 wr) (fun _ _ _ _ i _=>es.length-(intOf i).toNat)
  case atStart=>exact⟨0,af,rfl,Q7,t⟩
  case round =>
   obtain⟨j,hj,rfl,hown,kr⟩:=hrel;by_cases F:j<es.length
   ·have aO:(j:Int)<es.length:=af;obtain⟨b1,off,cs,rfl,aR,hcl,⟨Z,rfl,iF⟩,hcell⟩:=IU hes j F ax;have d0:wr.cell? ⟨b1,off+j,none⟩=some Z:=VT;have Gl:=mY _ _ _ _ iF kr;have hs:=HU.aa j F;have S:=hall _ (bT F);have oW:=akh _ (bT F);have hl9:=HUL.aa j Lh;have hle:=Ve S oW;generalize es[j]=N at *;have hc1:jX N=0:=by simp[jX,S]
    have ik:Cs N=jC N:=by simp[Cs,S]
    have HS:=ae hs;go_wp2_with fail
    refine (arf Gl oW).mono ?_;rintro e w7⟨v7,rfl,A,G⟩;rw[ik]at A;have h7:=eK A;have h57:=nP _ _ _ _ (eK hown) G;have J:=kr.tr G;go_wp2_with fail
    refine (Py h57 h7 af af).mono ?_;rintro e w8⟨v8,rfl,Y9,k8⟩;rw[<- HS.aa]at Y9;have ayW:=tH (base:=w.heap.size) (bo y.size J.size) Y9 rfl;replace J:=J.tr k8;go_wp2;go_roundw
    case rel=>exact⟨j+1,af,bD,ayW,J⟩
    case measure=>simp[intOf];omega
   ·have aO:¬(j:Int)<es.length:=af;obtain rfl:j=es.length:=af;have hfin:Own wr w.heap.size 5 u5 R:=by rw[HR.aa,H1.aa Lh,<- dQ,<- HUE.aa];exact hown
    go_wp2;go_ret2;exact⟨_,iq,hfin,y.tr kr⟩
 ·have X:=hf2 rfl;have Bq:=L.aa;have hc1:nt f=0:=by simp[nt,X]
  have ik:Cn f=jt f:=by simp[Cn,X]
  have hlf:=adr X Yd;have HIF:=ae Yd;go_wp2_with fail
  refine (apW (eu _ _ _ _ s5 t) HIF.aa).mono ?_;rintro e w6⟨v6,rfl,B,H⟩;rw[ik]at B;have h6:=eK B;have h56:=nP _ _ _ _ h5 H;replace t:=t.tr H;go_wp2_with fail
  refine (Py h56 h6 af af).mono ?_;rintro e w7⟨v7,rfl,A,G⟩;rw[<- H2.aa Lh]at A;rw[<- HR.aa]at A;have ayX:=tH (base:=w.heap.size) (bo y.size t.size) A rfl;replace t:=t.tr G;go_wp2;go_ret2;exact⟨_,iq,ayX,y.tr t⟩
 ·have hfin:Own w5 w.heap.size 5 v5 R:=by rw[HR.aa,H3.aa ax ax];exact hrow
  go_wp2;go_ret2;simp_all
theorem ao5 A n c b w B(hR:Reads w B 1 A n (dN b))(hB:B<=w.heap.size)(hn:n<=1000000000) :
 Calls prog 273 #[.slice A n c] w λe w' =>
  ∃v',e=.returned (.tuple #[v',.int .i64 (yR b)])/\qj w' w.heap.size v' (yQ b)/\Below w.heap.size w w':=by
 have bS:b.length=n:=FI
 have hle:b.length<=1000000000:=af
 clear bS
 go_in
 go_wp2_with fail
 refine (KV A n c b w B hR hB hn).mono ?_
 rintro e C⟨g,rfl,hg,T,O⟩
 go_wp2_with fail
 refine (sM g b false C T).mono ?_
 rintro e w2⟨rfl,bG,dZ⟩
 have J:=T.lt
 have hz2:=dZ.size
 have dP:=O.trans (ku dZ hg O.size)
 have N:=nM b false
 have X8:=nK b false
 have F:Hid (sV b=if decide ((aw b false).1<=16)&&!(fV (aw b false).1 (aw b false).2.1 (aw b false).2.2).2.2&&(fV (aw b false).1 (aw b false).2.1 (aw b false).2.2).2.1.isEmpty&&fN (fV (aw b false).1 (aw b false).2.1 (aw b false).2.2).1 then some (fV (aw b false).1 (aw b false).2.1 (aw b false).2.2).1 else none):=ae rfl
 generalize aw b false=a at *
 obtain⟨m,l,bad⟩:=a
 simp only at bG N X8 F⊢
 clear T O hR
 by_cases jn:m<=16
 rotate_left
 ·have yP:(16:Int)<(m:Int):=af;have HE:Hid (yR b=40):=ae (by have:=F.aa;simp[jn]at this;simp[yR,this]);have HL:Hid (yQ b=[]):=ae (by have:=F.aa;simp[jn]at this;simp[yQ,this]);exact afm
 have yP:¬(16:Int)<(m:Int):=af
 go_wp2_with fail
 go_loopw [6,7,15] (fun v _ i j=>∃k:Nat,k<=m/\i=.int .u64 k/\qj j C.heap.size v (fV k l bad).1/\Rd j g (fV k l bad).2.1 (fV k l bad).2.2/\Below w.heap.size w j/\C.heap.size<=j.heap.size) (fun _ _ i _=>m-(intOf i).toNat)
 case atStart=>exact⟨0,af,rfl,jV _ _ _ _,bG,dP,hz2⟩
 case round =>
  obtain⟨k,hk,rfl,D,E,hb,hz⟩:=hrel;by_cases N:k<m
  ·have fe:(k:Int)<m:=af;have y:=Vd k l bad;have hfit:∀s,fV k l bad=s->fV (k+1) l bad=(s.1++[(s6 s.2.1 s.2.2).1],(s6 s.2.1 s.2.2).2):=λs e=>by subst e;rfl
   generalize hs:fV k l bad=s at *;have hfit:=hfit s rfl;obtain⟨u,t,j⟩:=s;simp only at D E y;obtain⟨azw,Ri⟩:=y;have HLK:=ae Ri;have azx:u.length<=16:=af;clear Ri;have U:=ae (OK g t j 16 wr E af af af);have kQ:=DU 16 t j;have L:Hid (fV (k+1) l bad=(u++[((⟨(aM 16 t j).1.toArray⟩,(fC (aM 16 t j).2.1 (aM 16 t j).2.2).1.1,(fC (aM 16 t j).2.1 (aM 16 t j).2.2).1.2.1,⟨(fC (aM 16 t j).2.1 (aM 16 t j).2.2).1.2.2.toArray⟩):cM)],(fC (aM 16 t j).2.1 (aM 16 t j).2.2).2)):=ae hfit;clear hfit hs;have fg:=PR (aM 16 t j).2.1 (aM 16 t j).2.2;have M:Hid (∀W,Rd W g (aM 16 t j).2.1 (aM 16 t j).2.2->Calls prog 308 #[.pointer (some ⟨g,0,none⟩)] W λe w'=>e=.returned (vd (fC (aM 16 t j).2.1 (aM 16 t j).2.2).1)/\nU g (fC (aM 16 t j).2.1 (aM 16 t j).2.2).2.1 (fC (aM 16 t j).2.1 (aM 16 t j).2.2).2.2 W w'):=ae λW hW=>abT g _ _ W hW af
   generalize aM 16 t j=sb at *;obtain⟨V,lb,wb⟩:=sb;simp only at U M L kQ fg;generalize fC lb wb=sv at *;obtain⟨⟨vk,vn,vt⟩,lv,wv⟩:=sv;simp only[vd]at M L fg;have sq:g<wr.heap.size:=af;go_wp2_with fail
   refine U.aa.mono ?_;rintro e w3⟨v3,rfl,fL,dU,G⟩;have hst:=str (eK fL);have iQ:=G.size;have Ef:=Lj D G J;have R:=hb.trans (ku G hg hb.size);clear D E G hb U;go_wp2_with fail
   refine (M.aa _ dU).mono ?_;rintro e Y⟨rfl,X,H⟩;have il:=H.size;have F9:=Lj Ef H J;have S:=R.trans (ku H hg R.size);clear Ef dU H R M hst fL;go_wp2_with (at_builtin;refine iM rfl _ _ 51 rfl C.heap.size 76 _ 4 48 TE _ _ _ rfl (p7 F9 _) (Y.heap.size+1) _ 1 1 (kJ (⟨V.toArray⟩,vk,vn,⟨vt.toArray⟩)) rfl ?c1 ?c2 ?c3 ?c5 ?_)
   case c1=>exact Reads.new Y (kJ (⟨V.toArray⟩,vk,vn,⟨vt.toArray⟩)) 76 4 1 rfl
   case c2=>exact aec _
   case c3=>omega
   case c5=>simp;omega
   intro v5 Q Mb qI aki I;have Q6:qj Q C.heap.size v5 (fV (k+1) l bad).1:=by
    rw[L.aa]
    unfold qj
    grind
   have iL:Rd Q g (fV (k+1) l bad).2.1 (fV (k+1) l bad).2.2:=by rw[L.aa];exact (X.ay (Below.alloc (cP _ _) (aD _) _)).below I J
   have azG:=(S.alloc S.size _).trans (I.mono af);have rH:C.heap.size<=Q.heap.size:=by have:=I.size;simp at this;omega
   clear Mb qI aki I X F9 S;go_wp2;go_roundw
   case rel=>exact⟨k+1,af,bD,Q6,iL,azG,rH⟩
   case measure=>simp[intOf];omega
  ·have fe:¬(k:Int)<m:=af;obtain rfl:k=m:=af;clear N hk;have y:=(Vd k l bad).2;generalize fV k l bad=s at *;obtain⟨u,t,j⟩:=s;simp only at D E F y;have HLK:=ae y;clear y;have Mc:∀x:Bool,x=(!j&&t.isEmpty&&fN u)->Hid (yR b=(if x then 0 else 40))/\Hid (yQ b=if x then u else []):=by
    intro x Z
    have h:=F.aa
    rw[show (decide (k<=16))=true by simp;omega]at h
    cases x with
    | true=>rw[Bool.true_and,<- Z]at h;exact⟨ae (by simp[yR,h]),ae (by simp[yQ,h])⟩
    | false=>rw[Bool.true_and,<- Z]at h;exact⟨ae (by simp[yR,h]),ae (by simp[yQ,h])⟩
   have RU:=ae Mc;clear Mc;go_wp2_with fail
   refine (KJ g _ _ wr E).mono ?_;rintro e w'⟨rfl,rfl⟩;cases hd:(!j&&t.isEmpty)
   ·exact afq
   ·obtain⟨A',c',rfl,hR',_,_⟩:=D.slice;have hrow:=mo (bo hg (Nat.le_of_lt J)) D;go_wp2_with fail
    refine (Uk A' c' u wr wr.heap.size hR' (aD _)).mono ?_;rintro e w6⟨rfl,jG⟩;have Ya:=hb.trans (jG.mono hb.size);have Q7:=pZ hrow jG;cases hok:fN u
    ·have hne:(jX u != 0)=true:=PZ;exact afr
    ·have hne:(jX u != 0)=false:=PZ;exact afs
section
variable {l la lb:List cM} {b:List UInt8} {v va vb:Value} {w:World}
theorem asV(h:sl b v w)(hn:b.length<=1000000000):Calls prog 273 #[v] w λe w' =>
 ∃v',e=.returned (.tuple #[v',.int .i64 (yR b)])/\qj w' w.heap.size v' (yQ b)/\Below w.heap.size w w':=by
 obtain⟨A,c,rfl,j⟩:=h
 exact ao5 A _ c b w _ j (aD _) hn
end
structure DS(w0:World)(t:TypeId)(z:Array Value)(r g h:Nat)(l:List UInt8)(wr:Bool)(cs:Array Value)(W:World):Prop where
 rd:Rd W g l wr
 x:ah W h t cs
 rv:ah W r t z
 k:K w0 W
 o:w0.heap.size<=r/\r<g/\g<h
section
variable {w0 W W':World} {t:TypeId} {z cs:Array Value} {r g h:Nat} {l l':List UInt8} {wr wr':Bool} {row:Option Nat}
theorem DS.went(D:DS w0 t z r g h l wr cs W)(H:nU g l' wr' W W'):DS w0 t z r g h l' wr' cs W':=by have o:=D.o;exact⟨H.1,D.x.went H af,D.rv.went H af,D.k.trans (ku H.2 af D.k.size),o⟩
theorem DS.set(D:DS w0 t z r g h l wr cs W) i u:DS w0 t z r g h l wr (cs.setIfInBounds i u) (W.setCell ⟨h,i,none⟩ u):=by have o:=D.o;exact⟨D.rd.set af i u,D.x.aP i u,D.rv.far aB u,D.k.setCell aB u,o⟩
theorem DS.gr(D:DS w0 t z r g h l wr cs W)(k:K W W'):DS w0 t z r g h l wr cs W' :=
 ⟨D.rd.ay k,D.x.ay k,D.rv.ay k,D.k.tr k,D.o⟩
theorem DS.mut(D:DS w0 t z r g h l wr cs W)(m:W.grownBy W' row)(u:∀b,row=some b->h<b):DS w0 t z r g h l wr cs W':=by have o:=D.o;have hb:Below (h+1) W W':=⟨m.os,m.tape,m.output,m.size,λi j=>m.block i (bw j D.x.lt) aB⟩;exact⟨D.rd.below hb af,D.x.below hb af,D.rv.below hb af,D.k.trans (hb.mono af),o⟩
theorem aK.went{lo}(H:nU g l' wr' W W')(hg:g<lo):aK lo none W W':=(aK.eP H.2 lo).more (aD _) (λk hk _=>aY)
theorem aK.set{lo b}(hb:b<lo) i u:aK lo none W (W.setCell ⟨b,i,none⟩ u) :=
 ⟨rfl,rfl,rfl,VO,λk hk _ _=>Below.heap_setCell W ⟨b,i,none⟩ u k aY⟩
end
theorem K.set{w0 W r}(h:K w0 W)(j:w0.heap.size<=r) i u:K w0 (W.setCell ⟨r,i,none⟩ u):=h.setCell j u
theorem K.sets{w0:World}{r:Nat}(j:w0.heap.size<=r):∀(us:List Value) (q:Nat) (W:World),K w0 W->K w0 (dY W r q us)
 | [],_,_,h=>h
 | u :: us,q,W,h=>K.sets j us _ _ (h.set j q u)
theorem aK.sets{lo b:Nat}(hb:b<lo):∀(us:List Value) (q:Nat) (W:World),aK lo none W (dY W b q us)
 | [],_,_=>aK.rf _ _ _
 | u :: us,q,W=>(aK.set hb q u).tr (aK.sets hb us _ _)
section
variable {w0 W:World} {t:TypeId} {z:Array Value} {r g h:Nat} {l:List UInt8} {wr:Bool}
theorem DS.sets:∀(q:Nat) (us:List Value) {W:World} {cs:Array Value},DS w0 t z r g h l wr cs W->DS w0 t z r g h l wr (oI cs.toList q us).toArray (dY W h q us)
 | q,[],W,cs,D=>by simpa [oI,dY]using D
 | q,u :: us,W,cs,D=>by have:=(D.set q u).sets (q+1) us;simpa [oI,dY,Array.toList_setIfInBounds]using this
theorem DS.put{cs}(D:DS w0 t z w0.heap.size g h l wr cs W) us(j:us.length=z.size):ah (dY W w0.heap.size 0 us) w0.heap.size t us.toArray/\K w0 (dY W w0.heap.size 0 us)/\aK (h+1) none W (dY W w0.heap.size 0 us) :=
 ⟨FO D.rv j,K.sets (aD _) _ _ _ D.k,aK.sets VU _ _ _⟩
end
theorem qj.rel{w B v l}(h:qj w B v l):∀w',aK B none w w'->cI.rel l [v] w':=by intro w' u;refine⟨v,rfl,afd (base:=B) ⟨h.1,h.2.imp id ?_⟩⟩;exact VM
theorem fQ.rel{w B v l}(h:fQ w B v l):∀w',aK B none w w'->eI l v w':=by intro w' u;refine xc (base:=B) ⟨h.1,h.2.imp id ?_⟩;exact VM
abbrev zEL:List Value:=[.int .i64 0,.int .i64 0,.int .u64 0,.int .u64 0,.int .i64 0,.int .u64 0,.slice none 0 0,.slice none 0 0]
abbrev eM:Array Value:=#[.int .i64 0,.int .i64 0,.int .u64 0,.int .u64 0,.int .i64 0,.int .u64 0,.slice none 0 0,.slice none 0 0]
theorem ayd:(prog.info? 51).map (λi=>(i.zero,i.size,i.bytes))=some (some (.slice none 0 0),1,24):=by rfl
theorem Jw:fS prog 37 51 (.slice none 0 0) 1 24:=⟨underlying37,ayd,rfl,ax⟩
theorem KX g l wr j w(h:Rd w g l wr)(A:l.length<=1000000000)(u:-9223372036854775808<=j)(B:j<=9223372036854775807) :
 Calls prog 210 #[.pointer (some ⟨g,0,none⟩),.int .i64 j] w λe w'=>∃v,e=.returned v/\sl (aM j l wr).1 v w'/\nU g (aM j l wr).2.1 (aM j l wr).2.2 w w' :=
 (OK g l wr j w h A u B).mono λ_ _ ⟨v,e,t,y⟩=>⟨v,e,eK t,y⟩
theorem asW{n l wr}(h:sV (aM n l wr).1=none):(lV n l wr).2.2=true:=by
 grind [lV]
theorem asX{n l wr e}(h:sV (aM n l wr).1=some e):lV n l wr=(e,(aM n l wr).2):=by
 grind [lV]
theorem asY{n l wr}(h:qV (aM n l wr).1=none):(qu n l wr).2.2=true:=by
 grind [qu]
theorem asZ{n l wr e}(h:qV (aM n l wr).1=some e):qu n l wr=(e,(aM n l wr).2):=by
 grind [qu]
theorem as0{b}(h:sV b=none):yR b=40/\yQ b=[]:=by simp[yR,yQ,h]
theorem as1{b l}(h:sV b=some l):yR b=0/\yQ b=l:=by simp[yR,yQ,h]
theorem arj{b}(h:qV b=none):vA b=50/\vu b=[]:=by simp[vA,vu,h]
theorem ark{b l}(h:qV b=some l):vA b=0/\vu b=l:=by simp[vA,vu,h]
theorem apX b k br t j cl u l wr(h:gK b false=((k,br,t,j,cl,u),l,wr)) :
 (min k 4=1->∀m y A,aw l wr=(m,y,A)->iA b=if !(dw (lV b.length) (min m 9) y A).2.2&&(dw (lV b.length) (min m 9) y A).2.1.isEmpty&&bH { oK (k,br,t,j,cl,u)with es:=(dw (lV b.length) (min m 9) y A).1 }then some { oK (k,br,t,j,cl,u)with es:=(dw (lV b.length) (min m 9) y A).1 }else none) /\
 (min k 4=2->iA b=if !(qu b.length l wr).2.2&&(qu b.length l wr).2.1.isEmpty&&bH { oK (k,br,t,j,cl,u)with f:=(qu b.length l wr).1 }then some { oK (k,br,t,j,cl,u)with f:=(qu b.length l wr).1 }else none) /\
 (min k 4≠1->min k 4≠2->iA b=if !wr&&l.isEmpty&&bH (oK (k,br,t,j,cl,u))then some (oK (k,br,t,j,cl,u))else none):=by
 refine⟨λB m y A hn=>?_,λC=>?_,λB C=>?_⟩
 ·unfold iA qv;rw[h];simp only[B,hn,if_true]
 ·unfold iA qv;rw[h];simp only[C,if_true,show ¬((2:Nat)=1) by decide,if_false]
 ·unfold iA qv;rw[h];simp only[B,C,if_false]
theorem O5{b}(h:iA b=none):yF b=110/\lP b=dC:=by simp[yF,lP,h]
theorem UE{b x}(h:iA b=some x):yF b=0/\lP b=x:=by simp[yF,lP,h]
theorem Ue b v w(h:sl b v w)(hn:b.length<=1000000000) :
 Calls prog 209 #[v] w λe w' =>
  ∃v',e=.returned (.tuple #[v',.int .i64 (yF b)])/\(∀W,aK w.heap.size none w' W->dx (lP b) v' W)/\K w w':=by
 obtain⟨A,c,rfl,hR⟩:=h
 have dH:=ah.new w 126 eM
 have k0:=dH.aS
 have Br:=(hR.below k0 (aD _)).more k0.size
 obtain⟨k,l1,e1,pR⟩:∃k l1 e1,aw b false=(k,l1,e1):=⟨_,_,_,rfl⟩
 obtain⟨br,l2,e2,sy⟩:∃k l2 e2,aw l1 e1=(k,l2,e2):=⟨_,_,_,rfl⟩
 obtain⟨t,l3,e3,R6⟩:∃k l3 e3,aw l2 e2=(k,l3,e3):=⟨_,_,_,rfl⟩
 obtain⟨y,l4,e4,R7⟩:∃k l4 e4,aw l3 e3=(k,l4,e4):=⟨_,_,_,rfl⟩
 obtain⟨cl,l5,e5,R8⟩:∃k l5 e5,aw l4 e4=(k,l5,e5):=⟨_,_,_,rfl⟩
 obtain⟨E,C,F,MY⟩:∃k C F,aw l5 e5=(k,C,F):=⟨_,_,_,rfl⟩
 have Z:=apX b k br t y cl E C F (by simp only[gK,pR,sy,R6,R7,R8,MY])
 have hl6:C.length<=b.length:=by have g1:=nK b false;have g2:=nK l1 e1;have g3:=nK l2 e2;have g4:=nK l3 e3;have g5:=nK l4 e4;have g6:=nK l5 e5;rw[pR]at g1;rw[sy]at g2;rw[R6]at g3;rw[R7]at g4;rw[R8]at g5;rw[MY]at g6;simp only at g1 g2 g3 g4 g5 g6;omega
 have C1:=λg W h=>KD g b false 4 W h af
 have C2:=λg W h=>abU g l1 e1 W h
 have C3:=λg W h=>KD g l4 e4 32 W h af
 have C4:=λg W h=>sM g l5 e5 W h
 simp only[Cu,pR,sy,R6,R7,R8,MY]at C1 C2 C3 C4
 clear pR sy R6 R7 R8 MY
 replace Z:=ae Z
 replace C1:=ae C1
 replace C2:=ae C2
 replace C3:=ae C3
 replace C4:=ae C4
 have Ze:min k 4<=4:=af
 generalize hkk:min k 4=L at *
 generalize oT:min br 16=G at *
 generalize zq:min cl 32=cc at *
 have HX:Hid (oK (k,br,t,y,cl,E)=⟨L,G,t,y,cc,E,[],[]⟩):=ae (by simp only[oK,hkk,oT,zq])
 clear hkk oT zq
 generalize oK (k,br,t,y,cl,E)=X0 at *
 go_in
 go_wp2_with fail
 generalize w.alloc _=w1 at *
 refine (KV A _ c b w1 _ Br (aD _) hn).mono ?_
 rintro e w2⟨g,rfl,hg,lD,k2⟩
 have bG:=dH.ay k2
 have hrg:=bw dH.lt hg
 replace k0:=k0.tr k2
 clear hR Br hg k2 dH
 go_wp2_with fail
 refine (C1.aa g w2 lD).mono ?_
 rintro e w3⟨rfl,hw3⟩
 have dU:=bG.went hw3 af
 have k3:K w w3:=k0.trans (ku hw3.2 af k0.size)
 have xH:=hw3.1
 have Mm:=xH.lt
 clear lD bG hw3 k0
 go_wp2_with fail
 have D:DS w 126 eM w.heap.size g w3.heap.size l1 e1 #[.int .i64 L,.int .i64 0,.int .u64 0,.int .u64 0,.int .i64 0,.int .u64 0,.slice none 0 0,.slice none 0 0]
  (w3.alloc (.cells #[.int .i64 L,.int .i64 0,.int .u64 0,.int .u64 0,.int .i64 0,.int .u64 0,.slice none 0 0,.slice none 0 0] 126)) :=
  ⟨xH.al _,ah.new _ _ _,dU.alloc _,k3.al _,aD _,hrg,Mm⟩
 clear xH dU k3 Mm hrg
 generalize w3.alloc _=w4 at *
 generalize w3.heap.size=h at *
 refine (C2.aa g w4 D.rd).mono ?_
 rintro e w5⟨rfl,MZ⟩
 replace D:=D.went MZ
 clear MZ
 have q:=D.x.cell
 have z:=D.x.frozen
 go_upto_region 4 with fail
 replace D:DS w 126 eM w.heap.size g h l4 e4 #[.int .i64 L,.int .i64 G,.int .u64 t,.int .u64 y,.int .i64 0,.int .u64 0,.slice none 0 0,.slice none 0 0] (((w5.setCell ⟨h,1,none⟩ (.int .i64 G)).setCell ⟨h,2,none⟩ (.int .u64 t)).setCell ⟨h,3,none⟩ (.int .u64 y)):=((((((D).set 1 (.int .i64 G))).set 2 (.int .u64 t))).set 3 (.int .u64 y))
 clear q z
 generalize (((w5.setCell _ _).setCell _ _).setCell _ _)=w6 at *
 go_wp2_with fail
 refine (C3.aa g w6 D.rd).mono ?_
 rintro e w7⟨rfl,hw7⟩
 replace D:=D.went hw7
 clear hw7
 have q:=D.x.cell
 have z:=D.x.frozen
 go_upto_region 5 with fail
 replace D:DS w 126 eM w.heap.size g h l5 e5 #[.int .i64 L,.int .i64 G,.int .u64 t,.int .u64 y,.int .i64 cc,.int .u64 0,.slice none 0 0,.slice none 0 0] (w7.setCell ⟨h,4,none⟩ (.int .i64 cc)):=((D).set 4 (.int .i64 cc))
 clear q z
 generalize w7.setCell _ _=w8 at *
 go_wp2_with fail
 refine (C4.aa g w8 D.rd).mono ?_
 rintro e w9⟨rfl,hw9⟩
 replace D:=D.went hw9
 clear hw9
 have q:=D.x.cell
 have z:=D.x.frozen
 go_upto_region 6 with fail
 replace D:DS w 126 eM w.heap.size g h C F #[.int .i64 L,.int .i64 G,.int .u64 t,.int .u64 y,.int .i64 cc,.int .u64 E,.slice none 0 0,.slice none 0 0] (w9.setCell ⟨h,5,none⟩ (.int .u64 E)):=((D).set 5 (.int .u64 E))
 clear q z C1 C2 C3 C4
 generalize w9.setCell _ _=wa at *
 have RT:=D.o
 have HM:=ae (λ(l:List UInt8) wr=>Ip (b.length:Int) l wr)
 have Mn:((b.length:Nat):Int)<=9223372036854775807:=af
 have q:=D.x.cell
 go_upto_block 0 with fail
 go_cut [6,7,8,9]from 26 to 64 (fun _ _ _ _ W=>∃(X:aL) (l:List UInt8) (e:Bool) (vf ve:Value),DS w 126 eM w.heap.size g h l e (aE X vf ve) W /\
  (∀W',aK (h+1) none W W'->eI X.f vf W')/\(∀W',aK (h+1) none W W'->aq cI X.es ve W')/\Hid (iA b=if !e&&l.isEmpty&&bH X then some X else none))
 case first =>
  by_cases gL:L=1
  ·subst gL;replace D:DS w 126 eM w.heap.size g h C F #[.int .i64 (1:Int),.int .i64 G,.int .u64 t,.int .u64 y,.int .i64 cc,.int .u64 E,.slice none 0 0,.slice none 0 0] wa:=D;obtain⟨m,l7,e7,R9⟩:∃k la ea,aw C F=(k,la,ea):=⟨_,_,_,rfl⟩;rw[show ((1:Nat):Int)=1 from rfl]at HX;have S:=ae (Z.aa.1 rfl m l7 e7 R9);rw[HX.aa]at S;have M0:l7.length<=b.length:=by have:=nK C F;rw[R9]at this;simp only at this;omega
   have C7:=λg W h=>KD g C F 9 W h af
   simp only[R9]at C7;clear R9 Z HX;have hm9:min m 9<=9:=af;generalize min m 9=M at *;go_wp2_with fail
   clear q;refine (C7 g wa D.rd).mono ?_;rintro e wb⟨rfl,M3⟩;replace D:=D.went M3;clear M3 C7;have HQ:=ae (λk l wr=>Ll (KM (b.length:Int)) k l wr);have akj:=ae (λk (hk:k<=M) (hb:(dw (lV (b.length:Int)) k l7 e7).2.2=true)=>show yF b=110/\lP b=dC from O5 (by
    have:=VE (KM (b.length:Int)) hb (M-k);rw[show k+(M-k)=M by omega]at this;rw[S.aa,this];rfl))
   go_wp2_with fail
   go_loopw [6,7,30] (fun _ _ i W=>∃j:Nat,j<=M/\i=.int .i64 j/\∃es ve J I,Hid (dw (lV (b.length:Int)) j l7 e7=(es,J,I)) /\
    DS w 126 eM w.heap.size g h J I #[.int .i64 (1:Int),.int .i64 G,.int .u64 t,.int .u64 y,.int .i64 cc,.int .u64 E,.slice none 0 0,ve] W /\
    aV (h+1) (h+1) 51 cI es ve W) (λ_ _ i _=>M-(intOf i).toNat)
   case atStart=>exact⟨0,af,rfl,[],_,l7,e7,ae rfl,D,aV.nil _ _ _ _ _⟩
   case round =>
    clear D;obtain⟨j,hj,rfl,es,ve,J,I,HJ,D,R⟩:=hrel;have Zf:=HQ.aa j l7 e7;rw[HJ.aa]at Zf;simp only at Zf;obtain⟨aFq,azH⟩:=Zf;have aFr:es.length<=9:=af;clear azH;by_cases hlt:j<M
    ·have aO:(j:Int)<M:=af;go_wp2_with fail
     refine (KX g J I (b.length:Int) wr D.rd af af Mn).mono ?_;rintro e wc⟨vb,rfl,oo,hwc⟩;replace D:=D.went hwc;replace R:=R.up (aD _) (aK.went hwc VU);have hlb:=HM.aa J I;have azI:=DU (b.length:Int) J I;have xI:=ae (@asW (b.length:Int) J I);have wi:=ae (λe h=>@asX (b.length:Int) J I e h);have Bs:Hid (dw (lV (b.length:Int)) (j+1) l7 e7=(es++[(lV (b.length:Int) J I).1],(lV (b.length:Int) J I).2)):=ae (by
      have:=HJ.aa;rw[dw,this])
     clear hwc;generalize aM (b.length:Int) J I=B at *;obtain⟨bs,lk,ek⟩:=B;simp only at oo D R hlb azI xI wi;go_wp2_with fail
     refine (asV oo af).mono ?_;rintro e V⟨v9,rfl,Q,k9⟩;have td:=D.x.lt;have mN:=R.blk;replace D:=D.gr k9;replace R:=R.st k9;clear oo;cases kT:sV bs with
     | none => have H:=as0 kT;have HN:=ae (akj.aa (j+1) af (by rw[Bs.aa];exact xI.aa kT));rw[H.1];clear kT H Q;exact P5
     | some ev =>
      have H:=as1 kT;rw[H.1];rw[H.2]at Q;have EP:Hid (dw (lV (b.length:Int)) (j+1) l7 e7=(es++[ev],lk,ek)):=ae (by rw[Bs.aa,wi.aa _ kT]);clear kT H Bs xI wi HJ;have Sa:=ae Q.rel;obtain⟨O,N,rfl⟩:=wY (afd Q);clear Q;obtain⟨css,hown,hcl,mO⟩:=R;have q:=D.x.cell;have kA:=K.new V (.cells #[.slice O ev.length N] 51);have hbase:h+1<=(V.alloc (.cells #[.slice O ev.length N] 51)).heap.size:=by have:=kA.size;have:=D.x.lt;omega
      go_wp2_with (at_builtin;refine iM rfl _ _ 37 rfl (h+1) 51 _ 1 24 Jw _ _ _ rfl (p7 hown _) (V.heap.size+1) _ 1 1 [.slice O ev.length N] rfl ?c1 ?c2 ?c3 hbase ?_)
      case c1=>exact Reads.new V [.slice O ev.length N] 51 1 1 rfl
      case c2=>intro u hu;simp at hu;subst hu;rfl
      case c3=>omega
      intro v9 w9 gJ cd eS _;have DA:=D.gr kA;replace DA:=DA.mut cd (λb0 hb0=>(mN b0 hb0).1);have bE:=aV.snoc hcl (λw' u=>mO w' (aK.tr (aK.aU kA _ _) u)) gJ cd tO
       (λw' u=>Sa.aa w' ((aK.tr (aK.aU kA _ _) u).more af (λk hk _ e=>by have:=(mN k e.symm).2;omega)))
      clear gJ cd eS hown mO D q;obtain⟨Jy,Jz,rfl,-⟩:=bE.slice;have q:=DA.x.cell;have z:=DA.x.frozen;go_upto_region 14 with fail;have hsz:(es++[ev]).length=es.length+1:=aj;rw[hsz]at bE;clear hsz q z;replace DA:DS w 126 eM w.heap.size g h lk ek #[.int .i64 (1:Int),.int .i64 G,.int .u64 t,.int .u64 y,.int .i64 cc,.int .u64 E,.slice none 0 0,.slice Jy (es.length+1) Jz] (w9.setCell ⟨h,7,none⟩ (.slice Jy (es.length+1) Jz)):=DA.set 7 (.slice Jy (es.length+1) Jz);replace bE:=bE.up (w':=w9.setCell ⟨h,7,none⟩ (.slice Jy (es.length+1) Jz)) (aD _) (aK.set af 7 _);generalize w9.setCell _ _=wt at *;go_wp2;go_roundw
      case rel=>exact⟨j+1,af,bD,es++[ev],_,lk,ek,EP,DA,bE⟩
      case measure=>simp[intOf];omega
    ·have aO:¬(j:Int)<M:=af;obtain rfl:j=M:=af;have HD:=S.aa;rw[HJ.aa]at HD;simp only at HD;replace HD:=ae HD;obtain⟨Jy,Jz,rfl,-⟩:=R.slice;have Y:∀W',aK (h+1) none wr W'->eI [] (.slice none 0 0) W':=λ_ _=>⟨none,0,rfl,Reads.nil _ _ _ _⟩
     have T:∀W',aK (h+1) none wr W'->aq cI es (.slice Jy es.length Jz) W':=λW' u=>(R.up (aD _) u).aq
     clear akj S HJ HQ R;go_wp2;go_meet
     case rel=>exact⟨⟨1,G,t,y,cc,E,[],es⟩,J,I,_,_,D,Y,T,HD⟩
  by_cases hk2:L=2
  ·subst hk2;replace D:DS w 126 eM w.heap.size g h C F #[.int .i64 (2:Int),.int .i64 G,.int .u64 t,.int .u64 y,.int .i64 cc,.int .u64 E,.slice none 0 0,.slice none 0 0] wa:=D;rw[show ((2:Nat):Int)=2 from rfl]at HX;have S:=ae (Z.aa.2.1 rfl);rw[HX.aa]at S;clear Z HX;go_wp2_with fail
   clear q;refine (KX g C F (b.length:Int) wa D.rd af af Mn).mono ?_;rintro e wc⟨vb,rfl,oo,hwc⟩;replace D:=D.went hwc;have hlb:=HM.aa C F;have xI:=ae (@asY (b.length:Int) C F);have wi:=ae (λe h=>@asZ (b.length:Int) C F e h);clear hwc;generalize aM (b.length:Int) C F=B at *;obtain⟨bs,lk,ek⟩:=B;simp only at oo D hlb xI wi;have td:=D.x.lt;go_wp2_with fail
   refine (aq9 oo af).mono ?_;rintro e V⟨v9,rfl,Q,k9⟩;replace D:=D.gr k9;clear oo;cases kT:qV bs with
   | none => have H:=arj kT;have HN:=ae (show yF b=110/\lP b=dC from O5 (by rw[S.aa,xI.aa kT];rfl));rw[H.1];clear kT H Q;exact P5
   | some fl =>
    have H:=ark kT;rw[H.1];rw[H.2]at Q;have HD:=S.aa;rw[wi.aa _ kT]at HD;simp only at HD;replace HD:=ae HD;clear kT H xI wi S;have HFl:=ae Q.rel;obtain⟨O,N,rfl⟩:=b5 (xc Q);clear Q;have q:=D.x.cell;have z:=D.x.frozen;go_upto_region 20 with fail;replace D:DS w 126 eM w.heap.size g h lk ek #[.int .i64 (2:Int),.int .i64 G,.int .u64 t,.int .u64 y,.int .i64 cc,.int .u64 E,.slice O fl.length N,.slice none 0 0] (V.setCell ⟨h,6,none⟩ (.slice O fl.length N)):=((D).set 6 (.slice O fl.length N));have Y:∀W',aK (h+1) none (V.setCell ⟨h,6,none⟩ (.slice O fl.length N)) W'->eI fl (.slice O fl.length N) W':=λW' u =>
     HFl.aa W' ((aK.tr (aK.set af 6 _) u).more af (λ_ _ _=>aj))
    have T:∀W',aK (h+1) none (V.setCell ⟨h,6,none⟩ (.slice O fl.length N)) W'->aq cI [] (.slice none 0 0) W':=λ_ _=>gy cI _
    clear HFl q z;generalize V.setCell _ _=wt at *;go_wp2;go_meet
    case rel=>exact⟨⟨2,G,t,y,cc,E,fl,[]⟩,lk,ek,_,_,D,Y,T,HD⟩
  have HD:=ae (Z.aa.2.2 gL hk2);rw[HX.aa]at HD;clear Z;have Y:∀W',aK (h+1) none wa W'->eI [] (.slice none 0 0) W':=λ_ _=>⟨none,0,rfl,Reads.nil _ _ _ _⟩
  have T:∀W',aK (h+1) none wa W'->aq cI [] (.slice none 0 0) W':=λ_ _=>gy cI _
  have g1:((L:Int)==1)=false:=aY;have g2:((L:Int)==2)=false:=aY;go_wp2;go_meet
  case rel=>exact⟨⟨L,G,t,y,cc,E,[],[]⟩,C,F,_,_,D,Y,T,HD⟩
 case rest =>
 clear D q
 obtain⟨X,l,e,vf,ve,D,Y,T,HD⟩:=hcut
 obtain⟨A6,c6,rfl⟩:=b5 (Y _ (aK.rf _ _ _))
 obtain⟨A7,c7,rfl⟩:=av (T _ (aK.rf _ _ _))
 have U:=aK.rf (h+1) none wc
 have Bt:Hid ((∀W',aK (h+1) none wc W'->eI X.f (.slice A6 X.f.length c6) W')/\∀W',aK (h+1) none wc W'->aq cI X.es (.slice A7 X.es.length c7) W'):=ae ⟨Y,T⟩
 clear Y T
 go_wp2_with fail
 refine (KJ g _ _ _ D.rd).mono ?_
 rintro e w'⟨rfl,rfl⟩
 have HB:Hid ((!e&&l.isEmpty&&bH X)=false->yF b=110/\lP b=dC):=ae λh=>O5 P6
 have HG:Hid ((!e&&l.isEmpty&&bH X)=true->yF b=0/\lP b=X):=ae λh=>UE P6
 clear HD
 cases hd:(!e&&l.isEmpty)
 ·have HN:=ae (HB.aa VV);exact P5
 have q:=D.x.cell
 go_wp2_with fail
 refine (Kx X _ _ ⟨_,_,rfl,Bt.aa.1 _ U,Bt.aa.2 _ U⟩).mono ?_
 rintro e wz⟨rfl,kz⟩
 replace D:=D.gr kz
 replace U:=U.tr (aK.aU kz _ _)
 cases hok:bH X
 ·have HN:=ae (HB.aa IA);have hne:(qY X != 0)=true:=by rw[Fy hok];rfl
  clear q;exact P5
 have HN:=ae (HG.aa IA)
 have hne:(qY X != 0)=false:=by rw[KO hok];rfl
 clear q
 have q:=D.rv.cell
 have z:=D.rv.frozen
 have q2:=D.x.cell
 go_wp2
 have P9:=D.put [.int .i64 X.kind,.int .i64 X.br,.int .u64 X.life,.int .u64 X.bY,.int .i64 X.cl,.int .u64 X.sub,.slice A6 X.f.length c6,.slice A7 X.es.length c7] rfl
 simp only[dY,Nat.reduceAdd,mz]at P9
 clear q q2 z
 generalize World.setCell _ _ _=W9 at *
 have e9:=P9.1.cell
 have U9:=U.tr P9.2.2
 refine bodyPost_ret (v:=.tuple #[.agg (aE X (.slice A6 X.f.length c6) (.slice A7 X.es.length c7)),.int .i64 0]) afV rfl ?_
 exact⟨_,P7,afW,P9.2.1⟩
def tR(x:Rec):Int:=if dL x then 0 else 110
def zY(x:Rec):List UInt8:=if dL x then bJ x else []
theorem adx{x}(h:x.kind=2∨x.kind=3):bJ x=az (aZ x.kind)++az x.n++ij (ei x.e):=by grind [bJ]
theorem as2{x}(h:x.kind=4∨x.kind=5):bJ x=az (aZ x.kind)++az x.n++fA (x.br,x.life,x.bY):=by
 grind [bJ,az,aZ,fA]
theorem au4{x}(h:x.kind=1):bJ x=az (aZ x.kind)++az x.n:=by grind [bJ,az,aZ]
def owA(l:List UInt8)(v:Value)(w:World):Prop:=∃B,Own w B 5 v l
theorem aye{l v w}(h:owA l v w):sl l v w:=eK h.choose_spec
def M4(lo:Nat)(l:List UInt8)(v:Value)(w:World):Prop:=Own w lo 5 v l
theorem ayf lo l:∀v w w',M4 lo l v w->Below w.heap.size w w'->M4 lo l v w':=λ_ _ _ h k=>pZ h k
theorem Vg x v w(h:pQ x v w)(hfit:jA x) :
 Calls prog 213 #[v] w λe w' =>
  ∃v',e=.returned (.tuple #[v',.int .i64 (tR x)])/\Own w' w.heap.size 5 v' (zY x)/\K w w':=by
 have B:=ae λW h=>adu x v W h
 have h':=h
 obtain⟨vf,N,rfl,hf,he⟩:=h
 have D:=ah.new w 197 (eY x vf N)
 have u:=D.aS
 have M:=ae (ayc h')
 obtain⟨hik,J,O,hib,X,Dd⟩:=hfit
 cases hok:dL x
 ·have HE:Hid (tR x=110):=ae VW;have HR:Hid (zY x=[]):=ae VX;rw[hok]at B;go_in;go_wp2_with fail
  generalize w.alloc _=w1 at *;refine (B.aa _ (M.aa _ u)).mono ?_;rintro e w2⟨rfl,t⟩;go_wp2;go_ret2;exact⟨_,iq,VS,u.tr t⟩
 have HE:Hid (tR x=0):=ae VW
 have HR:Hid (zY x=bJ x):=ae VX
 have hkk:=BW hok
 rw[hok]at B
 have H1:=ae λh=>au4 (x:=x) h
 have H2:=ae λh=>adx (x:=x) h
 have H4:=ae λh=>as2 (x:=x) h
 obtain⟨k,n,x,b,l,s⟩:=x
 simp only at D u hf he hik J O hib X Dd hkk HE HR B M H1 H2 H4⊢
 generalize zY ⟨k,n,x,b,l,s⟩=R at *
 generalize bJ ⟨k,n,x,b,l,s⟩=E at *
 generalize tR ⟨k,n,x,b,l,s⟩=C at *
 have EK:∀W,K w W->dx x (.agg (aE x vf N)) W:=λW k=>⟨vf,N,rfl,eu _ _ _ _ hf k,bj he k⟩
 have Zg:k=1∨(k=2∨k=3)∨k=4∨k=5:=af
 have Bu:k=2∨k=3->bH x=true:=by
  grind
 go_in
 go_wp2_with fail
 generalize w.alloc _=w1 at *
 have Z:=u.size
 obtain⟨lo,y⟩:∃lo,Hid (lo=w.heap.size):=⟨_,ae rfl⟩
 rw[<- y.aa]at Z
 have HG:Hid (∀W,K w W->lo<=W.heap.size):=ae λW k=>by rw[y.aa];exact k.size
 generalize w.heap.size=g at D⊢
 have qx:=D.cells
 refine (B.aa _ (M.aa _ u)).mono ?_
 rintro e w2⟨rfl,t⟩
 go_upto_region 3 with fail
 have Zd:=λW (kW:K w2 W)=>qx W (t.tr kW)
 have hz2:=bo Z t.size
 have:=cS (aZ k) (gH k)
 have p1:=cS n J
 have qs:=And.intro Zd (DQ k)
 refine dK 7 ?_
 iterate 3 refine ar.i ?_
 refine ar.c (sl (az (aZ k))) (nP _) (λW _=>(uP (aZ k) (XP W) (gH k) aj).mono λe w'' ⟨v',Q,I,hb⟩=>⟨v',Q,eK (aN (az _)▸I),hb⟩) ?_
 iterate 2 refine ar.i ?_
 refine ar.op (M4 lo (az (aZ k)++az n)) (ayf _ _) (λV W kW hp=>?_) ?_
 ·simp only[cz,aN,aQ,bV,bW,aJ]at hp;simp[bO,aF,List.lookup,hp,cU,execOp,aG,go_sem];exact (uP n hp.1 J af).mono λe w'' ⟨v',Q,I,hb⟩=>⟨v',Q,mo (bo hz2 kW.size) I,hb⟩
 intro V w3 k3 hA
 simp only[aN,aQ,b6,aJ,Nat.reduceAdd]at hA
 refine aH.p (aH.h ?_)
 have h7:=hA.2.2.2.2.2.2.1
 generalize V 6=v3 at *
 have h7o:=ae h7
 replace h7:=eK h7
 have:(az (aZ k)++az n).length<=100:=aY
 have j:=u.tr (t.tr k3)
 replace t:=t.tr k3
 generalize az (aZ k)++az n=b3 at *
 obtain gL|L|akk:=Zg
 ·subst gL;have G:=h7o.aa;rw[<- H1.aa rfl,<- HR.aa]at G;have G:=ae G;go_wp2;go_ret2;exact⟨_,iq,by rw[<- y.aa];exact G.aa,j⟩
 ·have H:=Bu L;have T:=ae (HR.aa.trans (H2.aa L));have:=KO H;have ik:pq x=ei x:=by simp[pq,H]
  have:=KW H O;go_upto_region 5 with fail;rcases L with rfl|rfl;all_goals
   go_wp2_with fail
   refine (Ud x _ _ (EK _ j) O).mono ?_
   rintro e w4⟨Y,rfl,A,F⟩
   rw[ik]at A
   have U:=eK A
   have h74:=nP _ _ _ _ h7 F
   replace j:=j.tr F
   go_wp2_with fail
   refine (Py h74 U af af).mono ?_
   rintro e w5⟨v5,rfl,qK,k5⟩
   have S:=j
   rw[<- T.aa]at qK
   have h5:=ae (show M4 lo R v5 w5 from mo (HG.aa _ S) qK)
   replace j:=j.tr k5
   go_wp2
   go_ret2
   exact⟨_,iq,by rw[<- y.aa];exact h5.aa,j⟩
 ·have T:=ae (HR.aa.trans (H4.aa akk));go_upto_region 5 with fail;rcases akk with rfl|rfl;all_goals
   go_wp2_with fail
   refine (abE _ _ (b,l,s) _ h7 af ⟨hib,X,Dd⟩).mono ?_
   rintro e w4⟨Y,rfl,A,F⟩
   have S:=j
   rw[<- T.aa]at A
   have U:=ae (show M4 lo R Y w4 from mo (HG.aa _ S) A)
   replace j:=j.tr F
   go_wp2
   go_ret2
   exact⟨_,iq,by rw[<- y.aa];exact U.aa,j⟩
theorem au5 x v w(h:pQ x v w)(hfit:jA x) :
 Calls prog 213 #[v] w λe w' =>
  ∃v',e=.returned (.tuple #[v',.int .i64 (tR x)])/\owA (zY x) v' w'/\K w w' :=
 (Vg x v w h hfit).mono λe w' ⟨v',j,h,k⟩=>⟨v',j,⟨_,h⟩,k⟩
theorem arl x v w(h:pQ x v w)(hfit:jA x) :
 Calls prog 213 #[v] w λe w' =>
  ∃v',e=.returned (.tuple #[v',.int .i64 (tR x)])/\sl (zY x) v' w'/\K w w':=by
 refine (au5 x v w h hfit).mono ?_
 rintro e w'⟨v',rfl,h,k⟩
 grind [aye]
abbrev rz:Array Value:=#[.int .i64 0,.int .u64 0,.int .i64 0,.int .i64 0,.int .u64 0,.int .u64 0,.int .i64 0,.int .u64 0,.slice none 0 0,.slice none 0 0,.int .i64 0,.int .u64 0,.int .u64 0]
abbrev zRL:List Value:=[.int .i64 0,.int .u64 0,.int .i64 0,.int .i64 0,.int .u64 0,.int .u64 0,.int .i64 0,.int .u64 0,.slice none 0 0,.slice none 0 0,.int .i64 0,.int .u64 0,.int .u64 0]
theorem au6 w:pQ I6 (.agg rz) w:=⟨_,_,rfl,⟨none,0,rfl,Reads.nil _ _ _ _⟩,gy _ _⟩
theorem ace{b}(h:mZ b=none):tN b=110/\tM b=I6:=by simp[tN,tM,h]
theorem Us{b x}(h:mZ b=some x):tN b=0/\tM b=x:=by simp[tN,tM,h]
theorem ao6 b k n I B J u(G:aw b false=(k,I,J))(H:aw I J=(n,B,u)) j(hk:min k 6=j) :
 ((j=2∨j=3)->∀bs C E,aM b.length B u=(bs,C,E)->(iA bs=none->mZ b=none)/\∀e,iA bs=some e->mZ b=if !E&&C.isEmpty&&dL ⟨j,n,e,0,0,0⟩then some ⟨j,n,e,0,0,0⟩else none) /\
 ((j=4∨j=5)->∀br A t F D,Cu B u=((br,A,t),F,D)->mZ b=if !D&&F.isEmpty&&dL ⟨j,n,dC,br,A,t⟩then some ⟨j,n,dC,br,A,t⟩else none) /\
 (¬(j=2∨j=3)->¬(j=4∨j=5)->mZ b=if !u&&B.isEmpty&&dL ⟨j,n,dC,0,0,0⟩then some ⟨j,n,dC,0,0,0⟩else none):=by
 subst hk
 refine⟨λh bs C E M=>⟨λhn=>?_,λe N=>?_⟩,λh br A t F D y=>?_,λh L=>?_⟩
 ·grind [aw,aM,iA,mZ,dL,Cu,dC,ng]
 ·grind [mZ,ng]
 ·have hn:¬(min k 6=2∨min k 6=3):=af;simp only[Cu,Prod.mk.injEq]at y;obtain⟨⟨rfl,rfl,rfl⟩,y⟩:=y;unfold mZ ng;simp only[G,H,hn,if_false,h,if_true,y]
 ·unfold mZ ng;simp only[G,H,h,L,if_false]
theorem ao7 b v w(h:sl b v w)(hn:b.length<=1000000000) :
 Calls prog 119 #[v] w λe w' =>
  ∃v',e=.returned (.tuple #[v',.int .i64 (tN b)])/\(∀W,aK w.heap.size none w' W->pQ (tM b) v' W)/\K w w':=by
 obtain⟨A,c,rfl,hR⟩:=h
 have dH:=ah.new w 197 rz
 have k0:=dH.aS
 have Br:=(hR.below k0 (aD _)).more k0.size
 obtain⟨k,l1,e1,pR⟩:∃k l1 e1,aw b false=(k,l1,e1):=⟨_,_,_,rfl⟩
 obtain⟨n,C,E,sy⟩:∃k C E,aw l1 e1=(k,C,E):=⟨_,_,_,rfl⟩
 have:min k 6<=6:=af
 have C1:=λg W h=>KD g b false 6 W h af
 have C2:=λg W h=>sM g l1 e1 W h
 have F:=ao6 b k n l1 C e1 E pR sy
 have:C.length<=b.length:=by have g1:=nK b false;have g2:=nK l1 e1;rw[pR]at g1;rw[sy]at g2;simp only at g1 g2;omega
 simp only[pR,sy]at C1 C2
 clear pR sy
 generalize hkk:min k 6=L at *
 replace F:=ae (F L rfl)
 replace C1:=ae C1
 replace C2:=ae C2
 clear hkk
 go_in
 go_wp2_with fail
 generalize w.alloc _=w1 at *
 refine (KV A _ c b w1 _ Br (aD _) hn).mono ?_
 rintro e w2⟨g,rfl,hg,lD,k2⟩
 have bG:=dH.ay k2
 have hrg:=bw dH.lt hg
 replace k0:=k0.tr k2
 clear hR Br hg k2 dH
 go_wp2_with fail
 refine (C1.aa g w2 lD).mono ?_
 rintro e w3⟨rfl,hw3⟩
 have dU:=bG.went hw3 af
 have k3:K w w3:=k0.trans (ku hw3.2 af k0.size)
 have xH:=hw3.1
 have Mm:=xH.lt
 clear lD bG hw3 k0
 go_wp2_with fail
 have D:DS w 197 rz w.heap.size g w3.heap.size l1 e1 #[.int .i64 L,.int .u64 0,.int .i64 0,.int .i64 0,.int .u64 0,.int .u64 0,.int .i64 0,.int .u64 0,.slice none 0 0,.slice none 0 0,.int .i64 0,.int .u64 0,.int .u64 0] (w3.alloc (.cells #[.int .i64 L,.int .u64 0,.int .i64 0,.int .i64 0,.int .u64 0,.int .u64 0,.int .i64 0,.int .u64 0,.slice none 0 0,.slice none 0 0,.int .i64 0,.int .u64 0,.int .u64 0] 197)) :=
  ⟨xH.al _,ah.new _ _ _,dU.alloc _,k3.al _,aD _,hrg,Mm⟩
 clear xH dU k3 Mm hrg
 generalize w3.alloc _=w4 at *
 generalize w3.heap.size=h at *
 refine (C2.aa g w4 D.rd).mono ?_
 rintro e w5⟨rfl,MZ⟩
 replace D:=D.went MZ
 clear MZ
 have q:=D.x.cell
 have z:=D.x.frozen
 go_upto_region 4 with fail
 replace D:DS w 197 rz w.heap.size g h C E #[.int .i64 L,.int .u64 n,.int .i64 0,.int .i64 0,.int .u64 0,.int .u64 0,.int .i64 0,.int .u64 0,.slice none 0 0,.slice none 0 0,.int .i64 0,.int .u64 0,.int .u64 0] _:=D.sets 1 [.int .u64 n]
 simp only[dY,Nat.reduceAdd]at D
 clear q z C1 C2
 generalize w5.setCell _ _=R at *
 have RT:=D.o
 have Mn:((b.length:Nat):Int)<=9223372036854775807:=af
 have q:=D.x.cell
 go_upto_block 0 with fail
 go_cut [6,7]from 18 to 39 (fun _ _ W=>∃(X:Rec) (l:List UInt8) (e:Bool) (vf ve:Value),DS w 197 rz w.heap.size g h l e (eY X vf ve) W /\
  (∀W',aK (h+1) none W W'->eI X.e.f vf W')/\(∀W',aK (h+1) none W W'->aq cI X.e.es ve W')/\Hid (mZ b=if !e&&l.isEmpty&&dL X then some X else none))
 case first =>
  by_cases hk2:L=2
  ·subst hk2;replace D:DS w 197 rz w.heap.size g h C E #[.int .i64 2,.int .u64 n,.int .i64 0,.int .i64 0,.int .u64 0,.int .u64 0,.int .i64 0,.int .u64 0,.slice none 0 0,.slice none 0 0,.int .i64 0,.int .u64 0,.int .u64 0] R:=D;replace F:=ae (F.aa.1 ax);simp only[show ((2:Nat):Int)=2 from rfl]at F;go_wp2_with fail
   clear q;refine (KX g C E (b.length:Int) R D.rd af af Mn).mono ?_;rintro e wc⟨vb,rfl,Z,Q⟩;replace D:=D.went Q;have hlb:=Ip (b.length:Int) C E;obtain⟨bs,N,M,hB⟩:∃bs N M,aM (b.length:Int) C E=(bs,N,M):=⟨_,_,_,rfl⟩;have HQ:=ae (F.aa bs N M hB);rw[hB]at Z D hlb;simp only at Z D hlb;clear Q hB F;have td:=D.x.lt;go_wp2_with fail
   refine (Ue bs _ _ Z af).mono ?_;rintro e wd⟨v9,rfl,hen,k9⟩;replace D:=D.gr k9;clear Z;obtain⟨vf,ve,rfl,GD,Bv⟩:=hen _ (aK.rf _ _ _);obtain⟨j,B,rfl⟩:=b5 GD;obtain⟨y,t,rfl⟩:=av Bv;clear GD Bv;have kU:=ae hen;clear hen;have Y:=ah.new wd 126 (aE (lP bs) (.slice j (lP bs).f.length B) (.slice y (lP bs).es.length t));have kE:=Y.aS;have DE:=D.gr kE;cases kT:iA bs with
   | none => exact afX
   | some en =>
    have gN:=UE kT;rw[gN.2]at Y kE DE kU;rw[gN.1,gN.2];have HD:=ae (HQ.aa.2 en kT);clear kT gN HQ D;go_upto_region 10 with fail;generalize wd.alloc _=we at *;have D:=DE;clear DE;have q2:=Y.cell;have q:=D.x.cell;have z:=D.x.frozen;go_wp2;replace D:DS w 197 rz w.heap.size g h N M #[.int .i64 2,.int .u64 n,.int .i64 en.kind,.int .i64 en.br,.int .u64 en.life,.int .u64 en.bY,.int .i64 en.cl,.int .u64 en.sub,.slice j en.f.length B,.slice y en.es.length t,.int .i64 0,.int .u64 0,.int .u64 0] _:=D.sets 2 [.int .i64 en.kind,.int .i64 en.br,.int .u64 en.life,.int .u64 en.bY,.int .i64 en.cl,.int .u64 en.sub,.slice j en.f.length B,.slice y en.es.length t];simp only[dY,Nat.reduceAdd]at D;have UX:=(aK.aU kE (h+1) none).tr (aK.sets (Nat.lt_succ_self h) [.int .i64 en.kind,.int .i64 en.br,.int .u64 en.life,.int .u64 en.bY,.int .i64 en.cl,.int .u64 en.sub,.slice j en.f.length B,.slice y en.es.length t] 2 _);simp only[dY,Nat.reduceAdd]at UX;have Yi:Hid (∀W',aK (h+1) none wd W'->dx en (.agg (aE en (.slice j en.f.length B) (.slice y en.es.length t))) W'):=ae λW' u=>kU.aa W' (u.more af (λ_ _ _=>aj))
    clear q q2 z kU Y;generalize World.setCell _ _ _=O at *;have J:∀W',aK (h+1) none O W'->eI en.f (.slice j en.f.length B) W':=λW' u=>by exact afY
    have I:∀W',aK (h+1) none O W'->aq cI en.es (.slice y en.es.length t) W':=λW' u=>by exact afZ
    go_wp2;go_meet
    case rel=>exact⟨(⟨2,n,en,0,0,0⟩:Rec),N,M,.slice j en.f.length B,.slice y en.es.length t,D,J,I,HD⟩
  by_cases jE:L=3
  ·subst jE;replace D:DS w 197 rz w.heap.size g h C E #[.int .i64 3,.int .u64 n,.int .i64 0,.int .i64 0,.int .u64 0,.int .u64 0,.int .i64 0,.int .u64 0,.slice none 0 0,.slice none 0 0,.int .i64 0,.int .u64 0,.int .u64 0] R:=D;replace F:=ae (F.aa.1 ax);simp only[show ((3:Nat):Int)=3 from rfl]at F;go_wp2_with fail
   clear q;refine (KX g C E (b.length:Int) R D.rd af af Mn).mono ?_;rintro e wc⟨vb,rfl,Z,Q⟩;replace D:=D.went Q;have hlb:=Ip (b.length:Int) C E;obtain⟨bs,N,M,hB⟩:∃bs N M,aM (b.length:Int) C E=(bs,N,M):=⟨_,_,_,rfl⟩;have HQ:=ae (F.aa bs N M hB);rw[hB]at Z D hlb;simp only at Z D hlb;clear Q hB F;have td:=D.x.lt;go_wp2_with fail
   refine (Ue bs _ _ Z af).mono ?_;rintro e wd⟨v9,rfl,hen,k9⟩;replace D:=D.gr k9;clear Z;obtain⟨vf,ve,rfl,GD,Bv⟩:=hen _ (aK.rf _ _ _);obtain⟨j,B,rfl⟩:=b5 GD;obtain⟨y,t,rfl⟩:=av Bv;clear GD Bv;have kU:=ae hen;clear hen;have Y:=ah.new wd 126 (aE (lP bs) (.slice j (lP bs).f.length B) (.slice y (lP bs).es.length t));have kE:=Y.aS;have DE:=D.gr kE;cases kT:iA bs with
   | none => exact afX
   | some en =>
    have gN:=UE kT;rw[gN.2]at Y kE DE kU;rw[gN.1,gN.2];have HD:=ae (HQ.aa.2 en kT);clear kT gN HQ D;go_upto_region 10 with fail;generalize wd.alloc _=we at *;have D:=DE;clear DE;have q2:=Y.cell;have q:=D.x.cell;have z:=D.x.frozen;go_wp2;replace D:DS w 197 rz w.heap.size g h N M #[.int .i64 3,.int .u64 n,.int .i64 en.kind,.int .i64 en.br,.int .u64 en.life,.int .u64 en.bY,.int .i64 en.cl,.int .u64 en.sub,.slice j en.f.length B,.slice y en.es.length t,.int .i64 0,.int .u64 0,.int .u64 0] _:=D.sets 2 [.int .i64 en.kind,.int .i64 en.br,.int .u64 en.life,.int .u64 en.bY,.int .i64 en.cl,.int .u64 en.sub,.slice j en.f.length B,.slice y en.es.length t];simp only[dY,Nat.reduceAdd]at D;have UX:=(aK.aU kE (h+1) none).tr (aK.sets (Nat.lt_succ_self h) [.int .i64 en.kind,.int .i64 en.br,.int .u64 en.life,.int .u64 en.bY,.int .i64 en.cl,.int .u64 en.sub,.slice j en.f.length B,.slice y en.es.length t] 2 _);simp only[dY,Nat.reduceAdd]at UX;have Yi:Hid (∀W',aK (h+1) none wd W'->dx en (.agg (aE en (.slice j en.f.length B) (.slice y en.es.length t))) W'):=ae λW' u=>kU.aa W' (u.more af (λ_ _ _=>aj))
    clear q q2 z kU Y;generalize World.setCell _ _ _=O at *;have J:∀W',aK (h+1) none O W'->eI en.f (.slice j en.f.length B) W':=λW' u=>by exact afY
    have I:∀W',aK (h+1) none O W'->aq cI en.es (.slice y en.es.length t) W':=λW' u=>by exact afZ
    go_wp2;go_meet
    case rel=>exact⟨(⟨3,n,en,0,0,0⟩:Rec),N,M,.slice j en.f.length B,.slice y en.es.length t,D,J,I,HD⟩
  obtain⟨⟨br,G,H⟩,l5,e5,hI⟩:∃(i:aT) (l5:List UInt8) (e5:Bool),Cu C E=(i,l5,e5):=⟨_,_,_,rfl⟩;have T:=λW h=>abU g C E W h
  have M5:=ae λh=>F.aa.2.1 h br G H l5 e5 hI
  rw[hI]at T;simp only at T;replace T:=ae T;clear hI;by_cases Ze:L=4
  ·subst Ze;replace D:DS w 197 rz w.heap.size g h C E #[.int .i64 4,.int .u64 n,.int .i64 0,.int .i64 0,.int .u64 0,.int .u64 0,.int .i64 0,.int .u64 0,.slice none 0 0,.slice none 0 0,.int .i64 0,.int .u64 0,.int .u64 0] R:=D;have HD:=ae (M5.aa ax);simp only[show ((4:Nat):Int)=4 from rfl]at HD;go_wp2_with fail
   clear q;refine (T.aa R D.rd).mono ?_;rintro e wc⟨rfl,Q⟩;replace D:=D.went Q;clear Q F M5 T;have q:=D.x.cell;have z:=D.x.frozen;go_wp2;replace D:DS w 197 rz w.heap.size g h l5 e5 #[.int .i64 4,.int .u64 n,.int .i64 0,.int .i64 0,.int .u64 0,.int .u64 0,.int .i64 0,.int .u64 0,.slice none 0 0,.slice none 0 0,.int .i64 br,.int .u64 G,.int .u64 H] _:=D.sets 10 [.int .i64 br,.int .u64 G,.int .u64 H];simp only[dY,Nat.reduceAdd]at D;clear q z;generalize World.setCell _ _ _=O at *;have J:∀W',aK (h+1) none O W'->eI dC.f (.slice none 0 0) W':=λ_ _=>⟨none,0,rfl,Reads.nil _ _ _ _⟩
   have I:∀W',aK (h+1) none O W'->aq cI dC.es (.slice none 0 0) W':=λ_ _=>gy cI _
   go_wp2;go_meet
   case rel=>exact⟨(⟨4,n,dC,br,G,H⟩:Rec),l5,e5,.slice none 0 0,.slice none 0 0,D,J,I,HD⟩
  by_cases Zg:L=5
  ·subst Zg;replace D:DS w 197 rz w.heap.size g h C E #[.int .i64 5,.int .u64 n,.int .i64 0,.int .i64 0,.int .u64 0,.int .u64 0,.int .i64 0,.int .u64 0,.slice none 0 0,.slice none 0 0,.int .i64 0,.int .u64 0,.int .u64 0] R:=D;have HD:=ae (M5.aa ax);simp only[show ((5:Nat):Int)=5 from rfl]at HD;go_wp2_with fail
   clear q;refine (T.aa R D.rd).mono ?_;rintro e wc⟨rfl,Q⟩;replace D:=D.went Q;clear Q F M5 T;have q:=D.x.cell;have z:=D.x.frozen;go_wp2;replace D:DS w 197 rz w.heap.size g h l5 e5 #[.int .i64 5,.int .u64 n,.int .i64 0,.int .i64 0,.int .u64 0,.int .u64 0,.int .i64 0,.int .u64 0,.slice none 0 0,.slice none 0 0,.int .i64 br,.int .u64 G,.int .u64 H] _:=D.sets 10 [.int .i64 br,.int .u64 G,.int .u64 H];simp only[dY,Nat.reduceAdd]at D;clear q z;generalize World.setCell _ _ _=O at *;have J:∀W',aK (h+1) none O W'->eI dC.f (.slice none 0 0) W':=λ_ _=>⟨none,0,rfl,Reads.nil _ _ _ _⟩
   have I:∀W',aK (h+1) none O W'->aq cI dC.es (.slice none 0 0) W':=λ_ _=>gy cI _
   go_wp2;go_meet
   case rel=>exact⟨(⟨5,n,dC,br,G,H⟩:Rec),l5,e5,.slice none 0 0,.slice none 0 0,D,J,I,HD⟩
  have HD:=ae (F.aa.2.2 af af);clear F M5 T;have J:∀W',aK (h+1) none R W'->eI dC.f (.slice none 0 0) W':=λ_ _=>⟨none,0,rfl,Reads.nil _ _ _ _⟩
  have I:∀W',aK (h+1) none R W'->aq cI dC.es (.slice none 0 0) W':=λ_ _=>gy cI _
  have g2:((L:Int)==2)=false:=aY;have:((L:Int)==3)=false:=aY;have:((L:Int)==4)=false:=aY;have:((L:Int)==5)=false:=aY;go_wp2;go_wp2;go_meet
  case rel=>exact⟨(⟨L,n,dC,0,0,0⟩:Rec),C,E,.slice none 0 0,.slice none 0 0,D,J,I,HD⟩
 case rest =>
 clear D q
 obtain⟨⟨V,S,en,br,G,H⟩,l,e,vf,ve,D,J,I,HD⟩:=hcut
 obtain⟨j,B,rfl⟩:=b5 (J _ (aK.rf _ _ _))
 obtain⟨y,t,rfl⟩:=av (I _ (aK.rf _ _ _))
 have RT:=D.o
 simp only at D J I
 have U:=aK.rf (h+1) none wc
 have Bt:Hid ((∀W',aK (h+1) none wc W'->eI (Rec.e (⟨V,S,en,br,G,H⟩:Rec)).f (.slice j en.f.length B) W')/\∀W',aK (h+1) none wc W'->aq cI (Rec.e (⟨V,S,en,br,G,H⟩:Rec)).es (.slice y en.es.length t) W'):=ae ⟨J,I⟩
 clear J I
 go_wp2_with fail
 refine (KJ g _ _ _ D.rd).mono ?_
 rintro e w'⟨rfl,rfl⟩
 have HB:Hid ((!e&&l.isEmpty&&dL (⟨V,S,en,br,G,H⟩:Rec))=false->tN b=110/\tM b=I6):=ae λh=>ace P6
 have HG:Hid ((!e&&l.isEmpty&&dL (⟨V,S,en,br,G,H⟩:Rec))=true->tN b=0/\tM b=(⟨V,S,en,br,G,H⟩:Rec)):=ae λh=>Us P6
 clear HD
 cases hd:(!e&&l.isEmpty)
 ·have HN:=ae (HB.aa VV);have q:=D.rv.cell;have z:=D.rv.frozen;exact VY
 have q:=D.x.cell
 go_wp2_with fail
 refine (adu (⟨V,S,en,br,G,H⟩:Rec) _ _ ⟨_,_,rfl,Bt.aa.1 _ U,Bt.aa.2 _ U⟩).mono ?_
 rintro e wz⟨rfl,kz⟩
 replace D:=D.gr kz
 replace U:=U.tr (aK.aU kz _ _)
 cases hok:dL (⟨V,S,en,br,G,H⟩:Rec)
 ·have HN:=ae (HB.aa IA);clear q;have q:=D.rv.cell;have z:=D.rv.frozen;exact VY
 have HN:=ae (HG.aa IA)
 clear q
 have q:=D.rv.cell
 have z:=D.rv.frozen
 have q2:=D.x.cell
 go_wp2
 have P9:=D.put [.int .i64 V,.int .u64 S,.int .i64 en.kind,.int .i64 en.br,.int .u64 en.life,.int .u64 en.bY,.int .i64 en.cl,.int .u64 en.sub,.slice j en.f.length B,.slice y en.es.length t,.int .i64 br,.int .u64 G,.int .u64 H] rfl
 simp only[dY,Nat.reduceAdd,mz]at P9
 clear q q2 z
 generalize World.setCell _ _ _=W9 at *
 have e9:=P9.1.cell
 have U9:=U.tr P9.2.2
 refine bodyPost_ret (v:=.tuple #[.agg #[.int .i64 V,.int .u64 S,.int .i64 en.kind,.int .i64 en.br,.int .u64 en.life,.int .u64 en.bY,.int .i64 en.cl,.int .u64 en.sub,.slice j en.f.length B,.slice y en.es.length t,.int .i64 br,.int .u64 G,.int .u64 H],.int .i64 0]) af0 rfl ?_
 exact⟨_,P7,afW,P9.2.1⟩
def ew(x:aL):Prop:=x.f.length<=1000000/\x.es.length<=1000000/\∀e∈x.es,e.length<=1000000
structure dy where
 life:Nat
 list:List aL
 prom:List aL
 ab:List aT
def cV:dy:=⟨0,[],[],[]⟩
def au(x:aL):aT:=(x.br,x.life,x.bY)
def iG(x:Rec):aT:=(x.br,x.life,x.bY)
def bU(l:List aL)(a:aT):Bool:=l.any λx=>decide (au x=a)
def dG(l:List aT)(a:aT):Bool:=l.any λx=>decide (x=a)
def iY(l:List aL)(a:aT):List aL:=l.filter λx=>!decide (au x=a)
def zu(s:dy)(r:Rec):Option dy:=if r.n<=s.life then none else some ⟨r.n,s.list,s.prom,s.ab⟩
def xJ(s:dy)(r:Rec):Option dy:=if ¬r.n=s.list.length then none else if bU s.list (au r.e)then none else if dG s.ab (au r.e)then none else some ⟨s.life,s.list++[r.e],iY s.prom (au r.e),s.ab⟩
def xK(s:dy)(r:Rec):Option dy:=if bU s.list (au r.e)then none else if bU s.prom (au r.e)then none else if dG s.ab (au r.e)then none else some ⟨s.life,s.list,s.prom++[r.e],s.ab⟩
def xL(s:dy)(r:Rec):Option dy:=if bU s.list (iG r)then none else if dG s.ab (iG r)then none else some ⟨s.life,s.list,iY s.prom (iG r),s.ab++[iG r]⟩
def zw(s:dy)(r:Rec):Option dy:=if bU s.prom (iG r)then some ⟨s.life,s.list,iY s.prom (iG r),s.ab⟩else none
def dW(s:dy)(r:Rec):Option dy:=if r.kind=1 then zu s r else if r.kind=2 then xJ s r else if r.kind=3 then xK s r else if r.kind=4 then xL s r else zw s r
def mA(s:dy)(r:Rec):dy×Int:=if dL r then (match dW s r with|none=>(s,160)|some t=>(t,0))else (s,110)
