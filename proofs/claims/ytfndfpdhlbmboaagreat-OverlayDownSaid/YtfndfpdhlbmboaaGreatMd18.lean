/-
  The walks of filter.Is and of its closures. Conditions: none.
-/
import Derived.Test.YtfndfpdhlbmboaaGreatMd17
import Derived.Test.YtfndfpdhlbmboaaGreatMdz
set_option maxRecDepth 100000
set_option linter.constructorNameAsVariable false
set_option maxHeartbeats 16000000
set_option linter.unusedVariables false
set_option linter.unusedSimpArgs false
namespace Go.Proofs.YtfndfpdhlbmboaaGreat
open Go Go.RowKit _root_.Go.Proofs.Tryz
theorem asc g o w(h:w.cell? ⟨g,0,none⟩=some (.int .i64 o)) :
 Calls prog 323 #[.pointer (some ⟨g,0,none⟩)] w λe w'=>e=.returned (.bool (o==0))/\w=w':=by
 go_enter func323,ntmps323
 go_wp2
 go_ret
 exact⟨rfl,rfl⟩
theorem asd g o w(h:w.cell? ⟨g,0,none⟩=some (.int .i64 o)) :
 Calls prog 324 #[.pointer (some ⟨g,0,none⟩)] w λe w'=>e=.returned (.bool (o != 0))/\w=w':=by
 go_enter func324,ntmps324
 go_wp2
 go_ret
 exact⟨rfl,rfl⟩
theorem ase g o w(h:w.cell? ⟨g,0,none⟩=some (.int .i64 o)) :
 Calls prog 325 #[.pointer (some ⟨g,0,none⟩)] w λe w'=>e=.returned (.bool (decide (o<0)))/\w=w':=by
 go_enter func325,ntmps325
 go_wp2
 go_ret
 exact⟨rfl,rfl⟩
theorem asf g o w(h:w.cell? ⟨g,0,none⟩=some (.int .i64 o)) :
 Calls prog 326 #[.pointer (some ⟨g,0,none⟩)] w λe w'=>e=.returned (.bool (decide (o<=0)))/\w=w':=by
 go_enter func326,ntmps326
 go_wp2
 go_ret
 exact⟨rfl,rfl⟩
theorem asg g o w(h:w.cell? ⟨g,0,none⟩=some (.int .i64 o)) :
 Calls prog 327 #[.pointer (some ⟨g,0,none⟩)] w λe w'=>e=.returned (.bool (decide (0<o)))/\w=w':=by
 go_enter func327,ntmps327
 go_wp2
 go_ret
 exact⟨rfl,rfl⟩
theorem ash g o w(h:w.cell? ⟨g,0,none⟩=some (.int .i64 o)) :
 Calls prog 328 #[.pointer (some ⟨g,0,none⟩)] w λe w'=>e=.returned (.bool (decide (0<=o)))/\w=w':=by
 go_enter func328,ntmps328
 go_wp2
 go_ret
 exact⟨rfl,rfl⟩
theorem asi y gt v(t:dH) w(u:ai w y 71 #[.int .i64 v.1,.int .i64 v.2.1,.string v.2.2])(j:ai w gt 73 #[.string t.1,.int .i64 t.2.1,.int .i64 t.2.2.1,.int .i64 t.2.2.2.1,.string t.2.2.2.2]) :
 Calls prog 329 #[.pointer (some ⟨y,0,none⟩),.pointer (some ⟨gt,0,none⟩)] w λe w'=>e=.returned (.bool (kp v t.2.2))/\Below w.heap.size w w':=by
 obtain⟨s,op,k,n,x⟩:=t
 obtain⟨C,vn,vt⟩:=v
 have D:=u.cell 0
 have G:=u.cell 1
 have E:=u.cell 2
 have F:=j.cell 2
 have B:=j.cell 3
 have A:=j.cell 4
 simp at D G E F B A
 go_enter func329,ntmps329
 go_wp2_with fail
 apply aM (Ur (C,vn,vt) (k,n,x) _)
 intro H hb
 go_wp2
 go_ret
 exact⟨rfl,hb⟩
theorem aeC t v w :
 Calls prog 302 #[rO t,vv v.1 v.2.1 v.2.2] w λe w'=>e=.returned (.bool (jj t v))/\Below w.heap.size w w':=by
 obtain⟨s,op,k,n,x⟩:=t
 obtain⟨j,vn,vt⟩:=v
 have S:Below w.heap.size w ((w.alloc (.cells #[.string s,.int .i64 op,.int .i64 k,.int .i64 n,.string x] 73)).alloc (.cells #[.int .i64 j,.int .i64 vn,.string vt] 71)):=((cT _ _).alloc (aD _) _).alloc aj _
 have hx:=(ai.new w 73 #[.string s,.int .i64 op,.int .i64 k,.int .i64 n,.string x]).alloc (.cells #[.int .i64 j,.int .i64 vn,.string vt] 71)
 have Z:=ai.new (w.alloc (.cells #[.string s,.int .i64 op,.int .i64 k,.int .i64 n,.string x] 73)) 71 #[.int .i64 j,.int .i64 vn,.string vt]
 rw[World.size_alloc]at Z
 have hmm:=@run_makeMap prog
 have A:∀W:World,(zeroValue 22).run prog W=.ok .nilFunc W:=λW=>fB
 go_enter func302,ntmps302
 go_wp2_with fail
 apply aM (acB (j,vn,vt) (k,n,x) _)
 intro u C
 generalize ho:fS (j,vn,vt) (k,n,x)=o at *
 have HT:Hid (jj (s,op,k,n,x) (j,vn,vt)=(if op==8 then true else (j==k)&&(if op==1 then o==0 else if op==2 then o != 0 else if op==3 then decide (o<0)else if op==4 then decide (o<=0)
  else if op==5 then decide (0<o)else if op==6 then decide (0<=o)else if op==7 then kp (j,vn,vt) (k,n,x)else false))):=ae (by rw[<- ho];rfl)
 have hlt:w.heap.size+2<=u.heap.size:=by have:=C.size;simp at this;omega
 have hx1:=((hx.ay C).alloc (.cells #[.int .i64 o] 3)).alloc (.map #[] 0)
 have AZ:=((Z.ay C).alloc (.cells #[.int .i64 o] 3)).alloc (.map #[] 0)
 have hz1:=(ai.new u 3 #[.int .i64 o]).alloc (.map #[] 0)
 have C:Below w.heap.size w ((u.alloc (.cells #[.int .i64 o] 3)).alloc (.map #[] 0)):=((S.trans (C.mono S.size)).alloc af _).alloc ba _
 have X:=Cn.new (u.alloc (.cells #[.int .i64 o] 3))
 simp only[World.size_alloc]at X
 clear ho S hx Z
 go_wp2_with (with_reducible refine xm _ rfl (.tmp 13) (.const (.int .i64 1)) (.tmp 14) 286 rfl 3 22 underlying286 underlying3 (u.heap.size+1) _ rfl X 1 rfl _ rfl rfl ?_)
 intro w2 eH J
 have O:=C.trans (lD J af C.size)
 have hx2:=hx1.grown J ba
 have hy2:=AZ.grown J ba
 have hz2:=hz1.grown J aj
 clear X J C hx1 AZ hz1
 go_wp2_with (with_reducible refine xm _ rfl (.tmp 13) (.const (.int .i64 2)) (.tmp 15) 286 rfl 3 22 underlying286 underlying3 (u.heap.size+1) _ rfl eH 2 rfl _ rfl rfl ?_)
 intro w3 dG F
 have R:=O.trans (lD F af O.size)
 have eE:=hx2.grown F ba
 have rz:=hy2.grown F ba
 have ix:=hz2.grown F aj
 clear eH F O hx2 hy2 hz2
 go_wp2_with (with_reducible refine xm _ rfl (.tmp 13) (.const (.int .i64 3)) (.tmp 16) 286 rfl 3 22 underlying286 underlying3 (u.heap.size+1) _ rfl dG 3 rfl _ rfl rfl ?_)
 intro w4 eN G
 have Q:=R.trans (lD G af R.size)
 have b5:=eE.grown G ba
 have J0:=rz.grown G ba
 have gM:=ix.grown G aj
 clear dG G R eE rz ix
 go_wp2_with (with_reducible refine xm _ rfl (.tmp 13) (.const (.int .i64 4)) (.tmp 17) 286 rfl 3 22 underlying286 underlying3 (u.heap.size+1) _ rfl eN 4 rfl _ rfl rfl ?_)
 intro w5 eo H
 have N:=Q.trans (lD H af Q.size)
 have dY:=b5.grown H ba
 have SI:=J0.grown H ba
 have p5:=gM.grown H aj
 clear eN H Q b5 J0 gM
 go_wp2_with (with_reducible refine xm _ rfl (.tmp 13) (.const (.int .i64 5)) (.tmp 18) 286 rfl 3 22 underlying286 underlying3 (u.heap.size+1) _ rfl eo 5 rfl _ rfl rfl ?_)
 intro w6 pq I
 have T:=N.trans (lD I af N.size)
 have iZ:=dY.grown I ba
 have hy6:=SI.grown I ba
 have tM:=p5.grown I aj
 clear eo I N dY SI p5
 go_wp2_with (with_reducible refine xm _ rfl (.tmp 13) (.const (.int .i64 6)) (.tmp 19) 286 rfl 3 22 underlying286 underlying3 (u.heap.size+1) _ rfl pq 6 rfl _ rfl rfl ?_)
 intro w7 Bf L
 have Y:=T.trans (lD L af T.size)
 have po:=iZ.grown L ba
 have hy7:=hy6.grown L ba
 have GG:=tM.grown L aj
 clear pq L T iZ hy6 tM
 go_wp2_with (with_reducible refine xm _ rfl (.tmp 13) (.const (.int .i64 7)) (.tmp 20) 286 rfl 3 22 underlying286 underlying3 (u.heap.size+1) _ rfl Bf 7 rfl _ rfl rfl ?_)
 intro y B M
 have pE:=Y.trans (lD M af Y.size)
 have U:=po.grown M ba
 have JZ:=hy7.grown M ba
 have rr:=GG.grown M aj
 clear Bf M Y po hy7 GG
 have D:=rr.cell 0
 have x1:=U.cell 1
 have x2:=U.cell 2
 have y0:=JZ.cell 0
 simp at D x1 x2 y0
 have A:=A y
 by_cases h8:op=8
 ·have V:(op==8)=true:=by simp[h8]
  have HE:Hid (jj (s,op,k,n,x) (j,vn,vt)=true):=ae (by rw[HT.aa,V];rfl);clear h8;exact Cc
 by_cases Fe:1<=op/\op<=7
 rotate_left
 ·have V:(op==8)=false:=by simp[h8]
  have E:(Instr.lookup 286 (.map (some (u.heap.size+1))) (.int .i64 op) true).run prog y=.ok (.tuple #[.nilFunc,.bool false]) y:=by
   have:=vP underlying286 underlying3 A B op;rw[this];have e:∀i:Int,1<=i->i<=7->(i==op)=false:=λi h1 h2=>ba
   simp[Ed,e]
  have HE:Hid (jj (s,op,k,n,x) (j,vn,vt)=false):=ae (by
   rw[HT.aa,V];have e:∀i:Int,1<=i->i<=7->(op==i)=false:=λi h1 h2=>ba
   simp[e])
  clear h8 Fe;exact Cc
 rcases (by omega:op=1∨op=2∨op=3∨op=4∨op=5∨op=6∨op=7)with rfl|rfl|rfl|rfl|rfl|rfl|rfl
 ·have E:(Instr.lookup 286 (.map (some (u.heap.size+1))) (.int .i64 1) true).run prog y=.ok (.tuple #[Value.func (Fn.func 323) #[] #[Value.pointer (some ⟨u.heap.size,0,none⟩)],.bool true]) y :=
   vP underlying286 underlying3 A B 1
  cases hkk:(j==k)
  ·have HE:Hid (jj (s,1,k,n,x) (j,vn,vt)=false):=ae uo;exact Cc
  ·have HE:Hid (jj (s,1,k,n,x) (j,vn,vt)=(o==0)):=ae uo;go_wp2_with fail
   apply aM (asc u.heap.size o y D);exact I1
 ·have E:(Instr.lookup 286 (.map (some (u.heap.size+1))) (.int .i64 2) true).run prog y=.ok (.tuple #[Value.func (Fn.func 324) #[] #[Value.pointer (some ⟨u.heap.size,0,none⟩)],.bool true]) y :=
   vP underlying286 underlying3 A B 2
  cases hkk:(j==k)
  ·have HE:Hid (jj (s,2,k,n,x) (j,vn,vt)=false):=ae uo;exact Cc
  ·have HE:Hid (jj (s,2,k,n,x) (j,vn,vt)=(o != 0)):=ae uo;go_wp2_with fail
   apply aM (asd u.heap.size o y D);exact I1
 ·have E:(Instr.lookup 286 (.map (some (u.heap.size+1))) (.int .i64 3) true).run prog y=.ok (.tuple #[Value.func (Fn.func 325) #[] #[Value.pointer (some ⟨u.heap.size,0,none⟩)],.bool true]) y :=
   vP underlying286 underlying3 A B 3
  cases hkk:(j==k)
  ·have HE:Hid (jj (s,3,k,n,x) (j,vn,vt)=false):=ae uo;exact Cc
  ·have HE:Hid (jj (s,3,k,n,x) (j,vn,vt)=(decide (o<0))):=ae uo;go_wp2_with fail
   apply aM (ase u.heap.size o y D);exact I1
 ·have E:(Instr.lookup 286 (.map (some (u.heap.size+1))) (.int .i64 4) true).run prog y=.ok (.tuple #[Value.func (Fn.func 326) #[] #[Value.pointer (some ⟨u.heap.size,0,none⟩)],.bool true]) y :=
   vP underlying286 underlying3 A B 4
  cases hkk:(j==k)
  ·have HE:Hid (jj (s,4,k,n,x) (j,vn,vt)=false):=ae uo;exact Cc
  ·have HE:Hid (jj (s,4,k,n,x) (j,vn,vt)=(decide (o<=0))):=ae uo;go_wp2_with fail
   apply aM (asf u.heap.size o y D);exact I1
 ·have E:(Instr.lookup 286 (.map (some (u.heap.size+1))) (.int .i64 5) true).run prog y=.ok (.tuple #[Value.func (Fn.func 327) #[] #[Value.pointer (some ⟨u.heap.size,0,none⟩)],.bool true]) y :=
   vP underlying286 underlying3 A B 5
  cases hkk:(j==k)
  ·have HE:Hid (jj (s,5,k,n,x) (j,vn,vt)=false):=ae uo;exact Cc
  ·have HE:Hid (jj (s,5,k,n,x) (j,vn,vt)=(decide (0<o))):=ae uo;go_wp2_with fail
   apply aM (asg u.heap.size o y D);exact I1
 ·have E:(Instr.lookup 286 (.map (some (u.heap.size+1))) (.int .i64 6) true).run prog y=.ok (.tuple #[Value.func (Fn.func 328) #[] #[Value.pointer (some ⟨u.heap.size,0,none⟩)],.bool true]) y :=
   vP underlying286 underlying3 A B 6
  cases hkk:(j==k)
  ·have HE:Hid (jj (s,6,k,n,x) (j,vn,vt)=false):=ae uo;exact Cc
  ·have HE:Hid (jj (s,6,k,n,x) (j,vn,vt)=(decide (0<=o))):=ae uo;go_wp2_with fail
   apply aM (ash u.heap.size o y D);exact I1
 ·have E:(Instr.lookup 286 (.map (some (u.heap.size+1))) (.int .i64 7) true).run prog y=.ok (.tuple #[Value.func (Fn.func 329) #[] #[Value.pointer (some ⟨w.heap.size+1,0,none⟩),Value.pointer (some ⟨w.heap.size,0,none⟩)],.bool true]) y :=
   vP underlying286 underlying3 A B 7
  cases hkk:(j==k)
  ·have HE:Hid (jj (s,7,k,n,x) (j,vn,vt)=false):=ae uo;exact Cc
  ·have HE:Hid (jj (s,7,k,n,x) (j,vn,vt)=(kp (j,vn,vt) (k,n,x))):=ae uo;go_wp2_with fail
   apply aM (asi (w.heap.size+1) w.heap.size (j,vn,vt) (s,7,k,n,x) y JZ U);intro w9 aY;have J6:=pE.trans (aY.mono pE.size);go_wp2;go_ret;exact⟨iK,J6⟩
theorem aqL x s g w(hg:w.cell? ⟨g,0,none⟩=some (.string s)) :
 Calls prog 320 #[azF x,.pointer (some ⟨g,0,none⟩)] w λe w'=>e=.returned (.bool (nf s x))/\Below w.heap.size w w':=by
 have j:g<w.heap.size:=K0 hg
 obtain⟨a,k,n,t⟩:=x
 go_enter func320,ntmps320
 go_wp2
 go_ret
 refine⟨?_,(cT _ _).alloc (aD _) _⟩
 show Ending.returned (.bool _)=Ending.returned (.bool _)
 rw[PQ];rfl
theorem abF A c(l:List cZ) s g w B(J:Reads w B 4 A l.length (l.flatMap nI))(y:B<=w.heap.size)(hlen:l.length<=1000000)(hg:w.cell? ⟨g,0,none⟩=some (.string s)) r
 (M:(∃k,∃hk:k<l.length,r=(k:Int)/\nf s l[k]=true/\∀x∈l.take k,nf s x=false)∨(r=-1/\∀x∈l,nf s x=false)) :
 Calls prog 321 #[.slice A l.length c,.func (Fn.func 320) #[] #[.pointer (some ⟨g,0,none⟩)]] w λe w'=>e=.returned (.int .i64 r)/\Below w.heap.size w w':=by
 have X:g<w.heap.size:=K0 hg
 have D:=ae M
 have T:=ae J
 clear M J
 go_enter func321,ntmps321
 go_wp2_with fail
 go_loopw [8] (fun i wr=>∃k:Nat,k<=l.length/\i=.int .i64 k/\Hid (∀x∈l.take k,nf s x=false)/\Below w.heap.size w wr) (fun i _=>l.length-(intOf i).toNat)
 case atStart=>exact⟨0,af,rfl,ae aj,cT _ _⟩
 case round =>
  obtain⟨k,hk,rfl,hall,hb⟩:=hrel;by_cases hlt:k<l.length
  ·have W:(k:Int)<l.length:=af;obtain⟨b,u,rfl,t,N⟩:=T.aa.Ri af;obtain⟨I,E,H,G⟩:=N k hlt;have d0:=(hb.cell (p:=⟨b,u+k*4,none⟩) (bz t y)).trans I;have d1:=(hb.cell (p:=⟨b,u+k*4+1,none⟩) (bz t y)).trans E;have d2:=(hb.cell (p:=⟨b,u+k*4+2,none⟩) (bz t y)).trans H;have d3:=(hb.cell (p:=⟨b,u+k*4+3,none⟩) (bz t y)).trans G;have V:=(hb.cell (p:=⟨g,0,none⟩) X).trans hg;clear I E H G N;have hz:=hb.size;have F:=ae (λh=>Vh l s k hlt h hall.aa);have U:Hid (nf s l[k]=false->∀x∈l.take (k+1),nf s x=false):=af8;have R:Hid (nf s l[k]=true->(k:Int)=r):=by
    refine ae λh=>?_
    rcases D.aa with ⟨j,L,rfl,h1,Q⟩|⟨_,h1⟩
    ·have:=F.aa h;have h3:=Vh l s j L h1 Q;have:k=j:=by
      rcases Nat.lt_trichotomy k j with C|C|C
      ·have:=Q l[k] (List.mem_take_iff_getElem.2 ⟨k,af,rfl⟩);rw[h]at this;cases this
      ·exact C
      ·exact ahz
     rw[this]
    grind
   clear F;generalize l[k]=x at *;go_wp2_with fail
   apply aM (aqL x s g wr V);intro Z S;have O:=hb.trans (S.mono hz);cases hx:nf s x
   ·have Y:=ae (U.aa hx);go_wp2;go_roundw
    case rel=>exact⟨k+1,af,bI,Y,O⟩
    case measure=>simp[intOf];omega
   ·have HE:=ae (R.aa hx);go_wp2;go_ret;exact⟨by rw[<- HE.aa];rfl,O⟩
  ·have W:¬(k:Int)<l.length:=af;have HE:Hid (r=-1):=by
    refine ae ?_;rcases D.aa with ⟨j,L,_,h1,_⟩|⟨h,_⟩
    ·exact ahz
    ·exact h
   go_wp2;exact PU
theorem asj A c l s w B(E:Reads w B 4 A l.length (l.flatMap nI))(F:B<=w.heap.size)(hlen:l.length<=1000000) :
 Calls prog 301 #[.slice A l.length c,.string s] w λe w'=>e=.returned (Cj l s)/\Below w.heap.size w w':=by
 have EO:Below w.heap.size w (w.alloc (.cells #[.string s] 9)):=(cT _ _).alloc (aD _) _
 have C:Below w.heap.size w ((w.alloc (.cells #[.string s] 9)).alloc (.cells #[.int .i64 0,.int .i64 0,.string { data:=#[] }] 71)):=EO.alloc aj _
 have hx:=(ai.new w 9 #[.string s]).alloc (.cells #[.int .i64 0,.int .i64 0,.string { data:=#[] }] 71)
 have hy:=ai.new (w.alloc (.cells #[.string s] 9)) 71 #[.int .i64 0,.int .i64 0,.string { data:=#[] }]
 have D:((w.alloc (.cells #[.string s] 9)).alloc (.cells #[.int .i64 0,.int .i64 0,.string { data:=#[] }] 71)).cell? ⟨w.heap.size,0,none⟩=some (.string s):=hx.cell 0
 have G:=E.below C F
 rcases aek s l with ⟨k,hk,t,V⟩|t
 ·have y:=Vh l s k hk t V;have HE:Hid (Cj l s=.tuple #[vv l[k].2.1 l[k].2.2.1 l[k].2.2.2,.bool true]):=ae (by simp[Cj,y]);have L:=ae (abF A c l s w.heap.size _ B G ba hlen D (k:Int) (.inl ⟨k,hk,rfl,t,V⟩));obtain⟨b,O,rfl,M,hcell⟩:=E.Ri af;obtain⟨Z,I,N,J⟩:=hcell k hk;clear hcell y t V D E;have pY:(k:Int)<l.length:=af;generalize l[k]=x at *;obtain⟨xs,Y,X,W⟩:=x;simp only at Z I N J HE;go_enter func301,ntmps301;go_wp2_with fail
  apply aM L.aa;intro w3 u;have dP:=C.trans (u.mono C.size);have d1:=(dP.cell (p:=⟨b,O+k*4+1,none⟩) (bz M F)).trans I;have d2:=(dP.cell (p:=⟨b,O+k*4+2,none⟩) (bz M F)).trans N;have d3:=(dP.cell (p:=⟨b,O+k*4+3,none⟩) (bz M F)).trans J;have j:=hy.below u aj;have T:=j.frozen 0;have R:=j.frozen 1;have Q:=j.frozen 2;have H:=j.cell 0;have S:=j.cell 1;have U:=j.cell 2;simp at T R Q H S U;clear Z I N J G;go_wp2;have hz:=((j.aQ 0 (.int .i64 Y)).aQ 1 (.int .i64 X)).aQ 2 (.string W);have g0:=hz.cell 0;have g1:=hz.cell 1;have g2:=hz.cell 2;simp at g0 g1 g2;refine bodyPost_ret (v:=.tuple #[vv Y X W,.bool true]) ahA rfl ⟨Ll,?_⟩;exact ahB
 ·have y:=as3 l s t;have HE:Hid (Cj l s=.tuple #[vv 0 0 { data:=#[] },.bool false]):=ae (by simp[Cj,y]);have L:=ae (abF A c l s w.heap.size _ B G ba hlen D (-1) (.inr ⟨rfl,t⟩));clear y t D E;go_enter func301,ntmps301;go_wp2_with fail
  apply aM L.aa;intro w3 u;have dP:=C.trans (u.mono C.size);have j:=hy.below u aj;have T:=j.frozen 0;have R:=j.frozen 1;have Q:=j.frozen 2;have H:=j.cell 0;have S:=j.cell 1;have U:=j.cell 2;simp at T R Q H S U;clear G;go_wp2;have hz:=((j.aQ 0 (.int .i64 0)).aQ 1 (.int .i64 0)).aQ 2 (.string { data:=#[] });have g0:=hz.cell 0;have g1:=hz.cell 1;have g2:=hz.cell 2;simp at g0 g1 g2;refine bodyPost_ret (v:=.tuple #[vv 0 0 { data:=#[] },.bool false]) ahA rfl ⟨Ll,?_⟩;exact ahB
section
variable {l la lb:List cZ} {b:List UInt8} {v va vb:Value} {w:World}
theorem aeD s(h:ji l v w)(t:l.length<=1000000):Calls prog 301 #[v,.string s] w λe w'=>e=.returned (Cj l s)/\Below w.heap.size w w':=by obtain⟨A,c,rfl,j⟩:=h;exact asj A c l s w _ j (aD _) t
end
theorem aqM e s:(∃x:cZ,e.find? (nf s)=some x/\Cj e s=.tuple #[vv x.2.1 x.2.2.1 x.2.2.2,.bool true])∨(e.find? (nf s)=none/\Cj e s=.tuple #[vv 0 0 { data:=#[] },.bool false]):=by
 unfold Cj
 cases h:e.find? (nf s)with
 | none=>exact .inr ⟨rfl,rfl⟩
 | some x=>exact .inl ⟨x,rfl,rfl⟩
theorem aqN t e v w(O:ji e v w)(L:e.length<=1000000) :
 Calls prog 264 #[rO t,v] w λr w'=>r=.returned (.bool (qD t e))/\Below w.heap.size w w':=by
 obtain⟨s,op,k,n,x⟩:=t
 have D:Below w.heap.size w (w.alloc (.cells #[.string s,.int .i64 op,.int .i64 k,.int .i64 n,.string x] 73)):=(cT _ _).alloc (aD _) _
 have N:=ai.new w 73 #[.string s,.int .i64 op,.int .i64 k,.int .i64 n,.string x]
 have I:=qC _ _ _ _ O D
 rcases aqM e s with ⟨y,hf,F⟩|⟨hf,F⟩
 ·have G:Hid (∀W,ji e v W->Calls prog 301 #[v,.string s] W λr w'=>r=.returned (.tuple #[vv y.2.1 y.2.2.1 y.2.2.2,.bool true])/\Below W.heap.size W w'):=ae λW h=>by have:=aeD s h L;rwa [F]at this
  have HE:Hid (qD (s,op,k,n,x) e=jj (s,op,k,n,x) y.2):=ae ahC;clear hf F;obtain⟨Z,j,u,A⟩:=y;simp only at G HE;go_enter func264,ntmps264;go_wp2_with fail
  apply aM (G.aa _ I);intro B H;have C:=(N.ay H).alloc (.cells #[.int .i64 j,.int .i64 u,.string A] 71);have E:=D.trans (H.mono D.size);have J:Below w.heap.size w (B.alloc (.cells #[.int .i64 j,.int .i64 u,.string A] 71)):=E.alloc E.size _;have X:(B.alloc (.cells #[.int .i64 j,.int .i64 u,.string A] 71)).cell? ⟨w.heap.size,0,none⟩=some (.string s):=C.cell 0;have V:(B.alloc (.cells #[.int .i64 j,.int .i64 u,.string A] 71)).cell? ⟨w.heap.size,1,none⟩=some (.int .i64 op):=C.cell 1;have S:(B.alloc (.cells #[.int .i64 j,.int .i64 u,.string A] 71)).cell? ⟨w.heap.size,2,none⟩=some (.int .i64 k):=C.cell 2;have x3:(B.alloc (.cells #[.int .i64 j,.int .i64 u,.string A] 71)).cell? ⟨w.heap.size,3,none⟩=some (.int .i64 n):=C.cell 3;have x4:(B.alloc (.cells #[.int .i64 j,.int .i64 u,.string A] 71)).cell? ⟨w.heap.size,4,none⟩=some (.string x):=C.cell 4;go_upto_region 2 with (fail);have hn:=ai.new B 71 #[.int .i64 j,.int .i64 u,.string A];have U:=hn.cell 0;have Y:=hn.cell 1;have n2:=hn.cell 2;generalize Q:B.alloc (.cells #[.int .i64 j,.int .i64 u,.string A] 71)=R at *;clear Q hn C;go_wp2_with fail
  apply aM (aeC (s,op,k,n,x) (j,u,A) _);intro T M;go_wp2;go_ret;exact⟨iK,J.trans (M.mono J.size)⟩
 ·have G:Hid (∀W,ji e v W->Calls prog 301 #[v,.string s] W λr w'=>r=.returned (.tuple #[vv 0 0 { data:=#[] },.bool false])/\Below W.heap.size W w'):=ae λW h=>by have:=aeD s h L;rwa [F]at this
  have HE:Hid (qD (s,op,k,n,x) e=false):=ae ahC;clear hf F;go_enter func264,ntmps264;go_wp2_with fail
  apply aM (G.aa _ I);intro B H;have E:=D.trans (H.mono D.size);go_wp2;go_ret;exact⟨iK,E.alloc E.size _⟩
theorem ap0(l:List dH)(e:List cZ)(k:Nat)(h:k<l.length)(ha:∀t∈l.take k,qD t e=true)(hb:qD l[k] e=true):∀t∈l.take (k+1),qD t e=true:=afo
theorem aqO l e k(h:k<l.length)(hb:qD l[k] e=false):mO l e=false:=by
 grind [qD,mO]
theorem ap1 l e(h:∀t∈l.take l.length,qD t e=true):mO l e=true:=by
 grind [qD,mO]
theorem abR A c l e v w B(N:Reads w B 5 A l.length (l.flatMap fR))(hB:B<=w.heap.size)(xe:l.length<=1000000)(O:ji e v w)(hlen:e.length<=1000000) :
 Calls prog 174 #[.slice A l.length c,v] w λr w'=>r=.returned (.bool (mO l e))/\Below w.heap.size w w':=by
 have V:=ae N
 have X:=ae O
 clear N O
 go_enter func174,ntmps174
 go_wp2
 go_step3
 go_wp2_with fail
 go_step3
 go_wp2_with fail
 go_loopw [5,10] (fun m i wr=>∃k:Nat,k<=l.length/\i=.int .i64 k/\m=.bool true/\Hid (∀t∈l.take k,qD t e=true)/\Below w.heap.size w wr) (fun _ i _=>l.length-(intOf i).toNat)
 case atStart=>exact⟨0,af,rfl,rfl,ae aj,cT _ _⟩
 case round =>
  obtain⟨k,hk,rfl,rfl,S,hb⟩:=hrel;by_cases y:k<l.length
  ·have fM:(k:Int)<l.length:=af;obtain⟨b,j,rfl,W,R⟩:=V.aa.Mc af;obtain⟨M,I,L,J,H⟩:=R k y;have u:=bz W hB;have d0:=(hb.cell (p:=⟨b,j+k*5,none⟩) u).trans M;have d1:=(hb.cell (p:=⟨b,j+k*5+1,none⟩) u).trans I;have d2:=(hb.cell (p:=⟨b,j+k*5+2,none⟩) u).trans L;have d3:=(hb.cell (p:=⟨b,j+k*5+3,none⟩) u).trans J;have d4:=(hb.cell (p:=⟨b,j+k*5+4,none⟩) u).trans H;have Z:=ae (ap0 l e k y S.aa);have T:=ae (aqO l e k y);have hz:=hb.size;clear M I L J H R;generalize l[k]=x at *;obtain⟨xs,C,F,E,D⟩:=x;simp only at d0 d1 d2 d3 d4;have G:Below wr.heap.size wr (wr.alloc (.cells #[.string xs,.int .i64 C,.int .i64 F,.int .i64 E,.string D] 73)):=(cT _ _).alloc (aD _) _;have Y:=ae (qC _ _ _ _ (qC _ _ _ _ X.aa hb) G);go_wp2_with fail
   apply aM (aqN (xs,C,F,E,D) e v _ Y.aa hlen);intro w2 U;have Q:=(hb.trans (G.mono hz)).trans (U.mono ba);cases hh:qD (xs,C,F,E,D) e
   ·have HE:=ae (T.aa hh);clear hh;go_wp2;try rw[iq]
    go_ret;exact⟨iK,Q⟩
   ·have hr:=ae (Z.aa hh);clear hh;go_wp2;go_roundw
    case rel=>exact⟨k+1,af,bI,Lg,hr,Q⟩
    case measure=>simp[intOf];omega
  ·have fM:¬(k:Int)<l.length:=af;have HE:=ae (ap1 l e (by
    have:=S.aa;rwa [show k=l.length by omega]at this))
   go_wp2;try rw[iq]
   exact PU
theorem aqP{l e vf j w}(B:fF l vf w)(C:l.length<=1000000)(u:ji e j w)(y:e.length<=1000000) :
 Calls prog 174 #[vf,j] w λr w'=>r=.returned (.bool (mO l e))/\Below w.heap.size w w':=by
 obtain⟨A,c,rfl,t⟩:=B
 exact abR A c l e j w _ t (aD _) C u y
theorem asl l v q(f:Nat) cs w(h:aq iI l v w)(R:l.length<=1000000)(S:∀args W,(callFunc f args).run prog W=.ok (.enter f args) W)
 (G:∀W,K w W->∀x∈l,∀u,sub x u W->Calls prog f (#[u]++cs) W λe W'=>e=.returned (.bool (q x))/\K W W') :
 Calls prog 263 #[v,.func (.func f) #[] cs] w λe w'=>∃i:Int,e=.returned (.int .i64 i)/\K w w'/\decide (0<=i)=l.any q:=by
 have D:=K.rf w
 obtain⟨A,c,rfl,h,-⟩:=h
 have J:=ae G
 clear G
 go_enter func263,ntmps263
 go_wp2_with fail
 go_loopw [5,8] (fun _ i wr=>∃k:Nat,k<=l.length/\i=.int .i64 k/\Hid ((l.take k).any q=false)/\K w wr) (fun _ i _=>l.length-(intOf i).toNat)
 case atStart=>exact⟨0,af,rfl,ae aj,D⟩
 case round =>
  clear D;obtain⟨k,hk,rfl,hall,kr⟩:=hrel;by_cases y:k<l.length
  ·have fM:(k:Int)<l.length:=af;obtain⟨H,F,T,rfl,N,C,B,d⟩:=eB h k y ax;have HB:=ae (yr q l k y);have HA:=ae (yw q l (k+1));have hm:=bZ y;generalize l[k]=t at *;obtain⟨vf,rfl,E⟩:=C wr kr;have B:∀W,K w W->W.cell? ⟨H,F+k*3,none⟩=some (.int .i64 t.cl):=B;have d:∀W,K w W->∀i,i<3->W.cell? ⟨H,F+k*3+i,none⟩=(mZ t vf)[i]?:=λW j L=>λM=>(d W j L M).trans Array.getElem?_toList
   have I:=ae (J.aa wr kr t hm (.agg (mZ t vf)) ⟨vf,rfl,E⟩);clear C N hm;go_wp2_with fail
   apply cG I.aa kr;intro O Q kW;clear d B E I;exact WV
  ·exact WW
theorem aqQ l v q(f:Nat) cs w(h:aq iI l v w)(C:l.length<=1000000)(D:∀args W,(callFunc f args).run prog W=.ok (.enter f args) W)
 (y:∀W,K w W->∀x∈l,∀u,sub x u W->Calls prog f (#[u]++cs) W λe W'=>e=.returned (.bool (q x))/\K W W') :
 Calls prog 172 #[v,.func (.func f) #[] cs] w λe w'=>e=.returned (.bool (l.any q))/\K w w':=by
 have t:=ae (asl l v q f cs w h C D y)
 obtain⟨A,c,rfl⟩:=av h
 clear h y
 generalize l.any q=R at *
 go_enter func172,ntmps172
 go_wp2_with fail
 refine t.aa.mono ?_
 rintro e E⟨i,rfl,B,j⟩
 have HR:=ae j
 clear t j
 go_wp2
 go_ret
 exact⟨WX,B⟩
theorem auc s c v g w(h:sub s v w)(hg:ai w g 3 #[.int .i64 c]) :
 Calls prog 168 #[v,.pointer (some ⟨g,0,none⟩)] w λe w'=>e=.returned (.bool (decide (s.cl=c)))/\K w w':=by
 obtain⟨vs,rfl,j⟩:=h
 obtain⟨A,d,rfl⟩:=cA j
 have t:=K.new w (.cells (mZ s (.slice A s.f.length d)) 246)
 have q:=hg.cells
 clear j hg
 go_enter func168,ntmps168
 go_wp2
 go_ret
 refine⟨?_,t⟩
 show Ending.returned (.bool _)=Ending.returned (.bool _)
 rfl
theorem aud s e v u g w(h:sub s v w)(hg:ai w g 51 #[u])(t:ji e u w)(G:s.f.length<=1000000)(I:e.length<=1000000) :
 Calls prog 173 #[v,.pointer (some ⟨g,0,none⟩)] w λr w'=>r=.returned (.bool (mO s.f e))/\K w w':=by
 obtain⟨vs,rfl,C⟩:=h
 have F:=C
 obtain⟨A,d,rfl,y⟩:=C
 have hb:=ai.new w 246 (mZ s (.slice A s.f.length d))
 have j:=hb.aU
 have D:=hg.ay j
 have B:=ae (abR A d s.f e u _ _ (y.below j (aD _)) j.size G (qC _ _ _ _ t j) I)
 obtain⟨J,N,rfl⟩:=yy t
 generalize mO s.f e=R at *
 clear F y t hg
 go_enter func173,ntmps173
 go_upto_region 1 with (fail)
 generalize w.alloc _=O at *
 have q:=hb.cell
 have H:=D.cell
 go_wp2_with fail
 apply cG B.aa j
 intro L M E
 clear B q H hb D
 go_wp2
 go_ret
 exact⟨rfl,E⟩
theorem aue l e v C g w(h:aq iI l v w)(hg:ai w g 132 #[v])(t:ji e C w)(M:l.length<=1000000)(y:∀s∈l,s.f.length<=1000000)(N:e.length<=1000000) :
 Calls prog 171 #[C,.pointer (some ⟨g,0,none⟩)] w λr w'=>r=.returned (.bool (anyS l e))/\K w w':=by
 have HR:Hid (anyS l e=l.any λs=>mO s.f e):=ae rfl
 have G:=ae t
 obtain⟨F,O,rfl⟩:=yy t
 have hb:=ai.new w 51 #[.slice F e.length O]
 have j:=hb.aU
 have D:=hg.ay j
 have H:=ae (bo h j)
 have E:=ae y
 obtain⟨A,c,rfl⟩:=av h
 generalize anyS l e=R at *
 clear h hg t y
 go_enter func171,ntmps171
 go_upto_region 1 with (fail)
 generalize w.alloc _=Q at *
 generalize w.heap.size=gb at hb⊢
 have B:=ae (aqQ l _ (λs=>mO s.f e) 173 #[.pointer (some ⟨gb,0,none⟩)] Q H.aa M (λ_ _=>cV) λW k s J u S=>aud s e u _ gb W S (hb.ay k) (qC _ _ _ _ G.aa (j.tr k)) (E.aa s J) N)
 have L:=D.cell
 go_wp2_with fail
 apply cG B.aa j
 intro T U I
 clear B L hb D
 go_wp2
 go_ret
 exact⟨fW,I⟩
theorem aqR l c x v vx w(h:aq iI l v w)(hx:dm x vx w)(hlen:l.length<=1000000)(hs:∀s∈l,s.f.length<=1000000)(J:eJ x) :
 Calls prog 104 #[v,.int .i64 c,vx] w λe w'=>∃v',e=.returned v'/\aX w.heap.size w.heap.size 51 cO (oQ l c x) v' w'/\K w w':=by
 have C:Hid (oQ l c x=if x.kind=1 then x.es.filter (anyS (l.filter λs=>decide (s.cl=c)))else []):=ae (by unfold oQ qR;simp)
 have T:=ae (Jb h)
 have HS:=ae hs
 obtain⟨vf,ve,rfl,hf,j⟩:=hx
 have HE:=ae (Jb j)
 obtain⟨L,F,rfl⟩:=cA hf
 obtain⟨E,N,rfl⟩:=av j
 obtain⟨A,d,rfl⟩:=av h
 have B:=K.lW w (.cells #[.int .i64 c] 3) (.cells (aE x (.slice L x.f.length F) (.slice E x.es.length N)) 126)
 have hb:=(ai.new w 3 #[.int .i64 c]).alloc (.cells (aE x (.slice L x.f.length F) (.slice E x.es.length N)) 126)
 have t:=ai.new (w.alloc (.cells #[.int .i64 c] 3)) 126 (aE x (.slice L x.f.length F) (.slice E x.es.length N))
 have hz:(w.alloc (.cells #[.int .i64 c] 3)).heap.size=w.heap.size+1:=aj
 rw[hz]at t
 generalize oQ l c x=R at *
 clear h hf j hs hz
 go_enter func104,ntmps104
 go_upto_region 1 with (fail)
 generalize World.alloc (World.alloc w _) _=w1 at *
 have hz1:=B.size
 generalize jM:w.heap.size=lo at hb t T HE hz1⊢
 have lQ:=ae jM
 clear jM
 have q:=t.cell
 by_cases hk:x.kind=1
 rotate_left
 ·have HF:Hid (R=[]):=ae (by rw[C.aa,if_neg hk]);have hk2:(x.kind != 1)=true:=tk;clear hk C;go_wp2;go_ret;exact⟨_,rfl,WY,B⟩
 have HF:Hid (R=x.es.filter (anyS (l.filter λs=>decide (s.cl=c)))):=ae (by rw[C.aa,if_pos hk])
 have hk2:(x.kind != 1)=false:=D2
 have C1:=ae (FA (λk=>lo<=k) l _ (λs=>decide (s.cl=c)) 168 #[.pointer (some ⟨lo,0,none⟩)] w1 (T.aa.st B) hlen (λ_ _=>cV) λW k s _ u Q=>auc s c u lo W Q (hb.ay k))
 clear hk C
 go_wp2_with fail
 apply bS C1.aa
 rintro v2 D⟨I,k2⟩
 have cR:=mw (λs=>decide (s.cl=c)) l
 have Bq:=IJ (q:=λs=>decide (s.cl=c)) HS.aa
 generalize l.filter (λs=>decide (s.cl=c))=l2 at *
 obtain⟨A2,c2,rfl⟩:=I.slice
 have Y:=t.ay k2
 have bD:=B.tr k2
 have ew:=I.aq
 clear q t I C1 hb
 go_upto_region 4 with (fail)
 have y:=ai.new D 132 #[.slice A2 l2.length c2]
 have O:=y.aU
 have rA:=Y.ay O
 have lK:=bD.tr O
 have H3:=ae (bo ew O)
 clear Y ew
 generalize D.alloc _=w3 at *
 generalize D.heap.size=X at y⊢
 have U:=HE.aa.st lK
 have G:=ae J
 have Z:=ae (acz (λk=>lo<=k) x.es _ (anyS l2) 171 #[.pointer (some ⟨X,0,none⟩)] w3 U J.2.1 (λ_ _=>cV) λW k e j u Q=>aue l2 e _ u X W (bo H3.aa k) (y.ay k) Q af Bq (G.aa.2.2 e j))
 have q3:=rA.cell
 clear U J Bq
 go_wp2_with fail
 apply rM Z.aa lK
 intro v4 w4 cI k4 s5
 have hf4:=mw (anyS l2) x.es
 have V:∀e∈x.es.filter (anyS l2),e.length<=1000000:=λe j=>G.aa.2.2 e (List.mem_filter.1 j).1
 have H:=cI.aq
 have M:=ae (Uq _ v4 w4 H (by have:=G.aa.2.1;omega) V)
 rw[<- HF.aa]at M H
 obtain⟨A4,c4,rfl⟩:=av H
 clear Z q3 cI V rA y
 go_wp2_with fail
 apply rM M.aa s5
 intro v5 w5 S k5 kF
 have gM:=s5.size
 have HO:Hid (aX lo lo 51 cO R v5 w5):=ae (aX.low (aX.floor S WQ) WQ)
 obtain⟨A5,c5,rfl⟩:=av S.tO.aq
 clear M S
 go_wp2
 go_ret
 exact⟨_,rfl,by rw[lQ.aa];exact HO.aa,kF⟩
theorem fold_succ{α β:Type}(f:β->α->β)(l:List α)(b:β)(j:Nat)(h:j<l.length):(l.take (j+1)).foldl f b=f ((l.take j).foldl f b) l[j]:=by rw[gJ h,List.foldl_append];rfl
theorem ac9{α:Type}(f:α->Int):∀l:List α,(l.filter λs=>decide (f s<0)).length+(l.filter λs=>decide (0<f s)).length<=l.length
 | []=>aj
 | x :: l=>by
  have:=ac9 f l;by_cases t:f x<0
  ·have j:¬0<f x:=af;simp[t,j];omega
  ·by_cases j:0<f x
   ·simp[t,j];omega
   ·simp[t,j];omega
theorem asm l x:(uv l x).length<=l.length+1:=by
 have:=ac9 (λs=>jA s x) l
 unfold uv
 grind
def Cm(l:List mc):Prop:=∀s∈l,s.f.length<=1000000
theorem av8{l x}(h:Cm l)(j:x.f.length<=1000000):Cm (uv l x):=by
 grind [Cm,uv]
def lF(o:List mc)(x:aK):List mc:=if x.kind=1 then o else uv o x
theorem adS l x:(lF l x).length<=l.length+1:=by
 grind [lF,asm]
theorem ahD{l x}(h:Cm l)(j:x.f.length<=1000000):Cm (lF l x):=by
 grind [lF,av8]
theorem Qy l:kV l=l.foldl lF []:=rfl
theorem U2 l:(kV l).length<=l.length:=by
 rw[Qy];have key:∀(l:List aK) (o:List mc),(l.foldl lF o).length<=o.length+l.length:=by
  intro l
  induction l with
  | nil=>intro o;simp
  | cons x l j=>intro o;have:=j (lF o x);have:=adS o x;simp only[List.foldl_cons,fg];omega
 simpa using key l []
theorem ahE{l}(h:∀x∈l,eJ x):Cm (kV l):=by
 rw[Qy];have key:∀(l:List aK) (o:List mc),(∀x∈l,eJ x)->Cm o->Cm (l.foldl lF o):=by
  intro l
  induction l with
  | nil=>intro o _ j;exact j
  | cons x l u=>intro o t j;exact u _ (λy A=>t y aA) (ahD j (t x aj).1)
 exact key l [] h λs B=>aA
theorem acC{M p B w}(h:bB M p B w)(E:bE B) n(hn:n<=B.st.list.length) :
 Calls prog 103 #[.pointer (some ⟨p.g,0,none⟩),.int .i64 n] w λe w'=>∃v',e=.returned v'/\aB (λk=>k<w.heap.size) w.heap.size 246 iI (kV (B.st.list.take n)) v' w'/\K w w':=by
 have D:=E.Eb
 have gU:=E.dk.len
 have q:=h.blk.cell
 have N:=h.bK.now.list
 obtain⟨g,gl,gd,gr,gt,vd,vr,vp,vh,vl,vq,va,vt,vf,vw,kr⟩:=p
 simp only at q N
 obtain⟨Al,cl,rfl,hl,hcl⟩:=N
 have xe:B.st.list.length<=300000:=af
 have s7:=ae D.1
 have NG:=ae (Qy (B.st.list.take n))
 have HSJ:=ae λ(j:Nat) (hj:j<n)=>fold_succ lF B.st.list [] j af
 have HLJ:=ae λ(j:Nat)=>U2 (B.st.list.take j)
 have Z:=ae λ(j:Nat)=>ahE (l:=B.st.list.take j) λx u=>D.1 x (om u)
 simp only[Qy]at HLJ Z
 generalize kV (B.st.list.take n)=R at *
 have J:=K.rf w
 have hO:=aB.nil (λk=>k<w.heap.size) w.heap.size 246 iI w
 have hn':(n:Int)<=cl:=af
 clear h E D gU
 go_enter func103,ntmps103
 go_wp2_with fail
 clear q
 go_loopw [5,7,16] (fun o _ i W=>∃j:Nat,j<=n/\i=.int .i64 j/\aB (fun k=>k<w.heap.size) w.heap.size 246 iI ((B.st.list.take j).foldl lF []) o W/\K w W) (fun _ _ i _=>n-(intOf i).toNat)
 case atStart=>exact⟨0,af,rfl,fP,J⟩
 case round =>
  clear hO J;obtain⟨j,hj,rfl,hO,kr⟩:=hrel;by_cases hlt:j<n
  ·have aP:(j:Int)<n:=af;have S:j<B.st.list.length:=af;obtain⟨b1,O,cs,rfl,eS,I,X,d⟩:=eB hl j S ax;have L:=ae (HSJ.aa j hlt);have qi:=s7.aa _ (bZ S);have Z8:=HLJ.aa j;have hFj:=Z.aa j;have aE3:(B.st.list.take j).length<=300000:=ba;generalize B.st.list[j]=x at *;generalize (B.st.list.take j).foldl lF []=A at *;obtain⟨vf,F,rfl,H,G⟩:=I w (K.rf w);have HE:Hid (∀W,K w W->dm x (.agg (aE x vf F)) W):=ae λW k=>⟨_,_,rfl,eO _ _ _ _ H k,bo G k⟩
   have q:∀i,i<8->wr.cell? ⟨b1,O+j*8+i,none⟩=(aE x vf F)[i]?:=λi hi=>(d wr kr i hi).trans Array.getElem?_toList
   have q0:wr.cell? ⟨b1,O+j*8,none⟩=some (.int .i64 x.kind):=X wr kr;have u:=ai.new wr 126 (aE x vf F);have V:=u.aU;obtain⟨Af,cf,rfl⟩:=cA H;obtain⟨Ae,ce,rfl⟩:=av G;clear d X H G I eS;go_upto_region 5 with (fail);generalize wr.alloc _=Y at *;have t:=hO.st V;have y:=kr.tr V;clear q q0 hO;have q:=u.cell;obtain⟨Ao,co,rfl⟩:=t.slice;by_cases hk:x.kind=1
   ·have C:Hid ((B.st.list.take (j+1)).foldl lF []=A):=ae (by rw[L.aa];unfold lF;rw[if_pos hk]);have hk2:(x.kind != 1)=false:=D2;rw[<- C.aa]at t;clear hk;go_wp2;go_roundw
    case rel=>exact⟨j+1,af,bI,by rw[<- C.aa];exact t,y⟩
    case measure=>simp[intOf];omega
   have C:Hid ((B.st.list.take (j+1)).foldl lF []=uv A x):=ae (by rw[L.aa];unfold lF;rw[if_neg hk]);have hk2:(x.kind != 1)=true:=tk;have T:=ae (acA A x _ _ Y t.aq (HE.aa Y y) af hFj qi.1);clear t hk;go_wp2_with fail
   apply rM T.aa y;intro v2 w2 Q k2 ry;have hz1:=y.size;have U:aB (λk=>k<w.heap.size) w.heap.size 246 iI (uv A x) v2 w2:=(Q.less λk hk=>af).low hz1;rw[<- C.aa]at U;clear T Q q;go_wp2;go_roundw
   case rel=>exact⟨j+1,af,bI,U,ry⟩
   case measure=>simp[intOf];omega
  ·have aP:¬(j:Int)<n:=af;obtain rfl:j=n:=af;rw[<- NG.aa]at hO;exact Ql
theorem aqS x y w d:(Op.equalIn (d+1+1+1) 225 (.agg (ib x)) (.agg (ib y))).run prog w=.ok (decide (x=y)) w:=by obtain⟨⟨a,b,c⟩,e⟩:=x;obtain⟨⟨A,B,t⟩,u⟩:=y;simp[ib,go_sem,KO];by_cases j:a=A <;> by_cases D:b=B <;> by_cases E:c=t <;> by_cases C:e=u <;> simp[j,E,D,C] <;> omega
theorem ap2 x y w:(binOp .eql 225 (.agg (ib x)) (.agg (ib y))).run prog w=.ok (.bool (decide (x=y))) w:=by have h:(Op.equal 225 (.agg (ib x)) (.agg (ib y))).run prog w=.ok (decide (x=y)) w:=aqS x y w 9997;exact ahF
theorem ap3 l a v w(h:aq oG l v w)(hlen:l.length<=1000000) :
 Calls prog 291 #[v,.agg (ib a)] w λe w'=>∃i:Int,e=.returned (.int .i64 i)/\K w w'/\decide (0<=i)=l.any λv=>decide (v=a):=by
 obtain⟨D,d,rfl,Z,-⟩:=h
 have u:=ai.new w 225 (ib a)
 have t:=u.aU
 go_enter func291,ntmps291
 go_upto_region 1 with (fail)
 generalize w.alloc _=Q at *
 generalize w.heap.size=g at u⊢
 have qx:=u.cells
 have F:=K.rf Q
 clear u
 go_wp2_with fail
 go_loopw [5,8] (fun _ i wr=>∃j:Nat,j<=l.length/\i=.int .i64 j/\Hid ((l.take j).any (fun v=>decide (v=a))=false)/\K Q wr) (fun _ i _=>l.length-(intOf i).toNat)
 case atStart=>exact⟨0,af,rfl,ae aj,F⟩
 case round =>
  clear F;obtain⟨j,hj,rfl,HT,kr⟩:=hrel;by_cases B:j<l.length
  ·have R:(j:Int)<l.length:=af;obtain⟨A,y,cs1,rfl,Y,N,L,dd⟩:=eB Z j B ax;have HB:=ae (yr (λv=>decide (v=a)) l j B);have U:=ae (yw (λv=>decide (v=a)) l (j+1));generalize l[j]=x at *;obtain rfl:=N w (K.rf w);have O:=λW (kW:K wr W)=>qx W (kr.tr kW)
   have M:∀W,K wr W->W.cell? ⟨A,y+j*4,none⟩=some (.int .i64 x.id.1):=λW kW=>L W (t.tr (kr.tr kW))
   have p1:∀W,K wr W->W.cell? ⟨A,y+j*4+1,none⟩=some (.int .u64 x.id.2.1):=λW kW=>dd W (t.tr (kr.tr kW)) 1 ax
   have p2:∀W,K wr W->W.cell? ⟨A,y+j*4+2,none⟩=some (.int .u64 x.id.2.2):=λW kW=>dd W (t.tr (kr.tr kW)) 2 ax
   have p3:∀W,K wr W->W.cell? ⟨A,y+j*4+3,none⟩=some (.bool x.yes):=λW kW=>dd W (t.tr (kr.tr kW)) 3 ax
   clear Y N L dd;go_upto_region 4 with (fail);have qs:=And.intro M (And.intro p1 (And.intro p2 (And.intro p3 (And.intro O R))));refine dV 5 ?_;iterate 5 refine au.i ?_
   clear qs;intro V W kW hA;simp only[aO,aR,cC,aJ,Nat.reduceAdd]at hA;obtain⟨H,S,X,T,C,-⟩:=hA;have J:=ap2 a x W;refine aH.pure (.bool (decide (a=x))) rfl ?_ ?_
   ·simp[aF,List.lookup,H,C,execOp,aG];rw[show (eqGuard BinOp.eql 225 (Operand.tmp 11) (Operand.tmp 15) (.agg (ib a)) (.agg (ib x))).run prog W=.ok () W from by simp[eqGuard,go_sem]];simp only[Result.andThen_ok,J]
   refine aH.e ?_;have JI:=kr.tr kW;have E:decide (a=x)=decide (x=a):=decide_eq_decide.2 eq_comm;rw[E];clear E J H S X T C M p1 p2 p3 O;generalize G:decide (x=a)=q at *;have HQ:=ae G;clear G;cases q
   ·have nh:Hid ((l.take (j+1)).any (λv=>decide (v=a))=false):=ae af7;exact V3
   ·have HR:=ae (U.aa (by rw[HB.aa];simp));go_wp2;go_ret;exact⟨_,rfl,t.tr JI,by rw[HR.aa];simp⟩
  ·have R:¬(j:Int)<l.length:=af;have HR:=ae (by
    have I:=HT.aa;rw[gQ af]at I;exact I)
   go_wp2;go_ret;exact⟨_,rfl,t.tr kr,fW⟩
theorem aoI l a v w(h:aq oG l v w)(B:l.length<=1000000) :
 Calls prog 250 #[v,.agg (ib a)] w λe w'=>e=.returned (.bool (l.any λv=>decide (v=a)))/\K w w':=by
 have A:=ai.new w 225 (ib a)
 have j:=A.aU
 have C:=ae λW (kW:K w W)=>ap3 l a v W (bo h kW) B
 obtain⟨D,d,rfl⟩:=av h
 clear h
 go_enter func250,ntmps250
 go_wp2_with fail
 generalize w.alloc _=y at *
 refine (C.aa y j).mono ?_
 rintro e F⟨i,rfl,u,t⟩
 have E:=ae t
 clear t
 go_wp2
 go_ret
 exact⟨by rw[<- E.aa];rfl,j.tr u⟩
theorem aqT m a y v g w(h:mj m v w)(hg:ai w g 26 #[.int .i64 a.1,.int .u64 a.2.1,.int .u64 a.2.2])(J:m.cU.length<=1000000) :
 Calls prog 249 #[v,.bool y,.pointer (some ⟨g,0,none⟩)] w λe w'=>e=.returned (.bool (rJ m a y))/\K w w':=by
 have HR:Hid (rJ m a y=m.cU.any λv=>decide (v=⟨a,y⟩)):=ae rfl
 obtain⟨Z,v2,v3,Y,V,X,rfl,j,E,u,A,B,h6⟩:=h
 have W:=ae j
 obtain⟨G,c1,rfl⟩:=av j
 obtain⟨Q,c2,rfl⟩:=av E
 obtain⟨S,c3,rfl⟩:=av u
 obtain⟨L,c4,rfl⟩:=av A
 obtain⟨H,c5,rfl⟩:=av B
 obtain⟨M,F,rfl⟩:=av h6
 generalize N:lA m (.slice G m.cU.length c1) (.slice Q m.asks.length c2) (.slice S m.entries.length c3) (.slice L m.fe.length c4) (.slice H m.dQ.length c5) (.slice M m.ends.length F)=T
 have hb:=ai.new w 156 T
 have t:=hb.aU
 subst N
 have C:=hg.ay t
 have D:=ae (aoI m.cU ⟨a,y⟩ _ _ (bo j t) J)
 generalize rJ m a y=R at *
 clear j E u A B h6 hg
 go_enter func249,ntmps249
 go_upto_region 1 with (fail)
 generalize w.alloc _=w1 at *
 have q:=hb.cell
 have O:=C.cell
 go_wp2_with fail
 apply cG D.aa t
 intro U k2 I
 clear D q O hb C
 go_wp2
 go_ret
 exact⟨fW,I⟩
theorem ada kids a v w(h:aq yi kids v w)(hlen:kids.length<=1000000)(hv:∀m∈kids,m.cU.length<=1000000) :
 Calls prog 153 #[v,cN a] w λe w'=>e=.returned (.int .i64 (jo kids a))/\K w w':=by
 have HR:Hid (jo kids a=if kids.any (λk=>rJ k a false)then 2 else if kids.all (λk=>rJ k a true)then 1 else 0):=ae rfl
 obtain⟨A,c,rfl,hl,-⟩:=h
 have HV:=ae hv
 have hb:=ai.new w 26 #[.int .i64 a.1,.int .u64 a.2.1,.int .u64 a.2.2]
 have u:=hb.aU
 generalize jo kids a=R at *
 clear hv
 go_enter func153,ntmps153
 go_wp2
 go_step3
 generalize w.alloc _=w1 at *
 generalize w.heap.size=ga at hb⊢
 have T:=K.rf w1
 go_wp2_with fail
 go_step3
 go_wp2_with fail
 go_loopw [6,8,12] (fun o _ i W=>∃j:Nat,j<=kids.length/\i=.int .i64 j/\(∃z:Int,o=.int .i64 z/\Hid (z=if (kids.take j).all (fun k=>rJ k a true)then 1 else 0))/\Hid ((kids.take j).any (fun k=>rJ k a false)=false)/\K w1 W) (fun _ _ i _=>kids.length-(intOf i).toNat)
 case atStart=>exact⟨0,af,rfl,⟨1,rfl,ae aj⟩,ae aj,T⟩
 case round =>
  clear T;obtain⟨j,hj,rfl,⟨z,rfl,N⟩,D,kr⟩:=hrel;by_cases t:j<kids.length
  ·have aP:(j:Int)<kids.length:=af;obtain⟨b1,o1,cs1,rfl,eS,hr1,d0,dd⟩:=eB hl j t ax;have HB:=ae (yr (λk=>rJ k a false) kids j t);have HA:=ae (yw (λk=>rJ k a false) kids (j+1));have O:=ae (Im (λk=>rJ k a true) kids j t);have hmv:=HV.aa _ (bZ t);generalize kids[j]=m at *;have pF:=u.tr kr;obtain⟨v1,v2,v3,Y,Q,V,rfl,J,B,C,L,M,H⟩:=hr1 w (K.rf w);have HM:Hid (∀W,K w W->mj m (.agg (lA m v1 v2 v3 Y Q V)) W):=ae λW k=>⟨_,_,_,_,_,_,rfl,bo J k,bo B k,bo C k,bo L k,bo M k,bo H k⟩
   have q9:∀i,i<8->wr.cell? ⟨b1,o1+j*8+i,none⟩=(lA m v1 v2 v3 Y Q V)[i]?:=λi hi=>(dd wr pF i hi).trans Array.getElem?_toList
   have q0:wr.cell? ⟨b1,o1+j*8,none⟩=some (.int .i64 m.kind):=d0 wr pF;obtain⟨A1,c1,rfl⟩:=av J;obtain⟨A2,c2,rfl⟩:=av B;obtain⟨A3,c3,rfl⟩:=av C;obtain⟨A4,c4,rfl⟩:=av L;obtain⟨A5,c5,rfl⟩:=av M;obtain⟨A6,c6,rfl⟩:=av H;have I:=ai.new wr 156 (lA m (.slice A1 m.cU.length c1) (.slice A2 m.asks.length c2) (.slice A3 m.entries.length c3) (.slice A4 m.fe.length c4) (.slice A5 m.dQ.length c5) (.slice A6 m.ends.length c6));have k3:=I.aU;clear dd d0 eS hr1 J B C L M H;go_upto_region 6 with (fail);generalize wr.alloc _=X at *;have F:=kr.tr k3;clear q9 q0;have q8:=I.cell;have G:=ae λW (k:K X W) y=>aqT m a y _ ga W (HM.aa W (u.tr (F.tr k))) (hb.ay (F.tr k)) hmv
   go_wp2_with fail
   apply cG (G.aa X (K.rf _) false) F;intro w4 S Z;have b5:=(I.ay S).cell;clear q8;cases hb0:rJ m a false;rotate_left
   ·have HF:Hid (R=2):=ae (by rw[HR.aa,if_pos (HA.aa (by rw[HB.aa,hb0];simp))]);have kF:=u.tr Z;clear D hb0 N;go_wp2;rw[iq];exact Cd
   have U:Hid ((kids.take (j+1)).any (λk=>rJ k a false)=false):=ae (by rw[HB.aa,D.aa,hb0];rfl);clear hb0;go_wp2_with fail
   apply cG (G.aa w4 S true) Z;intro w5 k5 lM;clear b5 G;cases aN:rJ m a true
   ·have E:Hid ((0:Int)=if (kids.take (j+1)).all (λk=>rJ k a true)then 1 else 0):=ae (by rw[O.aa,aN];simp);clear aN;go_wp2;go_roundw
    case rel=>exact⟨j+1,af,bI,⟨0,rfl,E⟩,U,lM⟩
    case measure=>simp[intOf];omega
   ·have E:Hid (z=if (kids.take (j+1)).all (λk=>rJ k a true)then 1 else 0):=ae (by rw[O.aa,aN,N.aa];simp);clear aN;go_wp2;go_roundw
    case rel=>exact⟨j+1,af,bI,⟨z,rfl,E⟩,U,lM⟩
    case measure=>simp[intOf];omega
  ·have aP:¬(j:Int)<kids.length:=af;have HF:Hid (R=z):=ae (by
    have h1:=D.aa;have h2:=N.aa;rw[gQ af]at h1 h2;rw[HR.aa,h1,h2];rfl)
   have kF:=u.tr kr;go_wp2;exact Cd
theorem asn l v q(f:Nat) cs w(h:aq aV l v w)(T:l.length<=1000000)(U:∀args W,(callFunc f args).run prog W=.ok (.enter f args) W)
 (H:∀W,K w W->∀x∈l,∀u,dm x u W->Calls prog f (#[u]++cs) W λe W'=>e=.returned (.bool (q x))/\K W W') :
 Calls prog 236 #[v,.func (.func f) #[] cs] w λe w'=>∃i:Int,e=.returned (.int .i64 i)/\K w w'/\decide (0<=i)=l.any q:=by
 have E:=K.rf w
 obtain⟨A,c,rfl,h,-⟩:=h
 have M:=ae H
 clear H
 go_enter func236,ntmps236
 go_wp2_with fail
 go_loopw [5,8] (fun _ i wr=>∃k:Nat,k<=l.length/\i=.int .i64 k/\Hid ((l.take k).any q=false)/\K w wr) (fun _ i _=>l.length-(intOf i).toNat)
 case atStart=>exact⟨0,af,rfl,ae aj,E⟩
 case round =>
  clear E;obtain⟨k,hk,rfl,hall,kr⟩:=hrel;by_cases y:k<l.length
  ·have fM:(k:Int)<l.length:=af;obtain⟨J,G,V,rfl,Q,D,C,d⟩:=eB h k y ax;have HB:=ae (yr q l k y);have HA:=ae (yw q l (k+1));have hm:=bZ y;generalize l[k]=t at *;obtain⟨vf,B,rfl,F,I⟩:=D wr kr;have C:∀W,K w W->W.cell? ⟨J,G+k*8,none⟩=some (.int .i64 t.kind):=C;have d:∀W,K w W->∀i,i<8->W.cell? ⟨J,G+k*8+i,none⟩=(aE t vf B)[i]?:=λW j N=>λO=>(d W j N O).trans Array.getElem?_toList
   have L:=ae (M.aa wr kr t hm (.agg (aE t vf B)) ⟨vf,B,rfl,F,I⟩);clear D Q hm;go_wp2_with fail
   apply cG L.aa kr;intro R S kW;clear d C F I L;exact WV
  ·exact WW
theorem O8 l v q(f:Nat) cs w(h:aq aV l v w)(C:l.length<=1000000)(D:∀args W,(callFunc f args).run prog W=.ok (.enter f args) W)
 (y:∀W,K w W->∀x∈l,∀u,dm x u W->Calls prog f (#[u]++cs) W λe W'=>e=.returned (.bool (q x))/\K W W') :
 Calls prog 142 #[v,.func (.func f) #[] cs] w λe w'=>e=.returned (.bool (l.any q))/\K w w':=by
 have t:=ae (asn l v q f cs w h C D y)
 obtain⟨A,c,rfl⟩:=av h
 clear h y
 generalize l.any q=R at *
 go_enter func142,ntmps142
 go_wp2_with fail
 refine t.aa.mono ?_
 rintro e E⟨i,rfl,B,j⟩
 have HR:=ae j
 clear t j
 go_wp2
 go_ret
 exact⟨WX,B⟩
theorem ap4 x a v g w(h:dm x v w)(hg:ai w g 26 #[.int .i64 a.1,.int .u64 a.2.1,.int .u64 a.2.2]) :
 Calls prog 286 #[v,.pointer (some ⟨g,0,none⟩)] w λe w'=>e=.returned (.bool (ig a x))/\K w w':=by
 obtain⟨vf,G,rfl,t,j⟩:=h
 obtain⟨A,c,rfl⟩:=cA t
 obtain⟨D,d,rfl⟩:=av j
 clear t j
 have y:=ae (KZ a x)
 have q:=hg.cells
 have F:=λo=>(K.rf w).al o
 obtain⟨B,E,C⟩:=a
 obtain⟨k,b,l,s,cl,u,f,es⟩:=x
 simp only at q y⊢
 generalize ig (B,E,C) ⟨k,b,l,s,cl,u,f,es⟩=R at *
 go_enter func286,ntmps286
 go_wp2
 all_goals
  go_ret
  refine⟨?_,(K.rf w).al _⟩
  rw[y.aa]
  show Ending.returned (.bool _)=Ending.returned (.bool _)
  clear q F
  first|(simp_all;done)|(simp_all;omega)|(congr 2;rw[Bool.eq_iff_iff];simp_all;omega)
theorem apn x a v g w(h:dm x v w)(hg:ai w g 26 #[.int .i64 a.1,.int .u64 a.2.1,.int .u64 a.2.2]) :
 Calls prog 300 #[v,.pointer (some ⟨g,0,none⟩)] w λe w'=>e=.returned (.bool (ig a x))/\K w w':=by
 obtain⟨vf,G,rfl,t,j⟩:=h
 obtain⟨A,c,rfl⟩:=cA t
 obtain⟨D,d,rfl⟩:=av j
 clear t j
 have y:=ae (KZ a x)
 have q:=hg.cells
 have F:=λo=>(K.rf w).al o
 obtain⟨B,E,C⟩:=a
 obtain⟨k,b,l,s,cl,u,f,es⟩:=x
 simp only at q y⊢
 generalize ig (B,E,C) ⟨k,b,l,s,cl,u,f,es⟩=R at *
 go_enter func300,ntmps300
 go_wp2
 all_goals
  go_ret
  refine⟨?_,(K.rf w).al _⟩
  rw[y.aa]
  show Ending.returned (.bool _)=Ending.returned (.bool _)
  clear q F
  first|(simp_all;done)|(simp_all;omega)|(congr 2;rw[Bool.eq_iff_iff];simp_all;omega)
theorem aso x y v F G g w(h:dm x v w)(hg:ai w g 126 (aE y F G)) :
 Calls prog 157 #[v,.pointer (some ⟨g,0,none⟩)] w λe w'=>e=.returned (.bool (ig (ar y) x))/\K w w':=by
 obtain⟨vf,M,rfl,C,t⟩:=h
 obtain⟨A,c,rfl⟩:=cA C
 obtain⟨D,d,rfl⟩:=av t
 clear C t
 have j:Hid (ig (ar y) x=(decide (x.br=y.br)&&decide (x.life=y.life)&&decide (x.b6=y.b6))):=ae (KZ (y.br,y.life,y.b6) x)
 have q:=hg.cells
 have H:=λo=>(K.rf w).al o
 generalize ig (ar y) x=R at *
 obtain⟨L,J,B,E,N,I,O,yes⟩:=y
 obtain⟨k,b,l,s,cl,u,f,es⟩:=x
 simp only at q j⊢
 clear hg
 go_enter func157,ntmps157
 go_wp2
 all_goals
  go_ret
  refine⟨?_,(K.rf w).al _⟩
  rw[j.aa]
  show Ending.returned (.bool _)=Ending.returned (.bool _)
  clear q H j
  rw[show decide (l=B)=decide ((l:Int)=B)from decide_eq_decide.2 af,show decide (s=E)=decide ((s:Int)=E)from decide_eq_decide.2 af]
  simp[*]
theorem aqU x y v F G g w(h:dm x v w)(hg:ai w g 126 (aE y F G)) :
 Calls prog 143 #[v,.pointer (some ⟨g,0,none⟩)] w λe w'=>e=.returned (.bool (ig (ar y) x))/\K w w':=by
 obtain⟨vf,M,rfl,C,t⟩:=h
 obtain⟨A,c,rfl⟩:=cA C
 obtain⟨D,d,rfl⟩:=av t
 clear C t
 have j:Hid (ig (ar y) x=(decide (x.br=y.br)&&decide (x.life=y.life)&&decide (x.b6=y.b6))):=ae (KZ (y.br,y.life,y.b6) x)
 have q:=hg.cells
 have H:=λo=>(K.rf w).al o
 generalize ig (ar y) x=R at *
 obtain⟨L,J,B,E,N,I,O,yes⟩:=y
 obtain⟨k,b,l,s,cl,u,f,es⟩:=x
 simp only at q j⊢
 clear hg
 go_enter func143,ntmps143
 go_wp2
 all_goals
  go_ret
  refine⟨?_,(K.rf w).al _⟩
  rw[j.aa]
  show Ending.returned (.bool _)=Ending.returned (.bool _)
  clear q H j
  rw[show decide (l=B)=decide ((l:Int)=B)from decide_eq_decide.2 af,show decide (s=E)=decide ((s:Int)=E)from decide_eq_decide.2 af]
  simp[*]
theorem acD l a v w(h:aq aV l v w)(E:l.length<=1000000) :
 Calls prog 231 #[v,cN a] w λe w'=>e=.returned (.bool (bV l a))/\K w w':=by
 have hb:=ai.new w 26 #[.int .i64 a.1,.int .u64 a.2.1,.int .u64 a.2.2]
 have j:=hb.aU
 have HR:Hid (bV l a=l.any (ig a)):=ae rfl
 have H:=ae h
 obtain⟨A,c,rfl⟩:=av h
 generalize bV l a=R at *
 clear h
 go_enter func231,ntmps231
 go_upto_region 1 with (fail)
 generalize w.alloc _=C at *
 generalize w.heap.size=t at hb⊢
 have y:=ae (O8 l _ (ig a) 286 #[.pointer (some ⟨t,0,none⟩)] C (bo H.aa j) E (λ_ _=>cV) (λW k x _ u D=>ap4 x a u t W D (hb.ay k)))
 clear hb
 go_wp2_with fail
 apply cG y.aa j
 intro G F B
 clear y
 go_wp2
 go_ret
 exact⟨fW,B⟩
theorem ab8 l a v w(h:aq aV l v w)(E:l.length<=1000000) :
 Calls prog 262 #[v,cN a] w λe w'=>e=.returned (.bool (bV l a))/\K w w':=by
 have hb:=ai.new w 26 #[.int .i64 a.1,.int .u64 a.2.1,.int .u64 a.2.2]
 have j:=hb.aU
 have HR:Hid (bV l a=l.any (ig a)):=ae rfl
 have H:=ae h
 obtain⟨A,c,rfl⟩:=av h
 generalize bV l a=R at *
 clear h
 go_enter func262,ntmps262
 go_upto_region 1 with (fail)
 generalize w.alloc _=C at *
 generalize w.heap.size=t at hb⊢
 have y:=ae (O8 l _ (ig a) 300 #[.pointer (some ⟨t,0,none⟩)] C (bo H.aa j) E (λ_ _=>cV) (λW k x _ u D=>apn x a u t W D (hb.ay k)))
 clear hb
 go_wp2_with fail
 apply cG y.aa j
 intro G F B
 clear y
 go_wp2
 go_ret
 exact⟨fW,B⟩
