/-
  The walks of event.Find and of the document's Find (layer 4). Conditions: none.
-/
import Derived.Test.YtfndfpdhlbmboaaGreatMa17
import Derived.Test.YtfndfpdhlbmboaaGreatMz
set_option maxRecDepth 100000
set_option linter.constructorNameAsVariable false
set_option maxHeartbeats 16000000
set_option linter.unusedVariables false
set_option linter.unusedSimpArgs false
namespace Go.Proofs.YtfndfpdhlbmboaaGreat
open Go Go.RowKit _root_.Go.Proofs.Tryz
theorem aqn x s g w(hg:w.cell? ⟨g,0,none⟩=some (.string s)) :
 Calls prog 320 #[azg x,.pointer (some ⟨g,0,none⟩)] w λe w'=>e=.returned (.bool (mC s x))/\Below w.heap.size w w':=by
 have j:g<w.heap.size:=Kw hg
 obtain⟨a,k,n,t⟩:=x
 go_enter func320,ntmps320
 go_wp2
 go_ret
 refine⟨?_,(cM _ _).alloc (aC _) _⟩
 show Ending.returned (.bool _)=Ending.returned (.bool _)
 rw[KO];rfl
theorem abe A c(l:List cT) s g w B(G:Reads w B 4 A l.length (l.flatMap mV))(u:B<=w.heap.size)(Z:l.length<=1000000)(hg:w.cell? ⟨g,0,none⟩=some (.string s)) r
 (D:(∃k,∃hk:k<l.length,r=(k:Int)/\mC s l[k]=true/\∀x∈l.take k,mC s x=false)∨(r=-1/\∀x∈l,mC s x=false)) :
 Calls prog 321 #[.slice A l.length c,.func (Fn.func 320) #[] #[.pointer (some ⟨g,0,none⟩)]] w λe w'=>e=.returned (.int .i64 r)/\Below w.heap.size w w':=by
 have O:g<w.heap.size:=Kw hg
 have L:=ae D
 have R:=ae G
 clear D G
 go_enter func321,ntmps321
 go_wp2_with fail
 go_loopw [8] (fun i wr=>∃k:Nat,k<=l.length/\i=.int .i64 k/\Hid (∀x∈l.take k,mC s x=false)/\Below w.heap.size w wr) (fun i _=>l.length-(intOf i).toNat)
 case atStart=>exact⟨0,af,rfl,ae aj,cM _ _⟩
 case round =>
  obtain⟨k,hk,rfl,hall,hb⟩:=hrel;by_cases hlt:k<l.length
  ·have U:(k:Int)<l.length:=af;obtain⟨b,y,rfl,t,N⟩:=R.aa.QT af;obtain⟨H,F,I,J⟩:=N k hlt;have d0:=(hb.cell (p:=⟨b,y+k*4,none⟩) (bz t u)).trans H;have d1:=(hb.cell (p:=⟨b,y+k*4+1,none⟩) (bz t u)).trans F;have d2:=(hb.cell (p:=⟨b,y+k*4+2,none⟩) (bz t u)).trans I;have d3:=(hb.cell (p:=⟨b,y+k*4+3,none⟩) (bz t u)).trans J;have V:=(hb.cell (p:=⟨g,0,none⟩) O).trans hg;clear H F I J N;have hz:=hb.size;have E:=ae (λh=>adS l s k hlt h hall.aa);have Q:Hid (mC s l[k]=false->∀x∈l.take (k+1),mC s x=false):=agH;have X:Hid (mC s l[k]=true->(k:Int)=r):=by
    refine ae λh=>?_
    rcases L.aa with ⟨j,W,rfl,h1,T⟩|⟨_,h1⟩
    ·have:=E.aa h;have:k=j:=by
      rcases Nat.lt_trichotomy k j with C|C|C
      ·have:=T l[k] (List.mem_take_iff_getElem.2 ⟨k,af,rfl⟩);rw[h]at this;cases this
      ·exact C
      ·exact ahg
     rw[this]
    ·have:=h1 l[k] (bS hlt);rw[h]at this;cases this
   clear E;generalize l[k]=x at *;go_wp2_with fail
   refine (aqn x s g wr V).mono ?_;rintro e w2⟨rfl,Y⟩;have M:=hb.trans (Y.mono hz);cases hx:mC s x
   ·have S:=ae (Q.aa hx);go_wp2;go_roundw
    case rel=>exact⟨k+1,af,bJ,S,M⟩
    case measure=>simp[intOf];omega
   ·have HE:=ae (X.aa hx);go_wp2;go_ret;exact⟨by rw[<- HE.aa];rfl,M⟩
  ·have U:¬(k:Int)<l.length:=af;have HE:Hid (r=-1):=by
    refine ae ?_;rcases L.aa with ⟨j,W,_,h1,_⟩|⟨h,_⟩
    ·exact ahg
    ·exact h
   go_wp2;exact Pt
theorem arR A c l s w B(D:Reads w B 4 A l.length (l.flatMap mV))(E:B<=w.heap.size)(X:l.length<=1000000) :
 Calls prog 301 #[.slice A l.length c,.string s] w λe w'=>e=.returned (BL l s)/\Below w.heap.size w w':=by
 have Ek:Below w.heap.size w (w.alloc (.cells #[.string s] 9)):=(cM _ _).alloc (aC _) _
 have u:Below w.heap.size w ((w.alloc (.cells #[.string s] 9)).alloc (.cells #[.int .i64 0,.int .i64 0,.string { data:=#[] }] 71)):=Ek.alloc aj _
 have hx:=(ah.new w 9 #[.string s]).alloc (.cells #[.int .i64 0,.int .i64 0,.string { data:=#[] }] 71)
 have hy:=ah.new (w.alloc (.cells #[.string s] 9)) 71 #[.int .i64 0,.int .i64 0,.string { data:=#[] }]
 have G:((w.alloc (.cells #[.string s] 9)).alloc (.cells #[.int .i64 0,.int .i64 0,.string { data:=#[] }] 71)).cell? ⟨w.heap.size,0,none⟩=some (.string s):=hx.cell 0
 have F:=D.below u E
 rcases adT s l with ⟨k,hk,t,R⟩|t
 ·have C:=adS l s k hk t R;have HE:Hid (BL l s=.tuple #[vv l[k].2.1 l[k].2.2.1 l[k].2.2.2,.bool true]):=ae (by simp[BL,C]);have L:=ae (abe A c l s w.heap.size _ B F aY X G (k:Int) (.inl ⟨k,hk,rfl,t,R⟩));obtain⟨b,U,rfl,N,hcell⟩:=D.QT af;obtain⟨W,H,O,S⟩:=hcell k hk;clear hcell C t R G D;have pg:(k:Int)<l.length:=af;generalize l[k]=x at *;obtain⟨xs,xk,Z,Y⟩:=x;simp only at W H O S HE;go_enter func301,ntmps301;go_wp2_with fail
  refine L.aa.mono ?_;rintro e w3⟨rfl,y⟩;have dQ:=u.trans (y.mono u.size);have d1:=(dQ.cell (p:=⟨b,U+k*4+1,none⟩) (bz N E)).trans H;have d2:=(dQ.cell (p:=⟨b,U+k*4+2,none⟩) (bz N E)).trans O;have d3:=(dQ.cell (p:=⟨b,U+k*4+3,none⟩) (bz N E)).trans S;have j:=hy.below y aj;have V:=j.frozen 0;have I:=j.frozen 1;have Q:=j.frozen 2;have M:=j.cell 0;have T:=j.cell 1;have J:=j.cell 2;simp at V I Q M T J;clear W H O S F;go_wp2;have hz:=((j.aM 0 (.int .i64 xk)).aM 1 (.int .i64 Z)).aM 2 (.string Y);have g0:=hz.cell 0;have g1:=hz.cell 1;have g2:=hz.cell 2;simp at g0 g1 g2;refine bodyPost_ret (v:=.tuple #[vv xk Z Y,.bool true]) ahh rfl ⟨KS,?_⟩;exact ahi
 ·have C:=asB l s t;have HE:Hid (BL l s=.tuple #[vv 0 0 { data:=#[] },.bool false]):=ae (by simp[BL,C]);have L:=ae (abe A c l s w.heap.size _ B F aY X G (-1) (.inr ⟨rfl,t⟩));clear C t G D;go_enter func301,ntmps301;go_wp2_with fail
  refine L.aa.mono ?_;rintro e w3⟨rfl,y⟩;have dQ:=u.trans (y.mono u.size);have j:=hy.below y aj;have V:=j.frozen 0;have I:=j.frozen 1;have Q:=j.frozen 2;have M:=j.cell 0;have T:=j.cell 1;have J:=j.cell 2;simp at V I Q M T J;clear F;go_wp2;have hz:=((j.aM 0 (.int .i64 0)).aM 1 (.int .i64 0)).aM 2 (.string { data:=#[] });have g0:=hz.cell 0;have g1:=hz.cell 1;have g2:=hz.cell 2;simp at g0 g1 g2;refine bodyPost_ret (v:=.tuple #[vv 0 0 { data:=#[] },.bool false]) ahh rfl ⟨KS,?_⟩;exact ahi
section
variable {l la lb:List cT} {b:List UInt8} {v va vb:Value} {w:World}
theorem aed s(h:iU l v w)(t:l.length<=1000000):Calls prog 301 #[v,.string s] w λe w'=>e=.returned (BL l s)/\Below w.heap.size w w':=by obtain⟨A,c,rfl,j⟩:=h;exact arR A c l s w _ j (aC _) t
end
theorem aqo e s:(∃x:cT,e.find? (mC s)=some x/\BL e s=.tuple #[vv x.2.1 x.2.2.1 x.2.2.2,.bool true])∨(e.find? (mC s)=none/\BL e s=.tuple #[vv 0 0 { data:=#[] },.bool false]):=by
 unfold BL
 cases h:e.find? (mC s)with
 | none=>exact .inr ⟨rfl,rfl⟩
 | some x=>exact .inl ⟨x,rfl,rfl⟩
theorem aqp t e v w(Q:iU e v w)(I:e.length<=1000000) :
 Calls prog 264 #[qP t,v] w λr w'=>r=.returned (.bool (rH t e))/\Below w.heap.size w w':=by
 obtain⟨s,op,k,n,x⟩:=t
 have F:Below w.heap.size w (w.alloc (.cells #[.string s,.int .i64 op,.int .i64 k,.int .i64 n,.string x] 73)):=(cM _ _).alloc (aC _) _
 have N:=ah.new w 73 #[.string s,.int .i64 op,.int .i64 k,.int .i64 n,.string x]
 have J:=pE _ _ _ _ Q F
 rcases aqo e s with ⟨y,hf,D⟩|⟨hf,D⟩
 ·have G:Hid (∀W,iU e v W->Calls prog 301 #[v,.string s] W λr w'=>r=.returned (.tuple #[vv y.2.1 y.2.2.1 y.2.2.2,.bool true])/\Below W.heap.size W w'):=ae λW h=>by have:=aed s h I;rwa [D]at this
  have HE:Hid (rH (s,op,k,n,x) e=iV (s,op,k,n,x) y.2):=ae ahj;clear hf D;obtain⟨X,j,u,A⟩:=y;simp only at G HE;go_enter func264,ntmps264;go_wp2_with fail
  refine (G.aa _ J).mono ?_;rintro r B⟨rfl,H⟩;have C:=(N.av H).alloc (.cells #[.int .i64 j,.int .i64 u,.string A] 71);have E:=F.trans (H.mono F.size);have L:Below w.heap.size w (B.alloc (.cells #[.int .i64 j,.int .i64 u,.string A] 71)):=E.alloc E.size _;have x0:(B.alloc (.cells #[.int .i64 j,.int .i64 u,.string A] 71)).cell? ⟨w.heap.size,0,none⟩=some (.string s):=C.cell 0;have Y:(B.alloc (.cells #[.int .i64 j,.int .i64 u,.string A] 71)).cell? ⟨w.heap.size,1,none⟩=some (.int .i64 op):=C.cell 1;have U:(B.alloc (.cells #[.int .i64 j,.int .i64 u,.string A] 71)).cell? ⟨w.heap.size,2,none⟩=some (.int .i64 k):=C.cell 2;have V:(B.alloc (.cells #[.int .i64 j,.int .i64 u,.string A] 71)).cell? ⟨w.heap.size,3,none⟩=some (.int .i64 n):=C.cell 3;have Z:(B.alloc (.cells #[.int .i64 j,.int .i64 u,.string A] 71)).cell? ⟨w.heap.size,4,none⟩=some (.string x):=C.cell 4;go_upto_region 2 with (fail);have hn:=ah.new B 71 #[.int .i64 j,.int .i64 u,.string A];have S:=hn.cell 0;have T:=hn.cell 1;have R:=hn.cell 2;generalize M:B.alloc (.cells #[.int .i64 j,.int .i64 u,.string A] 71)=w2 at *;clear M hn C;go_wp2_with fail
  refine (aec (s,op,k,n,x) (j,u,A) _).mono ?_;rintro r w3⟨rfl,O⟩;go_wp2;go_ret;exact⟨gX,L.trans (O.mono L.size)⟩
 ·have G:Hid (∀W,iU e v W->Calls prog 301 #[v,.string s] W λr w'=>r=.returned (.tuple #[vv 0 0 { data:=#[] },.bool false])/\Below W.heap.size W w'):=ae λW h=>by have:=aed s h I;rwa [D]at this
  have HE:Hid (rH (s,op,k,n,x) e=false):=ae ahj;clear hf D;go_enter func264,ntmps264;go_wp2_with fail
  refine (G.aa _ J).mono ?_;rintro r B⟨rfl,H⟩;have E:=F.trans (H.mono F.size);go_wp2;go_ret;exact⟨gX,E.alloc E.size _⟩
theorem apy(l:List dt) e k(h:k<l.length)(ha:∀t∈l.take k,rH t e=true)(hb:rH l[k] e=true):∀t∈l.take (k+1),rH t e=true:=aeW
theorem aqq l e k(h:k<l.length)(hb:rH l[k] e=false):mL l e=false:=by unfold mL;exact aeE
theorem apz l e(h:∀t∈l.take l.length,rH t e=true):mL l e=true:=by rw[lL]at h;exact List.all_eq_true.2 h
theorem abq A c l e v w B(H:Reads w B 5 A l.length (l.flatMap fF))(Z:B<=w.heap.size)(wy:l.length<=1000000)(N:iU e v w)(W:e.length<=1000000) :
 Calls prog 174 #[.slice A l.length c,v] w λr w'=>r=.returned (.bool (mL l e))/\Below w.heap.size w w':=by
 have V:=ae H
 have HV:=ae N
 clear H N
 go_enter func174,ntmps174
 go_wp2
 go_step3
 go_wp2_with fail
 go_step3
 go_wp2_with fail
 go_loopw [5,10] (fun m i wr=>∃k:Nat,k<=l.length/\i=.int .i64 k/\m=.bool true/\Hid (∀t∈l.take k,rH t e=true)/\Below w.heap.size w wr) (fun _ i _=>l.length-(intOf i).toNat)
 case atStart=>exact⟨0,af,rfl,rfl,ae aj,cM _ _⟩
 case round =>
  obtain⟨k,hk,rfl,rfl,O,hb⟩:=hrel;by_cases E:k<l.length
  ·have Y:(k:Int)<l.length:=af;obtain⟨b,u,rfl,X,R⟩:=V.aa.LF af;obtain⟨I,G,J,L,S⟩:=R k E;have j:=bz X Z;have d0:=(hb.cell (p:=⟨b,u+k*5,none⟩) j).trans I;have d1:=(hb.cell (p:=⟨b,u+k*5+1,none⟩) j).trans G;have d2:=(hb.cell (p:=⟨b,u+k*5+2,none⟩) j).trans J;have d3:=(hb.cell (p:=⟨b,u+k*5+3,none⟩) j).trans L;have d4:=(hb.cell (p:=⟨b,u+k*5+4,none⟩) j).trans S;have U:=ae (apy l e k E O.aa);have Ej:=ae (aqq l e k E);have hz:=hb.size;clear I G J L S R;generalize l[k]=x at *;obtain⟨xs,y,F,D,C⟩:=x;simp only at d0 d1 d2 d3 d4;have M:Below wr.heap.size wr (wr.alloc (.cells #[.string xs,.int .i64 y,.int .i64 F,.int .i64 D,.string C] 73)):=(cM _ _).alloc (aC _) _;have iy:=ae (pE _ _ _ _ (pE _ _ _ _ HV.aa hb) M);go_wp2_with fail
   refine (aqp (xs,y,F,D,C) e v _ iy.aa W).mono ?_;rintro r w2⟨rfl,hb2⟩;have Q:=(hb.trans (M.mono hz)).trans (hb2.mono aY);cases hh:rH (xs,y,F,D,C) e
   ·have HE:=ae (Ej.aa hh);clear hh;go_wp2;try rw[gq]
    go_ret;exact⟨gX,Q⟩
   ·have T:=ae (U.aa hh);clear hh;go_wp2;go_roundw
    case rel=>exact⟨k+1,af,bJ,KL,T,Q⟩
    case measure=>simp[intOf];omega
  ·have Y:¬(k:Int)<l.length:=af;have HE:=ae (apz l e (by
    have:=O.aa;rwa [show k=l.length by omega]at this))
   go_wp2;try rw[gq]
   exact Pt
theorem aqr{l e vf j w}(B:fu l vf w)(y:l.length<=1000000)(C:iU e j w)(u:e.length<=1000000) :
 Calls prog 174 #[vf,j] w λr w'=>r=.returned (.bool (mL l e))/\Below w.heap.size w w':=by
 obtain⟨A,c,rfl,t⟩:=B
 exact abq A c l e j w _ t (aC _) y C u
theorem arS l v q(f:Nat) cs w(h:aq iu l v w)(R:l.length<=1000000)(T:∀args W,(callFunc f args).run prog W=.ok (.enter f args) W)
 (H:∀W,K w W->∀x∈l,∀u,sub x u W->Calls prog f (#[u]++cs) W λe W'=>e=.returned (.bool (q x))/\K W W') :
 Calls prog 263 #[v,.func (.func f) #[] cs] w λe w'=>∃i:Int,e=.returned (.int .i64 i)/\K w w'/\decide (0<=i)=l.any q:=by
 have G:=K.rf w
 obtain⟨A,c,rfl,h,-⟩:=h
 have Q:=ae H
 clear H
 go_enter func263,ntmps263
 go_wp2_with fail
 go_loopw [5,8] (fun _ i wr=>∃k:Nat,k<=l.length/\i=.int .i64 k/\Hid ((l.take k).any q=false)/\K w wr) (fun _ i _=>l.length-(intOf i).toNat)
 case atStart=>exact⟨0,af,rfl,ae aj,G⟩
 case round =>
  clear G;obtain⟨k,hk,rfl,hall,kr⟩:=hrel;by_cases B:k<l.length
  ·have M:(k:Int)<l.length:=af;obtain⟨E,I,S,rfl,L,F,y,d⟩:=ed h k B ay;have HB:=ae (xP q l k B);have HA:=ae (xQ q l (k+1));have hm:=bS B;generalize l[k]=t at *;obtain⟨vf,rfl,D⟩:=F wr kr;have y:∀W,K w W->W.cell? ⟨E,I+k*3,none⟩=some (.int .i64 t.cl):=y;have d:∀W,K w W->∀i,i<3->W.cell? ⟨E,I+k*3+i,none⟩=(mz t vf)[i]?:=λW j O=>λN=>(d W j O N).trans Array.getElem?_toList
   have C:=ae (Q.aa wr kr t hm (.agg (mz t vf)) ⟨vf,rfl,D⟩);clear F L hm;go_wp2_with fail
   refine C.aa.mono ?_;rintro e U⟨rfl,J⟩;have kW:=kr.tr J;clear d y D C;exact Wl
  ·have M:¬(k:Int)<l.length:=af;exact Wm
theorem aqs l v q(f:Nat) cs w(h:aq iu l v w)(B:l.length<=1000000)(D:∀args W,(callFunc f args).run prog W=.ok (.enter f args) W)
 (y:∀W,K w W->∀x∈l,∀u,sub x u W->Calls prog f (#[u]++cs) W λe W'=>e=.returned (.bool (q x))/\K W W') :
 Calls prog 172 #[v,.func (.func f) #[] cs] w λe w'=>e=.returned (.bool (l.any q))/\K w w':=by
 have t:=ae (arS l v q f cs w h B D y)
 obtain⟨A,c,rfl⟩:=aw h
 clear h y
 generalize l.any q=R at *
 go_enter func172,ntmps172
 go_wp2_with fail
 refine t.aa.mono ?_
 rintro e E⟨i,rfl,C,j⟩
 have HR:=ae j
 clear t j
 go_wp2
 go_ret
 exact⟨Wn,C⟩
theorem atH s c v g w(h:sub s v w)(hg:ah w g 3 #[.int .i64 c]) :
 Calls prog 168 #[v,.pointer (some ⟨g,0,none⟩)] w λe w'=>e=.returned (.bool (decide (s.cl=c)))/\K w w':=by
 obtain⟨vs,rfl,j⟩:=h
 obtain⟨A,d,rfl⟩:=b6 j
 have t:=K.new w (.cells (mz s (.slice A s.f.length d)) 246)
 have q:=hg.cells
 clear j hg
 go_enter func168,ntmps168
 go_wp2
 go_ret
 refine⟨?_,t⟩
 show Ending.returned (.bool _)=Ending.returned (.bool _)
 rfl
theorem atI s e v t g w(h:sub s v w)(hg:ah w g 51 #[t])(u:iU e t w)(J:s.f.length<=1000000)(F:e.length<=1000000) :
 Calls prog 173 #[v,.pointer (some ⟨g,0,none⟩)] w λr w'=>r=.returned (.bool (mL s.f e))/\K w w':=by
 obtain⟨vs,rfl,C⟩:=h
 have H:=C
 obtain⟨A,d,rfl,B⟩:=C
 have hb:=ah.new w 246 (mz s (.slice A s.f.length d))
 have j:=hb.aS
 have D:=hg.av j
 have y:=ae (abq A d s.f e t _ _ (B.below j (aC _)) j.size J (pE _ _ _ _ u j) F)
 obtain⟨N,L,rfl⟩:=xR u
 generalize mL s.f e=R at *
 clear H B u hg
 go_enter func173,ntmps173
 go_upto_region 1 with (fail)
 generalize w.alloc _=O at *
 have q:=hb.cell
 have G:=D.cell
 go_wp2_with fail
 refine y.aa.mono ?_
 rintro r M⟨rfl,E⟩
 have I:=j.tr E
 clear y q G hb D
 go_wp2
 go_ret
 exact⟨rfl,I⟩
theorem atJ l e v C g w(h:aq iu l v w)(hg:ah w g 132 #[v])(t:iU e C w)(I:l.length<=1000000)(B:∀s∈l,s.f.length<=1000000)(F:e.length<=1000000) :
 Calls prog 171 #[C,.pointer (some ⟨g,0,none⟩)] w λr w'=>r=.returned (.bool (anyS l e))/\K w w':=by
 have HR:Hid (anyS l e=l.any λs=>mL s.f e):=ae rfl
 have T:=ae t
 obtain⟨O,G,rfl⟩:=xR t
 have hb:=ah.new w 51 #[.slice O e.length G]
 have j:=hb.aS
 have D:=hg.av j
 have H:=ae (bo h j)
 have L:=ae B
 obtain⟨A,c,rfl⟩:=aw h
 generalize anyS l e=R at *
 clear h hg t B
 go_enter func171,ntmps171
 go_upto_region 1 with (fail)
 generalize w.alloc _=S at *
 generalize w.heap.size=gb at hb⊢
 have y:=ae (aqs l _ (λs=>mL s.f e) 173 #[.pointer (some ⟨gb,0,none⟩)] S H.aa I (λ_ _=>fk) λW k s Q u N=>atI s e u _ gb W N (hb.av k) (pE _ _ _ _ T.aa (j.tr k)) (L.aa s Q) F)
 have J:=D.cell
 go_wp2_with fail
 refine y.aa.mono ?_
 rintro r U⟨rfl,E⟩
 have M:=j.tr E
 clear y J hb D
 go_wp2
 go_ret
 exact⟨fE,M⟩
theorem aqt l c x v vx w(h:aq iu l v w)(hx:cV x vx w)(hlen:l.length<=1000000)(hs:∀s∈l,s.f.length<=1000000)(F:eB x) :
 Calls prog 104 #[v,.int .i64 c,vx] w λe w'=>∃v',e=.returned v'/\aV w.heap.size w.heap.size 51 cG (oP l c x) v' w'/\K w w':=by
 have B:Hid (oP l c x=if x.kind=1 then x.es.filter (anyS (l.filter λs=>decide (s.cl=c)))else []):=ae (by unfold oP pU;simp)
 have HL:=ae (IA h)
 have HS:=ae hs
 obtain⟨vf,ve,rfl,hf,j⟩:=hx
 have HE:=ae (IA j)
 obtain⟨J,N,rfl⟩:=b6 hf
 obtain⟨S,E,rfl⟩:=aw j
 obtain⟨A,d,rfl⟩:=aw h
 have C:=K.lq w (.cells #[.int .i64 c] 3) (.cells (aD x (.slice J x.f.length N) (.slice S x.es.length E)) 126)
 have hb:=(ah.new w 3 #[.int .i64 c]).alloc (.cells (aD x (.slice J x.f.length N) (.slice S x.es.length E)) 126)
 have t:=ah.new (w.alloc (.cells #[.int .i64 c] 3)) 126 (aD x (.slice J x.f.length N) (.slice S x.es.length E))
 have hz:(w.alloc (.cells #[.int .i64 c] 3)).heap.size=w.heap.size+1:=aj
 rw[hz]at t
 generalize oP l c x=R at *
 clear h hf j hs hz
 go_enter func104,ntmps104
 go_upto_region 1 with (fail)
 generalize World.alloc (World.alloc w _) _=w1 at *
 have hz1:=C.size
 generalize X:w.heap.size=lo at hb t HL HE hz1⊢
 have lG:=ae X
 clear X
 have q:=t.cell
 by_cases hk:x.kind=1
 rotate_left
 ·have HF:Hid (R=[]):=ae (by rw[B.aa,if_neg hk]);have hk2:(x.kind != 1)=true:=sE;clear hk B;go_wp2;go_ret;exact⟨_,rfl,Wo,C⟩
 have HF:Hid (R=x.es.filter (anyS (l.filter λs=>decide (s.cl=c)))):=ae (by rw[B.aa,if_pos hk])
 have hk2:(x.kind != 1)=false:=FB
 have T:=ae (E6 (λk=>lo<=k) l _ (λs=>decide (s.cl=c)) 168 #[.pointer (some ⟨lo,0,none⟩)] w1 (HL.aa.st C) hlen (λ_ _=>fk) λW k s _ u Q=>atH s c u lo W Q (hb.av k))
 clear hk B
 go_wp2_with fail
 refine T.aa.mono ?_
 rintro e O⟨v2,rfl,G,V⟩
 have cL:=ll (λs=>decide (s.cl=c)) l
 have AO:=zt (q:=λs=>decide (s.cl=c)) HS.aa
 generalize l.filter (λs=>decide (s.cl=c))=l2 at *
 obtain⟨A2,c2,rfl⟩:=G.slice
 have gS:=t.av V
 have bC:=C.tr V
 have eE:=G.aq
 clear q t G T hb
 go_upto_region 4 with (fail)
 have y:=ah.new O 132 #[.slice A2 l2.length c2]
 have L:=y.aS
 have Z:=gS.av L
 have kT:=bC.tr L
 have H3:=ae (bo eE L)
 clear gS eE
 generalize O.alloc _=w3 at *
 generalize O.heap.size=U at y⊢
 have Ev:=HE.aa.st kT
 have D:=ae F
 have Y:=ae (ab5 (λk=>lo<=k) x.es _ (anyS l2) 171 #[.pointer (some ⟨U,0,none⟩)] w3 Ev F.2.1 (λ_ _=>fk) λW k e j u Q=>atJ l2 e _ u U W (bo H3.aa k) (y.av k) Q af AO (D.aa.2.2 e j))
 have q3:=Z.cell
 clear Ev F AO
 go_wp2_with fail
 refine Y.aa.mono ?_
 rintro e w4⟨v4,rfl,cB,k4⟩
 have sc:=kT.tr k4
 have hf4:=ll (anyS l2) x.es
 have hs4:∀e∈x.es.filter (anyS l2),e.length<=1000000:=λe j=>D.aa.2.2 e (List.mem_filter.1 j).1
 have H:=cB.aq
 have M:=ae (TM _ v4 w4 H (by have:=D.aa.2.1;omega) hs4)
 rw[<- HF.aa]at M H
 obtain⟨A4,c4,rfl⟩:=aw H
 clear Y q3 cB hs4 Z y
 go_wp2_with fail
 refine M.aa.mono ?_
 rintro e w5⟨v5,rfl,I,k5⟩
 have kF:=sc.tr k5
 have ir:=sc.size
 have HO:Hid (aV lo lo 51 cG R v5 w5):=ae (aV.low (aV.floor I We) We)
 obtain⟨A5,c5,rfl⟩:=aw I.sR.aq
 clear M I
 go_wp2
 go_ret
 exact⟨_,rfl,by rw[lG.aa];exact HO.aa,kF⟩
theorem fold_succ{α β:Type} f(l:List α)(b:β) j(h:j<l.length):(l.take (j+1)).foldl f b=f ((l.take j).foldl f b) l[j]:=by rw[gj h,List.foldl_append];rfl
theorem acI{α:Type}(f:α->Int):∀l:List α,(l.filter λs=>decide (f s<0)).length+(l.filter λs=>decide (0<f s)).length<=l.length
 | []=>aj
 | x :: l=>by
  have:=acI f l;by_cases t:f x<0
  ·have j:¬0<f x:=af;simp[t,j];omega
  ·by_cases j:0<f x
   ·simp[t,j];omega
   ·simp[t,j];omega
theorem arT l x:(tE l x).length<=l.length+1:=by
 have:=acI (λs=>jf s x) l;unfold tE;split
 ·simp only[cF,List.length_singleton];omega
 ·split
  ·simp only[cF];omega
  ·omega
def DT(l:List lA):Prop:=∀s∈l,s.f.length<=1000000
theorem avC{l x}(h:DT l)(t:x.f.length<=1000000):DT (tE l x):=by
 unfold tE;split
 ·intro s j;simp only[DK,List.mem_singleton]at j;rcases j with (j|rfl)|j
  ·exact zt h s j
  ·exact t
  ·exact zt h s j
 ·split
  ·intro s j;rcases List.mem_append.1 j with j|j
   ·exact zt h s j
   ·exact zt h s j
  ·exact h
def kK(o:List lA)(x:aK):List lA:=if x.kind=1 then o else tE o x
theorem adq l x:(kK l x).length<=l.length+1:=by unfold kK;split;omega;exact arT l x
theorem ahk{l x}(h:DT l)(j:x.f.length<=1000000):DT (kK l x):=by unfold kK;split;exact h;exact avC h j
theorem Qc l:jW l=l.foldl kK []:=rfl
theorem Uq l:(jW l).length<=l.length:=by
 rw[Qc];have key:∀(l:List aK) (o:List lA),(l.foldl kK o).length<=o.length+l.length:=by
  intro l
  induction l with
  | nil=>intro o;simp
  | cons x l j=>intro o;have:=j (kK o x);have:=adq o x;simp only[List.foldl_cons,eQ];omega
 simpa using key l []
theorem ahl{l}(h:∀x∈l,eB x):DT (jW l):=by
 rw[Qc];have key:∀(l:List aK) (o:List lA),(∀x∈l,eB x)->DT o->DT (l.foldl kK o):=by
  intro l
  induction l with
  | nil=>intro o _ j;exact j
  | cons x l A=>intro o t j;exact A _ (λy hy=>t y Fw) (ahk j (t x aj).1)
 exact key l [] h λs u=>by simp at u
theorem ab8{M p B w}(h:bA M p B w)(D:bD B) n(hn:n<=B.st.list.length) :
 Calls prog 103 #[.pointer (some ⟨p.g,0,none⟩),.int .i64 n] w λe w'=>∃v',e=.returned v'/\aA (λk=>k<w.heap.size) w.heap.size 246 iu (jW (B.st.list.take n)) v' w'/\K w w':=by
 have E:=D.DD
 have jn:=D.dk.len
 have q:=h.blk.cell
 have T:=h.bI.now.list
 obtain⟨g,gl,gd,gr,gt,vd,vr,vp,vh,vl,vq,va,vt,vf,vw,kr⟩:=p
 simp only at q T
 obtain⟨Al,cl,rfl,hl,hcl⟩:=T
 have wy:B.st.list.length<=300000:=af
 have sf:=ae E.1
 have Nh:=ae (Qc (B.st.list.take n))
 have HSJ:=ae λ(j:Nat) (hj:j<n)=>fold_succ kK B.st.list [] j af
 have Q:=ae λ(j:Nat)=>Uq (B.st.list.take j)
 have Y:=ae λ(j:Nat)=>ahl (l:=B.st.list.take j) λx A=>E.1 x (lM A)
 simp only[Qc]at Q Y
 generalize jW (B.st.list.take n)=R at *
 have U:=K.rf w
 have hO:=aA.nil (λk=>k<w.heap.size) w.heap.size 246 iu w
 have hn':(n:Int)<=cl:=af
 clear h D E jn
 go_enter func103,ntmps103
 go_wp2_with fail
 clear q
 go_loopw [5,7,16] (fun o _ i W=>∃j:Nat,j<=n/\i=.int .i64 j/\aA (fun k=>k<w.heap.size) w.heap.size 246 iu ((B.st.list.take j).foldl kK []) o W/\K w W) (fun _ _ i _=>n-(intOf i).toNat)
 case atStart=>exact⟨0,af,rfl,Bv,U⟩
 case round =>
  clear hO U;obtain⟨j,hj,rfl,hO,kr⟩:=hrel;by_cases hlt:j<n
  ·have aP:(j:Int)<n:=af;have N:j<B.st.list.length:=af;obtain⟨L,X,cs,rfl,eJ,S,V,d⟩:=ed hl j N ay;have J:=ae (HSJ.aa j hlt);have pw:=sf.aa _ (bS N);have ZG:=Q.aa j;have hFj:=Y.aa j;have aEj:(B.st.list.take j).length<=300000:=aY;generalize B.st.list[j]=x at *;generalize (B.st.list.take j).foldl kK []=y at *;obtain⟨vf,F,rfl,G,H⟩:=S w (K.rf w);have HE:Hid (∀W,K w W->cV x (.agg (aD x vf F)) W):=ae λW k=>⟨_,_,rfl,eH _ _ _ _ G k,bo H k⟩
   have q:∀i,i<8->wr.cell? ⟨L,X+j*8+i,none⟩=(aD x vf F)[i]?:=λi hi=>(d wr kr i hi).trans Array.getElem?_toList
   have q0:wr.cell? ⟨L,X+j*8,none⟩=some (.int .i64 x.kind):=V wr kr;have A:=ah.new wr 126 (aD x vf F);have Z:=A.aS;obtain⟨Af,cf,rfl⟩:=b6 G;obtain⟨Ae,ce,rfl⟩:=aw H;clear d V G H S eJ;go_upto_region 5 with (fail);generalize wr.alloc _=w1 at *;have t:=hO.st Z;have u:=kr.tr Z;clear q q0 hO;have q:=A.cell;obtain⟨Ao,co,rfl⟩:=t.slice;by_cases hk:x.kind=1
   ·have C:Hid ((B.st.list.take (j+1)).foldl kK []=y):=ae (by rw[J.aa];unfold kK;rw[if_pos hk]);have hk2:(x.kind != 1)=false:=FB;rw[<- C.aa]at t;clear hk;go_wp2;go_roundw
    case rel=>exact⟨j+1,af,bJ,by rw[<- C.aa];exact t,u⟩
    case measure=>simp[intOf];omega
   have C:Hid ((B.st.list.take (j+1)).foldl kK []=tE y x):=ae (by rw[J.aa];unfold kK;rw[if_neg hk]);have hk2:(x.kind != 1)=true:=sE;have I:=ae (ab6 y x _ _ w1 t.aq (HE.aa w1 u) af hFj pw.1);clear t hk;go_wp2_with fail
   refine I.aa.mono ?_;rintro e w2⟨v2,rfl,O,k2⟩;have qC:=u.tr k2;have hz1:=u.size;have bE:aA (λk=>k<w.heap.size) w.heap.size 246 iu (tE y x) v2 w2:=(O.less λk hk=>af).low hz1;rw[<- C.aa]at bE;clear I O q;go_wp2;go_roundw
   case rel=>exact⟨j+1,af,bJ,bE,qC⟩
   case measure=>simp[intOf];omega
  ·have aP:¬(j:Int)<n:=af;obtain rfl:j=n:=af;rw[<- Nh.aa]at hO;exact PT
theorem aqu x y w d:(Op.equalIn (d+1+1+1) 225 (.agg (gJ x)) (.agg (gJ y))).run prog w=.ok (decide (x=y)) w:=by obtain⟨⟨a,b,c⟩,e⟩:=x;obtain⟨⟨E,D,t⟩,u⟩:=y;simp[gJ,go_sem,Kh];by_cases C:a=E <;> by_cases B:b=D <;> by_cases j:c=t <;> by_cases A:e=u <;> simp[C,j,B,A] <;> omega
theorem apA x y w:(binOp .eql 225 (.agg (gJ x)) (.agg (gJ y))).run prog w=.ok (.bool (decide (x=y))) w:=by have h:(Op.equal 225 (.agg (gJ x)) (.agg (gJ y))).run prog w=.ok (decide (x=y)) w:=aqu x y w 9997;exact ahm
theorem apB l a v w(h:aq nL l v w)(hlen:l.length<=1000000) :
 Calls prog 291 #[v,.agg (gJ a)] w λe w'=>∃i:Int,e=.returned (.int .i64 i)/\K w w'/\decide (0<=i)=l.any λv=>decide (v=a):=by
 obtain⟨D,d,rfl,Y,-⟩:=h
 have u:=ah.new w 225 (gJ a)
 have k1:=u.aS
 go_enter func291,ntmps291
 go_upto_region 1 with (fail)
 generalize w.alloc _=O at *
 generalize w.heap.size=g at u⊢
 have Z:=u.cells
 have H:=K.rf O
 clear u
 go_wp2_with fail
 go_loopw [5,8] (fun _ i wr=>∃j:Nat,j<=l.length/\i=.int .i64 j/\Hid ((l.take j).any (fun v=>decide (v=a))=false)/\K O wr) (fun _ i _=>l.length-(intOf i).toNat)
 case atStart=>exact⟨0,af,rfl,ae aj,H⟩
 case round =>
  clear H;obtain⟨j,hj,rfl,HT,kr⟩:=hrel;by_cases N:j<l.length
  ·have A:(j:Int)<l.length:=af;obtain⟨y,t,cs1,rfl,T,F,L,dd⟩:=ed Y j N ay;have HB:=ae (xP (λv=>decide (v=a)) l j N);have R:=ae (xQ (λv=>decide (v=a)) l (j+1));generalize l[j]=x at *;obtain rfl:=F w (K.rf w);have J:=λW (kW:K wr W)=>Z W (kr.tr kW)
   have M:∀W,K wr W->W.cell? ⟨y,t+j*4,none⟩=some (.int .i64 x.id.1):=λW kW=>L W (k1.tr (kr.tr kW))
   have p1:∀W,K wr W->W.cell? ⟨y,t+j*4+1,none⟩=some (.int .u64 x.id.2.1):=λW kW=>dd W (k1.tr (kr.tr kW)) 1 ay
   have p2:∀W,K wr W->W.cell? ⟨y,t+j*4+2,none⟩=some (.int .u64 x.id.2.2):=λW kW=>dd W (k1.tr (kr.tr kW)) 2 ay
   have p3:∀W,K wr W->W.cell? ⟨y,t+j*4+3,none⟩=some (.bool x.yes):=λW kW=>dd W (k1.tr (kr.tr kW)) 3 ay
   clear T F L dd;go_upto_region 4 with (fail);have qs:=And.intro M (And.intro p1 (And.intro p2 (And.intro p3 (And.intro J A))));refine dD 5 [([],[]),([],[]),([],[]),([1,2],[(12,1),(13,2)]),([3],[(14,3)]),([0,4],[(11,0),(15,4)])] 19 ?_;iterate 5 refine au.i ?_
   clear qs;intro V W kW hA;simp only[aO,aQ,cz,aJ,Nat.reduceAdd]at hA;obtain⟨E,S,U,X,Q,-⟩:=hA;have I:=apA a x W;refine aH.pure (.bool (decide (a=x))) rfl ?_ ?_
   ·simp[aE,List.lookup,E,Q,execOp,aF];rw[show (eqGuard BinOp.eql 225 (Operand.tmp 11) (Operand.tmp 15) (.agg (gJ a)) (.agg (gJ x))).run prog W=.ok () W from by simp[eqGuard,go_sem]];simp only[Result.andThen_ok,I]
   refine aH.e ?_;have ME:=kr.tr kW;have G:decide (a=x)=decide (x=a):=decide_eq_decide.2 eq_comm;rw[G];clear G I E S U X Q M p1 p2 p3 J;generalize B:decide (x=a)=q at *;have HQ:=ae B;clear B;cases q
   ·have mE:Hid ((l.take (j+1)).any (λv=>decide (v=a))=false):=ae afK;exact Vx
   ·have HR:=ae (R.aa (by rw[HB.aa];simp));exact afL
  ·have A:¬(j:Int)<l.length:=af;have HR:=ae (by
    have C:=HT.aa;rw[fM af]at C;exact C)
   exact afM
theorem aoj l a v w(h:aq nL l v w)(y:l.length<=1000000) :
 Calls prog 250 #[v,.agg (gJ a)] w λe w'=>e=.returned (.bool (l.any λv=>decide (v=a)))/\K w w':=by
 have B:=ah.new w 225 (gJ a)
 have t:=B.aS
 have u:=ae λW (kW:K w W)=>apB l a v W (bo h kW) y
 obtain⟨D,d,rfl⟩:=aw h
 clear h
 go_enter func250,ntmps250
 go_wp2_with fail
 generalize w.alloc _=E at *
 refine (u.aa E t).mono ?_
 rintro e F⟨i,rfl,A,j⟩
 have C:=ae j
 clear j
 go_wp2
 go_ret
 exact⟨by rw[<- C.aa];rfl,t.tr A⟩
theorem aqv m a y v g w(h:lF m v w)(hg:ah w g 26 #[.int .i64 a.1,.int .u64 a.2.1,.int .u64 a.2.2])(S:m.cK.length<=1000000) :
 Calls prog 249 #[v,.bool y,.pointer (some ⟨g,0,none⟩)] w λe w'=>e=.returned (.bool (qN m a y))/\K w w':=by
 have HR:Hid (qN m a y=m.cK.any λv=>decide (v=⟨a,y⟩)):=ae rfl
 obtain⟨Y,V,v3,v4,W,v6,rfl,j,B,A,C,E,h6⟩:=h
 have X:=ae j
 obtain⟨M,c1,rfl⟩:=aw j
 obtain⟨T,c2,rfl⟩:=aw B
 obtain⟨I,c3,rfl⟩:=aw A
 obtain⟨O,c4,rfl⟩:=aw C
 obtain⟨U,c5,rfl⟩:=aw E
 obtain⟨L,G,rfl⟩:=aw h6
 generalize N:km m (.slice M m.cK.length c1) (.slice T m.asks.length c2) (.slice I m.entries.length c3) (.slice O m.fc.length c4) (.slice U m.dN.length c5) (.slice L m.ends.length G)=H
 have hb:=ah.new w 156 H
 have t:=hb.aS
 subst N
 have D:=hg.av t
 have u:=ae (aoj m.cK ⟨a,y⟩ _ _ (bo j t) S)
 generalize qN m a y=R at *
 clear j B A C E h6 hg
 go_enter func249,ntmps249
 go_upto_region 1 with (fail)
 generalize w.alloc _=w1 at *
 have q:=hb.cell
 have J:=D.cell
 go_wp2_with fail
 refine u.aa.mono ?_
 rintro e Z⟨rfl,F⟩
 have Q:=t.tr F
 clear u q J hb D
 go_wp2
 go_ret
 exact⟨fE,Q⟩
theorem acJ kids a v w(h:aq xJ kids v w)(hlen:kids.length<=1000000)(U:∀m∈kids,m.cK.length<=1000000) :
 Calls prog 153 #[v,bU a] w λe w'=>e=.returned (.int .i64 (iZ kids a))/\K w w':=by
 have HR:Hid (iZ kids a=if kids.any (λk=>qN k a false)then 2 else if kids.all (λk=>qN k a true)then 1 else 0):=ae rfl
 obtain⟨A,c,rfl,hl,-⟩:=h
 have HV:=ae U
 have hb:=ah.new w 26 #[.int .i64 a.1,.int .u64 a.2.1,.int .u64 a.2.2]
 have t:=hb.aS
 generalize iZ kids a=R at *
 clear U
 go_enter func153,ntmps153
 go_wp2
 go_step3
 generalize w.alloc _=w1 at *
 generalize w.heap.size=ga at hb⊢
 have kk:=K.rf w1
 go_wp2_with fail
 go_step3
 go_wp2_with fail
 go_loopw [6,8,12] (fun o _ i W=>∃j:Nat,j<=kids.length/\i=.int .i64 j/\(∃z:Int,o=.int .i64 z/\Hid (z=if (kids.take j).all (fun k=>qN k a true)then 1 else 0))/\Hid ((kids.take j).any (fun k=>qN k a false)=false)/\K w1 W) (fun _ _ i _=>kids.length-(intOf i).toNat)
 case atStart=>exact⟨0,af,rfl,⟨1,rfl,ae aj⟩,ae aj,kk⟩
 case round =>
  clear kk;obtain⟨j,hj,rfl,⟨z,rfl,O⟩,E,kr⟩:=hrel;by_cases u:j<kids.length
  ·have aP:(j:Int)<kids.length:=af;obtain⟨Y,Q,cs1,rfl,eJ,hr1,d0,dd⟩:=ed hl j u ay;have V:=ae (xP (λk=>qN k a false) kids j u);have HA:=ae (xQ (λk=>qN k a false) kids (j+1));have HL:=ae (Hh (λk=>qN k a true) kids j u);have hmv:=HV.aa _ (bS u);generalize kids[j]=m at *;have oN:=t.tr kr;obtain⟨v1,S,v3,v4,T,v6,rfl,L,I,C,M,F,J⟩:=hr1 w (K.rf w);have HM:Hid (∀W,K w W->lF m (.agg (km m v1 S v3 v4 T v6)) W):=ae λW k=>⟨_,_,_,_,_,_,rfl,bo L k,bo I k,bo C k,bo M k,bo F k,bo J k⟩
   have q9:∀i,i<8->wr.cell? ⟨Y,Q+j*8+i,none⟩=(km m v1 S v3 v4 T v6)[i]?:=λi hi=>(dd wr oN i hi).trans Array.getElem?_toList
   have q0:wr.cell? ⟨Y,Q+j*8,none⟩=some (.int .i64 m.kind):=d0 wr oN;obtain⟨A1,c1,rfl⟩:=aw L;obtain⟨A2,c2,rfl⟩:=aw I;obtain⟨A3,c3,rfl⟩:=aw C;obtain⟨A4,c4,rfl⟩:=aw M;obtain⟨A5,c5,rfl⟩:=aw F;obtain⟨A6,c6,rfl⟩:=aw J;have H:=ah.new wr 156 (km m (.slice A1 m.cK.length c1) (.slice A2 m.asks.length c2) (.slice A3 m.entries.length c3) (.slice A4 m.fc.length c4) (.slice A5 m.dN.length c5) (.slice A6 m.ends.length c6));have k3:=H.aS;clear dd d0 eJ hr1 L I C M F J;go_upto_region 6 with (fail);generalize wr.alloc _=w3 at *;have B:=kr.tr k3;clear q9 q0;have q8:=H.cell;have D:=ae λW (k:K w3 W) y=>aqv m a y _ ga W (HM.aa W (t.tr (B.tr k))) (hb.av (B.tr k)) hmv
   go_wp2_with fail
   refine (D.aa w3 (K.rf _) false).mono ?_;rintro e w4⟨rfl,G⟩;have Z:=B.tr G;have bZ:=(H.av G).cell;clear q8;cases hb0:qN m a false;rotate_left
   ·have HF:Hid (R=2):=ae (by rw[HR.aa,if_pos (HA.aa (by rw[V.aa,hb0];simp))]);have kF:=t.tr Z;clear E hb0 O;go_wp2;rw[gq];exact Bz
   have mE:Hid ((kids.take (j+1)).any (λk=>qN k a false)=false):=ae (by rw[V.aa,E.aa,hb0];rfl);clear hb0;go_wp2_with fail
   refine (D.aa w4 G true).mono ?_;rintro e w5⟨rfl,k5⟩;have lZ:=Z.tr k5;clear bZ D;cases aN:qN m a true
   ·have N:Hid ((0:Int)=if (kids.take (j+1)).all (λk=>qN k a true)then 1 else 0):=ae (by rw[HL.aa,aN];simp);clear aN;go_wp2;go_roundw
    case rel=>exact⟨j+1,af,bJ,⟨0,rfl,N⟩,mE,lZ⟩
    case measure=>simp[intOf];omega
   ·have N:Hid (z=if (kids.take (j+1)).all (λk=>qN k a true)then 1 else 0):=ae (by rw[HL.aa,aN,O.aa];simp);clear aN;go_wp2;go_roundw
    case rel=>exact⟨j+1,af,bJ,⟨z,rfl,N⟩,mE,lZ⟩
    case measure=>simp[intOf];omega
  ·have aP:¬(j:Int)<kids.length:=af;have HF:Hid (R=z):=ae (by
    have X:=E.aa;have h2:=O.aa;rw[fM af]at X h2;rw[HR.aa,X,h2];rfl)
   have kF:=t.tr kr;go_wp2;exact Bz
theorem arU l v q(f:Nat) cs w(h:aq aU l v w)(T:l.length<=1000000)(V:∀args W,(callFunc f args).run prog W=.ok (.enter f args) W)
 (I:∀W,K w W->∀x∈l,∀u,cV x u W->Calls prog f (#[u]++cs) W λe W'=>e=.returned (.bool (q x))/\K W W') :
 Calls prog 236 #[v,.func (.func f) #[] cs] w λe w'=>∃i:Int,e=.returned (.int .i64 i)/\K w w'/\decide (0<=i)=l.any q:=by
 have H:=K.rf w
 obtain⟨A,c,rfl,h,-⟩:=h
 have S:=ae I
 clear I
 go_enter func236,ntmps236
 go_wp2_with fail
 go_loopw [5,8] (fun _ i wr=>∃k:Nat,k<=l.length/\i=.int .i64 k/\Hid ((l.take k).any q=false)/\K w wr) (fun _ i _=>l.length-(intOf i).toNat)
 case atStart=>exact⟨0,af,rfl,ae aj,H⟩
 case round =>
  clear H;obtain⟨k,hk,rfl,hall,kr⟩:=hrel;by_cases C:k<l.length
  ·have O:(k:Int)<l.length:=af;obtain⟨F,L,U,rfl,N,G,B,d⟩:=ed h k C ay;have HB:=ae (xP q l k C);have HA:=ae (xQ q l (k+1));have hm:=bS C;generalize l[k]=t at *;obtain⟨vf,y,rfl,E,J⟩:=G wr kr;have B:∀W,K w W->W.cell? ⟨F,L+k*8,none⟩=some (.int .i64 t.kind):=B;have d:∀W,K w W->∀i,i<8->W.cell? ⟨F,L+k*8+i,none⟩=(aD t vf y)[i]?:=λW j R=>λQ=>(d W j R Q).trans Array.getElem?_toList
   have D:=ae (S.aa wr kr t hm (.agg (aD t vf y)) ⟨vf,y,rfl,E,J⟩);clear G N hm;go_wp2_with fail
   refine D.aa.mono ?_;rintro e X⟨rfl,M⟩;have kW:=kr.tr M;clear d B E J D;exact Wl
  ·have O:¬(k:Int)<l.length:=af;exact Wm
theorem OH l v q(f:Nat) cs w(h:aq aU l v w)(B:l.length<=1000000)(D:∀args W,(callFunc f args).run prog W=.ok (.enter f args) W)
 (y:∀W,K w W->∀x∈l,∀u,cV x u W->Calls prog f (#[u]++cs) W λe W'=>e=.returned (.bool (q x))/\K W W') :
 Calls prog 142 #[v,.func (.func f) #[] cs] w λe w'=>e=.returned (.bool (l.any q))/\K w w':=by
 have t:=ae (arU l v q f cs w h B D y)
 obtain⟨A,c,rfl⟩:=aw h
 clear h y
 generalize l.any q=R at *
 go_enter func142,ntmps142
 go_wp2_with fail
 refine t.aa.mono ?_
 rintro e E⟨i,rfl,C,j⟩
 have HR:=ae j
 clear t j
 go_wp2
 go_ret
 exact⟨Wn,C⟩
theorem apC x a v g w(h:cV x v w)(hg:ah w g 26 #[.int .i64 a.1,.int .u64 a.2.1,.int .u64 a.2.2]) :
 Calls prog 286 #[v,.pointer (some ⟨g,0,none⟩)] w λe w'=>e=.returned (.bool (gN a x))/\K w w':=by
 obtain⟨vf,G,rfl,j,y⟩:=h
 obtain⟨A,c,rfl⟩:=b6 j
 obtain⟨D,d,rfl⟩:=aw y
 clear j y
 have t:=ae (Kv a x)
 have q:=hg.cells
 have C:=λo=>(K.rf w).al o
 obtain⟨F,E,B⟩:=a
 obtain⟨k,b,l,s,cl,u,f,es⟩:=x
 simp only at q t⊢
 generalize gN (F,E,B) ⟨k,b,l,s,cl,u,f,es⟩=R at *
 go_enter func286,ntmps286
 go_wp2
 all_goals
  go_ret
  refine⟨?_,(K.rf w).al _⟩
  rw[t.aa]
  show Ending.returned (.bool _)=Ending.returned (.bool _)
  clear q C
  first|(simp_all;done)|(simp_all;omega)|(congr 2;rw[Bool.eq_iff_iff];simp_all;omega)
theorem aoZ x a v g w(h:cV x v w)(hg:ah w g 26 #[.int .i64 a.1,.int .u64 a.2.1,.int .u64 a.2.2]) :
 Calls prog 300 #[v,.pointer (some ⟨g,0,none⟩)] w λe w'=>e=.returned (.bool (gN a x))/\K w w':=by
 obtain⟨vf,G,rfl,j,y⟩:=h
 obtain⟨A,c,rfl⟩:=b6 j
 obtain⟨D,d,rfl⟩:=aw y
 clear j y
 have t:=ae (Kv a x)
 have q:=hg.cells
 have C:=λo=>(K.rf w).al o
 obtain⟨F,E,B⟩:=a
 obtain⟨k,b,l,s,cl,u,f,es⟩:=x
 simp only at q t⊢
 generalize gN (F,E,B) ⟨k,b,l,s,cl,u,f,es⟩=R at *
 go_enter func300,ntmps300
 go_wp2
 all_goals
  go_ret
  refine⟨?_,(K.rf w).al _⟩
  rw[t.aa]
  show Ending.returned (.bool _)=Ending.returned (.bool _)
  clear q C
  first|(simp_all;done)|(simp_all;omega)|(congr 2;rw[Bool.eq_iff_iff];simp_all;omega)
theorem arV x y v F H g w(h:cV x v w)(hg:ah w g 126 (aD y F H)) :
 Calls prog 157 #[v,.pointer (some ⟨g,0,none⟩)] w λe w'=>e=.returned (.bool (gN (ar y) x))/\K w w':=by
 obtain⟨vf,J,rfl,C,E⟩:=h
 obtain⟨A,c,rfl⟩:=b6 C
 obtain⟨D,d,rfl⟩:=aw E
 clear C E
 have j:Hid (gN (ar y) x=(decide (x.br=y.br)&&decide (x.life=y.life)&&decide (x.bV=y.bV))):=ae (Kv (y.br,y.life,y.bV) x)
 have q:=hg.cells
 have G:=λo=>(K.rf w).al o
 generalize gN (ar y) x=R at *
 obtain⟨L,O,t,B,N,I,M,yes⟩:=y
 obtain⟨k,b,l,s,cl,u,f,es⟩:=x
 simp only at q j⊢
 clear hg
 go_enter func157,ntmps157
 go_wp2
 all_goals
  go_ret
  refine⟨?_,(K.rf w).al _⟩
  rw[j.aa]
  show Ending.returned (.bool _)=Ending.returned (.bool _)
  clear q G j
  rw[show decide (l=t)=decide ((l:Int)=t)from decide_eq_decide.2 af,show decide (s=B)=decide ((s:Int)=B)from decide_eq_decide.2 af]
  simp[*]
theorem aqw x y v F H g w(h:cV x v w)(hg:ah w g 126 (aD y F H)) :
 Calls prog 143 #[v,.pointer (some ⟨g,0,none⟩)] w λe w'=>e=.returned (.bool (gN (ar y) x))/\K w w':=by
 obtain⟨vf,J,rfl,C,E⟩:=h
 obtain⟨A,c,rfl⟩:=b6 C
 obtain⟨D,d,rfl⟩:=aw E
 clear C E
 have j:Hid (gN (ar y) x=(decide (x.br=y.br)&&decide (x.life=y.life)&&decide (x.bV=y.bV))):=ae (Kv (y.br,y.life,y.bV) x)
 have q:=hg.cells
 have G:=λo=>(K.rf w).al o
 generalize gN (ar y) x=R at *
 obtain⟨L,O,t,B,N,I,M,yes⟩:=y
 obtain⟨k,b,l,s,cl,u,f,es⟩:=x
 simp only at q j⊢
 clear hg
 go_enter func143,ntmps143
 go_wp2
 all_goals
  go_ret
  refine⟨?_,(K.rf w).al _⟩
  rw[j.aa]
  show Ending.returned (.bool _)=Ending.returned (.bool _)
  clear q G j
  rw[show decide (l=t)=decide ((l:Int)=t)from decide_eq_decide.2 af,show decide (s=B)=decide ((s:Int)=B)from decide_eq_decide.2 af]
  simp[*]
theorem ab9 l a v w(h:aq aU l v w)(C:l.length<=1000000) :
 Calls prog 231 #[v,bU a] w λe w'=>e=.returned (.bool (bT l a))/\K w w':=by
 have hb:=ah.new w 26 #[.int .i64 a.1,.int .u64 a.2.1,.int .u64 a.2.2]
 have t:=hb.aS
 have HR:Hid (bT l a=l.any (gN a)):=ae rfl
 have H:=ae h
 obtain⟨A,c,rfl⟩:=aw h
 generalize bT l a=R at *
 clear h
 go_enter func231,ntmps231
 go_upto_region 1 with (fail)
 generalize w.alloc _=F at *
 generalize w.heap.size=y at hb⊢
 have j:=ae (OH l _ (gN a) 286 #[.pointer (some ⟨y,0,none⟩)] F (bo H.aa t) C (λ_ _=>fk) (λW k x _ u B=>apC x a u y W B (hb.av k)))
 clear hb
 go_wp2_with fail
 refine j.aa.mono ?_
 rintro e G⟨rfl,D⟩
 have E:=t.tr D
 clear j
 go_wp2
 go_ret
 exact⟨fE,E⟩
theorem abI l a v w(h:aq aU l v w)(C:l.length<=1000000) :
 Calls prog 262 #[v,bU a] w λe w'=>e=.returned (.bool (bT l a))/\K w w':=by
 have hb:=ah.new w 26 #[.int .i64 a.1,.int .u64 a.2.1,.int .u64 a.2.2]
 have t:=hb.aS
 have HR:Hid (bT l a=l.any (gN a)):=ae rfl
 have H:=ae h
 obtain⟨A,c,rfl⟩:=aw h
 generalize bT l a=R at *
 clear h
 go_enter func262,ntmps262
 go_upto_region 1 with (fail)
 generalize w.alloc _=F at *
 generalize w.heap.size=y at hb⊢
 have j:=ae (OH l _ (gN a) 300 #[.pointer (some ⟨y,0,none⟩)] F (bo H.aa t) C (λ_ _=>fk) (λW k x _ u B=>aoZ x a u y W B (hb.av k)))
 clear hb
 go_wp2_with fail
 refine j.aa.mono ?_
 rintro e G⟨rfl,D⟩
 have E:=t.tr D
 clear j
 go_wp2
 go_ret
 exact⟨fE,E⟩
def LU{α:Type}(Y:Nat->Prop)(base:Nat)(T e:TypeId)(S:dW α)(l:List α)(j:Value)(t:Nat)(w w':World):Prop :=
 ∃v',ah w' t T #[v']/\aA Y base e S l v' w'/\(∀k,v'.ownBlock=some k->j.ownBlock=some k∨w.heap.size<=k)/\ag (λk=>k=t∨j.ownBlock=some k) w w'
theorem arW Y base o C j x v w(h:cV x v w)(hs:eB x)(hb:ah w j 43 #[C])(u:aA Y base 126 aU o C w)(hY:∀k,Y k->k<w.heap.size)(GP:Y j)(R:base<=w.heap.size)(dB:j<base)(hlen:o.length<=1000000) :
 Calls prog 233 #[v,.pointer (some ⟨j,0,none⟩)] w λe w'=>e=.returned (.tuple #[])/\LU Y base 43 126 aU (o++[x]) C j w w':=by
 have zF:=ae func233
 have zN:=ae ntmps233
 have HE:=ae λW (k:K w W)=>Lj h k
 obtain⟨vf,ve,rfl,J,L⟩:=h
 obtain⟨Af,cf,rfl⟩:=b6 J
 obtain⟨Ae,ce,rfl⟩:=aw L
 have B:=ah.new w 126 (aD x (.slice Af x.f.length cf) (.slice Ae x.es.length ce))
 have k1:=B.aS
 obtain⟨D,E,rfl⟩:=u.slice
 have G:=hb.av k1
 have H:=u.st k1
 have bR:=u.blk
 clear J L hb u
 go_enter zF.aa,zN.aa
 go_upto_region 1 with (fail)
 generalize w.alloc _=Q at *
 have qx:=B.cells
 have qo:=G.cells
 have qs:=And.intro qx qo
 refine dD 4 [([],[]),([],[]),([1],[(4,1)]),([2],[(5,2)]),([0,2,3],[(3,0),(6,3)]),([0,1,2,3,4],[(7,4)])] 8 ?_
 iterate 2 refine au.i ?_
 refine au.op (LQ Q.heap.size x) (V5 _ _) (λV W kW hp=>?_) ?_
 ·(try simp only[cd,aO,aQ,bW,bY,aJ]at hp)
  exact ahn
 refine au.row (N:=λk=>k<Q.heap.size) (S:=aU) 43 _ 8 96 oH rfl ay _ x rfl rfl (λV W kW hp=>?_) ?_
 ·exact V6
 clear qs
 intro V W kW hA
 simp only[aO,aQ,cz,aJ,Nat.reduceAdd]at hA
 obtain⟨e0,U,h2,h3,-⟩:=hA
 have I:=H.st kW
 have T:=k1.size
 refine aH.push _ _ 43 _ 8 96 oH rfl rfl rfl _ o x mh I ?_ af (bn R (bn T kW.size)) ?_
 ·exact aho
 intro t O bq A cQ Z
 obtain⟨F,JI⟩:∃F,Hid (F=o++[x]):=⟨_,ae rfl⟩
 rw[<- JI.aa]at bq
 have M:=G.av kW
 have y:=M.grown A aG
 have q9:=y.cell
 have z9:=y.frozen
 have h1:t.oneCell'=true:=ahp
 have HU:=ae ((ag.aT (k1.tr kW) _).tr ((ag.eM (X:=λk=>k=j∨(Value.slice D o.length E).ownBlock=some k) A λk e=>.inr e).tr (ag.bL (X:=λk=>k=j∨(Value.slice D o.length E).ownBlock=some k) (.inl rfl) 0 t)))
 have HB:Hid (ah (O.setCell ⟨j,0,none⟩ t) j 43 #[t]):=ae (y.aM 0 t)
 have yZ:=ae (bq.to (X:=λk=>k=j) (ag.bL (X:=λk=>k=j) rfl 0 t) (λk hk=>Qd) (λk hk e=>Wp) λk _ hk=>.inl hk)
 have pq:Hid (∀k,t.ownBlock=some k->(Value.slice D o.length E).ownBlock=some k∨w.heap.size<=k):=ae λk hk=>by exact ahq
 obtain⟨A9,c9,rfl⟩:=bq.slice
 refine aH.skip (O.setCell ⟨j,0,none⟩ (.slice A9 F.length c9)) rfl ahr ?_
 refine aH.nil ?_
 simp only[fX,Act.put,rJ,qM,qL,Nat.reduceAdd,ba,Nat.reduceEqDiff,reduceIte]
 clear I bq A cQ Z M y q9 z9 h1 h2 h3 e0 U qx qo H G B
 go_wp2
 go_end0
 exact⟨rfl,_,HB.aa,Wq,pq.aa,HU.aa⟩
theorem arX Y base o C j x v w(h:cV x v w)(hs:eB x)(hb:ah w j 43 #[C])(u:aA Y base 126 aU o C w)(hY:∀k,Y k->k<w.heap.size)(GP:Y j)(R:base<=w.heap.size)(dB:j<base)(hlen:o.length<=1000000) :
 Calls prog 234 #[v,.pointer (some ⟨j,0,none⟩)] w λe w'=>e=.returned (.tuple #[])/\LU Y base 43 126 aU (o++[x]) C j w w':=by
 have zF:=ae func234
 have zN:=ae ntmps234
 have HE:=ae λW (k:K w W)=>Lj h k
 obtain⟨vf,ve,rfl,J,L⟩:=h
 obtain⟨Af,cf,rfl⟩:=b6 J
 obtain⟨Ae,ce,rfl⟩:=aw L
 have B:=ah.new w 126 (aD x (.slice Af x.f.length cf) (.slice Ae x.es.length ce))
 have k1:=B.aS
 obtain⟨D,E,rfl⟩:=u.slice
 have G:=hb.av k1
 have H:=u.st k1
 have bR:=u.blk
 clear J L hb u
 go_enter zF.aa,zN.aa
 go_upto_region 1 with (fail)
 generalize w.alloc _=Q at *
 have qx:=B.cells
 have qo:=G.cells
 have qs:=And.intro qx qo
 refine dD 4 [([],[]),([],[]),([1],[(4,1)]),([2],[(5,2)]),([0,2,3],[(3,0),(6,3)]),([0,1,2,3,4],[(7,4)])] 8 ?_
 iterate 2 refine au.i ?_
 refine au.op (LQ Q.heap.size x) (V5 _ _) (λV W kW hp=>?_) ?_
 ·(try simp only[cd,aO,aQ,bW,bY,aJ]at hp)
  exact ahn
 refine au.row (N:=λk=>k<Q.heap.size) (S:=aU) 43 _ 8 96 oH rfl ay _ x rfl rfl (λV W kW hp=>?_) ?_
 ·exact V6
 clear qs
 intro V W kW hA
 simp only[aO,aQ,cz,aJ,Nat.reduceAdd]at hA
 obtain⟨e0,U,h2,h3,-⟩:=hA
 have I:=H.st kW
 have T:=k1.size
 refine aH.push _ _ 43 _ 8 96 oH rfl rfl rfl _ o x mh I ?_ af (bn R (bn T kW.size)) ?_
 ·exact aho
 intro t O bq A cQ Z
 obtain⟨F,JI⟩:∃F,Hid (F=o++[x]):=⟨_,ae rfl⟩
 rw[<- JI.aa]at bq
 have M:=G.av kW
 have y:=M.grown A aG
 have q9:=y.cell
 have z9:=y.frozen
 have h1:t.oneCell'=true:=ahp
 have HU:=ae ((ag.aT (k1.tr kW) _).tr ((ag.eM (X:=λk=>k=j∨(Value.slice D o.length E).ownBlock=some k) A λk e=>.inr e).tr (ag.bL (X:=λk=>k=j∨(Value.slice D o.length E).ownBlock=some k) (.inl rfl) 0 t)))
 have HB:Hid (ah (O.setCell ⟨j,0,none⟩ t) j 43 #[t]):=ae (y.aM 0 t)
 have yZ:=ae (bq.to (X:=λk=>k=j) (ag.bL (X:=λk=>k=j) rfl 0 t) (λk hk=>Qd) (λk hk e=>Wp) λk _ hk=>.inl hk)
 have pq:Hid (∀k,t.ownBlock=some k->(Value.slice D o.length E).ownBlock=some k∨w.heap.size<=k):=ae λk hk=>by exact ahq
 obtain⟨A9,c9,rfl⟩:=bq.slice
 refine aH.skip (O.setCell ⟨j,0,none⟩ (.slice A9 F.length c9)) rfl ahr ?_
 refine aH.nil ?_
 simp only[fX,Act.put,rJ,qM,qL,Nat.reduceAdd,ba,Nat.reduceEqDiff,reduceIte]
 clear I bq A cQ Z M y q9 z9 h1 h2 h3 e0 U qx qo H G B
 go_wp2
 go_end0
 exact⟨rfl,_,HB.aa,Wq,pq.aa,HU.aa⟩
theorem arY Y base o I j x v w(h:cV x v w)(hb:ah w j 44 #[I])(C:aA Y base 26 b5 o I w)(GP:Y j)(Z:base<=w.heap.size)(dB:j<base)(hlen:o.length<=1000000) :
 Calls prog 235 #[v,.pointer (some ⟨j,0,none⟩)] w λe w'=>e=.returned (.tuple #[])/\LU Y base 44 26 b5 (o++[ar x]) I j w w':=by
 obtain⟨vf,ve,rfl,R,T⟩:=h
 obtain⟨Af,cf,rfl⟩:=b6 R
 obtain⟨Ae,ce,rfl⟩:=aw T
 have H:=ah.new w 126 (aD x (.slice Af x.f.length cf) (.slice Ae x.es.length ce))
 have F:=H.aS
 obtain⟨y,A,rfl⟩:=C.slice
 have J:=hb.av F
 have Q:=C.st F
 have bR:=C.blk
 clear R T hb C
 go_enter func235,ntmps235
 go_upto_region 1 with (fail)
 generalize w.alloc _=V at *
 have hz1:=F.size
 have qx:=H.cell
 have qo:=J.cell
 have B:=K.new V (.cells (df (ar x)) 26)
 have M:=Q.st B
 have L:=ew.new (S:=b5) (e:=26) (x:=ar x) (v:=.agg (df (ar x))) (w:=V) (N:=λk=>Y k∨(Value.slice y o.length A).ownBlock=some k) (λW u=>rfl) 0 (eV _)
 go_wp2_with (at_builtin;refine jt rfl _ _ 44 rfl _ 3 24 vX rfl rfl M _ rfl (ar x) ?p1 ?p2 ?p3 ?_)
 case p1=>exact L.less λk hk=>hk
 case p2=>omega
 case p3=>exact bn Z (bn hz1 B.size)
 intro t w9 E G cQ aZ
 obtain⟨O,JI⟩:∃O,Hid (O=o++[ar x]):=⟨_,ae rfl⟩
 rw[<- JI.aa]at E
 have U:=J.av B
 have D:=U.grown G aG
 have q9:=D.cell
 have z9:=D.frozen
 have HU:=ae ((ag.aT (F.tr B) _).tr ((ag.eM (X:=λk=>k=j∨(Value.slice y o.length A).ownBlock=some k) G λk e=>.inr e).tr (ag.bL (X:=λk=>k=j∨(Value.slice y o.length A).ownBlock=some k) (.inl rfl) 0 t)))
 have HB:Hid (ah (w9.setCell ⟨j,0,none⟩ t) j 44 #[t]):=ae (D.aM 0 t)
 have yZ:=ae (E.to (X:=λk=>k=j) (ag.bL (X:=λk=>k=j) rfl 0 t) (λk hk=>Qd) (λk hk e=>aG) λk _ hk=>.inl hk)
 have pq:Hid (∀k,t.ownBlock=some k->(Value.slice y o.length A).ownBlock=some k∨w.heap.size<=k):=ae λk hk=>by
  grind
 obtain⟨A9,c9,rfl⟩:=E.slice
 clear E G cQ aZ U D qx qo Q M J H L
 go_wp2
 go_end0
 exact⟨rfl,_,HB.aa,Wq,pq.aa,HU.aa⟩
