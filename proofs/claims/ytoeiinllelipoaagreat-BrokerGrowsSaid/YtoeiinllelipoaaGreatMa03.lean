/-
  The walk of filter.Decode (layer 5). Conditions: at most 10^9 bytes.
-/
import Derived.Test.YtoeiinllelipoaaGreatMa02
import Derived.Test.YtoeiinllelipoaaGreatMz
set_option maxRecDepth 100000
set_option maxHeartbeats 16000000
set_option linter.unusedVariables false
set_option linter.unusedSimpArgs false
namespace Go.Proofs.YtoeiinllelipoaaGreat
open Go Go.RowKit Tryz
theorem aua:(prog.info? 81).map (λi=>(i.zero,i.size,i.bytes))=some (some (.agg #[.string { data:=#[] },.int .i64 0,.int .i64 0,.int .i64 0,.string { data:=#[] }]),5,56):=by kernel_rfl
theorem TF:gJ prog 36 81 (.agg #[.string { data:=#[] },.int .i64 0,.int .i64 0,.int .i64 0,.string { data:=#[] }]) 5 56:=⟨underlying36,aua,rfl,au⟩
abbrev fC(w:World)(base:Nat)(v:Value)(l:List bc):Prop:=w.ownsRow base 81 5 v l.length (l.flatMap dY)
theorem fC.slice{w:World}{base:Nat}{v:Value}{l:List bc}(h:fC w base v l):∃A c,v=.slice A l.length c/\Reads w w.heap.size 5 A l.length (l.flatMap dY)/\l.length<=c/\c<=maxLen:=by exact aen
theorem adj(x:bc):∀u∈dY x,u.oneCell'=true:=by intro u h;simp at h;rcases h with rfl|rfl|rfl|rfl|rfl <;> rfl
theorem sU{w:World}{base:Nat}{v:Value}{l:List bc}(h:fC w base v l):eJ l v w:=by obtain⟨A,c,rfl,i,_⟩:=h.slice;exact⟨A,c,rfl,i⟩
theorem asl(b:List UInt8)(k:Nat)(hk:k<=(aC b false).1)(h:(cY fF k (aC b false).2.1 (aC b false).2.2).2.2=true):tU b=50/\tT b=[]:=by
 have:(DN b).2.2=true:=by have:=UW Ia h ((aC b false).1-k);rwa [show k+((aC b false).1-k)=(aC b false).1 by omega]at this
 have i:pT b=none:=by simp[pT,this]
 simp[tU,tT,i]
theorem aub(l:List UInt8)(wr:Bool)(h:8<(aC (aP 16 l wr).2.1 (aP 16 l wr).2.2).1):(fF l wr).2.2=true:=by unfold fF;rw[if_pos h]
theorem asm(l:List UInt8)(wr:Bool)(h:(aC (aP 16 l wr).2.1 (aP 16 l wr).2.2).1=8):fF l wr=((⟨(aP 16 l wr).1.toArray⟩,8,0,0,⟨#[]⟩),(aC (aP 16 l wr).2.1 (aP 16 l wr).2.2).2):=by unfold fF;rw[if_neg af,if_pos h]
theorem auc(l:List UInt8)(wr:Bool)(h:(aC (aP 16 l wr).2.1 (aP 16 l wr).2.2).1<8):fF l wr=((⟨(aP 16 l wr).1.toArray⟩,((aC (aP 16 l wr).2.1 (aP 16 l wr).2.2).1:Int),(eQ (aC (aP 16 l wr).2.1 (aP 16 l wr).2.2).2.1 (aC (aP 16 l wr).2.1 (aP 16 l wr).2.2).2.2).1.1,
 (eQ (aC (aP 16 l wr).2.1 (aP 16 l wr).2.2).2.1 (aC (aP 16 l wr).2.1 (aP 16 l wr).2.2).2.2).1.2.1,⟨(eQ (aC (aP 16 l wr).2.1 (aP 16 l wr).2.2).2.1 (aC (aP 16 l wr).2.1 (aP 16 l wr).2.2).2.2).1.2.2.toArray⟩),
 (eQ (aC (aP 16 l wr).2.1 (aP 16 l wr).2.2).2.1 (aC (aP 16 l wr).2.1 (aP 16 l wr).2.2).2.2).2):=by
 unfold fF;rw[if_neg af,if_neg af]
theorem aud(k:Nat)(l:List UInt8)(bad:Bool)(s:List bc×List UInt8×Bool)(h:cY fF k l bad=s):cY fF (k+1) l bad=(s.1++[(fF s.2.1 s.2.2).1],(fF s.2.1 s.2.2).2):=by subst h;rfl
theorem aoA(A:Option Addr)(n c:Nat)(b:List UInt8)(w:World)(B:Nat)(hR:Reads w B 1 A n (dy b))(hB:B<=w.heap.size)(hn:n<=1000000000) :
 Calls prog 228 #[.slice A n c] w λe w' =>
  ∃v',e=.returned (.tuple #[v',.int .i64 (tU b)])/\fC w' w.heap.size v' (tT b)/\Below w.heap.size w w':=by
 have bN:b.length=n:=E4
 have hle:b.length<=1000000000:=af
 clear bN
 go_enter func228,ntmps228
 go_wp2_with fail
 refine (Om A n c b w B hR hB hn).mono ?_
 rintro e w1⟨g,rfl,hg,hr1,aO⟩
 go_wp2_with fail
 refine (sQ g b false w1 hr1).mono ?_
 rintro e w2⟨rfl,bE,cQ⟩
 have Q:=hr1.lt
 have hz2:=cQ.size
 have dI:Below w.heap.size w w2:=aO.trans (lC cQ hg aO.size)
 have hlt:=qO b false
 have XQ:=nW b false
 have HB:=ae (asl b)
 have V:Hid (pT b=if decide ((aC b false).1<=8)&&!(cY fF (aC b false).1 (aC b false).2.1 (aC b false).2.2).2.2&&(cY fF (aC b false).1 (aC b false).2.1 (aC b false).2.2).2.1.isEmpty&&okF (cY fF (aC b false).1 (aC b false).2.1 (aC b false).2.2).1 then some (cY fF (aC b false).1 (aC b false).2.1 (aC b false).2.2).1 else none):=ae rfl
 generalize aC b false=a at *
 obtain⟨m,l,bad⟩:=a
 simp only at bE hlt XQ V HB⊢
 clear hr1 aO hR
 by_cases fT:m<=8
 rotate_left
 ·have ug:(8:Int)<(m:Int):=af;have HE:Hid (tU b=50):=ae (by have:=V.aa;simp[fT]at this;simp[tU,this]);have HL:Hid (tT b=[]):=ae (by have:=V.aa;simp[fT]at this;simp[tT,this]);exact aev
 have ug:¬(8:Int)<(m:Int):=af
 go_wp2_with fail
 go_loopw [6,7,8,16] (fun v _ _ i j=>∃k:Nat,k<=m/\i=.int .u64 (k:Int)/\fC j w1.heap.size v (cY fF k l bad).1/\Rd j g (cY fF k l bad).2.1 (cY fF k l bad).2.2/\Below w.heap.size w j/\w1.heap.size<=j.heap.size) (fun _ _ _ i _=>m-(intOf i).toNat)
 case atStart=>exact⟨0,af,rfl,iF _ _ _ _,bE,dI,hz2⟩
 case round =>
  obtain⟨k,hk,rfl,T,U,hb,hz⟩:=hrel;by_cases hlt:k<m
  ·have eF:(k:Int)<(m:Int):=af;have hlk:=Kw Ia k l bad;have hfit:=aud k l bad;have YQ:=HB.aa (k+1) af;generalize hs:cY fF k l bad=s at *;replace hfit:=hfit s rfl;obtain⟨G,t,j⟩:=s;simp only at T U hlk hfit;rw[hfit]at YQ;obtain⟨ayt,XR⟩:=hlk;have ayu:G.length<=8:=af;clear XR;have C1:=ae (NU g t j 16 wr U af af af);have jD:=Dq 16 t j;have F8:=ae λh=>YQ (aub t j h)
   have FE:=ae λh=>hfit.trans (show ((G,t,j).1++[(fF t j).1],(fF t j).2)=_ by rw[asm t j h])
   have FL:=ae λh=>hfit.trans (show ((G,t,j).1++[(fF t j).1],(fF t j).2)=_ by rw[auc t j h])
   clear hfit hs YQ;have fg:=nW (aP 16 t j).2.1 (aP 16 t j).2.2;have jl:=qO (aP 16 t j).2.1 (aP 16 t j).2.2;have C2:Hid (∀W,Rd W g (aP 16 t j).2.1 (aP 16 t j).2.2->Calls prog 103 #[.pointer (some ⟨g,0,none⟩)] W λe w'=>e=.returned (.int .u64 ((aC (aP 16 t j).2.1 (aP 16 t j).2.2).1:Nat))/\nD g (aC (aP 16 t j).2.1 (aP 16 t j).2.2).2.1 (aC (aP 16 t j).2.1 (aP 16 t j).2.2).2.2 W w'):=ae λW hW=>sQ g _ _ W hW
   generalize aP 16 t j=sb at *;obtain⟨I,lb,wb⟩:=sb;simp only at C1 C2 F8 FE FL jD fg jl;generalize aC lb wb=sn at *;obtain⟨op,lo,O⟩:=sn;simp only at C2 F8 FE FL fg jl;have rz:=OP lo O;have C3:Hid (∀W,Rd W g lo O->Calls prog 251 #[.pointer (some ⟨g,0,none⟩)] W λe w'=>e=.returned (vd (eQ lo O).1)/\nD g (eQ lo O).2.1 (eQ lo O).2.2 W w'):=ae λW hW=>aa5 g _ _ W hW af
   generalize eQ lo O=sv at *;obtain⟨⟨M,S,vt⟩,lv,wv⟩:=sv;simp only[vd]at C3 FL rz;have rA:g<wr.heap.size:=af;go_wp2_with fail
   refine C1.aa.mono ?_;rintro e u⟨v3,rfl,eY,dz,gW⟩;have hst:=str (eN eY);have iW:=gW.size;have Br:=Ku T gW Q;have bD:Below w.heap.size w u:=hb.trans (lC gW hg hb.size);clear T U gW hb C1;go_wp2_with fail
   have eI:=ai.new u 81 #[.string ⟨I.toArray⟩,.int .i64 0,.int .i64 0,.int .i64 0,.string ⟨#[]⟩];have Qj:Below u.heap.size u (u.alloc (.cells #[.string ⟨I.toArray⟩,.int .i64 0,.int .i64 0,.int .i64 0,.string ⟨#[]⟩] 81)):=(aN _ _).alloc (aG _) _;have akg:=dz.below Qj af;have aju:=fZ Br Qj;have XS:=bD.trans (Qj.mono bD.size);have hhz:u.heap.size<(u.alloc (.cells #[.string ⟨I.toArray⟩,.int .i64 0,.int .i64 0,.int .i64 0,.string ⟨#[]⟩] 81)).heap.size:=aj;have hgh:g≠u.heap.size:=af;have hh1:w1.heap.size<=u.heap.size:=af;have hhw:w.heap.size<=u.heap.size:=bD.size;have wJ:u6.ownBlock≠some u.heap.size:=by intro e;have:=(Br.lt _ e).2;omega
   clear dz Qj Br bD hst eY;generalize u.alloc (.cells #[.string ⟨I.toArray⟩,.int .i64 0,.int .i64 0,.int .i64 0,.string ⟨#[]⟩] 81)=w3a at *;generalize u.heap.size=h at *;refine (C2.aa _ akg).mono ?_;rintro e N⟨rfl,dD,hg4⟩;have iX:=hg4.size;have Fp:=Ku aju hg4 Q;have hb4:Below w.heap.size w N:=XS.trans (lC hg4 hg XS.size);have J:=eI.grown hg4 aew;clear aju akg hg4 XS C2 eI;by_cases h8:8<op
   ·have wI:(8:Int)<(op:Int):=af;obtain⟨hC,hL⟩:=F8.aa h8;have HC:=ae hC;have HL:=ae hL;clear hC hL h8;go_wp2;go_ret2;exact⟨_,by rw[HC.aa];rfl,OV,hb4⟩
   have wI:¬(8:Int)<(op:Int):=af;have F:=J.cell 0;have H:=J.cell 1;have D:=J.cell 2;have C:=J.cell 3;have y:=J.cell 4;have z1:=J.frozen 1;simp at F H D C y;go_upto_region 13 with (fail);have Z:N.grownBy (N.setCell ⟨h,1,none⟩ (.int .i64 (op:Int))) (some h):=E3 (Dl N _) rfl _;have ou:=Z.size;have L:=J.aR 1 (.int .i64 (op:Int));have Y:Below w.heap.size w (N.setCell ⟨h,1,none⟩ (.int .i64 (op:Int))):=hb4.trans (lC Z hhw hb4.size);have fq:=dD.below (lC Z (aG h) af) af;have IK:fC _ _ _ _:=World.ownsRow.kept Fp Z (.inr wJ);clear Z J hb4 dD Fp F H D C y z1;generalize N.setCell ⟨h,1,none⟩ (.int .i64 (op:Int))=w5 at *;have F:=L.cell 0;have H:=L.cell 1;have D:=L.cell 2;have C:=L.cell 3;have y:=L.cell 4;simp at F H D C y;by_cases he:op=8
   ·have HF:=ae (FE.aa he);subst he;have aC6:w1.heap.size<=w5.heap.size:=af;go_wp2_with (at_builtin;refine iC rfl _ _ 36 rfl w1.heap.size 81 _ 5 56 TF _ _ _ rfl (pg IK _) (w5.heap.size+1) _ 1 1 (dY ((⟨I.toArray⟩,8,0,0,⟨#[]⟩):bc)) rfl ?c1 ?c2 ?c3 ?c5 ?_)
    case c1=>exact Reads.new w5 (dY ((⟨I.toArray⟩,8,0,0,⟨#[]⟩):bc)) 81 5 1 rfl
    case c2=>first|exact adj _|exact⟨rfl,rfl,rfl,rfl,rfl⟩|exact⟨rfl,rfl,rfl,rfl⟩
    case c3=>omega
    case c5=>first|omega|(simp;omega)
    intro v9 w9 eU bJ dc bo;have ajv:fC w9 w1.heap.size v9 (cY fF (k+1) l bad).1:=by exact aex
    have dQ:Rd w9 g (cY fF (k+1) l bad).2.1 (cY fF (k+1) l bad).2.2:=by rw[HF.aa];exact (fq.below (Below.alloc (aN _ _) (aG _) _) fq.lt).below bo Q
    have akh:Below w.heap.size w w9:=(Y.alloc Y.size _).trans (bo.mono af);exact aey
   ·have HF:=ae (FL.aa af);have hne:¬(op:Int)=8:=af;go_wp2_with fail
    refine (C3.aa _ fq).mono ?_;rintro e w6⟨rfl,kp,rC⟩;have wK:=rC.size;have Fs:=Ku IK rC Q;have R:Below w.heap.size w w6:=Y.trans (lC rC hg Y.size);have E:=L.grown rC aew;clear IK fq rC Y C3 L F H D C y;have F:=E.cell 0;have H:=E.cell 1;have D:=E.cell 2;have C:=E.cell 3;have y:=E.cell 4;have z2:=E.frozen 2;have z3:=E.frozen 3;have z4:=E.frozen 4;simp at F H D C y;go_upto_region 15 with (fail);have X:=E3 (E3 (E3 (Dl w6 (some h)) (p:=⟨h,2,none⟩) rfl (.int .i64 M)) (p:=⟨h,3,none⟩) rfl (.int .i64 S)) (p:=⟨h,4,none⟩) rfl (.string ⟨vt.toArray⟩);have QY:=X.size;have jc:=((E.aR 2 (.int .i64 M)).aR 3 (.int .i64 S)).aR 4 (.string ⟨vt.toArray⟩);have ix:Below w.heap.size w (((w6.setCell ⟨h,2,none⟩ (.int .i64 M)).setCell ⟨h,3,none⟩ (.int .i64 S)).setCell ⟨h,4,none⟩ (.string ⟨vt.toArray⟩)):=R.trans (lC X hhw R.size);have gN:=kp.below (lC X (aG h) af) af;have axG:fC _ _ _ _:=World.ownsRow.kept Fs X (.inr wJ);clear X E R kp Fs F H D C y z2 z3 z4;generalize ((w6.setCell ⟨h,2,none⟩ (.int .i64 M)).setCell ⟨h,3,none⟩ (.int .i64 S)).setCell ⟨h,4,none⟩ (.string ⟨vt.toArray⟩)=w7 at *;have F:=jc.cell 0;have H:=jc.cell 1;have D:=jc.cell 2;have C:=jc.cell 3;have y:=jc.cell 4;simp at F H D C y;have aC7:w1.heap.size<=w7.heap.size:=af;go_wp2_with (at_builtin;refine iC rfl _ _ 36 rfl w1.heap.size 81 _ 5 56 TF _ _ _ rfl (pg axG _) (w7.heap.size+1) _ 1 1 (dY ((⟨I.toArray⟩,(op:Int),M,S,⟨vt.toArray⟩):bc)) rfl ?c1 ?c2 ?c3 ?c5 ?_)
    case c1=>exact Reads.new w7 (dY ((⟨I.toArray⟩,(op:Int),M,S,⟨vt.toArray⟩):bc)) 81 5 1 rfl
    case c2=>first|exact adj _|exact⟨rfl,rfl,rfl,rfl,rfl⟩|exact⟨rfl,rfl,rfl,rfl⟩
    case c3=>omega
    case c5=>first|omega|(simp;omega)
    intro v9 w9 eU bJ dc bo;have ajv:fC w9 w1.heap.size v9 (cY fF (k+1) l bad).1:=by exact aex
    have dQ:Rd w9 g (cY fF (k+1) l bad).2.1 (cY fF (k+1) l bad).2.2:=by rw[HF.aa];exact (gN.below (Below.alloc (aN _ _) (aG _) _) gN.lt).below bo Q
    have akh:Below w.heap.size w w9:=(ix.alloc ix.size _).trans (bo.mono af);exact aey
  ·have eF:¬(k:Int)<(m:Int):=af;obtain rfl:k=m:=af;clear hlt hk;have hlk:=(Kw Ia k l bad).2;generalize cY fF k l bad=s at *;obtain⟨G,t,j⟩:=s;simp only at T U V hlk;clear hlk;have Lr:∀x:Bool,x=(!j&&t.isEmpty&&okF G)->Hid (tU b=(if x then 0 else 50))/\Hid (tT b=if x then G else []):=by
    intro x hx
    have h:=V.aa
    rw[show (decide (k<=8))=true by simp;omega]at h
    cases x with
    | true=>rw[Bool.true_and,<- hx]at h;exact⟨ae (by simp[tU,h]),ae (by simp[tT,h])⟩
    | false=>rw[Bool.true_and,<- hx]at h;exact⟨ae (by simp[tU,h]),ae (by simp[tT,h])⟩
   have QZ:=ae Lr;clear Lr;go_wp2_with fail
   refine (Oa g _ _ wr U).mono ?_;rintro e w'⟨rfl,rfl⟩;cases hd:(!j&&t.isEmpty)
   ·exact aez
   ·obtain⟨A',c',rfl,hR',_,_⟩:=T.slice;have hrow:=my (bq hg (Nat.le_of_lt Q)) T;go_wp2_with fail
    refine (Th A' c' G wr wr.heap.size hR' (aG _)).mono ?_;rintro e w6⟨rfl,R⟩;have XT:=hb.trans (R.mono hb.size);have Qc:=fZ hrow R;cases hok:okF G
    ·have hne:(mc G != 0)=true:=OW;exact aeA
    ·have hne:(mc G != 0)=false:=OW;exact aeB
theorem aqS{b:List UInt8}{v:Value}{w:World}(h:sl b v w)(hn:b.length<=1000000000):Calls prog 228 #[v] w λe w' =>
 ∃i,e=.returned (.tuple #[i,.int .i64 (tU b)])/\fC w' w.heap.size i (tT b)/\Below w.heap.size w w':=by
 obtain⟨A,c,rfl,j⟩:=h
 exact aoA A _ c b w _ j (aG _) hn
abbrev K(w W:World):Prop:=Below w.heap.size w W
section
variable {a b c w w' w'':World} {B g base lo:Nat} {row:Option Nat}
theorem K.rf(w:World):K w w:=aN _ _
theorem _root_.Go.RowKit.Below.tr(h:Below a.heap.size a b)(k:Below b.heap.size b c):Below a.heap.size a c:=h.trans (k.mono h.size)
theorem _root_.Go.RowKit.Below.al(h:Below a.heap.size a b)(o:Obj):Below a.heap.size a (b.alloc o):=h.alloc h.size o
theorem ai.cells{t:TypeId}{cs:Array Value}(h:ai w g t cs):∀W,K w W->∀i,W.cell? ⟨g,i,none⟩=cs[i]?:=λ_ k i=>(h.below k h.lt).cell i
structure aH(lo:Nat)(row:Option Nat)(w w':World):Prop where
 os:w'.os=w.os
 tape:w'.tape=w.tape
 output:w'.output=w.output
 size:w.heap.size<=w'.heap.size
 block:∀k,lo<=k->k<w.heap.size->some k≠row->w'.heap[k]?=w.heap[k]?
theorem aH.rf(lo:Nat)(row:Option Nat)(w:World):aH lo row w w:=⟨rfl,rfl,rfl,aG _,λ_ _ _ _=>rfl⟩
theorem aH.tr(h:aH lo row a b)(k:aH lo row b c):aH lo row a c :=
 ⟨k.os.trans h.os,k.tape.trans h.tape,k.output.trans h.output,bq h.size k.size,λi j t s=>(k.block i j (bB t h.size) s).trans (h.block i j t s)⟩
theorem aH.bg(h:K w w')(lo:Nat)(row:Option Nat):aH lo row w w':=⟨h.os,h.tape,h.output,h.size,λi _ j _=>h.block i j⟩
theorem aH.fM(h:w.grownBy w' row)(lo:Nat):aH lo row w w':=⟨h.os,h.tape,h.output,h.size,λi _ s j=>h.block i s j⟩
theorem aH.more{j:Nat}{s:Option Nat}(h:aH lo row w w')(B:lo<=j)(u:∀k,j<=k->some k≠s->some k≠row):aH j s w w' :=
 ⟨h.os,h.tape,h.output,h.size,λi y A t=>h.block i af A (u i y t)⟩
theorem aH.k(h:aH 0 row w w')(j:K a w)(t:∀k,row=some k->a.heap.size<=k):K a w' :=
 j.trans ⟨h.os,h.tape,h.output,h.size,λi s=>h.block i (fw _) (bB s j.size) (by rintro rfl;have:=t i rfl;omega)⟩
theorem aH.app(h:w.grownBy w' row){j:Option Nat}(y:j=row∨j=some w.heap.size)(k:aH lo j w' w''):aH lo row w w'':=by
 refine⟨k.os.trans h.os,k.tape.trans h.tape,k.output.trans h.output,bq h.size k.size,λi u s t=>(k.block i u (bB s h.size) ?_).trans (h.block i s t)⟩;rcases y with rfl|rfl
 ·exact t
 ·intro e;injection e with e;omega
theorem IL{α:Type}(l:List α):((l.length:Int)==0)=l.isEmpty:=by
 cases l with
 | nil=>rfl
 | cons x l=>simp;omega
structure cF(α:Type) where
 size:Nat
 rel:α->List Value->World->Prop
 len:∀ {x cs w},rel x cs w->cs.length=size
 one:∀ {x cs w},rel x cs w->∀u∈cs,u.oneCell'=true
 st:∀ {x cs w w'},rel x cs w->K w w'->rel x cs w'
variable {α:Type} {S:cF α} {l:List α} {v:Value} {A:Option Addr}
def Each(S:cF α)(l:List α)(css:List (List Value))(w:World):Prop:=css.length=l.length/\∀i (h:i<l.length) (h':i<css.length),S.rel l[i] css[i] w
theorem Each.lens{css:List (List Value)}(h:Each S l css w):∀cs∈css,cs.length=S.size:=by intro cs s;obtain⟨i,j,rfl⟩:=List.mem_iff_getElem.1 s;exact S.len (h.2 i UZ j)
theorem Each.ones{css:List (List Value)}(h:Each S l css w):∀u∈css.flatten,u.oneCell'=true:=by intro u j;obtain⟨cs,t,j⟩:=List.mem_flatten.1 j;obtain⟨i,s,rfl⟩:=List.mem_iff_getElem.1 t;exact S.one (h.2 i UZ s) u j
theorem Each.st{css:List (List Value)}(h:Each S l css w)(k:K w w'):Each S l css w':=⟨h.1,λi s j=>S.st (h.2 i s j) k⟩
theorem Each.DX{css:List (List Value)}(h:Each S l css w):css.flatten.length=l.length*S.size:=by rw[AQ S.size css h.lens,h.1]
theorem Each.get{css:List (List Value)}(h:Each S l css w)(i:Nat)(u:i<l.length):∃cs,css[i]?=some cs/\cs.length=S.size/\S.rel l[i] cs w/\∀j,j<S.size->css.flatten[i*S.size+j]?=cs[j]?:=by have s:i<css.length:=UZ;have t:=h.2 i u s;refine⟨css[i],List.getElem?_eq_getElem s,S.len t,t,λj y=>?_⟩;rw[vK S.size css h.lens i j s y,List.getElem?_eq_getElem s];rfl
theorem Each.nil(S:cF α)(w:World):Each S [] [] w:=⟨rfl,λi h=>by simp at h⟩
theorem Each.snoc{css:List (List Value)}(h:Each S l css w){x:α}{cs:List Value}(s:S.rel x cs w):Each S (l++[x]) (css++[cs]) w:=by
 refine⟨Dr,λi u y=>?_⟩;have t:=h.1;by_cases j:i<l.length
 ·have:=h.2 i j af;rw[List.getElem_append_left j,List.getElem_append_left af];exact this
 ·simp at u;have e:i=l.length:=af;subst e;rw[List.getElem_append_right (aG _),List.getElem_append_right af];simpa [t]using s
theorem Each.one{x:α}{cs:List Value}(h:S.rel x cs w):Each S [x] [cs] w:=by simpa using (Each.nil S w).snoc h
theorem Each.take{css:List (List Value)}(h:Each S l css w)(k:Nat):Each S (l.take k) (css.take k) w:=by refine⟨Dr,λi hi hi'=>?_⟩;simp only[List.getElem_take];exact h.2 i U0 U1
theorem Each.drop{css:List (List Value)}(h:Each S l css w)(k:Nat):Each S (l.drop k) (css.drop k) w:=by refine⟨Dr,λi hi hi'=>?_⟩;simp only[List.getElem_drop];exact h.2 (k+i) U0 U1
theorem Each.append{s:List α}{css t:List (List Value)}(h:Each S l css w)(k:Each S s t w):Each S (l++s) (css++t) w:=by
 refine⟨by simp[h.1,k.1],λi hi hi'=>?_⟩;have u:=h.1;by_cases j:i<l.length
 ·rw[List.getElem_append_left j,List.getElem_append_left af];exact h.2 i j af
 ·rw[List.getElem_append_right af,List.getElem_append_right af];have:=k.2 (i-l.length) U0 U1;simpa [u]using this
def wL(S:cF α)(l:List α)(A:Option Addr)(w:World):Prop:=∃css,Each S l css w/\Reads w w.heap.size S.size A l.length css.flatten
theorem DE(h:wL S l A w)(k:K w w'):wL S l A w':=by obtain⟨css,i,j⟩:=h;exact⟨css,i.st k,(j.below k (aG _)).more k.size⟩
theorem aeC(S:cF α)(A:Option Addr)(w:World):wL S [] A w:=⟨[],Each.nil _ _,Reads.nil _ _ _ _⟩
theorem DF(h:wL S l A w)(i:Nat)(G:i<l.length)(E:0<S.size):∃b s cs,A=some ⟨b,s,none⟩/\b<w.heap.size/\cs.length=S.size/\S.rel l[i] cs w/\∀j,j<S.size->w.cell? ⟨b,s+i*S.size+j,none⟩=cs[j]?:=by
 obtain⟨css,t,y⟩:=h;obtain⟨cs,I,C,B,D⟩:=t.get i G;have u:0<css.flatten.length:=by rw[t.DX];exact Nat.mul_pos (by omega) E
 obtain⟨b,s,rfl,hb,H⟩:=y.2 u;refine⟨b,s,cs,rfl,hb,C,B,λj F=>?_⟩;have:=D j F;rw[List.getElem?_eq_getElem (show j<cs.length by omega)]at this⊢;rw[Nat.add_assoc];exact H _ _ this
def ar(S:cF α)(l:List α)(v:Value)(w:World):Prop:=∃A c,v=.slice A l.length c/\wL S l A w/\l.length<=c
theorem aW(h:ar S l v w)(k:K w w'):ar S l v w':=by obtain⟨A,c,i,j,s⟩:=h;exact⟨A,c,i,DE j k,s⟩
theorem ajw(h:ar S l v w):∀W,K w W->ar S l v W:=λ_ k=>aW h k
theorem iu(S:cF α)(w:World):ar S [] (.slice none 0 0) w:=⟨none,0,rfl,aeC _ _ _,aG _⟩
def aX(base lo:Nat)(e:TypeId)(S:cF α)(l:List α)(v:Value)(w:World):Prop :=
 ∃css,w.ownsRow base e S.size v l.length css.flatten/\css.length=l.length/\∀w',aH lo v.ownBlock w w'->Each S l css w'
theorem aX.nil(base lo:Nat)(e:TypeId)(S:cF α)(w:World):aX base lo e S [] (.slice none 0 0) w:=⟨[],iF _ _ _ _,rfl,λ_ _=>Each.nil _ _⟩
theorem aX.st{e:TypeId}(h:aX base lo e S l v w)(k:K w w'):aX base lo e S l v w':=by obtain⟨css,i,j,t⟩:=h;exact⟨css,fZ i k,j,λs u=>t s ((aH.bg k lo _).tr u)⟩
theorem aX.up{e:TypeId}(h:aX base lo e S l v w)(F:lo<=base)(u:aH lo none w w'):aX base lo e S l v w':=by obtain⟨css,i,t,C⟩:=h;refine⟨css,⟨i.1,i.2.imp id ?_⟩,t,λy s=>C y (aH.tr (u.more (aG _) (λ_ _ _=>aj)) s)⟩;rintro ⟨g,cap,A,D,E,j,B⟩;exact⟨g,cap,A,D,E,(u.block g af (Array.getElem?_eq_some_iff.1 j).1 aj).trans j,B⟩
theorem aX.low{e:TypeId}{base':Nat}(h:aX base' lo e S l v w)(hb:base<=base'):aX base lo e S l v w:=by exact aeD
theorem aX.slice{e:TypeId}(h:aX base lo e S l v w):∃A c,v=.slice A l.length c/\wL S l A w/\l.length<=c/\(∀g,v.ownBlock=some g->base<=g/\g<w.heap.size):=by
 obtain⟨css,i,y,t⟩:=h;have u:=i;have s:=t w (aH.rf _ _ _);have hg:∀g,v.ownBlock=some g->base<=g/\g<w.heap.size:=λg hg=>i.lt g hg
 rcases i.2 with ⟨rfl,j⟩|⟨g,cap,B,rfl,_,_,hn,_⟩
 ·obtain rfl:l=[]:=List.eq_nil_of_length_eq_zero j;exact⟨none,0,rfl,aeC _ _ _,aj,hg⟩
 ·exact⟨_,_,rfl,⟨css,s,Reads.xz u⟩,hn,hg⟩
theorem aX.blk{e:TypeId}(h:aX base lo e S l v w):∀g,v.ownBlock=some g->base<=g/\g<w.heap.size:=by obtain⟨css,i,_,_⟩:=h;exact λg hg=>i.lt g hg
theorem aX.ar{e:TypeId}(h:aX base lo e S l v w):ar S l v w:=by obtain⟨A,c,i,j,s,_⟩:=h.slice;exact⟨A,c,i,j,s⟩
theorem aX.snoc{e:TypeId}{css:List (List Value)}(t:css.length=l.length)(y:∀w',aH lo v.ownBlock w w'->Each S l css w')
 {x:α} {cs:List Value} {i:Value} (ho:w'.ownsRow base e S.size i (l.length+1) (css.flatten++cs)) (hg:w.grownBy w' v.ownBlock) (A:i.ownBlock=v.ownBlock∨i.ownBlock=some w.heap.size)
 (s:∀w',aH lo v.ownBlock w w'->S.rel x cs w'):aX base lo e S (l++[x]) i w':=by
 refine⟨css++[cs],KB,by simp[t],λB u=>?_⟩
 have j:=aH.app hg A u
 exact (y _ j).snoc (s _ j)
end
def ke(x:bh):List UInt8:=(aD x.1.size++dh x.1)++nC x.2.1 x.2.2.1 x.2.2.2
def jb(l:List bh):List UInt8:=aD l.length++l.flatMap ke
def Bz(l:List bh):List UInt8:=if fK l then jb l else []
theorem U2{p:Option ByteArray}{l:List bh}(h:jC p l=true):∀x∈l,mo x=true:=by
 induction l generalizing p with
 | nil=>simp
 | cons y l j =>
  simp only[jC,cz]at h;intro x i;rcases List.mem_cons.1 i with rfl|i
  ·exact h.1.1
  ·exact j h.2 x i
theorem TV{x:bh}(h:mo x=true):x.1.size<=16/\x.2.2.2.size<=40:=by simp only[mo,rU,cz,decide_eq_true_eq]at h;exact⟨h.1.1.2,(Ii h.2).2⟩
theorem Oq{l:List bh}(h:fK l=true):1<=l.length/\l.length<=16/\jC none l=true:=by simp only[fK,cz,decide_eq_true_eq]at h;exact⟨h.1.1,h.1.2,h.2⟩
theorem aue{x:bh}(h:mo x=true)(i:-9223372036854775808<=x.2.2.1)(j:x.2.2.1<=9223372036854775807):(ke x).length<=92:=by obtain⟨a,b⟩:=TV h;have u:=cG x.1.size af;have y:=cG (bf x.2.1) (fI _);have s:=cG (ue x.2.1 x.2.2.1) (Kl _ _ i j);have t:=cG x.2.2.2.size af;simp[ke,nC];omega
theorem auf(l:List bh)(hk:∀x∈l,(ke x).length<=92):(l.flatMap ke).length<=92*l.length:=by exact aeE
theorem adk(l:List bh)(k:Nat)(s:fK l=true)(j:∀x∈l,bU x.2.1/\bU x.2.2.1):(aD l.length++(l.take k).flatMap ke).length<=2000:=by
 obtain⟨A,B,t⟩:=Oq s;have u:=cG l.length af;have y:=auf (l.take k) λx i=>aue (U2 t x (lE i)) (j x (lE i)).2.1 (j x (lE i)).2.2
 have h6:(l.take k).length<=16:=aU;exact U3
theorem asn(l:List bh)(k:Nat)(h:k<l.length):aD l.length++(l.take (k+1)).flatMap ke=aD l.length++(l.take k).flatMap ke++(aD l[k].1.size++dh l[k].1)++nC l[k].2.1 l[k].2.2.1 l[k].2.2.2:=by rw[gE h,List.flatMap_append,oc,List.flatMap_nil,List.append_nil];simp only[ke,dG]
theorem Reads.ajR(w:World)(s:ByteArray)(c:Nat)(x:Nat×Nat)(e:TypeId)(n:Nat)(hn:w.heap.size=n):Reads (w.alloc (.cells (bytesRow s c) e x)).drew (n+1) 1 (some ⟨n,0,none⟩) s.size (dy (dh s)):=by subst hn;exact Reads.drew (Reads.conv w s c x e)
def mV(x:bh):Prop:=bU x.2.1/\bU x.2.2.1
theorem awZ(l:List UInt8):dh ⟨l.toArray⟩=l:=by simp[dh]
theorem aeF(s:ByteArray):(dh s).length=s.size:=by simp
theorem avE(x:bh)(i:mo x=true)(j:mV x)(rest:List UInt8):sk (ke x++rest) false=(x,rest,false):=by
 obtain⟨fT,B⟩:=TV i;obtain⟨s,k,n,t⟩:=x;have u:iU k n t=true:=by simp only[mo,cz]at i;exact i.2
 have y:aP 16 (ke (s,k,n,t)++rest) false=(dh s,nC k n t++rest,false):=by have:=EZ 16 (dh s) aeG aeG (nC k n t++rest);rw[aeF]at this;simp only[ke];rw[dG (aD s.size++dh s)];exact this
 have A:=ade k n t u j.2.1 j.2.2 rest;unfold sk;rw[y];simp only;rw[A]
theorem aug(l:List bh)(h:∀x∈l,mo x=true/\mV x)(rest:List UInt8):∀k,k<=l.length->fA k (l.flatMap ke++rest) false=(l.take k,(l.drop k).flatMap ke++rest,false):=by
 intro k
 induction k with
 | zero=>intro _;simp[fA]
 | succ k t => intro hk;have i:k<l.length:=af;have s:l.drop k=l[k] :: l.drop (k+1):=UX;have j:=h l[k] (bW i);show ((fA k (l.flatMap ke++rest) false).1++[(sk (fA k (l.flatMap ke++rest) false).2.1 (fA k (l.flatMap ke++rest) false).2.2).1],(sk (fA k (l.flatMap ke++rest) false).2.1 (fA k (l.flatMap ke++rest) false).2.2).2)=_;rw[t af];simp only;rw[s,oc,dG,avE _ j.1 j.2,gE i]
theorem aso(l:List bh)(t:fK l=true)(y:∀x∈l,mV x)(rest:List UInt8):aC (jb l++rest) false=(l.length,l.flatMap ke++rest,false)/\FH (jb l++rest)=(l,rest,false):=by
 obtain⟨A,B,u⟩:=Oq t;have j:aC (jb l++rest) false=(l.length,l.flatMap ke++rest,false):=by unfold jb;rw[dG];exact pN l.length af _
 refine⟨j,?_⟩;have s:=aug l (λx i=>⟨U2 u x i,y x i⟩) rest l.length (aG _);unfold FH;rw[j];simpa using s
theorem auh(l:List bh)(i:fK l=true)(j:∀x∈l,mV x):r7 (jb l)=some l:=by have h:=aso l i j [];rw[List.append_nil]at h;have s:=(Oq i).2.1;unfold r7;rw[h.2,h.1];simp[i,s]
theorem aui{l:List UInt8}{wr:Bool}(h:(sk l wr).2.2=false):l=ke (sk l wr).1++(sk l wr).2.1/\wr=false:=by obtain⟨u,_,t,_⟩:=Uh (l:=(aP 16 l wr).2.1) (wr:=(aP 16 l wr).2.2) h;obtain⟨j,_,i⟩:=E0 t;refine⟨?_,i⟩;unfold sk ke;simp only;rw[awZ];have s:(⟨(aP 16 l wr).1.toArray⟩:ByteArray).size=(aP 16 l wr).1.length:=OQ;rw[s,dG,<- u];exact j
theorem asp{k:Nat}{l:List UInt8}{wr:Bool}(h:(fA k l wr).2.2=false):l=(fA k l wr).1.flatMap ke++(fA k l wr).2.1/\wr=false:=by
 induction k with
 | zero=>exact⟨by simp[fA],h⟩
 | succ k s => obtain⟨e1,j⟩:=aui (l:=(fA k l wr).2.1) (wr:=(fA k l wr).2.2) h;obtain⟨e2,i⟩:=s j;refine⟨?_,i⟩;show l=((fA k l wr).1++[(sk (fA k l wr).2.1 (fA k l wr).2.2).1]).flatMap ke++(sk (fA k l wr).2.1 (fA k l wr).2.2).2.1;exact UY
theorem acv{b:List UInt8}{y:List bh}(h:r7 b=some y):b=jb y/\fK y=true/\∀x∈y,mV x:=by
 unfold r7 at h;split at h
 ·rename_i s;injection h with h;simp only[cz,Bool.not_eq_true',List.isEmpty_iff,decide_eq_true_eq]at s;obtain⟨⟨⟨E,u⟩,t⟩,j⟩:=s;unfold FH at u t j h;obtain⟨i,D⟩:=asp u;obtain⟨C,_⟩:=qM D;have A:=(Ui (aC b false).1 (aC b false).2.1 (aC b false).2.2).2;have hfit:=at4 (aC b false).1 (aC b false).2.1 (aC b false).2.2;rw[h]at i A j hfit;rw[t,List.append_nil]at i;refine⟨?_,j,λx B=>(hfit x B).1⟩;unfold jb;rw[A,<- i];exact C
 ·cases h
theorem Uj{l:List bh}(h:fK l=true)(i:∀x∈l,mV x):(jb l).length<=2000:=by have:=adk l l.length h i;rwa [mC]at this
structure aq where
 kind:Int
 br:Int
 life:Nat
 cI:Nat
 cl:Int
 sub:Nat
 f:List bc
 es:List (List bh)
 deriving DecidableEq
def eW:aq:=⟨0,0,0,0,0,0,[],[]⟩
def cK(x:aq):Prop:=bU x.kind/\bU x.br/\bU x.cl/\x.life<18446744073709551616/\x.cI<18446744073709551616/\x.sub<18446744073709551616/\(∀t∈x.f,iH t)/\∀e∈x.es,∀a∈e,mV a
def pV(b:Int):Bool:=decide (0<=b)&&decide (b<16)
def bP(x:aq):Bool :=
 pV x.br&&decide (0<=x.cl)&&decide (x.cl<32) &&
  (if x.kind=1 then decide (x.sub=0)&&x.f.isEmpty&&decide (x.es.length<=8)&&x.es.all fK
   else if x.kind=3 then x.f.isEmpty&&x.es.isEmpty
   else if x.kind=2 then x.es.isEmpty&&okF x.f else false)
def oI(x:aq):Int:=if bP x then 0 else 110
def gZ(b:List UInt8):List UInt8:=aD b.length++b
def mD(x:aq):List UInt8:=aD (bf x.kind)++(aD (bf x.br)++(aD x.life++(aD x.cI++(aD (bf x.cl)++aD x.sub))))
def eO(x:aq):List UInt8 :=
 mD x++(if x.kind=1 then aD x.es.length++x.es.flatMap (λe=>gZ (jb e))else if x.kind=2 then gZ (jx x.f)else [])
def mf(n:Int):zC (List bh):=λl wr=>match r7 (aP n l wr).1 with
 | none=>([],(aP n l wr).2.1,true)
 | some e=>(e,(aP n l wr).2)
def pq(n:Int):zC (List bc):=λl wr=>match pT (aP n l wr).1 with
 | none=>([],(aP n l wr).2.1,true)
 | some e=>(e,(aP n l wr).2)
theorem JZ(n:Int):DK (λe=>gZ (jb e)) (λe=>fK e=true/\(∀x∈e,mV x)/\((jb e).length:Int)<=n) (mf n) where
 fwd:=by rintro e⟨i,j,u⟩ rest;have A:=Uj i j;have hb:=EZ n (jb e) af u rest;simp only[mf,gZ];rw[hb];simp only[auh e i j]
 back:=by
  intro l wr h
  simp only[mf]at h⊢
  cases hd:r7 (aP n l wr).1 with
  | none=>rw[hd]at h;cases h
  | some e => rw[hd]at h;obtain⟨t,_,s⟩:=E0 h;have y:=(acv hd).1;refine⟨?_,s⟩;simp only[gZ];rw[<- y];exact t
 len:=by intro l wr;have:=Dq n l wr;simp only[mf];split <;> simpa using this
theorem asq{l:List bc}(h:okF l=true)(j:∀x∈l,iH x)(i:(jx l).length<18446744073709551616)(n:Int)(hn:((jx l).length:Int)<=n)(rest:List UInt8):pq n (gZ (jx l)++rest) false=(l,rest,false):=by have hb:=EZ n (jx l) i hn rest;simp only[pq,gZ];rw[hb];simp only[at7 l h j]
theorem asr(n:Int)(l:List UInt8)(wr:Bool)(h:(pq n l wr).2.2=false):l=gZ (jx (pq n l wr).1)++(pq n l wr).2.1/\wr=false:=by
 simp only[pq]at h⊢
 cases hd:pT (aP n l wr).1 with
 | none=>rw[hd]at h;cases h
 | some e => rw[hd]at h;obtain⟨s,_,i⟩:=E0 h;have j:=(acu hd).1;refine⟨?_,i⟩;simp only[gZ];rw[<- j];exact s
def fV(l:List UInt8)(wr:Bool):(Nat×Nat×Nat×Nat×Nat×Nat)×List UInt8×Bool :=
 let h:=aC l wr
 let j:=aC h.2.1 h.2.2
 let t:=aC j.2.1 j.2.2
 let s:=aC t.2.1 t.2.2
 let i:=aC s.2.1 s.2.2
 let u:=aC i.2.1 i.2.2
 ((h.1,j.1,t.1,s.1,i.1,u.1),u.2)
theorem avF(a b c d e f:Nat)(s:a<18446744073709551616)(hb:b<18446744073709551616)(h:c<18446744073709551616)(t:d<18446744073709551616)(i:e<18446744073709551616)(j:f<18446744073709551616)(rest:List UInt8) :
 fV (aD a++(aD b++(aD c++(aD d++(aD e++aD f))))++rest) false=((a,b,c,d,e,f),rest,false):=by
 simp only[fV,dG,pN,s,hb,h,t,i,j]
theorem auj(l:List UInt8)(wr:Bool)(h:(fV l wr).2.2=false) :
 l=aD (fV l wr).1.1++(aD (fV l wr).1.2.1++(aD (fV l wr).1.2.2.1++(aD (fV l wr).1.2.2.2.1++(aD (fV l wr).1.2.2.2.2.1++aD (fV l wr).1.2.2.2.2.2))))++(fV l wr).2.1/\wr=false:=by
 simp only[fV]at h⊢
 obtain⟨i,h⟩:=qM h
 obtain⟨j,h⟩:=qM h
 obtain⟨t,h⟩:=qM h
 obtain⟨s,h⟩:=qM h
 obtain⟨y,h⟩:=qM h
 obtain⟨u,h⟩:=qM h
 refine⟨?_,h⟩
 simp only[dG]
 rw[<- i,<- j,<- t,<- s,<- y]
 exact u
theorem aqT{k n:Int}{s:ByteArray}(i:-9223372036854775808<=n)(j:n<=9223372036854775807)(u:s.size<=40):(nC k n s).length<=67:=by have y:=cG (bf k) (fI _);have A:=cG (ue k n) (Kl _ _ i j);have t:=cG s.size af;simp[nC];omega
theorem auk{t:bc}(h:fU t=true)(i:iH t):(jS t).length<=101:=by
 obtain⟨j,_,_,h8,hn⟩:=EV h;have u:=cG t.1.size af;have A:=cG (bf t.2.1) (fI _);have y:t.1.data.size<=16:=j;unfold jS;simp only[cT];split
 ·simp only[dh,Array.length_toList,List.length_nil];omega
 ·rename_i e;have s:(nC t.2.2.1 t.2.2.2.1 t.2.2.2.2).length<=67:=aqT i.2.2.1 i.2.2.2 (Ii (hn Iq)).2;simp only[dh,Array.length_toList];omega
def mW(a:Nat×Nat×Nat×Nat×Nat×Nat):aq:=⟨(min a.1 4:Nat),(min a.2.1 16:Nat),a.2.2.1,a.2.2.2.1,(min a.2.2.2.2.1 32:Nat),a.2.2.2.2.2,[],[]⟩
def pr(n:Int):zC aq:=λl wr =>
 if min (fV l wr).1.1 4=1 then
  ({ mW (fV l wr).1 with es:=(cY (mf n) (min (aC (fV l wr).2.1 (fV l wr).2.2).1 9) (aC (fV l wr).2.1 (fV l wr).2.2).2.1 (aC (fV l wr).2.1 (fV l wr).2.2).2.2).1 },
   (cY (mf n) (min (aC (fV l wr).2.1 (fV l wr).2.2).1 9) (aC (fV l wr).2.1 (fV l wr).2.2).2.1 (aC (fV l wr).2.1 (fV l wr).2.2).2.2).2)
 else if min (fV l wr).1.1 4=2 then ({ mW (fV l wr).1 with f:=(pq n (fV l wr).2.1 (fV l wr).2.2).1 },(pq n (fV l wr).2.1 (fV l wr).2.2).2)
 else (mW (fV l wr).1,(fV l wr).2)
theorem Dg{x:aq}(h:bP x=true):(0<=x.br/\x.br<16)/\(0<=x.cl/\x.cl<32) /\
 ((x.kind=1/\x.sub=0/\x.f=[]/\x.es.length<=8/\∀e∈x.es,fK e=true)∨(x.kind=3/\x.f=[]/\x.es=[])∨(x.kind=2/\x.es=[]/\okF x.f=true)):=by
 simp only[bP,pV,cz,decide_eq_true_eq]at h
 obtain⟨⟨⟨⟨s,t⟩,u⟩,j⟩,i⟩:=h
 refine⟨⟨s,t⟩,⟨u,j⟩,?_⟩
 split at i
 ·rename_i hk;simp only[cz,decide_eq_true_eq,List.isEmpty_iff,pU]at i;exact .inl ⟨hk,i.1.1.1,i.1.1.2,i.1.2,i.2⟩
 ·split at i
  ·rename_i hk;simp only[cz,List.isEmpty_iff]at i;exact .inr (.inl ⟨hk,i.1,i.2⟩)
  ·split at i
   ·rename_i hk;simp only[cz,List.isEmpty_iff]at i;exact .inr (.inr ⟨hk,i.1,i.2⟩)
   ·cases i
theorem vM(k:Int)(h:0<=k)(i:k<100):bf k=k.toNat:=by unfold bf;omega
theorem aul(n:Int)(x:aq)(h:bP x=true)(L:cK x)(E:∀e∈x.es,((jb e).length:Int)<=n)(F:((jx x.f).length:Int)<=n)(G:(jx x.f).length<18446744073709551616)(rest:List UInt8) :
 pr n (eO x++rest) false=(x,rest,false):=by
 obtain⟨⟨B,M⟩,⟨y,O⟩,hk⟩:=Dg h
 obtain⟨_,_,_,C,H,D,u,A⟩:=L
 obtain⟨kind,br,life,cI,cl,sub,f,es⟩:=x
 simp only at B M y O hk C H D u A E F G
 have Q:=vM br B af
 have S:=vM cl y af
 have h6:∀R,fV (mD ⟨kind,br,life,cI,cl,sub,f,es⟩++R) false=((bf kind,bf br,life,cI,bf cl,sub),R,false):=λR =>
  avF (bf kind) (bf br) life cI (bf cl) sub (fI _) (fI _) C H (fI _) D R
 have s:((min (bf br) 16:Nat):Int)=br:=af
 have t:((min (bf cl) 32:Nat):Int)=cl:=af
 rcases hk with ⟨rfl,rfl,rfl,h8,J⟩|⟨rfl,rfl,rfl⟩|⟨rfl,rfl,N⟩
 ·have e:eO ⟨1,br,life,cI,cl,0,[],es⟩++rest=mD ⟨1,br,life,cI,cl,0,[],es⟩++(aD es.length++(es.flatMap (λe=>gZ (jb e))++rest)):=by simp[eO,dG]
  have I:=aeq (JZ n) es (λe j=>⟨J e j,A e j,E e j⟩) rest es.length (aG _);have i:bf 1=1:=rfl;unfold pr;rw[e,h6];simp only[i];rw[if_pos au,pN es.length af];simp only;rw[show min es.length 9=es.length by omega,I];simp[mW,s,t]
 ·have e:eO ⟨3,br,life,cI,cl,sub,[],[]⟩++rest=mD ⟨3,br,life,cI,cl,sub,[],[]⟩++rest:=by simp[eO]
  have i:bf 3=3:=rfl;unfold pr;rw[e,h6];simp only[i];rw[if_neg au,if_neg au];simp[mW,s,t]
 ·have e:eO ⟨2,br,life,cI,cl,sub,f,[]⟩++rest=mD ⟨2,br,life,cI,cl,sub,f,[]⟩++(gZ (jx f)++rest):=by simp[eO,dG]
  have i:bf 2=2:=rfl;unfold pr;rw[e,h6];simp only[i];rw[if_neg au,if_pos au,asq N u G n F];simp[mW,s,t]
theorem U4{x:aq}(h:x.kind=1):eO x=mD x++(aD x.es.length++x.es.flatMap λe=>gZ (jb e)):=by unfold eO;rw[if_pos h]
theorem U6{x:aq}(h:x.kind=2):eO x=mD x++gZ (jx x.f):=by unfold eO;rw[if_neg (by omega),if_pos h]
theorem U8{x:aq}(i:¬x.kind=1)(h:¬x.kind=2):eO x=mD x:=by unfold eO;rw[if_neg i,if_neg h,List.append_nil]
theorem ass(n:Int)(l:List UInt8)(wr:Bool)(h:(pr n l wr).2.2=false)(s:bP (pr n l wr).1=true):l=eO (pr n l wr).1++(pr n l wr).2.1/\wr=false:=by
 have h6:=auj l wr;unfold pr at h s⊢;generalize fV l wr=r at *;obtain⟨⟨a,b,c,d,e,f⟩,i,j⟩:=r;simp only at h s h6⊢;have C:∀x:aq,x.kind=(min a 4:Nat)->x.br=(min b 16:Nat)->x.cl=(min e 32:Nat)->x.life=c->x.cI=d->x.sub=f->bP x=true ->
  mD x=aD a++(aD b++(aD c++(aD d++(aD e++aD f)))):=by
  intro x U R S L M h6 E
  obtain⟨⟨N,V⟩,⟨F,W⟩,hk⟩:=Dg E
  have J:bf x.kind=a:=by
   have:x.kind=1∨x.kind=3∨x.kind=2:=by
    rcases hk with hk|hk|hk
    ·exact .inl hk.1
    ·exact .inr (.inl hk.1)
    ·exact .inr (.inr hk.1)
   rw[vM x.kind af af];omega
  have G:bf x.br=b:=by rw[vM x.br N (by omega)];omega
  have I:bf x.cl=e:=by rw[vM x.cl F (by omega)];omega
  unfold mD
  rw[J,G,I,L,M,h6]
 split at h
 ·rename_i D;rw[if_pos D]at s⊢;have h8:(cY (mf n) (min (aC i j).1 9) (aC i j).2.1 (aC i j).2.2).1.length=min (aC i j).1 9:=(Kw (JZ n) _ _ _).2;obtain⟨y,A⟩:=adg (JZ n) h;obtain⟨Q,O⟩:=qM A;obtain⟨t,w⟩:=h6 O;refine⟨?_,w⟩;have u:=C _ rfl rfl rfl rfl rfl rfl s;obtain⟨-,-,hk⟩:=Dg s;have T:(cY (mf n) (min (aC i j).1 9) (aC i j).2.1 (aC i j).2.2).1.length<=8:=by
   rcases hk with hk|hk|hk
   ·exact hk.2.2.2.1
   ·have:=hk.1;simp only[mW]at this;omega
   ·have:=hk.1;simp only[mW]at this;omega
  have hm:min (aC i j).1 9=(aC i j).1:=af;rw[U4 OX,u];simp only;rw[h8,hm];rw[hm]at y;generalize aD a++(aD b++(aD c++(aD d++(aD e++aD f))))=H at t⊢;rw[dG H,dG (aD (aC i j).1),<- y,<- Q];exact t
 ·rename_i D;rw[if_neg D]at s⊢;split at h
  ·rename_i B;rw[if_pos B]at s⊢;obtain⟨y,A⟩:=asr n i j h;obtain⟨t,w⟩:=h6 A;refine⟨?_,w⟩;have u:=C _ rfl rfl rfl rfl rfl rfl s;rw[U6 OX,u];simp only;generalize aD a++(aD b++(aD c++(aD d++(aD e++aD f))))=H at t⊢;rw[dG H,<- y];exact t
  ·rename_i B;rw[if_neg B]at s⊢;obtain⟨t,w⟩:=h6 h;refine⟨?_,w⟩;have u:=C _ rfl rfl rfl rfl rfl rfl s;rw[U8 OX OX,u];exact t
def kN(b:List UInt8):Option aq:=if !(pr b.length b false).2.2&&(pr b.length b false).2.1.isEmpty&&bP (pr b.length b false).1 then some (pr b.length b false).1 else none
def pP(b:List UInt8):aq:=(kN b).getD eW
def xA(b:List UInt8):Int:=if (kN b).isSome then 0 else 110
theorem abO{b:List UInt8}{x:aq}(h:kN b=some x):b=eO x/\bP x=true:=by
 unfold kN at h;split at h
 ·rename_i j;injection h with h;simp only[cz,Bool.not_eq_true',List.isEmpty_iff]at j;obtain⟨⟨s,t⟩,i⟩:=j;have hb:=(ass _ b false s i).1;rw[t,List.append_nil,h]at hb;rw[h]at i;exact⟨hb,i⟩
 ·cases h
theorem aum(x:aq)(hk:x.kind=1)(e:List bh)(i:e∈x.es):(jb e).length<=(eO x).length:=by
 have j:(gZ (jb e)).length<=(x.es.flatMap λe=>gZ (jb e)).length:=by obtain⟨s,t,u⟩:=List.append_of_mem i;rw[u,List.flatMap_append,oc];exact Va
 unfold eO;rw[if_pos hk];simp only[gZ,cT]at j⊢;omega
theorem acw(x:aq)(h:bP x=true)(s:cK x):kN (eO x)=some x:=by
 obtain⟨-,-,hk⟩:=Dg h;have u:(jx x.f).length<18446744073709551616/\((jx x.f).length:Int)<=((eO x).length:Int):=by
  have F:1<=(aD (bf x.kind)).length:=by simp[aD]
  have G:1<=(mD x).length:=by unfold mD;rw[cT];omega
  rcases hk with ⟨_,_,hfn,_⟩|⟨_,hfn,_⟩|⟨hk,_,C⟩
  ·exact aeH
  ·exact aeH
  ·refine⟨?_,?_⟩
   ·have h8:=AV C;have A:=s.2.2.2.2.2.2.1;have D:=cG x.f.length af;have E:(x.f.flatMap jS).length<=101*x.f.length:=by
     have:∀l:List bc,(∀t∈l,fU t=true/\iH t)->(l.flatMap jS).length<=101*l.length:=by exact aeI
     exact this _ λt ht=>⟨h8.2 t ht,A t ht⟩
    unfold jx;rw[cT];omega
   ·unfold eO;rw[if_neg af,if_pos hk];simp only[gZ,cT];omega
 have B:∀e∈x.es,((jb e).length:Int)<=((eO x).length:Int):=by
  intro e i;rcases hk with ⟨hk,_⟩|⟨_,_,hn⟩|⟨_,hn,_⟩
  ·have:=aum x hk e i;omega
  ·rw[hn]at i;cases i
  ·rw[hn]at i;cases i
 have j:=aul (eO x).length x h s B u.2 u.1 [];rw[List.append_nil]at j;unfold kN;rw[j];simp[h]
theorem acx{l:List bc}(h:okF l=true)(j:∀x∈l,iH x):(jx l).length<=900:=by
 have h8:=AV h;have s:=cG l.length af;have i:∀l:List bc,(∀t∈l,fU t=true/\iH t)->(l.flatMap jS).length<=101*l.length:=by exact aeI
 have h6:=i l λt ht=>⟨h8.2 t ht,j t ht⟩
 unfold jx;rw[cT];omega
theorem abP(es:List (List bh))(h:∀e∈es,fK e=true/\∀a∈e,mV a):(es.flatMap λe=>gZ (jb e)).length<=2009*es.length:=by
 induction es with
 | nil=>simp
 | cons y l j =>
  have B:=j λt i=>h t (by simp[i])
  obtain⟨s,u⟩:=h y aj;have C:=Uj s u;have D:=cG (jb y).length af;have A:(gZ (jb y)).length=(aD (jb y).length).length+(jb y).length:=by simp[gZ]
  exact Vb
theorem Ib{x:aq}(h:bP x=true)(C:cK x):(eO x).length<=20000:=by
 obtain⟨_,_,hk⟩:=Dg h;obtain⟨_,_,_,t,B,y,u,A⟩:=C;have L:=cG (bf x.kind) (fI _);have M:=cG (bf x.br) (fI _);have F:=cG x.life t;have I:=cG x.cI B;have J:=cG (bf x.cl) (fI _);have H:=cG x.sub y;have G:(mD x).length<=54:=by unfold mD;simp only[cT];omega
 rcases hk with ⟨hk,_,_,h8,E⟩|⟨hk,_,_⟩|⟨hk,_,D⟩
 ·have j:=abP x.es λe i=>⟨E e i,A e i⟩
  have s:=cG x.es.length af;rw[U4 hk];simp only[cT];omega
 ·rw[U8 af af];omega
 ·have j:=acx D u;have s:=cG (jx x.f).length af;rw[U6 hk];simp only[cT,gZ];omega
structure Rec where
 kind:Int
 n:Nat
 e:aq
 br:Int
 life:Nat
 cI:Nat
 deriving DecidableEq
def aki:Rec:=⟨0,0,eW,0,0,0⟩
def nX(x:Rec):Prop:=bU x.kind/\x.n<18446744073709551616/\cK x.e/\bU x.br/\x.life<18446744073709551616/\x.cI<18446744073709551616
def wh(x:Rec):Bool:=decide (x.br=0)&&decide (x.life=0)&&decide (x.cI=0)
def gh(x:Rec):Bool :=
 if x.kind=1 then decide (x.e=eW)&&wh x
 else if x.kind=2 then bP x.e&&wh x
 else if x.kind=3 then decide (x.n=0)&&bP x.e&&wh x
 else if x.kind=4∨x.kind=5 then pV x.br&&decide (x.n=0)&&decide (x.e=eW)else false
def bV(x:Rec):List UInt8 :=
 aD (bf x.kind)++(aD x.n++(if x.kind=2∨x.kind=3 then gZ (eO x.e)else if x.kind=4∨x.kind=5 then aD (bf x.br)++(aD x.life++aD x.cI)else []))
theorem AR{x:Rec}(h:gh x=true):(x.kind=1/\x.e=eW/\x.br=0/\x.life=0/\x.cI=0)∨((x.kind=2∨x.kind=3/\x.n=0)/\bP x.e=true/\x.br=0/\x.life=0/\x.cI=0) ∨
 ((x.kind=4∨x.kind=5)/\(0<=x.br/\x.br<16)/\x.n=0/\x.e=eW):=by
 unfold gh wh pV at h
 split at h
 ·rename_i hk;simp only[cz,decide_eq_true_eq]at h;exact .inl ⟨hk,h.1,h.2.1.1,h.2.1.2,h.2.2⟩
 ·split at h
  ·rename_i hk;simp only[cz,decide_eq_true_eq]at h;exact .inr (.inl ⟨.inl hk,h.1,h.2.1.1,h.2.1.2,h.2.2⟩)
  ·split at h
   ·rename_i hk;simp only[cz,decide_eq_true_eq]at h;exact .inr (.inl ⟨.inr ⟨hk,h.1.1⟩,h.1.2,h.2.1.1,h.2.1.2,h.2.2⟩)
   ·split at h
    ·rename_i hk;simp only[cz,decide_eq_true_eq]at h;exact .inr (.inr ⟨hk,h.1.1,h.1.2,h.2⟩)
    ·cases h
def y4(m:Int):zC Rec:=λl wr =>
 let a:=aC l wr
 let b:=aC a.2.1 a.2.2
 let k:=min a.1 6
 if k=2∨k=3 then
  match kN (aP m b.2.1 b.2.2).1 with
  | none=>(aki,(aP m b.2.1 b.2.2).2.1,true)
  | some e=>(⟨(k:Nat),b.1,e,0,0,0⟩,(aP m b.2.1 b.2.2).2)
 else if k=4∨k=5 then
  let c:=aC b.2.1 b.2.2
  let d:=aC c.2.1 c.2.2
  let e:=aC d.2.1 d.2.2
  (⟨(k:Nat),b.1,eW,(min c.1 16:Nat),d.1,e.1⟩,e.2)
 else (⟨(k:Nat),b.1,eW,0,0,0⟩,b.2)
theorem acy(m:Int)(x:Rec)(h:gh x=true)(F:nX x)(hm:((eO x.e).length:Int)<=m)(u:(eO x.e).length<18446744073709551616)(rest:List UInt8):y4 m (bV x++rest) false=(x,rest,false):=by
 obtain⟨kind,n,e,br,life,cI⟩:=x;obtain⟨-,hn,A,-,B,y⟩:=F;simp only at hn A B y hm u;rcases AR h with ⟨hk,j,hb,i,s⟩|⟨hk,j,hb,i,s⟩|⟨hk,hb,i,j⟩
 ·simp only at hk j hb i s;subst hk j hb i s;have t:bV ⟨1,n,eW,0,0,0⟩++rest=aD 1++(aD n++rest):=by simp[bV,show bf 1=1 from rfl,dG]
  simp only[y4];rw[t,pN 1 au];simp only[pN,hn];simp
 ·simp only at hk j hb i s;subst hb i s;have E:kind=2∨kind=3:=af;have D:=vM kind af af;have t:bV ⟨kind,n,e,0,0,0⟩++rest=aD (bf kind)++(aD n++(aD (eO e).length++eO e++rest)):=by simp only[bV];rw[if_pos E];simp[gZ,dG]
  have C:=EZ m (eO e) u hm rest;simp only[y4];rw[t,pN _ (fI _)];simp only[pN,hn];rw[if_pos af,C];simp only[acw e j A];rw[show ((min (bf kind) 6:Nat):Int)=kind by omega]
 ·simp only at hk hb i j;subst i j;have D:=vM kind af af;have G:=vM br hb.1 af;have t:bV ⟨kind,0,eW,br,life,cI⟩++rest=aD (bf kind)++(aD 0++(aD (bf br)++(aD life++(aD cI++rest)))):=by simp only[bV];rw[if_neg af,if_pos hk];simp[dG]
  simp only[y4];rw[t,pN _ (fI _)];simp only[pN,B,y,fI,show (0:Nat)<18446744073709551616 by decide];rw[if_neg af,if_pos af,show ((min (bf kind) 6:Nat):Int)=kind by omega,show ((min (bf br) 16:Nat):Int)=br by omega]
def Lg(b:List UInt8):Option Rec:=if !(y4 b.length b false).2.2&&(y4 b.length b false).2.1.isEmpty&&gh (y4 b.length b false).1 then some (y4 b.length b false).1 else none
def Vc(b:List UInt8):Rec:=(Lg b).getD aki
def OY(b:List UInt8):Int:=if (Lg b).isSome then 0 else 110
theorem aeJ:(eO eW).length=6:=by simp[eO,mD,eW,aD,bf,fJ,be]
theorem aqU(x:Rec)(h:gh x=true)(j:nX x):Lg (bV x)=some x:=by
 have i:(eO x.e).length<18446744073709551616/\((eO x.e).length:Int)<=30000/\((x.kind=2∨x.kind=3)->((eO x.e).length:Int)<=((bV x).length:Int)):=by
  have hle:(x.kind=2∨x.kind=3)->((eO x.e).length:Int)<=((bV x).length:Int):=by intro hk;unfold bV;rw[if_pos hk];simp only[gZ,cT];omega
  rcases AR h with ⟨_,he,_⟩|⟨_,he,_⟩|⟨_,_,_,he⟩
  ·exact aeK
  ·have:=Ib he j.2.2.1;exact⟨af,af,hle⟩
  ·exact aeK
 have s:y4 (bV x).length (bV x++[]) false=(x,[],false):=by
  by_cases hk:x.kind=2∨x.kind=3
  ·exact acy _ x h j (i.2.2 hk) i.1 []
  ·have u:=acy 30000 x h j i.2.1 i.1 [];rw[<- u];have hn:(aC (bV x++[]) false).1=bf x.kind:=by unfold bV;rw[dG,pN _ (fI _)]
   have t:¬(min (aC (bV x++[]) false).1 6=2∨min (aC (bV x++[]) false).1 6=3):=by
    rw[hn];rcases AR h with ⟨g,_⟩|⟨g,_⟩|⟨g,_⟩
    ·rw[vM _ af af];omega
    ·omega
    ·rw[vM _ af af];omega
   unfold y4;simp only;rw[if_neg t,if_neg t]
 rw[List.append_nil]at s;unfold Lg;rw[s];simp[h]
abbrev av:=Int×Nat×Nat
abbrev cN(a:av):Value:=.agg #[.int .i64 a.1,.int .u64 (a.2.1:Int),.int .u64 (a.2.2:Int)]
