/-
  The walk of filter.Decode (layer 5). Conditions: at most 10^9 bytes.
-/
import Derived.Test.YtfndfpdhlbmboaaGreatMd02
import Derived.Test.YtfndfpdhlbmboaaGreatMdz
set_option maxRecDepth 100000
set_option linter.constructorNameAsVariable false
set_option maxHeartbeats 16000000
set_option linter.unusedVariables false
set_option linter.unusedSimpArgs false
namespace Go.Proofs.YtfndfpdhlbmboaaGreat
open Go Go.RowKit _root_.Go.Proofs.Tryz
theorem au8:(prog.info? 73).map (λi=>(i.zero,i.size,i.bytes))=some (some (.agg #[.string { data:=#[] },.int .i64 0,.int .i64 0,.int .i64 0,.string { data:=#[] }]),5,56):=by rfl
theorem TF:fY prog 53 73 (.agg #[.string { data:=#[] },.int .i64 0,.int .i64 0,.int .i64 0,.string { data:=#[] }]) 5 56:=⟨underlying53,au8,rfl,ax⟩
abbrev fT(w:World)(base:Nat)(v:Value)(l:List dH):Prop:=w.ownsRow base 73 5 v l.length (l.flatMap fR)
theorem fT.slice{w base v l}(h:fT w base v l):∃A c,v=.slice A l.length c/\Reads w w.heap.size 5 A l.length (l.flatMap fR)/\l.length<=c/\c<=maxLen:=aff
theorem ael x:∀u∈fR x,u.oneCell'=true:=by intro u j;simp at j;rcases j with rfl|rfl|rfl|rfl|rfl <;> rfl
theorem xA{w base v l}(h:fT w base v l):fF l v w:=by
 obtain⟨A,c,rfl,j,_⟩:=h.slice
 grind [fF]
theorem as6 b k(hk:k<=(aw b false).1)(h:(di gA k (aw b false).2.1 (aw b false).2.2).2.2=true):vZ b=50/\vY b=[]:=by
 have:(Eg b).2.2=true:=by have:=VJ Iz h ((aw b false).1-k);rwa [show k+((aw b false).1-k)=(aw b false).1 by omega]at this
 have j:rG b=none:=by grind [rG]
 simp[vZ,vY,j]
theorem au9 l wr(h:8<(aw (aL 16 l wr).2.1 (aL 16 l wr).2.2).1):(gA l wr).2.2=true:=by
 grind [aw,aL,gA]
theorem as7 l wr(h:(aw (aL 16 l wr).2.1 (aL 16 l wr).2.2).1=8):gA l wr=((⟨(aL 16 l wr).1.toArray⟩,8,0,0,⟨#[]⟩),(aw (aL 16 l wr).2.1 (aL 16 l wr).2.2).2):=by
 grind [aw,aL,gA]
theorem ava l wr(h:(aw (aL 16 l wr).2.1 (aL 16 l wr).2.2).1<8):gA l wr=((⟨(aL 16 l wr).1.toArray⟩,((aw (aL 16 l wr).2.1 (aL 16 l wr).2.2).1:Int),(fE (aw (aL 16 l wr).2.1 (aL 16 l wr).2.2).2.1 (aw (aL 16 l wr).2.1 (aL 16 l wr).2.2).2.2).1.1,
 (fE (aw (aL 16 l wr).2.1 (aL 16 l wr).2.2).2.1 (aw (aL 16 l wr).2.1 (aL 16 l wr).2.2).2.2).1.2.1,⟨(fE (aw (aL 16 l wr).2.1 (aL 16 l wr).2.2).2.1 (aw (aL 16 l wr).2.1 (aL 16 l wr).2.2).2.2).1.2.2.toArray⟩),
 (fE (aw (aL 16 l wr).2.1 (aL 16 l wr).2.2).2.1 (aw (aL 16 l wr).2.1 (aL 16 l wr).2.2).2.2).2):=by
 grind [aw,aL,gA,fE]
theorem avb k l bad s(j:di gA k l bad=s):di gA (k+1) l bad=(s.1++[(gA s.2.1 s.2.2).1],(gA s.2.1 s.2.2).2):=by subst j;rfl
theorem ao9 A n c b w B(hR:Reads w B 1 A n (dS b))(hB:B<=w.heap.size)(hn:n<=1000000000) :
 Calls prog 274 #[.slice A n c] w λe w' =>
  ∃v',e=.returned (.tuple #[v',.int .i64 (vZ b)])/\fT w' w.heap.size v' (vY b)/\Below w.heap.size w w':=by
 have bT:b.length=n:=FP
 have hle:b.length<=1000000000:=af
 clear bT
 go_enter func274,ntmps274
 go_wp2_with fail
 refine (KW A n c b w B hR hB hn).mono ?_
 rintro e w1⟨g,rfl,hg,hr1,aN⟩
 go_wp2_with fail
 refine (tj g b false w1 hr1).mono ?_
 rintro e w2⟨rfl,bA,dM⟩
 have O:=hr1.lt
 have hz2:=dM.size
 have dP:=aN.trans (lD dM hg aN.size)
 have hlt:=nX b false
 have Yl:=nV b false
 have HB:=ae (as6 b)
 have Z:Hid (rG b=if decide ((aw b false).1<=8)&&!(di gA (aw b false).1 (aw b false).2.1 (aw b false).2.2).2.2&&(di gA (aw b false).1 (aw b false).2.1 (aw b false).2.2).2.1.isEmpty&&okF (di gA (aw b false).1 (aw b false).2.1 (aw b false).2.2).1 then some (di gA (aw b false).1 (aw b false).2.1 (aw b false).2.2).1 else none):=ae rfl
 generalize aw b false=a at *
 obtain⟨m,l,bad⟩:=a
 simp only at bA hlt Yl Z HB⊢
 clear hr1 aN hR
 by_cases im:m<=8
 rotate_left
 ·have yS:(8:Int)<(m:Int):=af;have HE:Hid (vZ b=50):=ae (by have:=Z.aa;simp[im]at this;simp[vZ,this]);have HL:Hid (vY b=[]):=ae (by have:=Z.aa;simp[im]at this;simp[vY,this]);exact afp
 have yS:¬(8:Int)<(m:Int):=af
 go_wp2_with fail
 go_loopw [6,7,8,16] (fun v _ _ i j=>∃k:Nat,k<=m/\i=.int .u64 k/\fT j w1.heap.size v (di gA k l bad).1/\Rd j g (di gA k l bad).2.1 (di gA k l bad).2.2/\Below w.heap.size w j/\w1.heap.size<=j.heap.size) (fun _ _ _ i _=>m-(intOf i).toNat)
 case atStart=>exact⟨0,af,rfl,kU _ _ _ _,bA,dP,hz2⟩
 case round =>
  obtain⟨k,hk,rfl,Q,V,hb,hz⟩:=hrel;by_cases hlt:k<m
  ·have fM:(k:Int)<m:=af;have N:=Lk Iz k l bad;have hfit:=avb k l bad;have EN:=HB.aa (k+1) af;generalize hs:di gA k l bad=s at *;replace hfit:=hfit s rfl;obtain⟨E,t,j⟩:=s;simp only at Q V N hfit;rw[hfit]at EN;obtain⟨azG,Md⟩:=N;have Zl:=ae Md;have azH:E.length<=8:=af;clear Md;have C1:=ae (OP g t j 16 wr V af af af);have jX:=DQ 16 t j;have F8:=ae λh=>EN (au9 t j h)
   have FE:=ae λh=>hfit.trans (show ((E,t,j).1++[(gA t j).1],(gA t j).2)=_ by rw[as7 t j h])
   have FL:=ae λh=>hfit.trans (show ((E,t,j).1++[(gA t j).1],(gA t j).2)=_ by rw[ava t j h])
   clear hfit hs EN;have ew:=nV (aL 16 t j).2.1 (aL 16 t j).2.2;have wj:=nX (aL 16 t j).2.1 (aL 16 t j).2.2;have C2:Hid (∀W,Rd W g (aL 16 t j).2.1 (aL 16 t j).2.2->Calls prog 192 #[.pointer (some ⟨g,0,none⟩)] W λe w'=>e=.returned (.int .u64 ((aw (aL 16 t j).2.1 (aL 16 t j).2.2).1:Nat))/\ox g (aw (aL 16 t j).2.1 (aL 16 t j).2.2).2.1 (aw (aL 16 t j).2.1 (aL 16 t j).2.2).2.2 W w'):=ae λW hW=>tj g _ _ W hW
   generalize aL 16 t j=sb at *;obtain⟨J,lb,wb⟩:=sb;simp only at C1 C2 F8 FE FL jX ew wj;generalize aw lb wb=sn at *;obtain⟨op,lo,M⟩:=sn;simp only at C2 F8 FE FL ew wj;have qX:=PS lo M;have C3:Hid (∀W,Rd W g lo M->Calls prog 308 #[.pointer (some ⟨g,0,none⟩)] W λe w'=>e=.returned (vd (fE lo M).1)/\ox g (fE lo M).2.1 (fE lo M).2.2 W w'):=ae λW hW=>ab0 g _ _ W hW af
   generalize fE lo M=sv at *;obtain⟨⟨vk,vn,vt⟩,lv,wv⟩:=sv;simp only[vd]at C3 FL qX;have rX:g<wr.heap.size:=af;go_wp2_with fail
   refine C1.aa.mono ?_;rintro e u⟨v3,rfl,eN,dN,iH⟩;have hst:=str (eT eN);have ix:=iH.size;have Ch:=Li Q iH O;have bG:=hb.trans (lD iH hg hb.size);clear Q V iH hb C1;go_wp2_with fail
   have eE:=ai.new u 73 #[.string ⟨J.toArray⟩,.int .i64 0,.int .i64 0,.int .i64 0,.string ⟨#[]⟩];have Rj:Below u.heap.size u (u.alloc (.cells #[.string ⟨J.toArray⟩,.int .i64 0,.int .i64 0,.int .i64 0,.string ⟨#[]⟩] 73)):=(cT _ _).alloc (aD _) _;have aj6:=dN.below Rj af;have ajt:=qv Ch Rj;have Ym:=bG.trans (Rj.mono bG.size);have hhz:u.heap.size<(u.alloc (.cells #[.string ⟨J.toArray⟩,.int .i64 0,.int .i64 0,.int .i64 0,.string ⟨#[]⟩] 73)).heap.size:=aj;have RV:g≠u.heap.size:=af;have hh1:w1.heap.size<=u.heap.size:=af;have hhw:=bG.size;have fu:u6.ownBlock≠some u.heap.size:=by intro e;have:=(Ch.lt _ e).2;omega
   clear dN Rj Ch bG hst eN;generalize u.alloc (.cells #[.string ⟨J.toArray⟩,.int .i64 0,.int .i64 0,.int .i64 0,.string ⟨#[]⟩] 73)=w3a at *;generalize u.heap.size=h at *;refine (C2.aa _ aj6).mono ?_;rintro e w4⟨rfl,eF,S⟩;have gM:=S.size;have Gc:=Li ajt S O;have hb4:=Ym.trans (lD S hg Ym.size);have I:=eE.grown S afq;clear ajt aj6 S Ym C2 eE;by_cases h8:8<op
   ·have xN:(8:Int)<(op:Int):=af;obtain⟨hC,hL⟩:=F8.aa h8;have HC:=ae hC;have HL:=ae hL;clear hC hL h8;go_wp2;go_ret2;exact⟨_,by rw[HC.aa];rfl,PW,hb4⟩
   have xN:¬(8:Int)<(op:Int):=af;have F:=I.cell 0;have H:=I.cell 1;have D:=I.cell 2;have C:=I.cell 3;have y:=I.cell 4;have z1:=I.frozen 1;simp at F H D C y;go_upto_region 13 with (fail);have T:w4.grownBy (w4.setCell ⟨h,1,none⟩ (.int .i64 op)) (some h):=DP (BV w4 _) rfl _;have p5:=T.size;have L:=I.aQ 1 (.int .i64 op);have il:=hb4.trans (lD T hhw hb4.size);have iy:=eF.below (lD T (aD h) af) af;have LW:fT _ _ _ _:=World.ownsRow.kept Gc T (.inr fu);clear T I hb4 eF Gc F H D C y z1;generalize w4.setCell ⟨h,1,none⟩ (.int .i64 op)=w5 at *;have F:=L.cell 0;have H:=L.cell 1;have D:=L.cell 2;have C:=L.cell 3;have y:=L.cell 4;simp at F H D C y;by_cases he:op=8
   ·have HF:=ae (FE.aa he);subst he;have aED:w1.heap.size<=w5.heap.size:=af;go_wp2_with (at_builtin;refine iW rfl _ _ 53 rfl w1.heap.size 73 _ 5 56 TF _ _ _ rfl (qG LW _) (w5.heap.size+1) _ 1 1 (fR ((⟨J.toArray⟩,8,0,0,⟨#[]⟩):dH)) rfl ?c1 ?c2 ?c3 ?c5 ?_)
    case c1=>exact Reads.new w5 (fR ((⟨J.toArray⟩,8,0,0,⟨#[]⟩):dH)) 73 5 1 rfl
    case c2=>first|exact ael _|exact⟨rfl,rfl,rfl,rfl,rfl⟩|exact⟨rfl,rfl,rfl,rfl⟩
    case c3=>omega
    case c5=>first|omega|(simp;omega)
    intro v9 w9 gg bC cY aY;have aju:fT w9 w1.heap.size v9 (di gA (k+1) l bad).1:=afr;have cX:Rd w9 g (di gA (k+1) l bad).2.1 (di gA (k+1) l bad).2.2:=by rw[HF.aa];exact (iy.ay (Below.alloc (cT _ _) (aD _) _)).below aY O
    have aj7:=(il.alloc il.size _).trans (aY.mono af);exact afs
   ·have HF:=ae (FL.aa af);have hne:¬(op:Int)=8:=af;go_wp2_with fail
    refine (C3.aa _ iy).mono ?_;rintro e w6⟨rfl,nP,X⟩;have tM:=X.size;have Q8:=Li LW X O;have R:=il.trans (lD X hg il.size);have G:=L.grown X afq;clear LW iy X il C3 L F H D C y;have F:=G.cell 0;have H:=G.cell 1;have D:=G.cell 2;have C:=G.cell 3;have y:=G.cell 4;have z2:=G.frozen 2;have z3:=G.frozen 3;have z4:=G.frozen 4;simp at F H D C y;go_upto_region 15 with (fail);have U:=DP (DP (DP (BV w6 (some h)) (p:=⟨h,2,none⟩) rfl (.int .i64 vk)) (p:=⟨h,3,none⟩) rfl (.int .i64 vn)) (p:=⟨h,4,none⟩) rfl (.string ⟨vt.toArray⟩);have GG:=U.size;have Y:=((G.aQ 2 (.int .i64 vk)).aQ 3 (.int .i64 vn)).aQ 4 (.string ⟨vt.toArray⟩);have jg:=R.trans (lD U hhw R.size);have jY:=nP.below (lD U (aD h) af) af;have ay1:fT _ _ _ _:=World.ownsRow.kept Q8 U (.inr fu);clear U G R nP Q8 F H D C y z2 z3 z4;generalize ((w6.setCell ⟨h,2,none⟩ (.int .i64 vk)).setCell ⟨h,3,none⟩ (.int .i64 vn)).setCell ⟨h,4,none⟩ (.string ⟨vt.toArray⟩)=w7 at *;have F:=Y.cell 0;have H:=Y.cell 1;have D:=Y.cell 2;have C:=Y.cell 3;have y:=Y.cell 4;simp at F H D C y;have aEE:w1.heap.size<=w7.heap.size:=af;go_wp2_with (at_builtin;refine iW rfl _ _ 53 rfl w1.heap.size 73 _ 5 56 TF _ _ _ rfl (qG ay1 _) (w7.heap.size+1) _ 1 1 (fR ((⟨J.toArray⟩,(op:Int),vk,vn,⟨vt.toArray⟩):dH)) rfl ?c1 ?c2 ?c3 ?c5 ?_)
    case c1=>exact Reads.new w7 (fR ((⟨J.toArray⟩,(op:Int),vk,vn,⟨vt.toArray⟩):dH)) 73 5 1 rfl
    case c2=>first|exact ael _|exact⟨rfl,rfl,rfl,rfl,rfl⟩|exact⟨rfl,rfl,rfl,rfl⟩
    case c3=>omega
    case c5=>first|omega|(simp;omega)
    intro v9 w9 gg bC cY aY;have aju:fT w9 w1.heap.size v9 (di gA (k+1) l bad).1:=afr;have cX:Rd w9 g (di gA (k+1) l bad).2.1 (di gA (k+1) l bad).2.2:=by rw[HF.aa];exact (jY.ay (Below.alloc (cT _ _) (aD _) _)).below aY O
    have aj7:=(jg.alloc jg.size _).trans (aY.mono af);exact afs
  ·have fM:¬(k:Int)<m:=af;obtain rfl:k=m:=af;clear hlt hk;have N:=(Lk Iz k l bad).2;generalize di gA k l bad=s at *;obtain⟨E,t,j⟩:=s;simp only at Q V Z N;have Zl:=ae N;clear N;have LX:∀x:Bool,x=(!j&&t.isEmpty&&okF E)->Hid (vZ b=(if x then 0 else 50))/\Hid (vY b=if x then E else []):=by
    intro x hx
    have h:=Z.aa
    rw[show (decide (k<=8))=true by simp;omega]at h
    cases x with
    | true=>rw[Bool.true_and,<- hx]at h;exact⟨ae (by simp[vZ,h]),ae (by simp[vY,h])⟩
    | false=>rw[Bool.true_and,<- hx]at h;exact⟨ae (by simp[vZ,h]),ae (by simp[vY,h])⟩
   have RX:=ae LX;clear LX;go_wp2_with fail
   refine (KM g _ _ wr V).mono ?_;rintro e w'⟨rfl,rfl⟩;cases hd:(!j&&t.isEmpty)
   ·exact afu
   ·obtain⟨A',c',rfl,hR',_,_⟩:=Q.slice;have hrow:=mN (bn hg (Nat.le_of_lt O)) Q;go_wp2_with fail
    refine (Um A' c' E wr wr.heap.size hR' (aD _)).mono ?_;rintro e w6⟨rfl,R⟩;have Yn:=hb.trans (R.mono hb.size);have Q9:=qv hrow R;cases hok:okF E
    ·have hne:(mW E != 0)=true:=PX;exact afv
    ·have hne:(mW E != 0)=false:=PX;exact afw
theorem arH{b v w}(h:sl b v w)(hn:b.length<=1000000000):Calls prog 274 #[v] w λe w' =>
 ∃v',e=.returned (.tuple #[v',.int .i64 (vZ b)])/\fT w' w.heap.size v' (vY b)/\Below w.heap.size w w':=by
 obtain⟨A,c,rfl,j⟩:=h
 exact ao9 A _ c b w _ j (aD _) hn
abbrev K(w W:World):Prop:=Below w.heap.size w W
section
variable {a b c w w' w'':World} {B g base lo:Nat} {row:Option Nat}
theorem K.rf w:K w w:=cT _ _
theorem _root_.Go.RowKit.Below.tr(h:Below a.heap.size a b)(k:Below b.heap.size b c):Below a.heap.size a c:=h.trans (k.mono h.size)
theorem _root_.Go.RowKit.Below.al(h:Below a.heap.size a b)(o:Obj):Below a.heap.size a (b.alloc o):=h.alloc h.size o
theorem K.new w o:K w (w.alloc o):=(K.rf w).al o
theorem K.lW w j t:K w ((w.alloc j).alloc t):=(K.new w j).al _
theorem K.Rk w j t u:K w (((w.alloc j).alloc t).alloc u):=(K.lW w j t).al _
theorem K.azI w u t j y:K w ((((w.alloc u).alloc t).alloc j).alloc y):=(K.Rk w u t j).al _
theorem K.azJ w u j t y A:K w (((((w.alloc u).alloc j).alloc t).alloc y).alloc A):=(K.azI w u j t y).al _
theorem ai.aU{w g t cs}(_:ai (w.alloc (.cells cs t)) g t cs):K w (w.alloc (.cells cs t)):=(K.rf w).al _
theorem ai.cells{t cs}(h:ai w g t cs):∀W,K w W->∀i,W.cell? ⟨g,i,none⟩=cs[i]?:=λ_ k i=>(h.ay k).cell i
structure aI(lo:Nat)(row:Option Nat)(w w':World):Prop where
 os:w'.os=w.os
 tape:w'.tape=w.tape
 output:w'.output=w.output
 size:w.heap.size<=w'.heap.size
 block:∀k,lo<=k->k<w.heap.size->some k≠row->w'.heap[k]?=w.heap[k]?
theorem aI.rf lo row w:aI lo row w w:=⟨rfl,rfl,rfl,aD _,λ_ _ _ _=>rfl⟩
theorem aI.tr(h:aI lo row a b)(k:aI lo row b c):aI lo row a c :=
 ⟨k.os.trans h.os,k.tape.trans h.tape,k.output.trans h.output,bn h.size k.size,λi u t j=>(k.block i u (bz t h.size) j).trans (h.block i u t j)⟩
theorem aI.aT(h:K w w') lo row:aI lo row w w':=⟨h.os,h.tape,h.output,h.size,λi _ j _=>h.block i j⟩
theorem aI.eU(h:w.grownBy w' row) lo:aI lo row w w':=⟨h.os,h.tape,h.output,h.size,λi _ t j=>h.block i t j⟩
theorem aI.more{j t}(h:aI lo row w w')(C:lo<=j)(B:∀k,j<=k->some k≠t->some k≠row):aI j t w w' :=
 ⟨h.os,h.tape,h.output,h.size,λi y u A=>h.block i af u (B i y A)⟩
theorem aI.k(h:aI 0 row w w')(j:K a w)(t:∀k,row=some k->a.heap.size<=k):K a w' :=
 j.trans ⟨h.os,h.tape,h.output,h.size,λi u=>h.block i (eV _) (bz u j.size) (by rintro rfl;have:=t i rfl;omega)⟩
theorem aI.app(h:w.grownBy w' row){j}(A:j=row∨j=some w.heap.size)(k:aI lo j w' w''):aI lo row w w'':=by
 refine⟨k.os.trans h.os,k.tape.trans h.tape,k.output.trans h.output,bn h.size k.size,λi y t u=>(k.block i y (bz t h.size) ?_).trans (h.block i t u)⟩
 grind
theorem LY{α:Type}(l:List α):((l.length:Int)==0)=l.isEmpty:=by
 cases l with
 | nil=>rfl
 | cons x l=>simp;omega
structure ei(α:Type) where
 size:Nat
 rel:α->List Value->World->Prop
 len:∀ {x cs w},rel x cs w->cs.length=size
 one:∀ {x cs w},rel x cs w->∀u∈cs,u.oneCell'=true
 st:∀ {x cs w w'},rel x cs w->K w w'->rel x cs w'
variable {α:Type} {S:ei α} {l:List α} {v:Value} {A:Option Addr}
def Each(S:ei α)(l:List α)(css:List (List Value))(w:World):Prop:=css.length=l.length/\∀i (h:i<l.length) (h':i<css.length),S.rel l[i] css[i] w
theorem Each.lens{css}(h:Each S l css w):∀cs∈css,cs.length=S.size:=by intro cs j;obtain⟨i,t,rfl⟩:=List.mem_iff_getElem.1 j;exact S.len (h.2 i VL t)
theorem Each.ones{css}(h:Each S l css w):∀u∈css.flatten,u.oneCell'=true:=by intro u j;obtain⟨cs,t,j⟩:=List.mem_flatten.1 j;obtain⟨i,y,rfl⟩:=List.mem_iff_getElem.1 t;exact S.one (h.2 i VL y) u j
theorem Each.st{css}(h:Each S l css w)(k:K w w'):Each S l css w':=⟨h.1,λi t j=>S.st (h.2 i t j) k⟩
theorem Each.Gl{css}(h:Each S l css w):css.flatten.length=l.length*S.size:=by rw[BQ S.size css h.lens,h.1]
theorem Each.get{css}(h:Each S l css w) i(A:i<l.length):∃cs,css[i]?=some cs/\cs.length=S.size/\S.rel l[i] cs w/\∀j,j<S.size->css.flatten[i*S.size+j]?=cs[j]?:=by have t:i<css.length:=VL;have u:=h.2 i A t;refine⟨css[i],List.getElem?_eq_getElem t,S.len u,u,λj y=>?_⟩;rw[yx S.size css h.lens i j t y,List.getElem?_eq_getElem t];rfl
theorem Each.nil(S:ei α) w:Each S [] [] w:=⟨rfl,λi hi=>Lf⟩
theorem Each.snoc{css}(h:Each S l css w){x cs}(u:S.rel x cs w):Each S (l++[x]) (css++[cs]) w:=by
 refine⟨Lm,λi y t=>?_⟩
 have A:=h.1
 by_cases j:i<l.length
 ·have:=h.2 i j af;grind
 grind
theorem Each.one{x cs}(j:S.rel x cs w):Each S [x] [cs] w:=by simpa using (Each.nil S w).snoc j
theorem Each.take{css}(h:Each S l css w) k:Each S (l.take k) (css.take k) w:=by refine⟨Lm,λi t j=>?_⟩;simp only[List.getElem_take];exact h.2 i aA aA
theorem Each.drop{css}(h:Each S l css w) k:Each S (l.drop k) (css.drop k) w:=by refine⟨Lm,λi t j=>?_⟩;simp only[List.getElem_drop];exact h.2 (k+i) aA aA
theorem Each.append{u css t}(h:Each S l css w)(k:Each S u t w):Each S (l++u) (css++t) w:=by
 refine⟨by simp[h.1,k.1],λi B A=>?_⟩;have y:=h.1;by_cases j:i<l.length
 ·rw[List.getElem_append_left j,List.getElem_append_left af];exact h.2 i j af
 ·rw[List.getElem_append_right af,List.getElem_append_right af];have:=k.2 (i-l.length) aA aA;simpa [y]using this
def zf(S:ei α)(l:List α)(A:Option Addr)(w:World):Prop:=∃css,Each S l css w/\Reads w w.heap.size S.size A l.length css.flatten
theorem X4(h:zf S l A w)(k:K w w'):zf S l A w':=by obtain⟨css,t,j⟩:=h;exact⟨css,t.st k,(j.below k (aD _)).more k.size⟩
theorem afx(S:ei α) A w:zf S [] A w:=⟨[],Each.nil _ _,Reads.nil _ _ _ _⟩
theorem I7(h:zf S l A w) i(B:i<l.length)(J:0<S.size):∃b t cs,A=some ⟨b,t,none⟩/\b<w.heap.size/\cs.length=S.size/\S.rel l[i] cs w/\∀j,j<S.size->w.cell? ⟨b,t+i*S.size+j,none⟩=cs[j]?:=by
 obtain⟨css,E,y⟩:=h
 obtain⟨cs,F,u,C,G⟩:=E.get i B
 have D:0<css.flatten.length:=aA
 obtain⟨b,t,rfl,hb,H⟩:=y.2 D
 refine⟨b,t,cs,rfl,hb,u,C,λj I=>?_⟩
 grind
def aq(S:ei α)(l:List α)(v:Value)(w:World):Prop:=∃A c,v=.slice A l.length c/\zf S l A w/\l.length<=c
theorem bo(h:aq S l v w)(k:K w w'):aq S l v w':=by obtain⟨A,c,u,t,j⟩:=h;exact⟨A,c,u,X4 t k,j⟩
theorem ajv(h:aq S l v w):∀W,K w W->aq S l v W:=λ_ k=>bo h k
theorem gI(S:ei α) w:aq S [] (.slice none 0 0) w:=⟨none,0,rfl,afx _ _ _,aD _⟩
def AL(S:ei α):ei (List α) where
 size:=1
 rel l cs w:=∃v,cs=[v]/\aq S l v w
 len:=by rintro _ _ _⟨v,rfl,_⟩;rfl
 one:=by rintro _ _ _⟨v,rfl,A,c,rfl,_⟩ u j;simp at j;subst j;rfl
 st:=by rintro _ _ _ _⟨v,rfl,h⟩ k;exact⟨v,rfl,bo h k⟩
def aX(base lo:Nat)(e:TypeId)(S:ei α)(l:List α)(v:Value)(w:World):Prop :=
 ∃css,w.ownsRow base e S.size v l.length css.flatten/\css.length=l.length/\∀w',aI lo v.ownBlock w w'->Each S l css w'
theorem aX.nil base lo e(S:ei α) w:aX base lo e S [] (.slice none 0 0) w:=⟨[],kU _ _ _ _,rfl,λ_ _=>Each.nil _ _⟩
theorem aX.st{e}(h:aX base lo e S l v w)(k:K w w'):aX base lo e S l v w':=by obtain⟨css,y,t,j⟩:=h;exact⟨css,qv y k,t,λA u=>j A ((aI.aT k lo _).tr u)⟩
theorem aX.up{e}(h:aX base lo e S l v w)(G:lo<=base)(u:aI lo none w w'):aX base lo e S l v w':=by obtain⟨css,t,F,y⟩:=h;refine⟨css,⟨t.1,t.2.imp id ?_⟩,F,λE A=>y E (aI.tr (u.more (aD _) (λ_ _ _=>aj)) A)⟩;rintro ⟨g,cap,cur,D,C,j,B⟩;exact⟨g,cap,cur,D,C,(u.block g af (Array.getElem?_eq_some_iff.1 j).1 aj).trans j,B⟩
theorem aX.low{e base'}(h:aX base' lo e S l v w)(hb:base<=base'):aX base lo e S l v w:=afy
theorem aX.slice{e}(h:aX base lo e S l v w):∃A c,v=.slice A l.length c/\zf S l A w/\l.length<=c/\(∀g,v.ownBlock=some g->base<=g/\g<w.heap.size):=by
 obtain⟨css,j,B,t⟩:=h;have y:=j;have u:=t w (aI.rf _ _ _);have hg:=λg hg=>j.lt g hg
 rcases j.2 with ⟨rfl,C⟩|⟨g,cap,cur,rfl,_,_,hn,_⟩
 ·grind [List.eq_nil_of_length_eq_zero,afx]
 ·exact⟨_,_,rfl,⟨css,u,Reads.yH y⟩,hn,hg⟩
theorem aX.blk{e}(h:aX base lo e S l v w):∀g,v.ownBlock=some g->base<=g/\g<w.heap.size:=by obtain⟨css,j,_,_⟩:=h;exact λg hg=>j.lt g hg
theorem aX.aq{e:TypeId}(h:aX base lo e S l v w):aq S l v w:=by
 obtain⟨A,c,u,t,j,_⟩:=h.slice
 grind [aq]
theorem aX.snoc{e css}(B:css.length=l.length)(t:∀w',aI lo v.ownBlock w w'->Each S l css w')
 {x} {cs} {v'} (C:w'.ownsRow base e S.size v' (l.length+1) (css.flatten++cs)) (hg:w.grownBy w' v.ownBlock) (y:v'.ownBlock=v.ownBlock∨v'.ownBlock=some w.heap.size)
 (A:∀w',aI lo v.ownBlock w w'->S.rel x cs w'):aX base lo e S (l++[x]) v' w':=by
 refine⟨css++[cs],aA,aA,λD u=>?_⟩
 have j:=aI.app hg y u
 exact (t _ j).snoc (A _ j)
end
def kX(x:cZ):List UInt8:=(az x.1.size++dX x.1)++nZ x.2.1 x.2.2.1 x.2.2.2
def jT(l:List cZ):List UInt8:=az l.length++l.flatMap kX
def Co(l:List cZ):List UInt8:=if fN l then jT l else []
theorem VM{p l}(h:jW p l=true):∀x∈l,ll x=true:=by
 induction l generalizing p with
 | nil=>simp
 | cons y l j =>
  grind [jW,ll]
theorem UU{x}(h:ll x=true):x.1.size<=16/\x.2.2.2.size<=40:=by simp only[ll,tv,dC,decide_eq_true_eq]at h;exact⟨h.1.1.2,(IE h.2).2⟩
theorem Pp{l}(h:fN l=true):1<=l.length/\l.length<=16/\jW none l=true:=by
 grind [fN,jW]
theorem avc{x}(h:ll x=true)(j:-9223372036854775808<=x.2.2.1)(t:x.2.2.1<=9223372036854775807):(kX x).length<=92:=by obtain⟨a,b⟩:=UU h;have u:=cS x.1.size af;have y:=cS (bf x.2.1) (gP _);have A:=cS (wi x.2.1 x.2.2.1) (Lb _ _ j t);have B:=cS x.2.2.2.size af;simp[kX,nZ];omega
theorem avd(l:List cZ)(hk:∀x∈l,(kX x).length<=92):(l.flatMap kX).length<=92*l.length:=by
 induction l with
 | nil=>simp
 | cons y l j =>
  grind
theorem aem l k(u:fN l=true)(t:∀x∈l,cD x.2.1/\cD x.2.2.1):(az l.length++(l.take k).flatMap kX).length<=2000:=by
 obtain⟨D,B,y⟩:=Pp u
 have C:=cS l.length af
 have A:=avd (l.take k) λx j=>avc (VM y x (om j)) (t x (om j)).2.1 (t x (om j)).2.2
 grind
theorem as8(l:List cZ) k(h:k<l.length):az l.length++(l.take (k+1)).flatMap kX=az l.length++(l.take k).flatMap kX++(az l[k].1.size++dX l[k].1)++nZ l[k].2.1 l[k].2.2.1 l[k].2.2.2:=by
 grind [gJ,kX,eu]
theorem Reads.ajQ(w:World) s c x e n(hn:w.heap.size=n):Reads (w.alloc (.cells (bytesRow s c) e x)).drew (n+1) 1 (some ⟨n,0,none⟩) s.size (dS (dX s)):=by
 grind [Reads.drew,Reads.conv]
def nJ(x:cZ):Prop:=cD x.2.1/\cD x.2.2.1
theorem ayi l:dX ⟨l.toArray⟩=l:=by rfl
theorem VN s:(dX s).length=s.size:=by simp
theorem awT x(u:ll x=true)(j:nJ x) rest:tL (kX x++rest) false=(x,rest,false):=by
 obtain⟨C,D⟩:=UU u;obtain⟨s,k,n,t⟩:=x;have y:iY k n t=true:=by grind [ll]
 have B:aL 16 (kX (s,k,n,t)++rest) false=(dX s,nZ k n t++rest,false):=by
  have:=FI 16 (dX s) (by grind [VN]) (by grind [VN]) (nZ k n t++rest)
  rw[VN]at this
  simp only[kX]
  grind
 have A:=aeh k n t y j.2.1 j.2.2 rest;unfold tL;simp_all
theorem ave(l:List cZ)(h:∀x∈l,ll x=true/\nJ x) rest:∀k,k<=l.length->gq k (l.flatMap kX++rest) false=(l.take k,(l.drop k).flatMap kX++rest,false):=by
 intro k
 induction k with
 | zero=>intro _;simp[gq]
 | succ k u => intro hk;have j:k<l.length:=af;have y:l.drop k=l[k] :: l.drop (k+1):=aj;have t:=h l[k] (bZ j);show ((gq k (l.flatMap kX++rest) false).1++[(tL (gq k (l.flatMap kX++rest) false).2.1 (gq k (l.flatMap kX++rest) false).2.2).1],(tL (gq k (l.flatMap kX++rest) false).2.1 (gq k (l.flatMap kX++rest) false).2.2).2)=_;rw[u af];simp only;rw[y,uy,eu,awT _ t.1 t.2,gJ j]
theorem as9 l(A:fN l=true)(y:∀x∈l,nJ x) rest:aw (jT l++rest) false=(l.length,l.flatMap kX++rest,false)/\Gk (jT l++rest)=(l,rest,false):=by
 obtain⟨D,C,t⟩:=Pp A
 have u:aw (jT l++rest) false=(l.length,l.flatMap kX++rest,false):=by
  grind [jT,eu,rD]
 refine⟨u,?_⟩
 have B:=ave l (λx j=>⟨VM t x j,y x j⟩) rest l.length (aD _)
 unfold Gk
 grind
theorem avf l(j:fN l=true)(t:∀x∈l,nJ x):tF (jT l)=some l:=by
 have h:=as9 l j t []
 rw[List.append_nil]at h
 have u:=(Pp j).2.1
 unfold tF
 grind
theorem avg{l wr}(h:(tL l wr).2.2=false):l=kX (tL l wr).1++(tL l wr).2.1/\wr=false:=by obtain⟨t,_,j,_⟩:=Vf (l:=(aL 16 l wr).2.1) (wr:=(aL 16 l wr).2.2) h;obtain⟨y,_,u⟩:=DN j;refine⟨?_,u⟩;unfold tL kX;simp only;rw[ayi];have A:(⟨(aL 16 l wr).1.toArray⟩:ByteArray).size=(aL 16 l wr).1.length:=VK;rw[A,eu,<- t];exact y
theorem ata{k l wr}(h:(gq k l wr).2.2=false):l=(gq k l wr).1.flatMap kX++(gq k l wr).2.1/\wr=false:=by
 induction k with
 | zero=>exact⟨cV,h⟩
 | succ k t => obtain⟨e1,j⟩:=avg (l:=(gq k l wr).2.1) (wr:=(gq k l wr).2.2) h;obtain⟨e2,u⟩:=t j;refine⟨?_,u⟩;show l=((gq k l wr).1++[(tL (gq k l wr).2.1 (gq k l wr).2.2).1]).flatMap kX++(tL (gq k l wr).2.1 (gq k l wr).2.2).2.1;exact afl
theorem adx{b y}(h:tF b=some y):b=jT y/\fN y=true/\∀x∈y,nJ x:=by
 unfold tF at h;split at h
 ·rename_i u;injection h with h;simp only[dC,Bool.not_eq_true',List.isEmpty_iff,decide_eq_true_eq]at u;obtain⟨⟨⟨G,C⟩,B⟩,j⟩:=u;unfold Gk at C B j h;obtain⟨t,D⟩:=ata C;obtain⟨E,_⟩:=ud D;have A:=(Vg (aw b false).1 (aw b false).2.1 (aw b false).2.2).2;have hfit:=au3 (aw b false).1 (aw b false).2.1 (aw b false).2.2;rw[h]at t A j hfit;rw[B,List.append_nil]at t;refine⟨?_,j,λx F=>(hfit x F).1⟩;unfold jT;rw[A,<- t];exact E
 ·cases h
theorem Vi{l}(h:fN l=true)(j:∀x∈l,nJ x):(jT l).length<=2000:=by have:=aem l l.length h j;rwa [nC]at this
structure aK where
 kind:Int
 br:Int
 life:Nat
 b6:Nat
 cl:Int
 sub:Nat
 f:List dH
 es:List (List cZ)
 deriving DecidableEq
def dD:aK:=⟨0,0,0,0,0,0,[],[]⟩
def cE(x:aK):Prop:=cD x.kind/\cD x.br/\cD x.cl/\x.life<18446744073709551616/\x.b6<18446744073709551616/\x.sub<18446744073709551616/\(∀t∈x.f,jB t)/\∀e∈x.es,∀a∈e,nJ a
def qH(b:Int):Bool:=decide (0<=b)&&decide (b<16)
def bJ(x:aK):Bool :=
 qH x.br&&decide (0<=x.cl)&&decide (x.cl<32) &&
  (if x.kind=1 then decide (x.sub=0)&&x.f.isEmpty&&decide (x.es.length<=8)&&x.es.all fN
   else if x.kind=3 then x.f.isEmpty&&x.es.isEmpty
   else if x.kind=2 then x.es.isEmpty&&okF x.f else false)
def pL(x:aK):Int:=if bJ x then 0 else 110
def iD(b:List UInt8):List UInt8:=az b.length++b
def lS(x:aK):List UInt8:=az (bf x.kind)++(az (bf x.br)++(az x.life++(az x.b6++(az (bf x.cl)++az x.sub))))
def eP(x:aK):List UInt8 :=
 lS x++(if x.kind=1 then az x.es.length++x.es.flatMap (λe=>iD (jT e))else if x.kind=2 then iD (jC x.f)else [])
def mC(n:Int):Bc (List cZ):=λl wr=>match tF (aL n l wr).1 with
 | none=>([],(aL n l wr).2.1,true)
 | some e=>(e,(aL n l wr).2)
def qN(n:Int):Bc (List dH):=λl wr=>match rG (aL n l wr).1 with
 | none=>([],(aL n l wr).2.1,true)
 | some e=>(e,(aL n l wr).2)
theorem KP n:Ef (λe=>iD (jT e)) (λe=>fN e=true/\(∀x∈e,nJ x)/\((jT e).length:Int)<=n) (mC n) where
 fwd:=by rintro e⟨t,j,A⟩ rest;have C:=Vi t j;have hb:=FI n (jT e) af A rest;simp only[mC,iD];rw[hb];simp only[avf e t j]
 back:=by
  intro l wr h
  simp only[mC]at h⊢
  cases hd:tF (aL n l wr).1 with
  | none=>rw[hd]at h;cases h
  | some e => rw[hd]at h;obtain⟨B,_,y⟩:=DN h;have u:=(adx hd).1;refine⟨?_,y⟩;simp only[iD];rw[<- u];exact B
 len:=by intro l wr;have:=DQ n l wr;simp only[mC];split <;> simpa using this
theorem atb{l}(h:okF l=true)(j:∀x∈l,jB x)(t:(jC l).length<18446744073709551616) n(hn:((jC l).length:Int)<=n) rest:qN n (iD (jC l)++rest) false=(l,rest,false):=by have hb:=FI n (jC l) t hn rest;simp only[qN,iD];rw[hb];simp only[au6 l h j]
theorem atc n l wr(h:(qN n l wr).2.2=false):l=iD (jC (qN n l wr).1)++(qN n l wr).2.1/\wr=false:=by
 simp only[qN]at h⊢
 cases hd:rG (aL n l wr).1 with
 | none=>rw[hd]at h;cases h
 | some e =>
  grind [DN,adw,iD]
def gT(l:List UInt8)(wr:Bool):(Nat×Nat×Nat×Nat×Nat×Nat)×List UInt8×Bool :=
 let y:=aw l wr
 let A:=aw y.2.1 y.2.2
 let j:=aw A.2.1 A.2.2
 let t:=aw j.2.1 j.2.2
 let u:=aw t.2.1 t.2.2
 let B:=aw u.2.1 u.2.2
 ((y.1,A.1,j.1,t.1,u.1,B.1),B.2)
theorem awU a b c d e f(j:a<18446744073709551616)(hb:b<18446744073709551616)(t:c<18446744073709551616)(A:d<18446744073709551616)(u:e<18446744073709551616)(y:f<18446744073709551616) rest :
 gT (az a++(az b++(az c++(az d++(az e++az f))))++rest) false=((a,b,c,d,e,f),rest,false):=by
 grind [gT,eu,rD]
theorem avh l wr(h:(gT l wr).2.2=false) :
 l=az (gT l wr).1.1++(az (gT l wr).1.2.1++(az (gT l wr).1.2.2.1++(az (gT l wr).1.2.2.2.1++(az (gT l wr).1.2.2.2.2.1++az (gT l wr).1.2.2.2.2.2))))++(gT l wr).2.1/\wr=false:=by
 grind [gT,ud,eu]
theorem arI{k n s}(j:-9223372036854775808<=n)(t:n<=9223372036854775807)(A:s.size<=40):(nZ k n s).length<=67:=by have y:=cS (bf k) (gP _);have u:=cS (wi k n) (Lb _ _ j t);have B:=cS s.size af;simp[nZ];omega
theorem avi{t}(h:gD t=true)(j:jB t):(ku t).length<=101:=by
 obtain⟨u,_,_,h8,hn⟩:=FD h;have B:=cS t.1.size af;have y:=cS (bf t.2.1) (gP _);have A:t.1.data.size<=16:=u;unfold ku;simp only[dx];split
 ·grind
 ·rename_i e;have C:(nZ t.2.2.1 t.2.2.2.1 t.2.2.2.2).length<=67:=arI j.2.2.1 j.2.2.2 (IE (hn aA)).2;grind
def oX(a:Nat×Nat×Nat×Nat×Nat×Nat):aK:=⟨(min a.1 4:Nat),(min a.2.1 16:Nat),a.2.2.1,a.2.2.2.1,(min a.2.2.2.2.1 32:Nat),a.2.2.2.2.2,[],[]⟩
def qO(n:Int):Bc aK:=λl wr =>
 if min (gT l wr).1.1 4=1 then
  ({ oX (gT l wr).1 with es:=(di (mC n) (min (aw (gT l wr).2.1 (gT l wr).2.2).1 9) (aw (gT l wr).2.1 (gT l wr).2.2).2.1 (aw (gT l wr).2.1 (gT l wr).2.2).2.2).1 },
   (di (mC n) (min (aw (gT l wr).2.1 (gT l wr).2.2).1 9) (aw (gT l wr).2.1 (gT l wr).2.2).2.1 (aw (gT l wr).2.1 (gT l wr).2.2).2.2).2)
 else if min (gT l wr).1.1 4=2 then ({ oX (gT l wr).1 with f:=(qN n (gT l wr).2.1 (gT l wr).2.2).1 },(qN n (gT l wr).2.1 (gT l wr).2.2).2)
 else (oX (gT l wr).1,(gT l wr).2)
theorem DC{x}(h:bJ x=true):(0<=x.br/\x.br<16)/\(0<=x.cl/\x.cl<32) /\
 ((x.kind=1/\x.sub=0/\x.f=[]/\x.es.length<=8/\∀e∈x.es,fN e=true)∨(x.kind=3/\x.f=[]/\x.es=[])∨(x.kind=2/\x.es=[]/\okF x.f=true)):=by
 simp only[bJ,qH,dC,decide_eq_true_eq]at h
 obtain⟨⟨⟨⟨A,t⟩,j⟩,u⟩,y⟩:=h
 refine⟨⟨A,t⟩,⟨j,u⟩,?_⟩
 split at y
 all_goals grind
theorem tZ k(j:0<=k)(t:k<100):bf k=k.toNat:=by grind [bf]
theorem avj n x(h:bJ x=true)(J:cE x)(C:∀e∈x.es,((jT e).length:Int)<=n)(I:((jC x.f).length:Int)<=n)(M:(jC x.f).length<18446744073709551616) rest :
 qO n (eP x++rest) false=(x,rest,false):=by
 obtain⟨⟨B,G⟩,⟨A,F⟩,hk⟩:=DC h
 obtain⟨_,_,_,y,t,E,H,D⟩:=J
 obtain⟨kind,br,life,b6,cl,sub,f,es⟩:=x
 simp only at B G A F hk y t E H D C I M
 have S:=tZ br B af
 have T:=tZ cl A af
 have h6:∀R,gT (lS ⟨kind,br,life,b6,cl,sub,f,es⟩++R) false=((bf kind,bf br,life,b6,bf cl,sub),R,false):=λR =>
  awU (bf kind) (bf br) life b6 (bf cl) sub (gP _) (gP _) y t (gP _) E R
 have N:((min (bf br) 16:Nat):Int)=br:=af
 have U:((min (bf cl) 32:Nat):Int)=cl:=af
 rcases hk with ⟨rfl,rfl,rfl,h8,L⟩|⟨rfl,rfl,rfl⟩|⟨rfl,rfl,O⟩
 ·have e:eP ⟨1,br,life,b6,cl,0,[],es⟩++rest=lS ⟨1,br,life,b6,cl,0,[],es⟩++(az es.length++(es.flatMap (λe=>iD (jT e))++rest)):=by simp[eP,eu]
  have Q:=afj (KP n) es (λe j=>⟨L e j,D e j,C e j⟩) rest es.length (aD _);have u:bf 1=1:=rfl;unfold qO;grind [rD,oX]
 ·have e:eP ⟨3,br,life,b6,cl,sub,[],[]⟩++rest=lS ⟨3,br,life,b6,cl,sub,[],[]⟩++rest:=by simp[eP]
  have u:bf 3=3:=rfl;unfold qO;grind [oX]
 ·have e:eP ⟨2,br,life,b6,cl,sub,f,[]⟩++rest=lS ⟨2,br,life,b6,cl,sub,f,[]⟩++(iD (jC f)++rest):=by grind [eP]
  have u:bf 2=2:=rfl;unfold qO;grind [atb,oX]
theorem VO{x}(h:x.kind=1):eP x=lS x++(az x.es.length++x.es.flatMap λe=>iD (jT e)):=by grind [eP]
theorem VP{x}(h:x.kind=2):eP x=lS x++iD (jC x.f):=by grind [eP,lS,iD,jC]
theorem afz{x}(t:¬x.kind=1)(j:¬x.kind=2):eP x=lS x:=by grind [eP,lS]
theorem atd n l wr(h:(qO n l wr).2.2=false)(ok:bJ (qO n l wr).1=true):l=eP (qO n l wr).1++(qO n l wr).2.1/\wr=false:=by
 have h6:=avh l wr;unfold qO at h ok⊢;generalize gT l wr=r at *;obtain⟨⟨a,b,c,d,e,f⟩,j,t⟩:=r;simp only at h ok h6⊢;have C:∀x:aK,x.kind=(min a 4:Nat)->x.br=(min b 16:Nat)->x.cl=(min e 32:Nat)->x.life=c->x.b6=d->x.sub=f->bJ x=true ->
  lS x=az a++(az b++(az c++(az d++(az e++az f)))):=by
  intro x T X R G J h6 M
  obtain⟨⟨V,S⟩,⟨U,Q⟩,hk⟩:=DC M
  have O:bf x.kind=a:=by
   grind [tZ]
  have F:bf x.br=b:=by grind [tZ]
  have L:bf x.cl=e:=by grind [tZ]
  unfold lS
  rw[O,F,L,G,J,h6]
 split at h
 ·rename_i D;rw[if_pos D]at ok⊢;have h8:(di (mC n) (min (aw j t).1 9) (aw j t).2.1 (aw j t).2.2).1.length=min (aw j t).1 9:=(Lk (KP n) _ _ _).2;obtain⟨A,E⟩:=aej (KP n) h;obtain⟨N,I⟩:=ud E;obtain⟨u,w⟩:=h6 I;refine⟨?_,w⟩;have y:=C _ rfl rfl rfl rfl rfl rfl ok;obtain⟨-,-,hk⟩:=DC ok;have W:(di (mC n) (min (aw j t).1 9) (aw j t).2.1 (aw j t).2.2).1.length<=8:=by
   rcases hk with hk|hk|hk
   ·exact hk.2.2.2.1
   ·have:=hk.1;simp only[oX]at this;omega
   ·have:=hk.1;simp only[oX]at this;omega
  have hm:min (aw j t).1 9=(aw j t).1:=af;rw[VO PY,y];simp only;rw[h8,hm];rw[hm]at A;generalize az a++(az b++(az c++(az d++(az e++az f))))=H at u⊢;rw[eu H,eu (az (aw j t).1),<- A,<- N];exact u
 ·rename_i D;rw[if_neg D]at ok⊢;split at h
  ·rename_i B;rw[if_pos B]at ok⊢;obtain⟨A,E⟩:=atc n j t h;obtain⟨u,w⟩:=h6 E;refine⟨?_,w⟩;have y:=C _ rfl rfl rfl rfl rfl rfl ok;rw[VP PY,y];simp only;generalize az a++(az b++(az c++(az d++(az e++az f))))=H at u⊢;rw[eu H,<- A];exact u
  ·rename_i B;rw[if_neg B]at ok⊢;obtain⟨u,w⟩:=h6 h;refine⟨?_,w⟩;have y:=C _ rfl rfl rfl rfl rfl rfl ok;rw[afz PY PY,y];exact u
def iL(b:List UInt8):Option aK:=if !(qO b.length b false).2.2&&(qO b.length b false).2.1.isEmpty&&bJ (qO b.length b false).1 then some (qO b.length b false).1 else none
def mr(b:List UInt8):aK:=(iL b).getD dD
def yI(b:List UInt8):Int:=if (iL b).isSome then 0 else 110
theorem UC{b x}(h:iL b=some x):b=eP x/\bJ x=true:=by
 unfold iL at h;split at h
 ·rename_i t;injection h with h;simp only[dC,Bool.not_eq_true',List.isEmpty_iff]at t;obtain⟨⟨y,u⟩,j⟩:=t;have hb:=(atd _ b false y j).1;rw[u,List.append_nil,h]at hb;rw[h]at j;exact⟨hb,j⟩
 ·cases h
theorem avk x(hk:x.kind=1) e(j:e∈x.es):(jT e).length<=(eP x).length:=by
 have u:(iD (jT e)).length<=(x.es.flatMap λe=>iD (jT e)).length:=by
  obtain⟨s,t,y⟩:=List.append_of_mem j
  grind
 unfold eP
 grind [jT,eP,iD]
theorem ady x(h:bJ x=true)(u:cE x):iL (eP x)=some x:=by
 obtain⟨-,-,hk⟩:=DC h
 have j:(jC x.f).length<18446744073709551616/\((jC x.f).length:Int)<=((eP x).length:Int):=by
  have E:1<=(az (bf x.kind)).length:=by simp[az]
  have hp:1<=(lS x).length:=by grind [lS]
  rcases hk with ⟨_,_,D,_⟩|⟨_,D,_⟩|⟨hk,_,B⟩
  ·grind [bJ,cE,iL,eP,jC,az,fQ,be]
  ·grind [bJ,cE,iL,eP,jC,az,fQ,be]
  ·refine⟨?_,?_⟩
   ·have h8:=DF B;have F:=u.2.2.2.2.2.2.1;have H:=cS x.f.length af;have I:(x.f.flatMap ku).length<=101*x.f.length:=by
     have:∀l:List dH,(∀t∈l,gD t=true/\jB t)->(l.flatMap ku).length<=101*l.length:=afA
     grind
    unfold jC;rw[dx];omega
   ·grind [bJ,cE,iL,eP,iD]
 have C:∀e∈x.es,((jT e).length:Int)<=((eP x).length:Int):=by
  intro e G;rcases hk with ⟨hk,_⟩|⟨_,_,hn⟩|⟨_,hn,_⟩
  ·simp_all [avk]
  all_goals grind
 have A:=avj (eP x).length x h u C j.2 j.1 []
 rw[List.append_nil]at A
 unfold iL
 grind
theorem adz{l}(h:okF l=true)(j:∀x∈l,jB x):(jC l).length<=900:=by
 have h8:=DF h;have A:=cS l.length af;have u:∀l:List dH,(∀t∈l,gD t=true/\jB t)->(l.flatMap ku).length<=101*l.length:=afA;have h6:=u l λt ht=>⟨h8.2 t ht,j t ht⟩
 unfold jC;rw[dx];omega
theorem acS(es:List (List cZ))(h:∀e∈es,fN e=true/\∀a∈e,nJ a):(es.flatMap λe=>iD (jT e)).length<=2009*es.length:=by
 induction es with
 | nil=>simp
 | cons y l j =>
  have C:=j λt u=>h t aA
  obtain⟨B,A⟩:=h y aj
  grind [Vi,cS,jT,iD,az,dx,fg]
theorem KX{x}(h:bJ x=true)(t:cE x):(eP x).length<=20000:=by
 obtain⟨_,_,hk⟩:=DC h;obtain⟨_,_,_,y,u,j,B,H⟩:=t;have F:=cS (bf x.kind) (gP _);have E:=cS (bf x.br) (gP _);have G:=cS x.life y;have J:=cS x.b6 u;have I:=cS (bf x.cl) (gP _);have D:=cS x.sub j;have A:(lS x).length<=54:=by grind [lS]
 rcases hk with ⟨hk,_,_,h8,L⟩|⟨hk,_,_⟩|⟨hk,_,C⟩
 ·grind [acS,cS,VO,dx]
 ·grind [bJ,cE,eP]
 ·grind [adz,cS,jC,VP,dx,iD]
structure Rec where
 kind:Int
 n:Nat
 e:aK
 br:Int
 life:Nat
 b6:Nat
 deriving DecidableEq
def Jj:Rec:=⟨0,0,dD,0,0,0⟩
def jQ(x:Rec):Prop:=cD x.kind/\x.n<18446744073709551616/\cE x.e/\cD x.br/\x.life<18446744073709551616/\x.b6<18446744073709551616
def xI(x:Rec):Bool:=decide (x.br=0)&&decide (x.life=0)&&decide (x.b6=0)
def dR(x:Rec):Bool :=
 if x.kind=1 then decide (x.e=dD)&&xI x
 else if x.kind=2 then bJ x.e&&xI x
 else if x.kind=3 then decide (x.n=0)&&bJ x.e&&xI x
 else if x.kind=4∨x.kind=5 then qH x.br&&decide (x.n=0)&&decide (x.e=dD)else false
def bL(x:Rec):List UInt8 :=
 az (bf x.kind)++(az x.n++(if x.kind=2∨x.kind=3 then iD (eP x.e)else if x.kind=4∨x.kind=5 then az (bf x.br)++(az x.life++az x.b6)else []))
theorem BR{x}(h:dR x=true):(x.kind=1/\x.e=dD/\x.br=0/\x.life=0/\x.b6=0)∨((x.kind=2∨x.kind=3/\x.n=0)/\bJ x.e=true/\x.br=0/\x.life=0/\x.b6=0) ∨
 ((x.kind=4∨x.kind=5)/\(0<=x.br/\x.br<16)/\x.n=0/\x.e=dD):=by
 unfold dR xI qH at h
 split at h
 ·grind
 ·split at h
  ·grind
  ·split at h;all_goals grind
def nD(m:Int):Bc Rec:=λl wr =>
 let a:=aw l wr
 let b:=aw a.2.1 a.2.2
 let k:=min a.1 6
 if k=2∨k=3 then
  match iL (aL m b.2.1 b.2.2).1 with
  | none=>(Jj,(aL m b.2.1 b.2.2).2.1,true)
  | some e=>(⟨(k:Nat),b.1,e,0,0,0⟩,(aL m b.2.1 b.2.2).2)
 else if k=4∨k=5 then
  let c:=aw b.2.1 b.2.2
  let d:=aw c.2.1 c.2.2
  let e:=aw d.2.1 d.2.2
  (⟨(k:Nat),b.1,dD,(min c.1 16:Nat),d.1,e.1⟩,e.2)
 else (⟨(k:Nat),b.1,dD,0,0,0⟩,b.2)
theorem adA m x(h:dR x=true)(F:jQ x)(hm:((eP x.e).length:Int)<=m)(A:(eP x.e).length<18446744073709551616) rest:nD m (bL x++rest) false=(x,rest,false):=by
 obtain⟨kind,n,e,br,life,b6⟩:=x;obtain⟨-,hn,D,-,B,C⟩:=F;simp only at hn D B C hm A;rcases BR h with ⟨hk,j,hb,t,y⟩|⟨hk,j,hb,t,y⟩|⟨hk,hb,t,j⟩
 ·simp only at hk j hb t y;subst hk j hb t y;have u:bL ⟨1,n,dD,0,0,0⟩++rest=az 1++(az n++rest):=by
   grind [bL,bf,eu]
  simp only[nD];rw[u,rD 1 ax];simp only[rD,hn];simp
 ·simp only at hk j hb t y;subst hb t y;have H:kind=2∨kind=3:=af;have G:=tZ kind af af;have u:bL ⟨kind,n,e,0,0,0⟩++rest=az (bf kind)++(az n++(az (eP e).length++eP e++rest)):=by
   grind [bL,iD,eu]
  have E:=FI m (eP e) A hm rest;simp only[nD];rw[u,rD _ (gP _)];simp only[rD,hn];rw[if_pos af,E];simp only[ady e j D];grind
 ·simp only at hk hb t j;subst t j;have G:=tZ kind af af;have I:=tZ br hb.1 af;have u:bL ⟨kind,0,dD,br,life,b6⟩++rest=az (bf kind)++(az 0++(az (bf br)++(az life++(az b6++rest)))):=by
   grind [bL,eu]
  simp only[nD];rw[u,rD _ (gP _)];simp only[rD,B,C,gP,show (0:Nat)<18446744073709551616 by decide];grind
theorem arJ m l wr(h:(nD m l wr).2.2=false)(ok:dR (nD m l wr).1=true):l=bL (nD m l wr).1++(nD m l wr).2.1/\wr=false:=by
 have A:=@ud l wr;unfold nD at h ok⊢;simp only at h ok⊢;generalize aw l wr=a at *;obtain⟨a,y,t⟩:=a;simp only at h ok A⊢;have hb:=@ud y t;generalize aw y t=b at *;obtain⟨b,u,j⟩:=b;simp only at h ok hb⊢;split at h
 ·rename_i hk;rw[if_pos hk]at ok⊢;have B:=@DN m u j;generalize aL m u j=r at *;obtain⟨bs,D,C⟩:=r;simp only at h ok B⊢;cases hd:iL bs with
  | none=>rw[hd]at h;cases h
  | some e =>
   grind [UC,bf,tZ,bL,iD,eu,az]
 ·grind [ud,aw,BR,bf,tZ,bL,eu]
def nB(b:List UInt8):Option Rec:=if !(nD b.length b false).2.2&&(nD b.length b false).2.1.isEmpty&&dR (nD b.length b false).1 then some (nD b.length b false).1 else none
def ui(b:List UInt8):Rec:=(nB b).getD Jj
def um(b:List UInt8):Int:=if (nB b).isSome then 0 else 110
theorem aqp{b x}(h:nB b=some x):b=bL x/\dR x=true:=by
 unfold nB at h;split at h
 ·rename_i j;injection h with h;simp only[dC,Bool.not_eq_true',List.isEmpty_iff]at j;obtain⟨⟨y,u⟩,t⟩:=j;grind [arJ]
 ·cases h
theorem afB:(eP dD).length=6:=by simp[eP,lS,dD,az,bf,fQ,be]
theorem arK x(h:dR x=true)(y:jQ x):nB (bL x)=some x:=by
 have A:(eP x.e).length<18446744073709551616/\((eP x.e).length:Int)<=30000/\((x.kind=2∨x.kind=3)->((eP x.e).length:Int)<=((bL x).length:Int)):=by
  have B:(x.kind=2∨x.kind=3)->((eP x.e).length:Int)<=((bL x).length:Int):=by
   grind [dR,jQ,nB,bL,iD]
  rcases BR h with ⟨_,j,_⟩|⟨_,j,_⟩|⟨_,_,_,j⟩
  ·simp_all [afB]
  ·have:=KX j y.2.2.1;exact⟨af,af,B⟩
  ·simp_all [afB]
 have t:nD (bL x).length (bL x++[]) false=(x,[],false):=by
  by_cases hk:x.kind=2∨x.kind=3
  ·grind [adA]
  ·have C:=adA 30000 x h y A.2.1 A.1 [];rw[<- C];have hn:(aw (bL x++[]) false).1=bf x.kind:=by unfold bL;rw[eu,rD _ (gP _)]
   have u:¬(min (aw (bL x++[]) false).1 6=2∨min (aw (bL x++[]) false).1 6=3):=by
    rw[hn];rcases BR h with ⟨g,_⟩|⟨g,_⟩|⟨g,_⟩
    ·rw[tZ _ af af];omega
    ·omega
    ·rw[tZ _ af af];omega
   unfold nD;simp only;rw[if_neg u,if_neg u]
 rw[List.append_nil]at t;unfold nB;rw[t];simp[h]
abbrev aS:=Int×Nat×Nat
abbrev cN(a:aS):Value:=.agg #[.int .i64 a.1,.int .u64 (a.2.1:Int),.int .u64 (a.2.2:Int)]
section
open Go Go.RowKit Go.ChangeShapes Go.WideShapes Go.ChangeAt
def cO:ei (List cZ) where
 size:=1
 rel l cs w:=∃v,cs=[v]/\ji l v w
 len:=by rintro _ _ _⟨v,rfl,_⟩;rfl
 one:=by rintro _ _ _⟨v,rfl,A,c,rfl,_⟩ u j;simp at j;subst j;rfl
 st:=by rintro _ _ _ _⟨v,rfl,h⟩ k;exact⟨v,rfl,qC _ _ _ _ h k⟩
abbrev fw(a:aS):List Value:=[.int .i64 a.1,.int .u64 (a.2.1:Int),.int .u64 (a.2.2:Int)]
def dW(a:aS):Prop:=cD a.1/\a.2.1<18446744073709551616/\a.2.2<18446744073709551616
def cd:ei aS where
 size:=3
 rel a cs _:=cs=fw a
 len:=by rintro _ _ _ rfl;rfl
 one:=by rintro _ _ _ rfl u j;simp at j;rcases j with rfl|rfl|rfl <;> rfl
 st:=by rintro _ _ _ _ h _;exact h
abbrev Yo(x:aK)(vf ve:Value):List Value:=[.int .i64 x.kind,.int .i64 x.br,.int .u64 (x.life:Int),.int .u64 (x.b6:Int),.int .i64 x.cl,.int .u64 (x.sub:Int),vf,ve]
abbrev aE(x:aK)(vf ve:Value):Array Value:=#[.int .i64 x.kind,.int .i64 x.br,.int .u64 (x.life:Int),.int .u64 (x.b6:Int),.int .i64 x.cl,.int .u64 (x.sub:Int),vf,ve]
theorem cA{l v w}(h:fF l v w):∃A c,v=.slice A l.length c:=by
 grind [fF]
theorem yy{l v w}(h:ji l v w):∃A c,v=.slice A l.length c:=by
 grind [ji]
theorem av{α S}{l:List α}{v w}(h:aq S l v w):∃A c,v=.slice A l.length c:=by
 grind [aq]
def aV:ei aK where
 size:=8
 rel x cs w:=∃vf j,cs=Yo x vf j/\fF x.f vf w/\aq cO x.es j w
 len:=by rintro _ _ _⟨vf,j,rfl,_⟩;rfl
 one:=by rintro x _ _⟨vf,j,rfl,⟨A,c,rfl,_⟩,⟨D,d,rfl,_⟩⟩ u hu;exact afC
 st:=by rintro _ _ _ _⟨vf,j,rfl,y,t⟩ k;exact⟨vf,j,rfl,eO _ _ _ _ y k,bo t k⟩
def dm(x:aK)(v:Value)(w:World):Prop:=∃vf j,v=.agg (aE x vf j)/\fF x.f vf w/\aq cO x.es j w
theorem LM{x v w w'}(h:dm x v w)(k:K w w'):dm x v w':=afD
theorem ayj{x v w}(h:dm x v w):∀W,K w W->dm x v W:=λ_ k=>LM h k
theorem avl w:dm dD (.agg #[.int .i64 0,.int .i64 0,.int .u64 0,.int .u64 0,.int .i64 0,.int .u64 0,.slice none 0 0,.slice none 0 0]) w :=
 ⟨_,_,rfl,⟨none,0,rfl,Reads.nil _ _ _ _⟩,gI _ _⟩
abbrev eY(x:Rec)(vf ve:Value):Array Value:=#[.int .i64 x.kind,.int .u64 (x.n:Int),.int .i64 x.e.kind,.int .i64 x.e.br,.int .u64 (x.e.life:Int),.int .u64 (x.e.b6:Int),.int .i64 x.e.cl,.int .u64 (x.e.sub:Int),vf,ve,.int .i64 x.br,.int .u64 (x.life:Int),.int .u64 (x.b6:Int)]
def p6(x:Rec)(v:Value)(w:World):Prop:=∃vf j,v=.agg (eY x vf j)/\fF x.e.f vf w/\aq cO x.e.es j w
theorem QY{x v w w'}(h:p6 x v w)(k:K w w'):p6 x v w':=afD
theorem ayk{x v w}(h:p6 x v w):∀W,K w W->p6 x v W:=λ_ k=>QY h k
def wq:ei Rec where
 size:=13
 rel x cs w:=∃vf j,cs=(eY x vf j).toList/\fF x.e.f vf w/\aq cO x.e.es j w
 len:=by rintro _ _ _⟨vf,j,rfl,_⟩;rfl
 one:=by rintro x _ _⟨vf,j,rfl,⟨A,c,rfl,_⟩,⟨D,d,rfl,_⟩⟩ u t;simp at t;rcases t with rfl|rfl|rfl|rfl|rfl|rfl|rfl|rfl|rfl|rfl|rfl|rfl|rfl <;> rfl
 st:=by rintro _ _ _ _⟨vf,j,rfl,B,y⟩ k;exact⟨vf,j,rfl,eO _ _ _ _ B k,bo y k⟩
section
variable {H:Type} {enc:TypeId×Value->H} {w:World} {base:Nat} {r:Reach} {b0:Nat} {spare:Nat->Bool} {held:Bool} {v:Value} {d:DataW H} {p:List MemPlace} {α:Type}
theorem adB{t cs x}(u:DataW.trod enc prog w base spare held t 3 cs=some x):∃n,cs=[.int .i64 n]/\cD n:=by obtain⟨a,j,_,y⟩:=DataW.trod_int underlying3 u;have:=bounds_i64 y;exact⟨a,j,fP⟩
theorem adC{j cs x}(t:DataW.trod enc prog w base spare held j 24 cs=some x):∃n:Nat,cs=[.int .u64 n]/\n<18446744073709551616:=by obtain⟨a,y,_,u⟩:=DataW.trod_int underlying24 t;have:=bounds_u64 u;exact⟨a.toNat,aA,af⟩
theorem avm{G cs x}(h:DataW.trod enc prog w base spare held G 26 cs=some x):∃y:aS,cs=fw y/\dW y:=by
 obtain⟨xs,n,_,_,D,J,t⟩:=DataW.trod_struct underlying26 h
 have L:prog.cellsOf 26=3:=cV
 rw[L]at D
 have H:prog.cellsOf 3=1:=cV
 have F:prog.cellsOf 24=1:=cV
 have M:xs.length=3:=J
 match cs,D with
 | [c0,c1,c2],_ => have u:=t 0 _ rfl;have A:=t 1 _ rfl;have j:=t 2 _ rfl;simp[H,F]at u A j;rw[List.getElem?_eq_getElem af]at u A j;obtain⟨a,B,I⟩:=adB u;obtain⟨b,E,wb⟩:=adC A;obtain⟨c,C,wc⟩:=adC j;simp at B E C;subst B E C;exact⟨(a,b,c),rfl,I,wb,wc⟩
def ajR(_:World)(v:Value):Prop:=∃a:aS,v=cN a/\dW a
theorem avn(j:Value.okWide prog w r b0 26 v)(h:DataW.Trod enc prog w base spare held 26 v d p):ajR w v:=by
 obtain⟨cs,rfl,A⟩:=okWide_struct underlying26 j
 obtain⟨B,t⟩:=h
 obtain⟨y,C,u⟩:=avm t
 refine⟨y,?_,u⟩
 have:cs.toList=fw y:=fP
 obtain⟨l⟩:=cs
 grind
end
end
def oU:List Value->Nat->List Value->List Value
 | xs,_,[]=>xs
 | xs,q,u :: us=>oU (xs.set q u) (q+1) us
def ef:World->Nat->Nat->List Value->World
 | w,_,_,[]=>w
 | w,g,q,u :: us=>ef (w.setCell ⟨g,q,none⟩ u) g (q+1) us
theorem UD:∀(us xs:List Value) (q:Nat),q+us.length=xs.length->oU xs q us=xs.take q++us
 | [],xs,q,h=>by simp only[oU,List.append_nil];rw[gQ (by simp at h;omega)]
 | u :: us,xs,q,h=>by
  simp only[fg]at h;simp only[oU];rw[UD us (xs.set q u) (q+1) (by rw[List.length_set];omega),List.take_add_one];have:(xs.set q u)[q]?=some u:=by rw[List.getElem?_set_self (by omega)]
  rw[this,List.take_set_of_le (aD _)];simp
theorem aen{g e}:∀(us:List Value) (cs:Array Value) (q:Nat) (w:World),ai w g e cs->ai (ef w g q us) g e (oU cs.toList q us).toArray
 | [],cs,q,w,h=>by simpa [ef,oU]using h
 | u :: us,cs,q,w,h=>by have:=aen us (cs.setIfInBounds q u) (q+1) _ (h.aQ q u);simpa [ef,oU,Array.toList_setIfInBounds]using this
theorem FU{w g e cs us}(h:ai w g e cs)(j:us.length=cs.size):ai (ef w g 0 us) g e us.toArray:=by have:=aen us cs 0 w h;rwa [UD us cs.toList 0 aA,Yd,aO]at this
