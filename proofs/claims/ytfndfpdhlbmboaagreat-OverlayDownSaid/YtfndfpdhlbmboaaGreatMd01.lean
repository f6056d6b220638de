/-
  The walks of the reader's methods Bytes and Value: what each returns, how the reader stands behind it, and that nothing else that was there is changed.
-/
import Derived.Test.YtfndfpdhlbmboaaGreatMd00
import Derived.ProofKit
import Derived.OpenShut
import Derived.ShutString
import Derived.ChangeOld
import Derived.Below
import Derived.Lib.SmallJoins
import Derived.Deep.Slices
import Derived.Deep.Fields
import Derived.Deep.CutRange
import Derived.Deep.LoopGhost
import Derived.Test.YtfndfpdhlbmboaaGreatMdz
set_option maxRecDepth 100000
set_option linter.constructorNameAsVariable false
set_option maxHeartbeats 16000000
set_option linter.unusedVariables false
set_option linter.unusedSimpArgs false
namespace Go.Proofs.YtfndfpdhlbmboaaGreat
open Go Go.RowKit _root_.Go.Proofs.Tryz
def aL(j:Int)(l:List UInt8)(wr:Bool):List UInt8×List UInt8×Bool :=
 if (aw l wr).2.2||decide (j<0)||decide (j.toNat<(aw l wr).1)||decide ((aw l wr).2.1.length<(aw l wr).1)then ([],(aw l wr).2.1,true)
 else ((aw l wr).2.1.take (aw l wr).1,(aw l wr).2.1.drop (aw l wr).1,false)
theorem nV l wr:(aw l wr).2.1.length<=l.length:=by
 unfold aw
 grind
theorem nX l wr:(aw l wr).1<18446744073709551616:=by
 unfold aw;split
 ·simp
 ·rename_i b r;split
  ·simp
  ·rename_i t;simp at t;have y:=Ld (r.take b.toNat);have j:(r.take b.toNat).length<=8:=aA;have u:256^(r.take b.toNat).length<=256^8:=Nat.pow_le_pow_right ax j;show jc (r.take b.toNat)<_;omega
theorem Rd.VB{w g l wr}(h:Rd w g l wr):ox g l true w (w.setCell ⟨g,1,none⟩ (.bool true)):=by obtain⟨A,c,hb,j,u,t⟩:=h;refine⟨⟨A,c,hb.aQ 1 _,?_,u,t⟩,DP (BV _ _) rfl _⟩;exact j.keep λk hk=>Below.heap_setCell w _ _ k aA
theorem OP g l wr t w(h:Rd w g l wr)(Z:l.length<=1000000000)(hm0:-9223372036854775808<=t)(V:t<=9223372036854775807) :
 Calls prog 210 #[.pointer (some ⟨g,0,none⟩),.int .i64 t] w λe w' =>
  ∃v,e=.returned v/\Own w' w.heap.size 5 v (aL t l wr).1/\ox g (aL t l wr).2.1 (aL t l wr).2.2 w w':=by
 have H:=tj g l wr w h
 have N:=nV l wr
 have L:=nX l wr
 unfold aL
 generalize aw l wr=R at *
 obtain⟨n,j,C⟩:=R
 simp only at H N L⊢
 have HN:=ae H
 clear H h
 by_cases y:(C||decide (t<0)||decide (t.toNat<n)||decide (j.length<n))=true
 ·rw[y];have hfin:∀W,Rd W g j C->w.grownBy W (some g)->Own (W.setCell ⟨g,1,none⟩ (.bool true)) w.heap.size 5 (.slice none 0 0) []/\ox g j true w (W.setCell ⟨g,1,none⟩ (.bool true)):=by intro W ph hgr;obtain⟨B,D⟩:=ph.VB;exact⟨kU _ _ _ _,B,oO hgr D⟩
  cases C
  ·by_cases B:t<0
   ·exact PL
   ·by_cases D:t.toNat<n
    ·obtain⟨m,rfl⟩:=Int.eq_ofNat_of_zero_le (show 0<=t by omega);have I:(m:Int)<n:=af;exact PL
    ·have J:j.length<n:=aA;obtain⟨m,rfl⟩:=Int.eq_ofNat_of_zero_le (show 0<=t by omega);have I:¬(m:Int)<n:=af;have O:(j.length:Int)<n:=af;exact PL
  ·exact PL
 ·have y:(C||decide (t<0)||decide (t.toNat<n)||decide (j.length<n))=false:=by simpa using y
  rw[y];simp at y;obtain⟨⟨⟨rfl,B⟩,D⟩,J⟩:=y;obtain⟨m,rfl⟩:=Int.eq_ofNat_of_zero_le B;simp at D;have I:(n:Int)<=m:=af;have O:(n:Int)<=j.length:=af;go_enter func210,ntmps210;go_wp2;go_step3;go_wp2_with fail
  apply aM HN.aa;rintro w2⟨⟨A,c,hb,hr,hc1,ik⟩,hgr⟩;have dL:=hb.cell 0;have hx1:=hb.cell 1;simp at dL hx1;go_wp2_with fail
  refine (Pn A n c (j.take n) 0 w2 g (hr.pre n J) (Nat.le_of_lt hb.lt) af af af).mono ?_;rintro e F⟨T,S,rfl,Q,E,_,_⟩;have G:=hb.ay E;have M:=hr.below E (Nat.le_of_lt hb.lt);have U:=G.cell 0;have X:=G.frozen 0;simp at U;have hfin:∀(A':Option Addr) (u:Nat),(n<j.length->A'=A.map (·.add n))->j.length-n<=u->u<=c ->
   Own (F.setCell ⟨g,0,none⟩ (.slice A' (j.length-n) u)) w.heap.size 5 (.slice (some ⟨T,0,none⟩) n S) (j.take n)/\ox g (j.drop n) false w (F.setCell ⟨g,0,none⟩ (.slice A' (j.length-n) u)):=by
   intro A' u hA h4 Y
   refine⟨?_,⟨A',u,?_,?_,IP,af⟩,DP (oO hgr (BN E _)) rfl _⟩
   ·have h6:=ownsRow_setCell_below (a:=⟨g,0,none⟩) Q hb.lt (.slice A' (j.length-n) u);refine ua hgr.size ?_ rfl;unfold Own;rw[show (j.take n).length=n by simp;omega];exact h6
   ·have h7:=G.aQ 0 (.slice A' (j.length-n) u);simpa using h7
   ·have h8:=M.post (A':=A') n hA;rw[List.length_drop];exact h8.keep λk hk=>Below.heap_setCell F _ _ k ba
  go_wp2;all_goals
   go_ret
   refine⟨_,rfl,hfin _ _ (λwj=>?_) af af⟩
   first|rfl|omega
def Ee(n:Nat):Int:=((n:Int)+9223372036854775808)%18446744073709551616-9223372036854775808
def uD(k n:Nat):Int:=if k=1 then vU n else Ee n
def fE(l:List UInt8)(wr:Bool):(Int×Int×List UInt8)×List UInt8×Bool :=
 let a:=aw l wr
 let b:=aw a.2.1 a.2.2
 let s:=aL 40 b.2.1 b.2.2
 if decide (3<a.1)||s.2.2||!(iY a.1 (uD a.1 b.1) ⟨s.1.toArray⟩)then ((0,0,[]),s.2.1,true)
 else ((a.1,uD a.1 b.1,s.1),s.2.1,false)
theorem DQ j l wr:(aL j l wr).2.1.length<=l.length:=by
 grind [nV,aL]
abbrev vd(d:Int×Int×List UInt8):Value:=vv d.1 d.2.1 ⟨d.2.2.toArray⟩
theorem Rd.below{w w' g B l wr}(h:Rd w g l wr)(hb:Below B w w')(hg:g<B):Rd w' g l wr:=by obtain⟨A,c,hk,j,u,t⟩:=h;exact⟨A,c,hk.below hb hg,j.below hb af,u,t⟩
theorem Rd.lt{w g l wr}(h:Rd w g l wr):g<w.heap.size:=by obtain⟨_,_,hb,_⟩:=h;exact hb.lt
theorem Rd.ay{w w' g l wr}(h:Rd w g l wr)(hb:Below w.heap.size w w'):Rd w' g l wr:=h.below hb h.lt
theorem ab0 g l wr w(h:Rd w g l wr)(hl:l.length<=1000000000) :
 Calls prog 308 #[.pointer (some ⟨g,0,none⟩)] w λe w' =>
  e=.returned (vd (fE l wr).1)/\ox g (fE l wr).2.1 (fE l wr).2.2 w w':=by
 have hg:=h.lt
 have c1:=λW (t:Rd W g l wr)=>tj g l wr W t
 have c2:=λW (t:Rd W g (aw l wr).2.1 (aw l wr).2.2)=>tj g _ _ W t
 have c3:=λW (t:Rd W g (aw (aw l wr).2.1 (aw l wr).2.2).2.1 (aw (aw l wr).2.1 (aw l wr).2.2).2.2)=>OP g _ _ 40 W t (by have:=nV l wr;have:=nV (aw l wr).2.1 (aw l wr).2.2;omega) af af
 have b1:=nX l wr
 have R:=nX (aw l wr).2.1 (aw l wr).2.2
 simp only[fE]
 generalize aw l wr=a at *
 obtain⟨k,l1,w1⟩:=a
 simp only at *
 generalize aw l1 w1=a at *
 obtain⟨n,Z,S⟩:=a
 simp only at *
 generalize aL 40 Z S=a at *
 obtain⟨s,l3,F⟩:=a
 simp only at *
 have C1:=ae c1
 have V:=ae c2
 have Y:=ae c3
 clear c1 c2 c3
 have T:Below w.heap.size w (w.alloc (.cells #[.int .i64 0,.int .i64 0,.string { data:=#[] }] 71)):=(cT _ _).alloc (aD _) _
 have I:=ai.new w 71 #[.int .i64 0,.int .i64 0,.string { data:=#[] }]
 have Q:=h.below T hg
 clear h
 go_enter func308,ntmps308
 go_wp2
 refine Kz 0 rfl ?_
 go_wp2_with fail
 apply aM (C1.aa _ Q)
 rintro W1⟨O,D⟩
 have M:=I.grown D ba
 clear I Q
 go_wp2_with fail
 apply aM (V.aa _ O)
 rintro W2⟨G,C⟩
 have L:=M.grown C ba
 clear M O
 go_wp2_with fail
 apply bS (Y.aa _ G)
 rintro v3 W3⟨H,dN,y⟩
 have eE:=L.grown y ba
 clear L G
 obtain⟨A3,k3,rfl,X⟩:=H.slice
 have hst:=aeT (P:=prog) W3 94 9 5 underlying94 underlying5 underlying9 _ A3 _ k3 s X
 clear H
 by_cases h3:3<k
 ·have h3':(3:Int)<(k:Int):=af;have eF:=dN.below (Below.alloc (cT _ W3) (aD _) (.cells #[.int .i64 0,.int .i64 (wrap64 (n:Int)),.string { data:=s.toArray }] 71)) dN.lt;have b5:=eE.alloc (.cells #[.int .i64 0,.int .i64 (wrap64 (n:Int)),.string { data:=s.toArray }] 71);have hgr:w.grownBy (W3.alloc (.cells #[.int .i64 0,.int .i64 (wrap64 (n:Int)),.string { data:=s.toArray }] 71)) (some g):=DD (oO (oO (oO (DD (BV _ _) _) D) C) y) _;go_wp2;generalize W3.alloc _=W4 at *;have Jz:(if (decide (3<k)||F||!(iY (k:Int) (uD k n) ⟨s.toArray⟩))=true then (((0,0,[]),l3,true):(Int×Int×List UInt8)×List UInt8×Bool)else (((k:Int),uD k n,s),l3,false))=((0,0,[]),l3,true):=by simp[h3]
  go_step3;refine⟨rfl,?_⟩;have hy0:=b5.cell 0;have AZ:=b5.cell 1;have hy2:=b5.cell 2;have hz0:=b5.frozen 0;have hz1:=b5.frozen 1;have hz2:=b5.frozen 2;simp at hy0 AZ hy2;obtain⟨A4,c4,hb4,_⟩:=id eF;have lI:=hb4.cell 1;have qV:=hb4.frozen 1;simp at lI;go_wp2;have dY:=(((b5.far (p:=⟨g,1,none⟩) ba (.bool true)).aQ 0 (.int .i64 0)).aQ 1 (.int .i64 0)).aQ 2 (.string { data:=#[] });have e0:=dY.cell 0;have e1:=dY.cell 1;have e2:=dY.cell 2;simp at e0 e1 e2;have hw:=eF.VB;rw[iq];refine bodyPost_ret (v:=vd (0,0,[])) VC rfl ?_;rw[Jz];refine⟨rfl,?_,?_⟩
  ·exact ae2
  ·exact ae3
 ·have h3':¬(3:Int)<(k:Int):=af;have jh:(k:Int)<=3:=af;generalize J:uD k n=N at *;have HN:=ae J;clear J;by_cases A:k=1
  ·have U:((k:Int)==1)=true:=ba;have u:Hid (vU n=N):=by rw[<- HN.aa];exact ae (by simp[uD,A])
   clear A;have eF:=dN.ay (Below.alloc (cT _ W3) (aD _) (.cells #[.int .i64 k,.int .i64 N,.string { data:=s.toArray }] 71));have b5:=eE.alloc (.cells #[.int .i64 k,.int .i64 N,.string { data:=s.toArray }] 71);have hgr:w.grownBy (W3.alloc (.cells #[.int .i64 k,.int .i64 N,.string { data:=s.toArray }] 71)) (some g):=DD (oO (oO (oO (DD (BV _ _) _) D) C) y) _;cases hw3:F
   ·subst hw3;obtain⟨E,c5,j,_⟩:=id dN;have lI:=λo=>(j.alloc o).cell 1
    simp at lI;go_wp2_with fail
    apply aM (abZ n _ R);rintro w' rfl;rw[u.aa];go_wp2_with fail
    exact ae4
   ·subst hw3;obtain⟨E,c5,j,_⟩:=id dN;have lI:=λo=>(j.alloc o).cell 1
    simp at lI;go_wp2_with fail
    apply aM (abZ n _ R);rintro w' rfl;rw[u.aa];go_wp2_with fail
    exact ae5
  ·have U:((k:Int)==1)=false:=ba;have u:Hid (wrap64 (n:Int)=N):=by rw[<- HN.aa];exact ae (by simp[uD,A,Ee,wrap64])
   clear A;have eF:=dN.ay (Below.alloc (cT _ W3) (aD _) (.cells #[.int .i64 k,.int .i64 N,.string { data:=s.toArray }] 71));have b5:=eE.alloc (.cells #[.int .i64 k,.int .i64 N,.string { data:=s.toArray }] 71);have hgr:w.grownBy (W3.alloc (.cells #[.int .i64 k,.int .i64 N,.string { data:=s.toArray }] 71)) (some g):=DD (oO (oO (oO (DD (BV _ _) _) D) C) y) _;cases hw3:F
   ·subst hw3;obtain⟨E,c5,j,_⟩:=id dN;have lI:=λo=>(j.alloc o).cell 1
    simp at lI;go_wp2_with fail
    simp only[u.aa];exact ae4
   ·subst hw3;obtain⟨E,c5,j,_⟩:=id dN;have lI:=λo=>(j.alloc o).cell 1
    simp at lI;go_wp2_with fail
    simp only[u.aa];exact ae5
section
open Go Go.RowKit Go.ChangeShapes Go.WideShapes Go.ChangeAt
open Go.ChangeMaps (open_string shut_string)
set_option linter.unusedVariables false
def XZ(_:World)(v:Value):Prop:=∃n:Int,v=.int .i64 n/\-9223372036854775808<=n/\n<=9223372036854775807
def cD(n:Int):Prop:=-9223372036854775808<=n/\n<=9223372036854775807
theorem BQ{α:Type}(C:Nat):∀(css:List (List α)),(∀cs∈css,cs.length=C)->css.flatten.length=css.length*C
 | [],_=>aj
 | c :: css,h=>by simp only[List.flatten_cons,dx,fg];rw[h c aj,BQ C css λcs j=>h cs (by simp[j]),Nat.succ_mul];omega
theorem yx{α:Type} C:∀(css:List (List α)),(∀cs∈css,cs.length=C)->∀i j,i<css.length->j<C->css.flatten[i*C+j]?=(css[i]?.getD [])[j]?
 | [],_,i,j,hi,_=>Lf
 | c :: css,h,i,j,hi,hj=>by
  have hc:=h c aj
  cases i with
  | zero=>simp;rw[List.getElem?_append_left af]
  | succ i => rw[List.flatten_cons,List.getElem?_append_right PM];simp only[List.getElem?_cons_succ];rw[<- yx C css (λcs t=>h cs (by simp[t])) i j PN hj];congr 1;rw[hc,Nat.succ_mul];omega
section
variable {H:Type} {enc:TypeId×Value->H} {w:World} {base:Nat} {r:Reach} {b0:Nat} {spare:Nat->Bool} {held:Bool} {v:Value} {d:DataW H} {p:List MemPlace}
theorem adt(j:Value.okWide prog w r b0 3 v)(h:DataW.Trod enc prog w base spare held 3 v d p):XZ w v:=by obtain⟨a,rfl,rfl,rfl,t⟩:=open_int underlying3 j h;have hb:=bounds_i64 t;exact⟨a,rfl,af,af⟩
theorem aoP{T E}(V:prog.underlying T=some (.slice E)) C(hC:prog.cellsOf E=C)(I:List Value->Prop)
 (hE:∀(U:Nat) (cs:List Value) (x:DataW H×List MemPlace),cs.length=C->DataW.trod enc prog w base spare held U E cs=some x->I cs)
 (hv:Value.okWide prog w r b0 T v) (h:DataW.Trod enc prog w base spare held T v d p) :
 ∃(A:Option Addr) (n c:Nat) (css:List (List Value)),v=.slice A n c/\css.length=n/\n<=c/\c<=maxLen/\(∀cs∈css,cs.length=C/\I cs)/\(0<C->Reads w w.heap.size C A n css.flatten):=by
 obtain⟨a0,yR,azD,rfl⟩:=okWide_slice V hv
 obtain⟨U,hf⟩:=h
 rcases Go.Deep.open_slice V hf with ⟨t,_⟩|⟨a,len,cap,m,n,D,Pl,t,hb,hl,hm,hmm,B,hi⟩
 ·simp[Value.cells]at t;obtain⟨rfl,rfl,rfl⟩:=t;exact⟨none,0,0,[],rfl,rfl,aj,aj,aj,λ_=>Reads.nil _ _ _ _⟩
 ·simp[Value.cells]at t;obtain⟨rfl,rfl,rfl⟩:=t;have hlm:yR<=m:=aA;have hex:∀i,i<yR->∃cs,cs.length=C/\I cs/\∀j,j<C->w.cell? (a.add (i*C+j))=cs[j]?:=by intro i hil;obtain⟨Z,N,Y⟩:=hi i af;rw[hC]at N;obtain⟨_,W,hat⟩:=World.cells?_some N;refine⟨Z,W,hE _ _ _ W Y,λj y=>?_⟩;rw[<- Go.Deep.add_add];exact hat j y
  have key:∀k,k<=yR->∃css:List (List Value),css.length=k/\(∀cs∈css,cs.length=C/\I cs)/\∀i j,i<k->j<C->w.cell? (a.add (i*C+j))=(css[i]?.getD [])[j]?:=by
   intro k
   induction k with
   | zero=>intro _;exact⟨[],rfl,aj,aj⟩
   | succ k ih =>
    intro hk;obtain⟨css,F,G,J⟩:=ih af;obtain⟨cs,h4,h5,h6⟩:=hex k af;refine⟨css++[cs],by simp[F],?_,λi j hik y=>?_⟩
    ·intro x B;rcases List.mem_append.1 B with B|B
     ·exact G x B
     ·simp at B;subst B;exact⟨h4,h5⟩
    ·by_cases azE:i<k
     ·rw[J i j azE y,List.getElem?_append_left af]
     ·obtain rfl:i=k:=af;rw[h6 j y,List.getElem?_append_right af,F];simp
  obtain⟨css,F,G,J⟩:=key yR (aD _);refine⟨some a,yR,azD,css,rfl,F,hl,hm,G,λhC0=>?_⟩;have Q:css.flatten.length=yR*C:=by rw[<- F];exact BQ C css λcs t=>(G cs t).1
  have hfg:∀i j,i<yR->j<C->css.flatten[i*C+j]?=(css[i]?.getD [])[j]?:=λi j hi' y=>yx C css (λcs t=>(G cs t).1) i j af y
  refine⟨Q,λM=>?_⟩;rw[Q]at M;have rV:=Nat.pos_of_mul_pos_right M;have X:∀q,q<yR*C->w.cell? (a.add q)=css.flatten[q]?:=by
   intro q hq;have e:q=q/C*C+q%C:=by rw[Nat.mul_comm];exact (Nat.div_add_mod q C).symm
   have O:=Nat.div_lt_of_lt_mul (by rwa [Nat.mul_comm]at hq);have S:q%C<C:=Nat.mod_lt _ hC0;rw[e,J _ _ O S,hfg _ _ O S]
  have L:=X 0 M;have hsome:∃u,css.flatten[0]?=some u:=⟨css.flatten[0]'af,List.getElem?_eq_getElem af⟩;obtain⟨u,hu⟩:=hsome;rw[hu]at L;obtain⟨b,off,spot⟩:=a;have hs:spot=none:=by simpa [Addr.add]using World.cell?_spot L
  subst hs;refine⟨b,off,rfl,?_,λj u R=>?_⟩
  ·have:=World.block_lt_of_cell? w _ L;simpa [Addr.add]using this
  ·have y:j<yR*C:=by have:=(List.getElem?_eq_some_iff.1 R).1;omega
   have:=X j y;rw[Addr.add_lit]at this;rw[this,R]
theorem abL{α:Type} f(j:α->Prop):∀css:List (List Value),(∀cs∈css,∃y,cs=f y/\j y)->∃l:List α,l.length=css.length/\css=l.map f/\∀y∈l,j y
 | [],_=>⟨[],rfl,rfl,aj⟩
 | c :: css,h=>by
  obtain⟨y,rfl,B⟩:=h c aj;obtain⟨l,C,u,A⟩:=abL f j css λcs t=>h cs (by simp[t])
  refine⟨y :: l,by simp[C],by simp[u],?_⟩;intro z hz;rcases List.mem_cons.1 hz with rfl|hz
  ·exact B
  ·exact A z hz
end
end
section
open Go Go.RowKit Go.ChangeShapes Go.WideShapes Go.ChangeAt
open Go.ChangeMaps (open_string shut_string)
abbrev cZ:=ByteArray×Int×Int×ByteArray
abbrev nI(x:cZ):List Value:=[.string x.1,.int .i64 x.2.1,.int .i64 x.2.2.1,.string x.2.2.2]
section
variable {H:Type} {enc:TypeId×Value->H} {w:World} {base:Nat} {r:Reach} {b0:Nat} {spare:Nat->Bool} {held:Bool} {v:Value} {d:DataW H} {p:List MemPlace}
end
end
def xG(b:UInt8):Bool:=(decide (97<=b.toNat)&&decide (b.toNat<=122))||(decide (48<=b.toNat)&&decide (b.toNat<=57))
def tv(s:ByteArray):Bool:=decide (1<=s.size)&&decide (s.size<=16)&&(dX s).all xG
theorem auS(l:List UInt8)(k:Nat)(h:k<l.length):(l.take (k+1)).all xG=((l.take k).all xG&&xG l[k]):=ae6
theorem awH(l:List UInt8) k(h:k<l.length)(hb:xG l[k]=false):l.all xG=false:=by
 grind
theorem Uz s w :
 Calls prog 282 #[.string s] w λe w'=>e=.returned (.bool (tv s))/\w=w':=by
 by_cases M:s.size<1
 ·have C:(s.size:Int)<1:=af;exact ae7
 have C:¬(s.size:Int)<1:=af
 by_cases L:16<s.size
 ·have E:(16:Int)<(s.size:Int):=af;exact ae7
 have E:¬(16:Int)<(s.size:Int):=af
 have D:(dX s).length=s.size:=cV
 go_enter func282,ntmps282
 go_wp2_with fail
 go_loopw [15] (fun i wr=>∃k:Nat,k<=s.size/\i=.int .i64 k/\Hid (((dX s).take k).all xG=true)/\wr=w) (fun i _=>s.size-(intOf i).toNat)
 case atStart=>exact⟨0,af,rfl,ae aj,rfl⟩
 case round =>
  obtain⟨k,hk,rfl,y,rfl⟩:=hrel;by_cases H:k<s.size
  ·have A:(k:Int)<s.size:=af;have u:k<(dX s).length:=af;have F:=ae (auS (dX s) k u);have B:=ae (awH (dX s) k u);have J:s[k]=(dX s)[k]:=cV;generalize (dX s)[k]=x at *;have I:x.toNat<256:=x.toNat_lt;go_upto_if 34 with (fail);all_goals
    go_wp2
    all_goals first
     | (go_ret
        have j:xG x=false:=by simp[xG];omega
        exact⟨by rw[show tv s=false by simp[tv,B.aa j]];rfl,rfl⟩)
     | (have j:xG x=true:=by simp[xG];omega
        have G:Hid (((dX s).take (k+1)).all xG=true):=ae (by rw[F.aa,y.aa,j];rfl)
        go_roundw
        case rel=>exact⟨k+1,af,bI,G,Lg⟩
        case measure=>simp[intOf];omega)
  ·have A:¬(k:Int)<s.size:=af;have t:k=s.size:=af;have hn:Hid (tv s=true):=by have:=y.aa;rw[t,<- D,nC]at this;exact ae (by simp only[tv,this];simp;omega)
   clear t;go_wp2;go_ret;exact⟨by rw[hn.aa];rfl,rfl⟩
theorem US n:n<256^fQ n:=by
 induction n using Nat.strongRecOn with
 | _ n j =>
  rcases Nat.eq_zero_or_pos n with h|h
  ·subst h;simp[Iu]
  ·rw[Po n h,Nat.pow_succ];have:=j (n/256) af;omega
theorem auT n(h:0<n):256^(fQ n-1)<=n:=by
 induction n using Nat.strongRecOn with
 | _ n u =>
  rw[Po n h];simp only[Nat.add_sub_cancel];rcases Nat.eq_zero_or_pos (n/256)with j|j
  ·rw[j,Iu];simp;omega
  ·have y:=u (n/256) af j;have t:fQ (n/256)=(fQ (n/256)-1)+1:=by have:=Po (n/256) j;omega
   rw[t,Nat.pow_succ];omega
theorem auU n k(j:n<256^(k+1))(u:256^k<=n):fQ n=k+1:=by
 have t:=K1 (k+1) n j;rcases Nat.lt_or_ge (fQ n) (k+1)with h|h
 ·exfalso;have y:=US n;have A:256^fQ n<=256^k:=Nat.pow_le_pow_right ax af;omega
 ·omega
theorem UT b l:jc (b :: l)=b.toNat*256^l.length+jc l:=by
 have key:∀(l:List UInt8) (a:Nat),l.foldl (λn (b:UInt8)=>n*256+b.toNat) a=a*256^l.length+jc l:=by
  intro l
  induction l with
  | nil=>intro a;simp[jc]
  | cons x l j =>
   grind [jc]
 have:=key l b.toNat;simpa [jc]using this
theorem VD k:∀n,jc (be k n)=n%256^k:=by
 induction k with
 | zero=>intro n;simp[be,jc,Nat.mod_one]
 | succ k j => intro n;rw[be,UT,j,vQ,Nat.pow_succ,Nat.mod_mul];simp;rw[Nat.mul_comm,Nat.add_comm]
theorem aye k:∀n m,n%256^k=m%256^k->be k n=be k m:=by
 induction k with
 | zero=>intro n m _;rfl
 | succ k B =>
  intro n m h;have hp:0<256^k:=Nat.pow_pos ax;have e:∀x:Nat,x%256^(k+1)=256^k*(x/256^k%256)+x%256^k:=by simp[Nat.pow_succ,Nat.mod_mul,Nat.add_comm]
  rw[e n,e m]at h;have y:=Nat.mod_lt n hp;have t:=Nat.mod_lt m hp;have C:n/256^k%256=m/256^k%256:=by
   have u:(256^k*(n/256^k%256)+n%256^k)/256^k=n/256^k%256:=by rw[Nat.mul_add_div hp,Nat.div_eq_of_lt y,Nat.add_zero]
   have j:(256^k*(m/256^k%256)+m%256^k)/256^k=m/256^k%256:=by rw[Nat.mul_add_div hp,Nat.div_eq_of_lt t,Nat.add_zero]
   rw[<- u,<- j,h]
  have A:n%256^k=m%256^k:=aA;rw[be,be,B n m A];congr 1;apply UInt8.toNat_inj.1;simpa using C
theorem ae8:∀l:List UInt8,be l.length (jc l)=l
 | []=>rfl
 | b :: l=>by
  have t:=Ld l;have hp:0<256^l.length:=Nat.pow_pos ax;rw[fg,be,UT];have u:(b.toNat*256^l.length+jc l)/256^l.length=b.toNat:=by rw[Nat.mul_comm,Nat.mul_add_div hp,Nat.div_eq_of_lt t,Nat.add_zero]
  rw[u];have j:be l.length (b.toNat*256^l.length+jc l)=be l.length (jc l):=aye _ _ _ aj;rw[j,ae8 l];simp
theorem rD n(h:n<18446744073709551616) rest:aw (az n++rest) false=(n,rest,false):=by
 have h8:=K1 8 n af;have hb:(UInt8.ofNat (fQ n)).toNat=fQ n:=ba;have E:=vQ (fQ n) n;have C:(be (fQ n) n++rest).take (fQ n)=be (fQ n) n:=aA;have B:(be (fQ n) n++rest).drop (fQ n)=rest:=aA;have y:0<fQ n->¬(be (fQ n) n++rest).head?=some 0:=by
  intro u j;have D:0<n:=by
   grind [Nat.eq_zero_or_pos,Iu]
  have hg:=auT n D;have t:=US n;obtain⟨k,hk⟩:∃k,fQ n=k+1:=⟨fQ n-1,af⟩;rw[hk]at j hg t;simp only[be,aR,List.head?_cons,Option.some.injEq,Nat.add_sub_cancel]at j hg;have hz:n/256^k%256=0:=by have:=congrArg UInt8.toNat j;simpa using this
  have hp:0<256^k:=Nat.pow_pos ax;have F:n/256^k<256:=by rw[Nat.pow_succ]at t;exact Nat.div_lt_of_lt_mul t
  have G:=Nat.div_pos hg hp;omega
 have A:(false||decide (8<(UInt8.ofNat (fQ n)).toNat)||decide ((be (fQ n) n++rest).length<(UInt8.ofNat (fQ n)).toNat)||(decide (0<(UInt8.ofNat (fQ n)).toNat)&&(be (fQ n) n++rest).head?==some 0))=false:=by
  rw[hb];simp only[Bool.false_or,Bool.or_eq_false_iff,decide_eq_false_iff_not,Bool.and_eq_false_iff];refine⟨⟨af,by simp[E]⟩,?_⟩;by_cases u:0<fQ n
  ·right;exact beq_eq_false_iff_ne.2 (y u)
  ·left;exact u
 unfold az;simp only[aR,aw];rw[A,hb,C,B,VD,Nat.mod_eq_of_lt (US n)];rfl
theorem ud{l wr}(h:(aw l wr).2.2=false):l=az (aw l wr).1++(aw l wr).2.1/\wr=false:=by
 match l with
 | []=>simp[aw]at h
 | b :: r =>
  simp only[aw]at h⊢;split at h
  ·simp at h
  ·rename_i u;rw[if_neg u];simp only[Bool.or_eq_true,not_or,Bool.not_eq_true,Bool.and_eq_false_iff,decide_eq_false_iff_not]at u;obtain⟨⟨⟨D,h8⟩,E⟩,t⟩:=u;refine⟨?_,D⟩;have j:(r.take b.toNat).length=b.toNat:=ba;have hk:fQ (jc (r.take b.toNat))=b.toNat:=by
    rcases Nat.eq_zero_or_pos b.toNat with hb|hb
    ·rw[hb];simp[jc,Iu]
    ·obtain⟨k,hk⟩:∃k,b.toNat=k+1:=⟨b.toNat-1,af⟩;rw[hk]at j t⊢;match r,j,t with
     | [],j,_=>simp at j
     | x :: r',j,t =>
      have C:x≠0:=by rintro rfl;simp at t
      have B:0<x.toNat:=by
       rcases Nat.eq_zero_or_pos x.toNat with h|h
       ·exact absurd (UInt8.toNat_inj.1 (show x.toNat=(0:UInt8).toNat from h)) C
       ·exact h
      simp only[Yb,fg,Nat.add_right_cancel_iff]at j⊢;have y:=Ld (x :: r'.take k);simp only[fg,j]at y;refine auU _ k y ?_;rw[UT,j];have:1*256^k<=x.toNat*256^k:=Nat.mul_le_mul_right _ B;omega
   have A:=ae8 (r.take b.toNat);rw[j]at A;unfold az;rw[hk,A,aR,List.take_append_drop];simp
theorem FI j b(hb:b.length<18446744073709551616)(hm:(b.length:Int)<=j) rest:aL j (az b.length++b++rest) false=(b,rest,false):=by
 rw[eu];unfold aL;rw[rD b.length hb];have t:(false||decide (j<0)||decide (j.toNat<b.length)||decide ((b++rest).length<b.length))=false:=by simp;omega
 simp only;rw[t];simp
theorem DN{j l wr}(h:(aL j l wr).2.2=false) :
 l=az (aL j l wr).1.length++(aL j l wr).1++(aL j l wr).2.1/\((aL j l wr).1.length:Int)<=j/\wr=false:=by
 grind [aL,ud,aw,eu,List.take_append_drop]
theorem aqn n(j:-9223372036854775808<=n)(t:n<=9223372036854775807):vU (foldI n)=n:=by
 grind [vU,foldI]
theorem aqo n(h:n<18446744073709551616):foldI (vU n)=n/\-9223372036854775808<=vU n/\vU n<=9223372036854775807:=by
 grind [foldI,vU]
theorem asZ n(j:-9223372036854775808<=n)(t:n<=9223372036854775807):Ee (n%18446744073709551616).toNat=n:=by unfold Ee;omega
theorem as0 n(h:n<18446744073709551616):(Ee n%18446744073709551616).toNat=n/\-9223372036854775808<=Ee n/\Ee n<=9223372036854775807:=by unfold Ee;omega
theorem IE{k n s}(h:iY k n s=true):(k=1∨k=2∨k=3)/\s.size<=40:=by
 unfold iY at h;split at h
 ·rename_i hk;rw[ByteArray.toList_eq]at h;simp at hk h;refine⟨.inl hk,?_⟩;show s.data.size<=40;simp[h]
 ·split at h
  ·grind
  ·split at h
   ·rename_i hk;rw[ByteArray.toList_eq]at h;simp at hk h;refine⟨.inr (.inr hk),?_⟩;show s.data.size<=40;simp[h.2]
   ·simp at h
theorem auV k n(hk:k=1∨k=2∨k=3)(j:-9223372036854775808<=n)(t:n<=9223372036854775807):uD (bf k) (wi k n)=n:=by
 grind [uD,wi,bf,aqn,asZ]
theorem aeh k n s(j:iY k n s=true)(t:-9223372036854775808<=n)(u:n<=9223372036854775807) rest :
 fE (nZ k n s++rest) false=((k,n,dX s),rest,false):=by
 obtain⟨hk,F⟩:=IE j
 have C:=gP k
 have B:=Lb k n t u
 have D:(dX s).length=s.size:=aj
 unfold fE nZ
 rw[eu,eu,rD _ C]
 simp only
 rw[rD _ B]
 simp only
 rw[<- D,FI 40 (dX s) af af]
 simp only
 rw[auV k n hk t u]
 have A:(bf k:Int)=k:=by unfold bf;omega
 have y:¬3<bf k:=af
 rw[A]
 have E:(⟨(dX s).toArray⟩:ByteArray)=s:=by cases s;simp
 rw[E,j]
 simp[y]
theorem Vf{l wr}(h:(fE l wr).2.2=false) :
 l = nZ (fE l wr).1.1 (fE l wr).1.2.1 ⟨(fE l wr).1.2.2.toArray⟩++(fE l wr).2.1/\iY (fE l wr).1.1 (fE l wr).1.2.1 ⟨(fE l wr).1.2.2.toArray⟩=true/\wr=false /\
  -9223372036854775808<=(fE l wr).1.2.1/\(fE l wr).1.2.1<=9223372036854775807:=by
 simp only[fE]at h⊢
 split at h
 ·simp at h
 ·rename_i j;rw[if_neg j];simp only[Bool.or_eq_true,not_or,decide_eq_true_eq,Bool.not_eq_true,Bool.not_eq_eq_eq_not]at j;obtain⟨⟨hk,H⟩,G⟩:=j;have N:=nX l wr;have A:=nX (aw l wr).2.1 (aw l wr).2.2;obtain⟨D,O,B⟩:=DN H;obtain⟨F,I⟩:=ud B;obtain⟨C,w0⟩:=ud I;have t:iY ((aw l wr).1:Int) (uD (aw l wr).1 (aw (aw l wr).2.1 (aw l wr).2.2).1) ⟨(aL 40 (aw (aw l wr).2.1 (aw l wr).2.2).2.1 (aw (aw l wr).2.1 (aw l wr).2.2).2.2).1.toArray⟩=true:=by simpa using G
  have S:=(IE t).1;simp only;generalize (aL 40 (aw (aw l wr).2.1 (aw l wr).2.2).2.1 (aw (aw l wr).2.1 (aw l wr).2.2).2.2)=c at *;generalize aw (aw l wr).2.1 (aw l wr).2.2=b at *;generalize aw l wr=a at *;obtain⟨k,M,Q⟩:=a;obtain⟨n,T,R⟩:=b;obtain⟨s,L,J⟩:=c;simp only at *;have E:bf (k:Int)=k:=by unfold bf;omega
  have u:wi (k:Int) (uD k n)=n/\-9223372036854775808<=uD k n/\uD k n<=9223372036854775807:=by
   unfold wi uD;by_cases y:k=1
   ·subst y;simp;exact aqo n A
   ·rw[if_neg af,if_neg y];exact as0 n A
  refine⟨?_,t,w0,u.2⟩;unfold nZ;rw[E,u.1,C,F,D];simp[ByteArray.size,dX]
