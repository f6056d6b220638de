/-
  The walks of the reader's methods Bytes and Value: what each returns, how the reader stands behind it, and that nothing else that was there is changed.
-/
import Derived.Test.YtfndfpdhlbmboaaGreatMa00
import Derived.ProofKit
import Derived.OpenShut
import Derived.ShutString
import Derived.ChangeOld
import Derived.Below
import Derived.Lib.SmallJoins
import Derived.Deep.Slices
import Derived.Deep.Fields
import Derived.Deep.CutRange
import Derived.Deep.LoopGhost
import Derived.Orders
import Derived.Test.YtfndfpdhlbmboaaGreatMz
set_option maxRecDepth 100000
set_option maxHeartbeats 16000000
set_option linter.unusedVariables false
set_option linter.unusedSimpArgs false
namespace Go.Proofs.YtfndfpdhlbmboaaGreat
open Go Go.RowKit _root_.Go.Proofs.Tryz
def aL(j:Int)(l:List UInt8)(wr:Bool):List UInt8×List UInt8×Bool :=
 if (ax l wr).2.2||decide (j<0)||decide (j.toNat<(ax l wr).1)||decide ((ax l wr).2.1.length<(ax l wr).1)then ([],(ax l wr).2.1,true)
 else ((ax l wr).2.1.take (ax l wr).1,(ax l wr).2.1.drop (ax l wr).1,false)
theorem nv l wr:(ax l wr).2.1.length<=l.length:=by
 unfold ax;split
 ·simp
 ·split
  ·simp
  ·simp;omega
theorem nz l wr:(ax l wr).1<18446744073709551616:=by
 unfold ax;split
 ·simp
 ·rename_i b r;split
  ·simp
  ·rename_i t;simp at t;have u:=KH (r.take b.toNat);have j:(r.take b.toNat).length<=8:=aY;have y:256^(r.take b.toNat).length<=256^8:=Nat.pow_le_pow_right ay j;show iG (r.take b.toNat)<_;omega
theorem Rd.U1{w g l wr}(h:Rd w g l wr):nD g l true w (w.setCell ⟨g,1,none⟩ (.bool true)):=by obtain⟨A,c,hb,hr,h1,h2⟩:=h;exact aey
theorem Oq g l wr t w(h:Rd w g l wr)(Z:l.length<=1000000000)(hm0:-9223372036854775808<=t)(V:t<=9223372036854775807) :
 Calls prog 210 #[.pointer (some ⟨g,0,none⟩),.int .i64 t] w λe w' =>
  ∃v,e=.returned v/\Own w' w.heap.size 5 v (aL t l wr).1/\nD g (aL t l wr).2.1 (aL t l wr).2.2 w w':=by
 have E:=sA g l wr w h
 have N:=nv l wr
 have T:=nz l wr
 unfold aL
 generalize ax l wr=R at *
 obtain⟨n,j,D⟩:=R
 simp only at E N T⊢
 have HN:=ae E
 clear E h
 by_cases y:(D||decide (t<0)||decide (t.toNat<n)||decide (j.length<n))=true
 ·rw[y];have hfin:∀W,Rd W g j D->w.grownBy W (some g)->Own (W.setCell ⟨g,1,none⟩ (.bool true)) w.heap.size 5 (.slice none 0 0) []/\nD g j true w (W.setCell ⟨g,1,none⟩ (.bool true)):=by intro W oy hgr;obtain⟨B,C⟩:=oy.U1;exact⟨jV _ _ _ _,B,nT hgr C⟩
  cases D
  ·by_cases B:t<0
   ·exact Pn
   ·by_cases C:t.toNat<n
    ·obtain⟨m,rfl⟩:=Int.eq_ofNat_of_zero_le (show 0<=t by omega);have J:(m:Int)<n:=af;exact Pn
    ·have I:j.length<n:=by simpa [B,C]using y
     obtain⟨m,rfl⟩:=Int.eq_ofNat_of_zero_le (show 0<=t by omega);have J:¬(m:Int)<n:=af;have M:(j.length:Int)<n:=af;exact Pn
  ·exact Pn
 ·have y:(D||decide (t<0)||decide (t.toNat<n)||decide (j.length<n))=false:=by simpa using y
  rw[y];simp at y;obtain⟨⟨⟨rfl,B⟩,C⟩,I⟩:=y;obtain⟨m,rfl⟩:=Int.eq_ofNat_of_zero_le B;simp at C;have J:(n:Int)<=m:=af;have M:(n:Int)<=j.length:=af;go_enter func210,ntmps210;go_wp2;go_step3;go_wp2_with fail
  refine HN.aa.mono ?_;rintro e w2⟨rfl,⟨A,c,hb,hr,hc1,gS⟩,hgr⟩;have dL:=hb.cell 0;have hx1:=hb.cell 1;simp at dL hx1;go_wp2_with fail
  refine (OV A n c (j.take n) 0 w2 g (hr.pre n I) (Nat.le_of_lt hb.lt) af af af).mono ?_;rintro e H⟨L,Q,rfl,U,F,_,_⟩;have G:=hb.av F;have O:=hr.below F (Nat.le_of_lt hb.lt);have S:=G.cell 0;have Y:=G.frozen 0;simp at S;have hfin:∀(A':Option Addr) (u:Nat),(n<j.length->A'=A.map (·.add n))->j.length-n<=u->u<=c ->
   Own (H.setCell ⟨g,0,none⟩ (.slice A' (j.length-n) u)) w.heap.size 5 (.slice (some ⟨L,0,none⟩) n Q) (j.take n)/\nD g (j.drop n) false w (H.setCell ⟨g,0,none⟩ (.slice A' (j.length-n) u)):=by
   intro A' u hA h4 h5
   refine⟨?_,⟨A',u,?_,?_,Ic,af⟩,Fl (nT hgr (Bi F _)) rfl _⟩
   ·have h6:=ownsRow_setCell_below (a:=⟨g,0,none⟩) U hb.lt (.slice A' (j.length-n) u);refine sB hgr.size ?_ rfl;unfold Own;rw[show (j.take n).length=n by simp;omega];exact h6
   ·have h7:=G.aM 0 (.slice A' (j.length-n) u);simpa using h7
   ·have h8:=O.post (A':=A') n hA;rw[List.length_drop];exact h8.keep λk hk=>Below.heap_setCell H _ _ k aY
  go_wp2;all_goals
   go_ret
   refine⟨_,rfl,hfin _ _ (λX=>?_) af af⟩
   first|rfl|omega
def DG(n:Nat):Int:=((n:Int)+9223372036854775808)%18446744073709551616-9223372036854775808
def tL(k n:Nat):Int:=if k=1 then uD n else DG n
def fq(l:List UInt8)(wr:Bool):(Int×Int×List UInt8)×List UInt8×Bool :=
 let a:=ax l wr
 let b:=ax a.2.1 a.2.2
 let s:=aL 40 b.2.1 b.2.2
 if decide (3<a.1)||s.2.2||!(iH a.1 (tL a.1 b.1) ⟨s.1.toArray⟩)then ((0,0,[]),s.2.1,true)
 else ((a.1,tL a.1 b.1,s.1),s.2.1,false)
theorem Dl j l wr:(aL j l wr).2.1.length<=l.length:=by
 have:=nv l wr;unfold aL;split
 ·exact this
 ·simp;omega
abbrev vd(d:Int×Int×List UInt8):Value:=vv d.1 d.2.1 ⟨d.2.2.toArray⟩
theorem Rd.below{w w' g B l wr}(h:Rd w g l wr)(hb:Below B w w')(hg:g<B):Rd w' g l wr:=by obtain⟨A,c,hk,t,j,u⟩:=h;exact⟨A,c,hk.below hb hg,t.below hb af,j,u⟩
theorem Rd.lt{w g l wr}(h:Rd w g l wr):g<w.heap.size:=by obtain⟨_,_,hb,_⟩:=h;exact hb.lt
theorem Rd.av{w w' g l wr}(h:Rd w g l wr)(hb:Below w.heap.size w w'):Rd w' g l wr:=h.below hb h.lt
theorem abA g l wr w(h:Rd w g l wr)(hl:l.length<=1000000000) :
 Calls prog 308 #[.pointer (some ⟨g,0,none⟩)] w λe w' =>
  e=.returned (vd (fq l wr).1)/\nD g (fq l wr).2.1 (fq l wr).2.2 w w':=by
 have hg:=h.lt
 have c1:=λW (u:Rd W g l wr)=>sA g l wr W u
 have c2:=λW (u:Rd W g (ax l wr).2.1 (ax l wr).2.2)=>sA g _ _ W u
 have c3:=λW (u:Rd W g (ax (ax l wr).2.1 (ax l wr).2.2).2.1 (ax (ax l wr).2.1 (ax l wr).2.2).2.2)=>Oq g _ _ 40 W u (by have:=nv l wr;have:=nv (ax l wr).2.1 (ax l wr).2.2;omega) af af
 have b1:=nz l wr
 have J:=nz (ax l wr).2.1 (ax l wr).2.2
 simp only[fq]
 generalize ax l wr=a at *
 obtain⟨k,V,w1⟩:=a
 simp only at *
 generalize ax V w1=a at *
 obtain⟨n,l2,w2⟩:=a
 simp only at *
 generalize aL 40 l2 w2=a at *
 obtain⟨s,l3,F⟩:=a
 simp only at *
 have U:=ae c1
 have X:=ae c2
 have C3:=ae c3
 clear c1 c2 c3
 have Y:Below w.heap.size w (w.alloc (.cells #[.int .i64 0,.int .i64 0,.string { data:=#[] }] 71)):=(cM _ _).alloc (aC _) _
 have L:=ah.new w 71 #[.int .i64 0,.int .i64 0,.string { data:=#[] }]
 have H:=h.below Y hg
 clear h
 go_enter func308,ntmps308
 go_wp2
 refine J6 0 rfl ?_
 go_wp2_with fail
 refine (U.aa _ H).mono ?_
 rintro e W1⟨rfl,R,D⟩
 have M:=L.grown D aY
 clear L H
 go_wp2_with fail
 refine (X.aa _ R).mono ?_
 rintro e W2⟨rfl,S,A⟩
 have I:=M.grown A aY
 clear M R
 go_wp2_with fail
 refine (C3.aa _ S).mono ?_
 rintro e W3⟨v3,rfl,Q,dI,C⟩
 have E:=I.grown C aY
 clear I S
 obtain⟨A3,k3,rfl,T⟩:=Q.slice
 have hst:=aeq (P:=prog) W3 94 9 5 underlying94 underlying5 underlying9 _ A3 _ k3 s T
 clear Q
 by_cases h3:3<k
 ·have Z:(3:Int)<(k:Int):=af;have ey:=dI.below (Below.alloc (cM _ W3) (aC _) (.cells #[.int .i64 0,.int .i64 (wrap64 (n:Int)),.string { data:=s.toArray }] 71)) dI.lt;have bZ:=E.alloc (.cells #[.int .i64 0,.int .i64 (wrap64 (n:Int)),.string { data:=s.toArray }] 71);have hgr:w.grownBy (W3.alloc (.cells #[.int .i64 0,.int .i64 (wrap64 (n:Int)),.string { data:=s.toArray }] 71)) (some g):=Dd (nT (nT (nT (Dd (Di _ _) _) D) A) C) _;go_wp2;generalize W3.alloc _=W4 at *;have I7:(if (decide (3<k)||F||!(iH (k:Int) (tL k n) ⟨s.toArray⟩))=true then (((0,0,[]),l3,true):(Int×Int×List UInt8)×List UInt8×Bool)else (((k:Int),tL k n,s),l3,false))=((0,0,[]),l3,true):=by simp[h3]
  go_step3;refine⟨rfl,?_⟩;have hy0:=bZ.cell 0;have Ah:=bZ.cell 1;have hy2:=bZ.cell 2;have hz0:=bZ.frozen 0;have hz1:=bZ.frozen 1;have hz2:=bZ.frozen 2;simp at hy0 Ah hy2;obtain⟨A4,c4,hb4,_⟩:=id ey;have nG:=hb4.cell 1;have pZ:=hb4.frozen 1;simp at nG;go_wp2;have dR:=(((bZ.far (p:=⟨g,1,none⟩) aY (.bool true)).aM 0 (.int .i64 0)).aM 1 (.int .i64 0)).aM 2 (.string { data:=#[] });have e0:=dR.cell 0;have e1:=dR.cell 1;have e2:=dR.cell 2;simp at e0 e1 e2;have hw:=ey.U1;rw[gq];refine bodyPost_ret (v:=vd (0,0,[])) U2 rfl ?_;rw[I7];exact aeA
 ·have Z:¬(3:Int)<(k:Int):=af;generalize O:tL k n=N at *;have HN:=ae O;clear O;by_cases y:k=1
  ·have h1':((k:Int)==1)=true:=aY;have t:Hid (uD n=N):=by rw[<- HN.aa];exact ae (by simp[tL,y])
   clear y;have ey:=dI.av (Below.alloc (cM _ W3) (aC _) (.cells #[.int .i64 k,.int .i64 N,.string { data:=s.toArray }] 71));have bZ:=E.alloc (.cells #[.int .i64 k,.int .i64 N,.string { data:=s.toArray }] 71);have hgr:w.grownBy (W3.alloc (.cells #[.int .i64 k,.int .i64 N,.string { data:=s.toArray }] 71)) (some g):=Dd (nT (nT (nT (Dd (Di _ _) _) D) A) C) _;cases hw3:F
   ·subst hw3;obtain⟨G,c5,j,_⟩:=id dI;have nG:=λo=>(j.alloc o).cell 1
    simp at nG;go_wp2_with fail
    refine (abz n _ J).mono ?_;rintro e w'⟨rfl,rfl⟩;rw[t.aa];go_wp2_with fail
    exact aeB
   ·subst hw3;obtain⟨G,c5,j,_⟩:=id dI;have nG:=λo=>(j.alloc o).cell 1
    simp at nG;go_wp2_with fail
    refine (abz n _ J).mono ?_;rintro e w'⟨rfl,rfl⟩;rw[t.aa];go_wp2_with fail
    exact aeC
  ·have h1':((k:Int)==1)=false:=aY;have t:Hid (wrap64 (n:Int)=N):=by rw[<- HN.aa];exact ae (by simp[tL,y,DG,wrap64])
   clear y;have ey:=dI.av (Below.alloc (cM _ W3) (aC _) (.cells #[.int .i64 k,.int .i64 N,.string { data:=s.toArray }] 71));have bZ:=E.alloc (.cells #[.int .i64 k,.int .i64 N,.string { data:=s.toArray }] 71);have hgr:w.grownBy (W3.alloc (.cells #[.int .i64 k,.int .i64 N,.string { data:=s.toArray }] 71)) (some g):=Dd (nT (nT (nT (Dd (Di _ _) _) D) A) C) _;cases hw3:F
   ·subst hw3;obtain⟨G,c5,j,_⟩:=id dI;have nG:=λo=>(j.alloc o).cell 1
    simp at nG;go_wp2_with fail
    simp only[t.aa];exact aeB
   ·subst hw3;obtain⟨G,c5,j,_⟩:=id dI;have nG:=λo=>(j.alloc o).cell 1
    simp at nG;go_wp2_with fail
    simp only[t.aa];exact aeC
section
open Go Go.RowKit Go.ChangeShapes Go.WideShapes Go.ChangeAt
open Go.ChangeMaps (open_string shut_string)
set_option linter.unusedVariables false
def ai7(_:World)(v:Value):Prop:=∃n:Int,v=.int .i64 n/\-9223372036854775808<=n/\n<=9223372036854775807
def cJ(n:Int):Prop:=-9223372036854775808<=n/\n<=9223372036854775807
theorem Db{α:Type}(C:Nat):∀(css:List (List α)),(∀cs∈css,cs.length=C)->css.flatten.length=css.length*C
 | [],_=>aj
 | c :: css,h=>by simp only[List.flatten_cons,cF,eQ];rw[h c aj,Db C css λcs j=>h cs (by simp[j]),Nat.succ_mul];omega
theorem zm{α:Type} C:∀(css:List (List α)),(∀cs∈css,cs.length=C)->∀i j,i<css.length->j<C->css.flatten[i*C+j]?=(css[i]?.getD [])[j]?
 | [],_,i,j,hi,_=>KJ
 | c :: css,h,i,j,hi,hj=>by
  have hc:=h c aj
  cases i with
  | zero=>simp;rw[List.getElem?_append_left af]
  | succ i => rw[List.flatten_cons,List.getElem?_append_right Po];simp only[List.getElem?_cons_succ];rw[<- zm C css (λcs t=>h cs (by simp[t])) i j Pp hj];congr 1;rw[hc,Nat.succ_mul];omega
section
variable {H:Type} {enc:TypeId×Value->H} {w:World} {base:Nat} {r:Reach} {b0:Nat} {spare:Nat->Bool} {held:Bool} {v:Value} {d:DataW H} {p:List MemPlace}
theorem asv(t:Value.okWide prog w r b0 3 v)(h:DataW.Trod enc prog w base spare held 3 v d p):ai7 w v:=by obtain⟨a,rfl,rfl,rfl,j⟩:=open_int underlying3 t h;have hb:=bounds_i64 j;exact⟨a,rfl,af,af⟩
end
end
section
open Go Go.RowKit Go.ChangeShapes Go.WideShapes Go.ChangeAt
open Go.ChangeMaps (open_string shut_string)
abbrev cT:=ByteArray×Int×Int×ByteArray
abbrev mV(x:cT):List Value:=[.string x.1,.int .i64 x.2.1,.int .i64 x.2.2.1,.string x.2.2.2]
section
variable {H:Type} {enc:TypeId×Value->H} {w:World} {base:Nat} {r:Reach} {b0:Nat} {spare:Nat->Bool} {held:Bool} {v:Value} {d:DataW H} {p:List MemPlace}
end
end
def wW(b:UInt8):Bool:=(decide (97<=b.toNat)&&decide (b.toNat<=122))||(decide (48<=b.toNat)&&decide (b.toNat<=57))
def sF(s:ByteArray):Bool:=decide (1<=s.size)&&decide (s.size<=16)&&(dK s).all wW
theorem auk(l:List UInt8) k(h:k<l.length):(l.take (k+1)).all wW=((l.take k).all wW&&wW l[k]):=aeD
theorem av8(l:List UInt8) k(h:k<l.length)(hb:wW l[k]=false):l.all wW=false:=aeE
theorem TX s w :
 Calls prog 282 #[.string s] w λe w'=>e=.returned (.bool (sF s))/\w=w':=by
 by_cases H:s.size<1
 ·have B:(s.size:Int)<1:=af;exact aeF
 have B:¬(s.size:Int)<1:=af
 by_cases I:16<s.size
 ·have D:(16:Int)<(s.size:Int):=af;exact aeF
 have D:¬(16:Int)<(s.size:Int):=af
 have E:(dK s).length=s.size:=by show s.data.toList.length=s.data.size;simp
 go_enter func282,ntmps282
 go_wp2_with fail
 go_loopw [15] (fun i wr=>∃k:Nat,k<=s.size/\i=.int .i64 k/\Hid (((dK s).take k).all wW=true)/\wr=w) (fun i _=>s.size-(intOf i).toNat)
 case atStart=>exact⟨0,af,rfl,ae aj,rfl⟩
 case round =>
  obtain⟨k,hk,rfl,t,rfl⟩:=hrel;by_cases M:k<s.size
  ·have C:(k:Int)<s.size:=af;have u:k<(dK s).length:=af;have G:=ae (auk (dK s) k u);have F:=ae (av8 (dK s) k u);have J:s[k]=(dK s)[k]:=by simp[dK];rfl
   generalize (dK s)[k]=x at *;have L:x.toNat<256:=x.toNat_lt;go_upto_if 34 with (fail);all_goals
    go_wp2
    all_goals first
     | (go_ret
        have j:wW x=false:=by simp[wW];omega
        exact⟨by rw[show sF s=false by simp[sF,F.aa j]];rfl,rfl⟩)
     | (have j:wW x=true:=by simp[wW];omega
        have A:Hid (((dK s).take (k+1)).all wW=true):=ae (by rw[G.aa,t.aa,j];rfl)
        go_roundw
        case rel=>exact⟨k+1,af,bJ,A,KL⟩
        case measure=>simp[intOf];omega)
  ·have C:¬(k:Int)<s.size:=af;have y:k=s.size:=af;have hn:Hid (sF s=true):=by have:=t.aa;rw[y,<- E,lL]at this;exact ae (by simp only[sF,this];simp;omega)
   clear y;go_wp2;go_ret;exact⟨by rw[hn.aa];rfl,rfl⟩
theorem Uh n:n<256^fL n:=by
 induction n using Nat.strongRecOn with
 | _ n j =>
  rcases Nat.eq_zero_or_pos n with h|h
  ·subst h;simp[E7]
  ·rw[Kq n h,Nat.pow_succ];have:=j (n/256) af;omega
theorem aul n(h:0<n):256^(fL n-1)<=n:=by
 induction n using Nat.strongRecOn with
 | _ n u =>
  rw[Kq n h];simp only[Nat.add_sub_cancel];rcases Nat.eq_zero_or_pos (n/256)with j|j
  ·rw[j,E7];simp;omega
  ·have y:=u (n/256) af j;have t:fL (n/256)=(fL (n/256)-1)+1:=by have:=Kq (n/256) j;omega
   rw[t,Nat.pow_succ];omega
theorem aum n k(j:n<256^(k+1))(t:256^k<=n):fL n=k+1:=by
 have A:=Kx (k+1) n j;rcases Nat.lt_or_ge (fL n) (k+1)with h|h
 ·exfalso;have u:=Uh n;have y:256^fL n<=256^k:=Nat.pow_le_pow_right ay af;omega
 ·omega
theorem Ui b l:iG (b :: l)=b.toNat*256^l.length+iG l:=by
 have key:∀(l:List UInt8) (a:Nat),l.foldl (λn (b:UInt8)=>n*256+b.toNat) a=a*256^l.length+iG l:=by
  intro l
  induction l with
  | nil=>intro a;simp[iG]
  | cons x l j =>
   grind [iG]
 have:=key l b.toNat;simpa [iG]using this
theorem U3 k:∀n,iG (be k n)=n%256^k:=by
 induction k with
 | zero=>intro n;simp[be,iG,Nat.mod_one]
 | succ k j => intro n;rw[be,Ui,j,uz,Nat.pow_succ,Nat.mod_mul];simp;rw[Nat.mul_comm,Nat.add_comm]
theorem axK k:∀n m,n%256^k=m%256^k->be k n=be k m:=by
 induction k with
 | zero=>intro n m _;rfl
 | succ k B =>
  intro n m h;have hp:0<256^k:=Nat.pow_pos ay;have e:∀x:Nat,x%256^(k+1)=256^k*(x/256^k%256)+x%256^k:=by simp[Nat.pow_succ,Nat.mod_mul,Nat.add_comm]
  rw[e n,e m]at h;have u:=Nat.mod_lt n hp;have C:=Nat.mod_lt m hp;have j:n/256^k%256=m/256^k%256:=by
   have y:(256^k*(n/256^k%256)+n%256^k)/256^k=n/256^k%256:=by rw[Nat.mul_add_div hp,Nat.div_eq_of_lt u,Nat.add_zero]
   have A:(256^k*(m/256^k%256)+m%256^k)/256^k=m/256^k%256:=by rw[Nat.mul_add_div hp,Nat.div_eq_of_lt C,Nat.add_zero]
   rw[<- y,<- A,h]
  have t:n%256^k=m%256^k:=aG;rw[be,be,B n m t];congr 1;apply UInt8.toNat_inj.1;simpa using j
theorem aeG:∀l:List UInt8,be l.length (iG l)=l
 | []=>rfl
 | b :: l=>by
  have j:=KH l;have hp:0<256^l.length:=Nat.pow_pos ay;rw[eQ,be,Ui];have t:(b.toNat*256^l.length+iG l)/256^l.length=b.toNat:=by rw[Nat.mul_comm,Nat.mul_add_div hp,Nat.div_eq_of_lt j,Nat.add_zero]
  rw[t];have u:be l.length (b.toNat*256^l.length+iG l)=be l.length (iG l):=axK _ _ _ aj;rw[u,aeG l];simp
theorem qG n(h:n<18446744073709551616) rest:ax (az n++rest) false=(n,rest,false):=by
 have h8:=Kx 8 n af;have hb:(UInt8.ofNat (fL n)).toNat=fL n:=aY;have y:=uz (fL n) n;have C:(be (fL n) n++rest).take (fL n)=be (fL n) n:=aG;have A:(be (fL n) n++rest).drop (fL n)=rest:=aG;have D:0<fL n->¬(be (fL n) n++rest).head?=some 0:=by
  intro j u;have B:0<n:=by
   grind [Nat.eq_zero_or_pos,E7]
  have hg:=aul n B;have t:=Uh n;obtain⟨k,hk⟩:∃k,fL n=k+1:=⟨fL n-1,af⟩;rw[hk]at u hg t;simp only[be,aQ,List.head?_cons,Option.some.injEq,Nat.add_sub_cancel]at u hg;have hz:n/256^k%256=0:=by have:=congrArg UInt8.toNat u;simpa using this
  have hp:0<256^k:=Nat.pow_pos ay;have G:n/256^k<256:=by rw[Nat.pow_succ]at t;exact Nat.div_lt_of_lt_mul t
  have F:=Nat.div_pos hg hp;omega
 have E:(false||decide (8<(UInt8.ofNat (fL n)).toNat)||decide ((be (fL n) n++rest).length<(UInt8.ofNat (fL n)).toNat)||(decide (0<(UInt8.ofNat (fL n)).toNat)&&(be (fL n) n++rest).head?==some 0))=false:=by
  rw[hb];simp only[Bool.false_or,Bool.or_eq_false_iff,decide_eq_false_iff_not,Bool.and_eq_false_iff];refine⟨⟨af,by simp[y]⟩,?_⟩;by_cases j:0<fL n
  ·right;exact beq_eq_false_iff_ne.2 (D j)
  ·left;exact j
 unfold az;simp only[aQ,ax];rw[E,hb,C,A,U3,Nat.mod_eq_of_lt (Uh n)];rfl
theorem tk{l wr}(h:(ax l wr).2.2=false):l=az (ax l wr).1++(ax l wr).2.1/\wr=false:=by
 match l with
 | []=>simp[ax]at h
 | b :: r =>
  simp only[ax]at h⊢;split at h
  ·simp at h
  ·rename_i u;rw[if_neg u];simp only[Bool.or_eq_true,not_or,Bool.not_eq_true,Bool.and_eq_false_iff,decide_eq_false_iff_not]at u;obtain⟨⟨⟨B,h8⟩,E⟩,t⟩:=u;refine⟨?_,B⟩;have j:(r.take b.toNat).length=b.toNat:=aY;have hk:fL (iG (r.take b.toNat))=b.toNat:=by
    rcases Nat.eq_zero_or_pos b.toNat with hb|hb
    ·rw[hb];simp[iG,E7]
    ·obtain⟨k,hk⟩:∃k,b.toNat=k+1:=⟨b.toNat-1,af⟩;rw[hk]at j t⊢;match r,j,t with
     | [],j,_=>simp at j
     | x :: r',j,t =>
      have C:x≠0:=by rintro rfl;simp at t
      have D:0<x.toNat:=by
       rcases Nat.eq_zero_or_pos x.toNat with h|h
       ·exact absurd (UInt8.toNat_inj.1 (show x.toNat=(0:UInt8).toNat from h)) C
       ·exact h
      simp only[XF,eQ,Nat.add_right_cancel_iff]at j⊢;have y:=KH (x :: r'.take k);simp only[eQ,j]at y;refine aum _ k y ?_;rw[Ui,j];have:1*256^k<=x.toNat*256^k:=Nat.mul_le_mul_right _ D;omega
   have A:=aeG (r.take b.toNat);rw[j]at A;unfold az;rw[hk,A,aQ,List.take_append_drop];simp
theorem Ff j b(hb:b.length<18446744073709551616)(hm:(b.length:Int)<=j) rest:aL j (az b.length++b++rest) false=(b,rest,false):=by
 rw[dY];unfold aL;rw[qG b.length hb];have t:(false||decide (j<0)||decide (j.toNat<b.length)||decide ((b++rest).length<b.length))=false:=by simp;omega
 simp only;rw[t];simp
theorem Dk{j l wr}(h:(aL j l wr).2.2=false) :
 l=az (aL j l wr).1.length++(aL j l wr).1++(aL j l wr).2.1/\((aL j l wr).1.length:Int)<=j/\wr=false:=by
 grind [aL,tk,ax,dY,List.take_append_drop]
theorem apV n(j:-9223372036854775808<=n)(t:n<=9223372036854775807):uD (foldI n)=n:=by
 grind [uD,foldI]
theorem apW n(h:n<18446744073709551616):foldI (uD n)=n/\-9223372036854775808<=uD n/\uD n<=9223372036854775807:=by
 grind [foldI,uD]
theorem asw n(j:-9223372036854775808<=n)(t:n<=9223372036854775807):DG (n%18446744073709551616).toNat=n:=by unfold DG;omega
theorem asx n(h:n<18446744073709551616):(DG n%18446744073709551616).toNat=n/\-9223372036854775808<=DG n/\DG n<=9223372036854775807:=by unfold DG;omega
theorem Hx{k n s}(h:iH k n s=true):(k=1∨k=2∨k=3)/\s.size<=40:=by
 unfold iH at h;split at h
 ·rename_i hk;rw[ByteArray.toList_eq]at h;simp at hk h;refine⟨.inl hk,?_⟩;show s.data.size<=40;simp[h]
 ·split at h
  ·grind
  ·split at h
   ·rename_i hk;rw[ByteArray.toList_eq]at h;simp at hk h;refine⟨.inr (.inr hk),?_⟩;show s.data.size<=40;simp[h.2]
   ·simp at h
theorem aun k n(hk:k=1∨k=2∨k=3)(t:-9223372036854775808<=n)(j:n<=9223372036854775807):tL (bf k) (vu k n)=n:=by
 grind [tL,vu,bf,apV,asw]
theorem adP k n s(u:iH k n s=true)(t:-9223372036854775808<=n)(j:n<=9223372036854775807) rest :
 fq (nB k n s++rest) false=((k,n,dK s),rest,false):=by
 obtain⟨hk,F⟩:=Hx u
 have D:=fW k
 have A:=KE k n t j
 have C:(dK s).length=s.size:=aj
 unfold fq nB
 rw[dY,dY,qG _ D]
 simp only
 rw[qG _ A]
 simp only
 rw[<- C,Ff 40 (dK s) af af]
 simp only
 rw[aun k n hk t j]
 have y:(bf k:Int)=k:=aeH
 have B:¬3<bf k:=af
 rw[y]
 have E:(⟨(dK s).toArray⟩:ByteArray)=s:=by cases s;simp
 rw[E,u]
 simp[B]
theorem UA{l wr}(h:(fq l wr).2.2=false) :
 l = nB (fq l wr).1.1 (fq l wr).1.2.1 ⟨(fq l wr).1.2.2.toArray⟩++(fq l wr).2.1/\iH (fq l wr).1.1 (fq l wr).1.2.1 ⟨(fq l wr).1.2.2.toArray⟩=true/\wr=false /\
  -9223372036854775808<=(fq l wr).1.2.1/\(fq l wr).1.2.1<=9223372036854775807:=by
 simp only[fq]at h⊢
 split at h
 ·simp at h
 ·rename_i j;rw[if_neg j];simp only[Bool.or_eq_true,not_or,decide_eq_true_eq,Bool.not_eq_true,Bool.not_eq_eq_eq_not]at j;obtain⟨⟨hk,C⟩,D⟩:=j;have L:=nz l wr;have A:=nz (ax l wr).2.1 (ax l wr).2.2;obtain⟨G,M,H⟩:=Dk C;obtain⟨E,I⟩:=tk H;obtain⟨B,w0⟩:=tk I;have y:iH ((ax l wr).1:Int) (tL (ax l wr).1 (ax (ax l wr).2.1 (ax l wr).2.2).1) ⟨(aL 40 (ax (ax l wr).2.1 (ax l wr).2.2).2.1 (ax (ax l wr).2.1 (ax l wr).2.2).2.2).1.toArray⟩=true:=by simpa using D
  have T:=(Hx y).1;simp only;generalize (aL 40 (ax (ax l wr).2.1 (ax l wr).2.2).2.1 (ax (ax l wr).2.1 (ax l wr).2.2).2.2)=c at *;generalize ax (ax l wr).2.1 (ax l wr).2.2=b at *;generalize ax l wr=a at *;obtain⟨k,O,Q⟩:=a;obtain⟨n,N,J⟩:=b;obtain⟨s,R,S⟩:=c;simp only at *;have F:bf (k:Int)=k:=aeH;have t:vu (k:Int) (tL k n)=n/\-9223372036854775808<=tL k n/\tL k n<=9223372036854775807:=by
   unfold vu tL;by_cases u:k=1
   ·subst u;simp;exact apW n A
   ·rw[if_neg af,if_neg u];exact asx n A
  refine⟨?_,y,w0,t.2⟩;unfold nB;rw[F,t.1,B,E,G];simp[ByteArray.size,dK]
section
variable {P:Program} {Q:Exit->Act->World->Prop}
def pI(ops:Array Oper)(j:Nat):Option Tmp:=(ops[j]?).bind (·.dst)
def ahead(o:Oper):List Nat:=(o.after.toList.filter (Region.binds .any)).map (·.on)
def sC(ops:Array Oper)(n:Nat):Bool :=
 ops.toList.zipIdx.all λx =>
  (ahead x.1).all (λj=>decide (j<x.2)) &&
  (match x.1.op with | .select ..=>false|_=>true) &&
  (match x.1.dst with|some d=>decide (d<n)&&ops.toList.zipIdx.all (λy=>y.2==x.2||y.1.dst != some d)|none=>true) &&
  (match x.1.guard with|some (j,_)=>(ahead x.1).contains j&&(pI ops j).isSome|none=>true) &&
  ((x.1.looksAt ops).all λt=>ops.toList.zipIdx.all λy=>y.1.dst != some t||(y.2 != x.2&&((ahead x.1).contains y.2||(ahead y.1).contains x.2)))
def yF(ops:Array Oper)(u:Act)(V:Nat->Value)(o:Oper):Operand->Value
 | .tmp t=>match (ahead o).find? (λj=>pI ops j==some t)with
  | some j=>V j
  | none=>u.tmps.getD t undef
 | x=>u.eval x
def wants(V:Nat->Value)(o:Oper):Bool :=
 match o.guard with
 | none=>true
 | some (j,want)=>match V j with
  | .bool b=>b==want
  | _=>false
def upd(L:Nat->Bool)(i:Nat):Nat->Bool:=λj=>if j=i then true else L j
def jM(P:Program)(R:Value->World->Prop):Result Next->Prop
 | .ok (.value v) w'=>R v w'
 | .ok .skip w'=>R undef w'
 | .ok (.enter f args) w'=>Calls P f args w' λe j=>∃v,e=.returned v/\R v j
 | _=>False
def ba(V:Nat->Value)(i:Nat)(v:Value):Nat->Value:=λj=>if j=i then v else V j
def Closed(ops:Array Oper)(L:Nat->Bool):Prop:=(∀j o,ops[j]?=some o->L j=true->∀k∈ahead o,L k=true)/\∀j,L j=true->j<ops.size
def QQ(P:Program)(ops:Array Oper)(j:Act)(I:(Nat->Bool)->(Nat->Value)->World->Prop)(i:Nat)(o:Oper):Prop :=
 ∀(L:Nat->Bool) (V:Nat->Value) (w:World),L i=false->Closed ops L->(∀k∈ahead o,L k=true)->I L V w ->
  if wants V o=true then jM P (λv w'=>I (upd L i) (ba V i v) w') ((execOp (yF ops j V o) o).run P w)else I (upd L i) (ba V i undef) w
def fX(V:Nat->Value):List Oper->Nat->Act->Act
 | [],_,a=>a
 | o :: r,k,a=>fX V r (k+1) (a.put o.dst (V k))
structure Inv(ops:Array Oper)(a0:Act)(I:(Nat->Bool)->(Nat->Value)->World->Prop)(L:Array Bool)(a:Act)(w:World):Prop where
 size:L.size=ops.size
 closed:∀j o,ops[j]?=some o->L.getD j false=true->∀k∈ahead o,L.getD k false=true
 Ei:a.tmps.size=a0.tmps.size
 LD:a.defers=a0.defers
 wX:∃V:Nat->Value,(∀j d,L.getD j false=true->pI ops j=some d->a.tmps.getD d undef=V j) /\
  (∀t,(∀j,L.getD j false=true->pI ops j≠some t)->a.tmps.getD t undef=a0.tmps.getD t undef)/\I (λj=>L.getD j false) V w
theorem E5{ops n}(h:sC ops n=true){i o}(C:ops[i]?=some o) :
 (∀j∈ahead o,j<i)/\(∀cs b,o.op≠.select cs b)/\(∀d,o.dst=some d->d<n/\∀j p,ops[j]?=some p->j≠i->p.dst≠some d) /\
 (∀j B,o.guard=some (j,B)->j∈ahead o/\∃d,pI ops j=some d) /\
 (∀t∈o.looksAt ops,∀j p,ops[j]?=some p->p.dst=some t->j≠i/\(j∈ahead o∨i∈ahead p)):=by
 have mem:∀ {j:Nat} {p:Oper},ops[j]?=some p->(p,j)∈ops.toList.zipIdx:=λ{j p} A=>List.mem_zipIdx_iff_getElem?.2 aG
 have y:=List.all_eq_true.1 h _ (mem C)
 simp only[dE]at y
 obtain⟨⟨⟨⟨y,G⟩,H⟩,u⟩,F⟩:=y
 refine⟨λj A=>aG,?_,?_,?_,?_⟩
 ·grind
 ·grind
 ·intro j B hg;rw[hg]at u;simp only[dE,List.contains_iff_mem]at u;exact⟨u.1,Option.isSome_iff_exists.1 u.2⟩
 ·intro t E j p A D;have:=List.all_eq_true.1 (List.all_eq_true.1 F t E) _ (mem A);simp only[D,Bool.or_eq_true,dE,bne_iff_ne,List.contains_iff_mem]at this;rcases this with h|h
  ·exact absurd rfl h
  ·exact h
theorem Hp{ops j d}(h:pI ops j=some d):∃p,ops[j]?=some p/\p.dst=some d:=by
 unfold pI at h
 cases hp:ops[j]? with
 | none=>rw[hp]at h;cases h
 | some p=>rw[hp]at h;exact⟨p,rfl,h⟩
theorem acZ{o k}:k∈ahead o ↔ ∃e∈o.after,Region.binds .any e=true/\e.on=k:=by
 grind [ahead]
theorem auo{ops}{y a:Act}{L:Array Bool}{V i o}
 (G:sC ops y.tmps.size=true) (I:ops[i]?=some o) (J:L.getD i false=false) (hp:∀k∈ahead o,L.getD k false=true)
 (closed:∀j o,ops[j]?=some o->L.getD j false=true->∀k∈ahead o,L.getD k false=true)
 (F:∀j d,L.getD j false=true->pI ops j=some d->a.tmps.getD d undef=V j)
 (H:∀t,(∀j,L.getD j false=true->pI ops j≠some t)->a.tmps.getD t undef=y.tmps.getD t undef) :
 ∀x∈o.op.operands,a.eval x=yF ops y V o x:=by
 obtain⟨S,O,Q,P,D⟩:=E5 G I
 intro x E
 cases x with
 | tmp t =>
  have N:t∈o.looksAt ops:=List.mem_append_left _ (List.mem_filterMap.2 ⟨.tmp t,by simpa using E,rfl⟩)
  show a.tmps.getD t undef=yF ops y V o (.tmp t)
  cases hf:(ahead o).find? (λj=>pI ops j==some t)with
  | some j => have A:=List.find?_some hf;have hm:=List.mem_of_find?_eq_some hf;simp only[beq_iff_eq]at A;simp only[yF,hf];exact F j t (hp j hm) A
  | none =>
   simp only[yF,hf];refine H t λj A B=>?_
   obtain⟨p,C,M⟩:=Hp B;obtain⟨R,u⟩:=D t N j p C M;rcases u with u|u
   ·have:=List.find?_eq_none.1 hf j u;simp[B]at this
   ·have:=closed j p C A i u;rw[J]at this;cases this
 | const v=>rfl
 | global g=>rfl
 | func f=>rfl
theorem aup{ops}{u a:Act}{L:Array Bool}{V}{i:Nat}{o}
 (y:sC ops u.tmps.size=true) (F:ops[i]?=some o) (hp:∀k∈ahead o,L.getD k false=true) (I:a.tmps.size=u.tmps.size)
 (D:∀j d,L.getD j false=true->pI ops j=some d->a.tmps.getD d undef=V j) :
 Region.wanted o (yielded ops a.tmps)=wants V o:=by
 obtain⟨Q,O,P,A,N⟩:=E5 y F
 unfold Region.wanted wants
 cases hg:o.guard with
 | none=>rfl
 | some gw =>
  obtain⟨j,C⟩:=gw;obtain⟨G,d,t⟩:=A j C hg;have B:=D j d (hp j G) t;obtain⟨p,H,J⟩:=Hp t;have M:d<a.tmps.size:=by rw[I];exact ((E5 y H).2.2.1 d J).1
  have E:yielded ops a.tmps j=match V j with | .bool b=>some b|_=>none:=by
   unfold yielded;unfold pI at t;rw[t];have:a.tmps[d]?=some (V j):=by rw[<- B];simp[M]
   show (match a.tmps[d]? with|some (.bool b)=>some b|_=>none)=_;rw[this];cases V j <;> rfl
  simp only[E];cases V j <;> simp
theorem aeI{ops}{B a:Act}{I}{L:Array Bool}{w' V i o v}
 (O:sC ops B.tmps.size=true) (C:ops[i]?=some o) (Z:L.getD i false=false) (hp:∀k∈ahead o,L.getD k false=true)
 (H:L.size=ops.size) (closed:∀j o,ops[j]?=some o->L.getD j false=true->∀k∈ahead o,L.getD k false=true)
 (Ei:a.tmps.size=B.tmps.size) (LD:a.defers=B.defers)
 (N:∀j d,L.getD j false=true->pI ops j=some d->a.tmps.getD d undef=V j)
 (Q:∀t,(∀j,L.getD j false=true->pI ops j≠some t)->a.tmps.getD t undef=B.tmps.getD t undef)
 (U:I (upd (λj=>L.getD j false) i) (ba V i v) w') :
 Inv ops B I (L.setIfInBounds i true) (a.put o.dst v) w':=by
 obtain⟨k1,X,G,Y,W⟩:=E5 O C
 have T:i<L.size:=by rw[H];exact (Array.getElem?_eq_some_iff.1 C).1
 have E:∀j,(L.setIfInBounds i true).getD j false=upd (λj=>L.getD j false) i j:=by
  intro j;unfold upd;by_cases u:j=i
  ·subst u;simp[T]
  ·rw[if_neg u,getD_set_ne _ (λe=>u e.symm)]
 have J:∀j,(L.setIfInBounds i true).getD j false=true->j=i∨L.getD j false=true:=by
  intro j u;rw[E j]at u;unfold upd at u;by_cases A:j=i
  ·exact .inl A
  ·rw[if_neg A]at u;exact .inr u
 refine⟨by simpa using H,?_,?_,?_,⟨λj=>if j=i then v else V j,?_,?_,?_⟩⟩
 ·intro j p y u k hk;rcases J j u with rfl|u
  ·rw[C]at y;injection y with y;subst y;exact getD_set_true (hp k hk)
  ·exact getD_set_true (closed j p y u k hk)
 ·rw[<- Ei];cases o.dst <;> simp[Act.put]
 ·rw[<- LD];cases o.dst <;> rfl
 ·intro j d u F;by_cases A:j=i
  ·subst A;obtain⟨p,y,D⟩:=Hp F;rw[C]at y;injection y with y;subst y;have:=(G d D).1;rw[D];simp[Act.put,Ei,this]
  ·show _=if j=i then v else V j
   rw[if_neg A];have S:=(J j u).resolve_left A;rw[<- N j d S F];cases ho:o.dst with
   | none=>rfl
   | some e =>
    obtain⟨p,y,D⟩:=Hp F;have hne:e≠d:=by rintro rfl;exact (G e ho).2 j p y A D
    exact U4
 ·intro t M;have R:=M i (by rw[E];simp[upd]);rw[<- Q t λj u=>M j (getD_set_true u)];cases ho:o.dst with
  | none=>rfl
  | some e =>
   have hne:e≠t:=by rintro rfl;exact R (by unfold pI;rw[C];exact ho)
   exact U4
 ·have:(λj=>(L.setIfInBounds i true).getD j false)=upd (λj=>L.getD j false) i:=funext E;rw[this];exact U
theorem auq{ops y a I L w i}
 (A:sC ops y.tmps.size=true) (T:∀i o,ops[i]?=some o->QQ P ops y I i o)
 (h:Inv ops y I L a w) (H:i∈Region.ready .any ops L):wpOp P ops Q i (Inv ops y I (L.setIfInBounds i true)) a w:=by
 obtain⟨rT,o,u,R⟩:=mem_ready.1 H
 have G:=h.size
 have hlt:i<L.size:=aG
 have C:L.getD i false=false:=U6
 have hp:∀k∈ahead o,L.getD k false=true:=by intro k hk;obtain⟨e,X,hb,rfl⟩:=acZ.1 hk;exact R e X hb
 obtain⟨V,B,E,S⟩:=h.wX
 have J:=(E5 A u).2.1
 have U:=auo A u C hp h.closed B E
 have O:=aup A u hp h.Ei B
 have N:=execOp_congr o J U
 have M:∀j,L.getD j false=true->j<ops.size:=by
  intro j W;by_cases Y:j<L.size
  ·omega
  ·simp[Y]at W
 have t:=T i o u (λj=>L.getD j false) V w C ⟨h.closed,M⟩ hp S
 unfold wpOp
 simp only[u]
 rw[O]
 by_cases F:wants V o=true
 ·rw[if_pos F]at t⊢;refine .inl ?_;unfold Oper.wp;rw[N];generalize (execOp (yF ops y V o) o).run P w=r at *;have put:∀v w',I (upd (λj=>L.getD j false) i) (ba V i v) w'->Inv ops y I (L.setIfInBounds i true) (a.put o.dst v) w':=λv w' D =>
   aeI A u C hp G h.closed h.Ei h.LD B E D
  cases r with
  | ok n w' =>
   cases n <;> simp only[jM]at t <;> simp only[Oper.upon]
   case value v=>exact put _ _ t
   case skip=>exact put _ _ t
   case enter f args => apply lQ t;intro v Z D;exact put _ _ D
  | halt x w'=>simp only[jM]at t
 ·rw[if_neg F]at t⊢;exact aeI A u C hp G h.closed h.Ei h.LD B E t
theorem asy V:∀(l:List Oper) (k:Nat) (a:Act),(fX V l k a).tmps.size=a.tmps.size/\(fX V l k a).defers=a.defers /\
 (∀t,(∀(j:Nat) (o:Oper),l[j]?=some o->o.dst≠some t)->(fX V l k a).tmps.getD t undef=a.tmps.getD t undef) /\
 (∀(j:Nat) (o:Oper) (t:Tmp),l[j]?=some o->o.dst=some t->t<a.tmps.size->(∀(u:Nat) (o':Oper),l[u]?=some o'->u≠j->o'.dst≠some t)->(fX V l k a).tmps.getD t undef=V (k+j)):=by
 intro l
 induction l with
 | nil=>intro k a;exact⟨rfl,rfl,λ_ _=>rfl,λj o t h=>aG⟩
 | cons o r I =>
  intro k a;obtain⟨F,J,y,G⟩:=I (k+1) (a.put o.dst (V k));have B:(a.put o.dst (V k)).tmps.size=a.tmps.size:=by cases o.dst <;> simp[Act.put]
  refine⟨F.trans B,J.trans (by cases o.dst <;> rfl),λt C=>?_,λj p t hj A D E=>?_⟩
  ·show (fX V r (k+1) (a.put o.dst (V k))).tmps.getD t undef=_;rw[y t λj p hj=>C (j+1) p Dm];have H:=C 0 o aj;cases ho:o.dst with
   | none=>rfl
   | some e =>
    have hne:e≠t:=by rintro rfl;exact H ho
    exact U4
  ·show (fX V r (k+1) (a.put o.dst (V k))).tmps.getD t undef=_;cases j with
   | zero => simp at hj;subst hj;rw[y t λj p hj=>E (j+1) p Dm af,A];simp[Act.put,D]
   | succ j =>
    have:=G j p t Dm A (by rw[B];exact D) λu o' hj' hne=>E (u+1) o' U8 af
    rw[this];congr 1;omega
theorem aq4{ops n L}(y:sC ops n=true)(C:L.size=ops.size)(t:Region.ready .any ops L=[]):∀i,i<ops.size->L.getD i false=true:=by
 intro i
 induction i using Nat.strongRecOn with
 | _ i u =>
  intro D;by_cases h:L.getD i false=true
  ·exact h
  ·exfalso;have j:ops[i]?=some ops[i]:=aj;have:i∈Region.ready .any ops L:=by
    refine mem_ready.2 ⟨?_,_,j,λe B hb=>?_⟩
    ·grind
    ·have hk:=acZ.2 ⟨e,B,hb,rfl⟩;have A:=(E5 y j).1 _ hk;exact u _ A af
   rw[t]at this;cases this
theorem av9{ops u I}
 (H:sC ops u.tmps.size=true) (owed:∀i o,ops[i]?=some o->QQ P ops u I i o)
 (fin:∀(V:Nat->Value) (w:World),I (λj=>decide (j<ops.size)) V w->Q .normal (fX V ops.toList 0 u) w) :
 ∀(A:Nat) (L:Array Bool) (a:Act) (w:World),L.toList.count false<=A->Inv ops u I L a w->wpAny P .any ops Q A L a w:=by
 have done:∀(L:Array Bool) (a:Act) (w:World),Inv ops u I L a w->Region.ready .any ops L=[]->Q .normal a w:=by
  intro L a w h B;have hall:=aq4 H h.size B;obtain⟨V,W,h2,N⟩:=h.wX;have hLf:(λj=>L.getD j false)=λj=>decide (j<ops.size):=by
   funext j;by_cases hj:j<ops.size
   ·grind
   ·have:¬j<L.size:=by rw[h.size];exact hj
    simp[hj,this]
  rw[hLf]at N;have T:=fin V w N;obtain⟨p1,p2,p3,Y⟩:=asy V ops.toList 0 u;have X:a=fX V ops.toList 0 u:=by
   have e2:=h.LD.trans p2.symm;have F:a.tmps=(fX V ops.toList 0 u).tmps:=by
    apply Array.ext
    ·rw[h.Ei,p1]
    ·intro t M ht2;have g1:a.tmps[t]=a.tmps.getD t undef:=by simp[M]
     have U:(fX V ops.toList 0 u).tmps[t]=(fX V ops.toList 0 u).tmps.getD t undef:=by simp[ht2]
     rw[g1,U];by_cases G:∃j,j<ops.size/\pI ops j=some t
     ·obtain⟨j,hj,y⟩:=G;obtain⟨p,E,O⟩:=Hp y;rw[W j t (hall j hj) y];have h5:=Y j p t (by simpa using E) O (by rw[<- h.Ei];exact M) λj' o' hj' hne hd'=>(E5 H E).2.2.1 t O |>.2 j' o' U8 hne hd'
      rw[h5,mi]
     ·rw[h2 t λj hj y=>G ⟨j,?_,y⟩,p3 t λj o hj y=>G ⟨j,?_,?_⟩]
      ·have:=(List.getElem?_eq_some_iff.1 hj).1;simpa using this
      ·unfold pI;have hj':ops[j]?=some o:=Dm;rw[hj'];exact y
      ·obtain⟨p,E,_⟩:=Hp y;exact (Array.getElem?_eq_some_iff.1 E).1
   calc a=⟨a.tmps,a.defers⟩:=rfl
    _=_:=by rw[F,e2]
  rw[X];exact T
 intro A
 induction A with
 | zero =>
  intro L a w R h;have B:Region.ready .any ops L=[]:=by
   apply List.eq_nil_iff_forall_not_mem.2;intro i C;obtain⟨rT,o,J,_⟩:=mem_ready.1 C;have hlt:i<L.size:=by rw[h.size];exact (Array.getElem?_eq_some_iff.1 J).1
   have D:L[i]=false:=U6;have:false∈L.toList:=by rw[<- D];simp
   have:=List.count_pos_iff.2 this;omega
  exact⟨B,done L a w h B⟩
 | succ A ih =>
  intro L a w R h;refine⟨done L a w h,λi C=>?_⟩;refine wpOp_mono (λS w' Z=>ih _ S w' ?_ Z) (auq H owed h C);obtain⟨rT,o,J,_⟩:=mem_ready.1 C;have hlt:i<L.size:=by rw[h.size];exact (Array.getElem?_eq_some_iff.1 J).1
  have D:L[i]=false:=U6;have hpos:0<L.toList.count false:=List.count_pos_iff.2 (by rw[<- D];simp);rw[Array.toList_setIfInBounds,List.count_set (by simpa using hlt)];have F:(L.toList[i]'(by simpa using hlt)==false)=true:=by simp[D]
  rw[if_pos F,if_neg ay];omega
theorem Tz{id ops u w} I
 n (hn:u.tmps.size=n) (hm:P.follows .mixedOrders=true) (B:sC ops n=true)
 (C:I (λ_=>false) (λ_=>undef) w.drew) (A:∀i o,ops[i]?=some o->QQ P ops u I i o)
 (fin:∀(V:Nat->Value) (w:World),I (λj=>decide (j<ops.size)) V w->Q .normal (fX V ops.toList 0 u) w) :
 (Code.region id ops true).wp P Q u w:=by
 subst hn
 refine wp_region_any hm (av9 B A fin _ _ _ _ ?_ ⟨aj,?_,rfl,rfl,⟨λ_=>undef,?_,λ_ _=>rfl,?_⟩⟩)
 ·refine bn List.count_le_length ?_;simp
 ·intro j o D y;have t:=(Array.getElem?_eq_some_iff.1 D).1;simp[t]at y
 ·intro j d y E;by_cases t:j<ops.size <;> simp[t]at y
 ·have:(λj=>(Array.replicate ops.size false).getD j false)=λ_=>false:=by funext j;by_cases t:j<ops.size <;> simp[t]
  rw[this];exact C
def tab(l:List (Value->World->Prop))(i:Nat)(v:Value)(w:World):Prop:=(l.getD i (λ_ _=>True)) v w
theorem bW f l v w:tab (f :: l) 0 v w=f v w:=rfl
theorem bY f l n v w:tab (f :: l) (n+1) v w=tab l n v w:=rfl
theorem TY{Le:World->World->Prop}{l}(h:∀f∈l,∀v w w',f v w->Le w w'->f v w'):∀j v w w',tab l j v w->Le w w'->tab l j v w':=by
 intro j v w w' u y
 unfold tab at *
 by_cases t:j<l.length
 ·simp only[List.getD_eq_getElem?_getD,List.getElem?_eq_getElem t,Option.getD_some]at *;exact h _ (bS t) v w w' u y
 grind
def aE(rd:List (Nat×Nat))(u:Act)(V:Nat->Value):Operand->Value
 | .tmp t=>match rd.lookup t with
  | some j=>V j
  | none=>u.tmps.getD t undef
 | x=>u.eval x
def bP(V:Nat->Value):Option (Nat×Bool)->Bool
 | none=>true
 | some (j,want)=>match V j with
  | .bool b=>b==want
  | _=>false
def aF (op:Op) (ty:TypeId):Oper:={ dst:=none,op:=op,type:=ty,pos:="",after:=#[],guard:=none }
def aju(P:Program)(ops:Array Oper)(t:Act)(I:(Nat->Bool)->(Nat->Value)->World->Prop)(k:Nat)(op:Op)(ty:TypeId)(gd:Option (Nat×Bool))(al:List Nat)(rd:List (Nat×Nat)):Prop :=
 ∀(L:Nat->Bool) (V:Nat->Value) (w:World),L k=false->Closed ops L->(∀j∈al,L j=true)->I L V w ->
  if bP V gd=true then jM P (λv w'=>I (upd L k) (ba V k v) w') ((execOp (aE rd t V) (aF op ty)).run P w)else I (upd L k) (ba V k undef) w
def Lu(P:Program)(ops:Array Oper)(j:Act)(I:(Nat->Bool)->(Nat->Value)->World->Prop):Nat->List Oper->List (List Nat×List (Nat×Nat))->Prop
 | _,[],_=>True
 | _,_ :: _,[]=>False
 | k,o :: r,x :: xs=>aju P ops j I k o.op o.type o.guard x.1 x.2/\Lu P ops j I (k+1) r xs
def uI(ops:Array Oper)(u:List (List Nat×List (Nat×Nat))):Bool :=
 ops.toList.zipIdx.all λx=>match u[x.2]? with
  | none=>false
  | some (al,rd)=>al.all (λj=>(ahead x.1).contains j) &&
   (match x.1.op with | .select ..=>false|_=>true) &&
   (x.1.op.operands.toList.all λy=>match y with
    | .tmp t=>(ahead x.1).find? (λj=>pI ops j==some t)==rd.lookup t
    | _=>true)
theorem TP ρ o:execOp ρ o=execOp ρ (aF o.op o.type):=by
 cases o with
 | mk u op t pos y j=>cases op <;> rfl
theorem asA{ops u I} C
 (R:uI ops C=true) (h:Lu P ops u I 0 ops.toList C):∀i o,ops[i]?=some o->QQ P ops u I i o:=by
 have key:∀(l:List Oper) (k:Nat) (q:List (List Nat×List (Nat×Nat))),Lu P ops u I k l q->∀(i:Nat) (o:Oper),l[i]?=some o->∃x,q[i]?=some x/\aju P ops u I (k+i) o.op o.type o.guard x.1 x.2:=by
  intro l
  induction l with
  | nil=>intro k q _ i o A;simp at A
  | cons p r Q =>
   intro k q hk i o A
   cases q with
   | nil=>exact False.elim hk
   | cons x xs =>
    cases i with
    | zero=>simp at A;subst A;exact⟨x,rfl,hk.1⟩
    | succ i =>
     obtain⟨y,G,E⟩:=Q (k+1) xs hk.2 i o aG
     grind
 intro i o A
 obtain⟨⟨al,rd⟩,H,E⟩:=key _ 0 C h i o aG
 rw[mi]at E
 have B:=List.all_eq_true.1 R (o,i) (List.mem_zipIdx_iff_getElem?.2 aG)
 simp only[H,dE]at B
 obtain⟨⟨B,F⟩,T⟩:=B
 intro L V w X N O U
 have W:=λj D=>by simpa using List.all_eq_true.1 B j D
 have S:=E L V w X N (λj D=>O j (W j D)) U
 have M:wants V o=bP V o.guard:=by unfold wants bP;rfl
 have J:execOp (yF ops u V o) o=execOp (aE rd u V) (aF o.op o.type):=by
  rw[<- TP];refine execOp_congr o (λcs b e=>by rw[e]at F;cases F) λy G=>?_
  have h4:=List.all_eq_true.1 T y (by simpa using G);exact aeJ
 rw[M,J]
 exact S
def cN(P:Program)(φ:Value->World->Prop)(w:World):Result Next->Prop
 | .ok (.value v) w'=>φ v w'/\Below w.heap.size w w'
 | .ok .skip w'=>φ undef w'/\Below w.heap.size w w'
 | .ok (.enter f args) w'=>Calls P f args w' λe j=>∃v,e=.returned v/\φ v j/\Below w.heap.size w j
 | _=>False
def ajv(P:Program)(t:Act)(C:World->Prop)(φ:Nat->Value->World->Prop)(k:Nat)(op:Op)(ty:TypeId)(gd:Option (Nat×Bool))(al:List Nat)(rd:List (Nat×Nat)):Prop :=
 ∀(V:Nat->Value) (w:World),C w->(∀j∈al,φ j (V j) w)->if bP V gd=true then cN P (φ k) w ((execOp (aE rd t V) (aF op ty)).run P w)else φ k undef w
theorem xS{L i j}(h:upd L i j=true):j=i∨L j=true:=by
 grind [upd]
def QR(P:Program)(C t:World->Prop)(Le:World->World->Prop)(φ:Value->World->Prop)(w:World):Result Next->Prop
 | .ok (.value v) w'=>φ v w'/\C w'/\t w'/\Le w w'
 | .ok .skip w'=>φ undef w'/\C w'/\t w'/\Le w w'
 | .ok (.enter f args) w'=>Calls P f args w' λe j=>∃v,e=.returned v/\φ v j/\C j/\t j/\Le w j
 | _=>False
def axL(P:Program)(t:Act)(C y u:World->Prop)(Le:World->World->Prop)(φ:Nat->Value->World->Prop)(k:Nat)(op:Op)(ty:TypeId)(gd:Option (Nat×Bool))(al:List Nat)(rd:List (Nat×Nat)):Prop :=
 gd=none/\∀(V:Nat->Value) (w:World),C w->y w->(∀j∈al,φ j (V j) w)->QR P C u Le (φ k) w ((execOp (aE rd t V) (aF op ty)).run P w)
def IE(P:Program)(j:Act)(C t u:World->Prop)(Le:World->World->Prop)(φ:Nat->Value->World->Prop)(z:Nat):Nat->List Oper->List (List Nat×List (Nat×Nat))->Prop
 | _,[],_=>True
 | _,_ :: _,[]=>False
 | k,o :: r,x :: xs=>(if k=z then axL P j C t u Le φ k o.op o.type o.guard x.1 x.2 else ajv P j C φ k o.op o.type o.guard x.1 x.2)/\IE P j C t u Le φ z (k+1) r xs
def Lv(C t u:World->Prop)(l:List (Value->World->Prop))(z:Nat)(L:Nat->Bool)(V:Nat->Value)(w:World):Prop:=C w/\(if L z=true then u w else t w)/\∀j,L j=true->tab l j (V j) w
def aJ(c:Value)(v:Value)(_:World):Prop:=v=c
def QS(_:Value)(_:World):Prop:=True
def sl(l:List UInt8)(v:Value)(w:World):Prop:=∃A c,v=.slice A l.length c/\Reads w w.heap.size 1 A l.length (dP l)
theorem axM c:∀v w w',aJ c v w->Below w.heap.size w w'->aJ c v w':=λ_ _ _ h _=>h
theorem awa:∀v w w',QS v w->Below w.heap.size w w'->QS v w':=λ_ _ _ h _=>h
theorem nC l:∀v w w',sl l v w->Below w.heap.size w w'->sl l v w':=by rintro v w w'⟨A,c,h,j⟩ hb;exact⟨A,c,h,(j.below hb (aC _)).more hb.size⟩
theorem eK{w base e v l}(h:Own w base e v l):sl l v w:=by
 obtain⟨A,c,j,t⟩:=h.slice
 grind [sl]
theorem axN{P w v l} t j e(B:P.underlying t=some (.slice e))(C:P.underlying e=some (.int .u8))(y:P.underlying j=some .string)
 (h:sl l v w):(convert t j v).run P w=.ok (.string ⟨l.toArray⟩) w:=by
 obtain⟨A,c,rfl,u⟩:=h
 grind [aeq]
end
