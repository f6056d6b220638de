/-
  The walk of norm.Implies (layer 7). Conditions: none.
-/
import Derived.Test.YtfndfpdhlbmboaaGreatMq09
import Derived.Test.YtfndfpdhlbmboaaGreatMqz
set_option maxRecDepth 100000
set_option maxHeartbeats 16000000
set_option linter.all false
namespace Go.Proofs.YtfndfpdhlbmboaaGreat
open Go Go.RowKit _root_.Go.Proofs.Tryz
theorem apA l a v w(h:aq cL l v w)(G:l.length<=1000000) :
 Calls prog 189 #[v,.int .i64 a] w λe w'=>∃i:Int,e=.returned (.int .i64 i)/\K w w'/\decide (0<=i)=l.any λx=>decide (x=a):=by
 have j:=K.rf w
 obtain⟨A,c,rfl,E,-⟩:=h
 go_in
 go_wp2_with fail
 go_loopw [5,8] (fun _ i wr=>∃k:Nat,k<=l.length/\i=.int .i64 k/\Hid ((l.take k).any (fun x=>decide (x=a))=false)/\K w wr) (fun _ i _=>l.length-(intOf i).toNat)
 case atStart=>exact⟨0,af,rfl,ae aj,j⟩
 case round =>
  clear j;obtain⟨k,hk,rfl,hall,kr⟩:=hrel;by_cases u:k<l.length
  ·have fe:(k:Int)<l.length:=af;obtain⟨H,F,rfl,y⟩:=ints_at E af;have HB:=ae (yp (λx=>decide (x=a)) l k u);have D:=ae (yq (λx=>decide (x=a)) l (k+1));have q:=y wr kr k u;generalize l[k]=t at *;clear y;by_cases hx:t=a
   ·have HE:=ae (D.aa Xf);have C:(a==t)=true:=Iz;clear hx;go_wp2;go_ret;exact⟨_,rfl,kr,by rw[HE.aa];simp⟩
   ·have B:Hid ((l.take (k+1)).any (λx=>decide (x=a))=false):=ae (by rw[HB.aa,hall.aa];simpa using hx);have C:(a==t)=false:=by simpa using λe=>hx e.symm
    clear hx;go_wp2;go_roundw
    case rel=>exact⟨k+1,af,bD,B,kr⟩
    case measure=>simp[intOf];omega
  ·exact WL
theorem abA l a v w(h:aq cL l v w)(y:l.length<=1000000) :
 Calls prog 112 #[v,.int .i64 a] w λe w'=>e=.returned (.bool (decide (a∈l)))/\K w w':=by
 have u:=ae (apA l a v w h y)
 obtain⟨A,c,rfl⟩:=av h
 have t:Hid (decide (a∈l)=l.any λx=>decide (x=a)):=ae Xg
 generalize decide (a∈l)=R at *
 go_in
 go_wp2_with fail
 refine u.aa.mono ?_
 rintro e D⟨i,rfl,B,C⟩
 have j:=ae C
 go_wp2
 go_ret
 exact⟨by rw[t.aa,<- j.aa];rfl,B⟩
theorem aC.YN{α S Y base e l go cap w}(h:aC Y base e S l (.slice (some ⟨go,0,none⟩) l.length cap) w){j}(G:j<l.length){y:α}{cs}(L:cs.length=S.size)
 (H:Fx (λk=>Y k∨k=go) (λW=>S.rel y cs W) (dY w go (j*S.size) cs)):aC Y base e S (l.set j y) (.slice (some ⟨go,0,none⟩) l.length cap) (dY w go (j*S.size) cs):=by
 obtain⟨css,F,J,B⟩:=h
 have t:=B w (ag.rf _ _)
 have E:j<css.length:=af
 have I:=t.lens
 have:=t.Gj
 have hb:j*S.size+S.size<=l.length*S.size:=by
  have:=Nat.mul_le_mul_right S.size (show j+1<=l.length from G)
  grind
 have C:=Px cs css.flatten (j*S.size) w F af
 have A:=OL S.size cs css I j 0 E af
 rw[Nat.add_zero]at A
 rw[A,UD cs css[j] 0 aB,Q8,aN]at C
 refine⟨css.set j cs,aB,aB,λw' u=>?_⟩
 have D:ag (λk=>Y k∨(Value.slice (some ⟨go,0,none⟩) l.length cap).ownBlock=some k) w (dY w go (j*S.size) cs):=ag.sets (X:=λk=>Y k∨(Value.slice (some ⟨go,0,none⟩) l.length cap).ownBlock=some k) (.inr rfl) cs _ w
 exact (B w' (D.tr u)).set j (H w' (u.more λk hk=>hk.imp id λe=>by simpa [Value.ownBlock]using e.symm))
theorem Im{a}(h:dJ a):(fA a).length<=30000:=aiB
theorem asg{a}(h:dJ a):(fA a).length<=27:=aiB
theorem U1{v}(h:dJ v.id):(lq v).length<=30000:=by
 grind [asg,cS,lq,dq]
theorem ada{x}(h:cE x):(pq x).length<=20000:=by
 grind [pq,bH,KW]
theorem Fz{x}(h:cE x):(gh x).length<=30000:=by
 grind [ada,cS,pq,gh,ij,dq]
theorem K7{α:Type}(enc:α->List UInt8) B:∀(l:List α),(∀x∈l,(enc x).length<=B)->(l.flatMap enc).length<=B*l.length
 | [],_=>aj
 | x :: l,h=>by have:=h x aj;have:=K7 enc B l (λy hy=>h y IE);simp only[vC,dq,eQ,Nat.mul_succ];omega
theorem xa{α} enc(l:List α)(h:∀x∈l,(enc x).length<=30000)(t:l.length<=16):(fu enc l).length<=480009:=by have:=K7 enc 30000 l h;have:=cS l.length af;unfold fu;simp only[dq];omega
theorem avW{m}(h:dI m=true)(I:nX m):(gD m).length<=2000000:=by
 obtain⟨-,L,t,J,E,u,F⟩:=KZ h
 obtain⟨-,C,D,G,B,A,y,H⟩:=I
 have:=xa lq m.cG (λx j=>U1 (D x j)) L.1
 have:=xa gh m.asks (λx j=>Fz (G x j)) t.1
 have:=xa gh m.entries (λx j=>Fz (B x j)) J.1
 have:=xa gh m.eD (λx j=>Fz (A x j)) E.1
 have:=xa fA m.dF (λx j=>Im (y x j)) u.1
 have:=xa fA m.ends (λx j=>Im (H x j)) F.1
 have:=cS (aZ m.kind) (gH _)
 have:=cS m.got C
 unfold gD
 grind
def tZ(j:Int)(m:eW):List (Int×List UInt8):=if dI m then [(j,gD m)]else []
structure aj3(B B':bf):Prop where
 me:B'.me=B.me
 par:B'.par=B.par
 ai:B'.ai=B.ai
 calls:B'.calls=B.calls
 bI:B'.bI=B.bI
 refused:B'.refused=B.refused
 told:B'.told=B.told
 life:B'.st.life=B.st.life
theorem nr.w{B B'}(h:nr B B'):aj3 B B':=⟨h.me,h.par,h.ai,h.calls,h.bI,h.refused,h.told,h.life⟩
theorem KS{B}(y:bC B):aj3 B (gA B):=by
 have u:=y.open';unfold gA;split
 ·have A:=Ih y λx t=>(u.2.1 x t).2
  have C:=KQ (kids:=dA B) (p:=(yK B,[])) A.1 λx t=>(u.1 x t).2
  have j:=A.2.tr C.2.1;exact⟨j.me,j.par,j.ai,j.calls,j.bI,j.refused,j.told,j.life⟩
 ·exact (nr.rf B).w
def sS(B:bf):List (Int×List UInt8):=if nh B then []else tZ (vQ B) (Ad B)
def sU(B:bf)(l:List Int):List (Int×List UInt8):=l.flatMap λk=>tZ k (tK B k)
def ua(B:bf):List (Int×List UInt8):=sS B++sU B (pD B)