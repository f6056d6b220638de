/-
  The walk of frame.Sum (layer 3). Conditions: bytes of at most a thousand million.
-/
import Derived.Test.YtfndfpdhlbmboaaGreatMd10
import Derived.Laws.BitsAllLaws
import Derived.Test.YtfndfpdhlbmboaaGreatMdz
set_option maxRecDepth 100000
set_option linter.constructorNameAsVariable false
set_option maxHeartbeats 16000000
set_option linter.unusedVariables false
set_option linter.unusedSimpArgs false
namespace Go.Proofs.YtfndfpdhlbmboaaGreat
open Go Go.RowKit _root_.Go.Proofs.Tryz
def yY(s:Nat):Nat:=if s &&& 1=1 then (s/2) ^^^ 3945912366 else s/2
def Ew:Nat->Nat->Nat
 | 0,s=>s
 | k+1,s=>yY (Ew k s)
def Ct(l:List UInt8):Nat:=l.foldl (λs b=>Ew 8 (s ^^^ b.toNat)) 4294967295
def xL(l:List UInt8):Nat:=4294967295 ^^^ Ct l
theorem PF{a b}(j:a<4294967296)(hb:b<4294967296):a ^^^ b<4294967296:=Nat.xor_lt_two_pow (n:=32) j hb
theorem agx{s}(h:s<4294967296):yY s<4294967296:=by
 grind [yY,PF]
theorem axi k{s}(h:s<4294967296):Ew k s<4294967296:=by
 induction k with
 | zero=>exact h
 | succ k j=>exact agx j
theorem adL l b:Ct (l++[b])=Ew 8 (Ct l ^^^ b.toNat):=by simp[Ct]
theorem agy l:Ct l<4294967296:=by
 rcases List.eq_nil_or_concat l with rfl|⟨l',b,rfl⟩
 ·decide
 ·rw[List.concat_eq_append,adL];have j:=agy l';exact axi 8 (PF j (by have:=b.toNat_lt;omega))
termination_by l.length
decreasing_by all_goals (subst_vars;simp)
theorem Wk l:xL l<4294967296:=PF ax (agy l)
theorem acY l v w(h:sl l v w)(hn:l.length<=1000000000) :
 Calls prog 206 #[v] w λe w'=>e=.returned (.int .u32 (xL l:Int))/\K w w':=by
 obtain⟨A,c,rfl,G⟩:=h
 have C:=K.rf w
 have E:Hid (xL l=4294967295 ^^^ Ct l):=ae rfl
 generalize xL l=R at *
 go_enter func206,ntmps206
 go_wp2_with fail
 go_loop [3,5,6,9] (fun s _ _ i=>∃j:Nat,j<=l.length/\i=.int .i64 j/\∃n:Nat,s=.int .u32 n/\n<4294967296/\Hid (n=Ct (l.take j))) (fun _ _ _ i=>l.length-(intOf i).toNat)
 case atStart=>exact⟨0,af,rfl,4294967295,rfl,af,ae cV⟩
 case round =>
  obtain⟨j,N,rfl,n,rfl,hn,y⟩:=hrel;by_cases t:j<l.length
  ·have H:(j:Int)<l.length:=af;obtain⟨b,L,rfl,-,u⟩:=G.at_ af;have M:=u j t;have O:l[j].toNat<256:=l[j].toNat_lt;have D:Hid (Ct (l.take (j+1))=Ew 8 (n ^^^ l[j].toNat)):=ae (by rw[gJ t,adL,y.aa]);generalize l[j]=x at *;have HX:=ae (u32_xor_nat n x.toNat hn af);have I:=PF hn (show x.toNat<4294967296 by omega);clear u;go_wp2_with fail
   rw[HX.aa];generalize n ^^^ x.toNat=s0 at *;go_loop [3,6,17] (fun s _ k=>∃k':Nat,k'<=8/\k=.int .i64 k'/\∃m:Nat,s=.int .u32 m/\m<4294967296/\Hid (m=Ew k' s0)) (fun _ _ k=>8-(intOf k).toNat)
   case atStart=>exact⟨0,af,rfl,s0,rfl,I,ae rfl⟩
   case round =>
    obtain⟨k',hk,rfl,m,rfl,hm,HM⟩:=hrel;by_cases Q:k'<8
    ·have F:(k':Int)<8:=af;have hl:=agx hm;have ha:=u32_and_nat m 1 hm ax;by_cases h1:m &&& 1=1
     ·have hb:(bits BinOp.and IntKind.u32 (m:Int) 1==1)=true:=aA;have hB:yY m=(m/2) ^^^ 3945912366:=by rw[yY,if_pos h1]
      have HX:=ae (show bits BinOp.xor IntKind.u32 ((m:Int)/2) 3945912366=((yY m:Nat):Int) by rw[hB];exact u32_xor_nat (m/2) 3945912366 af ax);exact agz
     ·have hb:(bits BinOp.and IntKind.u32 (m:Int) 1==1)=false:=by
       grind
      have hB:yY m=m/2:=by rw[yY,if_neg h1]
      have HX:=ae (show (m:Int)/2=((yY m:Nat):Int) by omega);exact agz
    ·have F:¬(k':Int)<8:=af;obtain rfl:k'=8:=af;have B:Hid (m=Ct (l.take (j+1))):=ae (by rw[D.aa,HM.aa]);go_wp2;go_round
     case rel=>exact⟨j+1,af,bI,m,rfl,hm,B⟩
     case measure=>simp[intOf];omega
  ·have H:¬(j:Int)<l.length:=af;obtain rfl:j=l.length:=af;have J:Hid (R=4294967295 ^^^ n):=ae (by rw[E.aa,y.aa,nC]);have HX:=ae (u32_xor_nat 4294967295 n ax hn);go_wp2;go_ret;refine⟨?_,C⟩;rw[J.aa];exact congrArg (λz=>Ending.returned (Value.int IntKind.u32 z)) HX.aa
theorem ab3(g lo base k n:Nat) v l w(hb:ai w g 94 #[v])(t:Own w base 5 v l)(G:lo<=g/\lo<=base/\lo<=w.heap.size)(hbase:base<=w.heap.size)(hk:k<=4)(hn:n<4294967296)(hl:l.length<=1000000000) :
 Calls prog 335 #[.int .u32 n,.int .i64 k,.pointer (some ⟨g,0,none⟩)] w λe w'=>∃v',e=.returned (.tuple #[])/\ai w' g 94 #[v']/\Own w' base 5 v' (l++be k n)/\Below lo w w':=by
 have F:=cT lo w
 go_enter func335,ntmps335
 go_wp2_with fail
 go_loopw [5] (fun i W=>∃(j:Nat) (v':Value) (pre:List UInt8),j<=k/\(∃z:Int,i=.int .i64 z/\z+1=(j:Int))/\ai W g 94 #[v']/\Own W base 5 v' (l++pre)/\Hid (pre++be j n=be k n)/\Below lo w W) (fun i _=>(intOf i+1).toNat)
 case atStart=>exact⟨k,v,[],af,⟨_,rfl,af⟩,hb,by simpa using t,ae aj,F⟩
 case round =>
  clear F hb t;obtain⟨j,v',pre,hj,⟨z,rfl,hz⟩,hb,t,A,kr⟩:=hrel;by_cases h0:0<j
  ·obtain⟨j,rfl⟩:∃U,j=U+1:=⟨j-1,af⟩;obtain rfl:z=(j:Int):=af;have aP:(0:Int)<=(j:Int):=af;have hj8:(8:Int)*(j:Int)<=24:=af;have Q:IntKind.i64.wrap (8*(j:Int))=8*(j:Int):=IntWalk.i64_in _ af;have M:¬(8*(j:Int)<0):=af;clear hz;have q:=hb.cells;have z:=hb.frozen;go_upto_region 3 with (fail);have qs:=And.intro q (And.intro Q M);refine OV 7 [([],[]),([],[]),([],[]),([2],[(14,2)]),([1,3],[(13,1),(15,3)]),([4],[(16,4)]),([5],[(17,5)]),([0,6],[(12,0),(18,6)]),([0,1,2,3,4,5,6,7],[(19,7)])] 20 ?_;iterate 6 refine au.i ?_
   refine au.row (N:=λ_=>True) (S:=MK) 94 _ 1 1 TB rfl ax (.tmp 17) (UInt8.ofNat (n/256^j)) rfl rfl (λV W kW hp=>?_) ?_
   ·simp only[cF,aO,aR,bW,bY,aJ]at hp;simp only[aF,List.lookup,beq_self_eq_true,hp];refine⟨rfl,λW' _=>?_⟩;show [Value.int .u8 _]=_;rw[show (8*(j:Int)).toNat=8*j by omega,show IntKind.u8.wrap ((n:Int)/2^(8*j))=(n:Int)/2^(8*j)%256 from by rw[IntKind.wrap_u8],ads]
   clear qs;intro V W kW hA;simp only[aO,aR,cC,aJ,Nat.reduceAdd]at hA;obtain⟨T,-,-,-,-,-,e6,-⟩:=hA;have C:=UO (aD _) t kW;have D:=hb.ay kW;have L:v'.ownBlock≠some g:=λe=>by obtain⟨cur,h1⟩:=mq C e;exact absurd (h1.ie D) ax
   have hpl:pre.length<=4:=by have:=congrArg List.length A.aa;simp[vQ]at this;omega
   have ZA:base<=W.heap.size:=by have:=kW.size;have:=kr.size;omega
   refine aH.push (.tmp 12) (.tmp 18) 94 _ 1 1 TB rfl rfl rfl v' (l++pre) (UInt8.ofNat (n/256^j)) ?_ (Own.tO (Y:=λ_=>True) C) ?_ ?_ ZA ?_
   ·simp[aF,List.lookup,T]
   ·simp only[aF,List.lookup,beq_self_eq_true];exact e6.less λ_ _=>trivial
   ·simp;omega
   intro v2 y H I _ E;have hx2:=D.grown I (λe=>L e.symm);have B:=H.bytes;have J:v2.ownBlock≠some g:=λe=>by obtain⟨cur,h1⟩:=mq B e;exact Qi
   obtain⟨u,c2,rfl,-⟩:=B.slice;refine aH.skip (y.setCell ⟨g,0,none⟩ (.slice u (l++pre++[UInt8.ofNat (n/256^j)]).length c2)) rfl ?_ ?_
   ·have q2:=hx2.cell;have R:=hx2.frozen;simp[aF,List.lookup,bj,execOp,aG,q2,R,go_sem]
   refine aH.nil ?_;simp only[fZ,Act.put,sC,rI,rH,bj,Nat.reduceAdd,Nat.reduceEqDiff,if_false,if_true];have aY:=hx2.aQ 0 (.slice u (l++pre++[UInt8.ofNat (n/256^j)]).length c2);have O:Own (y.setCell ⟨g,0,none⟩ (.slice u (l++pre++[UInt8.ofNat (n/256^j)]).length c2)) base 5 (.slice u (l++pre++[UInt8.ofNat (n/256^j)]).length c2) (l++(pre++[UInt8.ofNat (n/256^j)])):=by rw[<- eu];exact i6 B (ag.bM (X:=λk=>k=g) rfl 0 _) λb hb e=>J (by rw[hb,e])
   have k9:Below lo w (y.setCell ⟨g,0,none⟩ (.slice u (l++pre++[UInt8.ofNat (n/256^j)]).length c2)) :=
    ((kr.trans (kW.mono (by have:=kr.size;omega))).trans (E.mono G.2.1)).setCell (p:=⟨g,0,none⟩) G.1 _
   have Z:Hid (pre++[UInt8.ofNat (n/256^j)]++be j n=be k n):=ae (by have:=A.aa;rw[be]at this;simpa using this);clear A H B E hx2 I J t hb q z D C L;generalize y.setCell _ _=w9 at *;go_wp2;go_roundw
   case rel=>exact⟨j,_,_,af,⟨_,rfl,af⟩,aY,O,Z,k9⟩
   case measure=>simp[intOf]
  ·obtain rfl:j=0:=af;have hz1:z<0:=af;have HE:=ae (by have:=A.aa;simpa [be]using this);go_wp2;go_end0;exact⟨_,rfl,hb,by rw[<- HE.aa];exact t,kr⟩
def ij(b:List UInt8):Bool:=decide (1<=b.length)&&decide (b.length<=4000)
def frame(b:List UInt8):List UInt8:=be 2 b.length++be 4 (xL b)++b
def Az(b:List UInt8):List UInt8:=if ij b then frame b else []
def Ge(b:List UInt8):Int:=if ij b then 0 else 30
theorem BU b:(frame b).length=xV b:=by grind [frame,vQ,xV]
theorem aqA b v w(h:sl b v w)(hn:b.length<=1000000000) :
 Calls prog 312 #[v] w λe w'=>∃v',e=.returned (.tuple #[v',.int .i64 (Ge b)])/\Own w' w.heap.size 5 v' (Az b)/\K w w':=by
 have CS:=ae λW (k:K w W)=>acY b v W (oh _ _ _ _ h k) hn
 have hcs:=Wk b
 obtain⟨A,c,rfl,J⟩:=h
 have kk:=K.rf w
 have HF:Hid (Az b=if ij b then be 2 b.length++be 4 (xL b)++b else []):=ae rfl
 have HC:Hid (Ge b=if ij b then 0 else 30):=ae rfl
 have HK:Hid (ij b=(decide (1<=b.length)&&decide (b.length<=4000))):=ae rfl
 generalize Ge b=R at *
 generalize Az b=F at *
 generalize ij b=ok at *
 generalize xL b=s at *
 go_enter func312,ntmps312
 by_cases h0:0<b.length
 rotate_left
 ·have h0':((b.length:Int)==0)=true:=by rw[beq_iff_eq];omega
  obtain rfl:ok=false:=by rw[HK.aa,decide_eq_false (show ¬1<=b.length by omega)];rfl
  exact agA
 have h0':((b.length:Int)==0)=false:=aA
 by_cases h1:4000<b.length
 ·have h1':4000<(b.length:Int):=af;obtain rfl:ok=false:=by rw[HK.aa,decide_eq_false (show ¬b.length<=4000 by omega),Bool.and_false]
  exact agA
 have h1':(b.length:Int)<=4000:=af
 obtain rfl:ok=true:=by rw[HK.aa,decide_eq_true (show 1<=b.length by omega),decide_eq_true (show b.length<=4000 by omega)];rfl
 have HR:Hid (R=0/\F=be 2 b.length++be 4 s++b):=ae ⟨HC.aa,HF.aa⟩
 clear HK HC HF
 obtain⟨i,O,B,N,hz2⟩:=info_parts XY
 have RO:∀W:World,(Instr.makeSlice 94 (.int .i64 0) (.int .i64 (6+(b.length:Int)))).run prog W=.ok (.slice (some ⟨W.heap.size,0,none⟩) 0 (6+b.length)) (W.alloc (.cells (madeCells #[.int .u8 0] (6+b.length)) 5)):=by intro W;have h:=run_make (P:=prog) W 94 5 i (.int .u8 0) underlying94 O B .i64 .i64 0 (6+(b.length:Int)) af af VA af;rw[N]at h;simpa [Value.cells,show ((6:Int)+(b.length:Int)).toNat=6+b.length from by omega]using h
 clear O B N hz2
 have M:=ai.new w 5 (madeCells #[.int .u8 0] (6+b.length))
 have t:=ai.new (w.alloc (.cells (madeCells #[.int .u8 0] (6+b.length)) 5)) 94 #[.slice (some ⟨w.heap.size,0,none⟩) 0 (6+b.length)]
 have U:=M.alloc (.cells #[.slice (some ⟨w.heap.size,0,none⟩) 0 (6+b.length)] 94)
 have j:=K.lW w (.cells (madeCells #[.int .u8 0] (6+b.length)) 5) (.cells #[.slice (some ⟨w.heap.size,0,none⟩) 0 (6+b.length)] 94)
 simp only[World.size_alloc]at t
 go_wp2_with fail
 generalize (w.alloc (.cells (madeCells #[.int .u8 0] (6+b.length)) 5)).alloc (.cells #[.slice (some ⟨w.heap.size,0,none⟩) 0 (6+b.length)] 94)=w0 at *
 have Q:Own w0 w.heap.size 5 (.slice (some ⟨w.heap.size,0,none⟩) 0 (6+b.length)) [] :=
  OO (xs:=[]) (rest:=List.replicate (6+b.length) (.int .u8 0)) (aD _) (by rw[aO,<- toList_madeCells_one];exact U) rfl aj BW
 have B:=t.lt
 refine (ab3 (w.heap.size+1) w.heap.size w.heap.size 2 b.length _ [] w0 t Q ⟨af,af,af⟩ af af af aj).mono ?_
 rintro e w1⟨v1,rfl,S,y,L⟩
 replace j:=j.trans L
 rw[aO]at y
 have ew:=vQ 2 b.length
 generalize be 2 b.length=C at *
 clear t Q U M L RO
 go_wp2_with fail
 refine (CS.aa w1 j).mono ?_
 rintro e V⟨rfl,u⟩
 have D:=S.ay u
 have G:=UO (aD _) y u
 replace j:=j.tr u
 have hz2:=D.lt
 clear S y u CS
 go_wp2_with fail
 refine (ab3 (w.heap.size+1) w.heap.size w.heap.size 4 s v1 C V D G ⟨af,af,af⟩ af af hcs af).mono ?_
 rintro e w3⟨v3,rfl,I,E,T⟩
 replace j:=j.trans T
 have wM:=(J.below j (aD _)).more j.size
 have Y:=I.cell
 have kL:(C++be 4 s).length=6:=by simp[vQ,ew]
 have ZA:=j.size
 clear D G T J
 generalize C++be 4 s=Z at *
 go_wp2_with (at_builtin;refine iW rfl _ _ 94 rfl w.heap.size 5 _ 1 1 TB _ _ _ rfl E _ A b.length c (dS b) rfl wM (xw b) ?p1 ZA ?_)
 case p1=>omega
 intro v4 w4 H _ _ hb4
 have HO:Hid (Own w4 w.heap.size 5 v4 (Z++b)):=ae (by unfold Own;rw[KL,dx,kL];exact H)
 have X:=j.trans hb4
 clear H E I Y
 go_wp2
 go_ret2
 exact⟨_,by rw[HR.aa.1];rfl,by rw[HR.aa.2];exact HO.aa,X⟩
theorem atO{P} w d t e a l c(h:P.underlying t=some (.slice e)):(Op.equalIn (d+1) t (.slice a l c) (.slice none 0 0)).run P w=.ok a.isNone w:=by cases a <;> simp[Op.equalIn,run_underlying h]
theorem atP{P} w t e a l c(h:P.underlying t=some (.slice e)):(Op.equal t (.slice a l c) (.slice none 0 0)).run P w=.ok a.isNone w:=atO w 9999 t e a l c h
theorem Qj{P} w t e a l c(h:P.underlying t=some (.slice e)):(binOp .eql t (.slice a l c) (.slice none 0 0)).run P w=.ok (.bool a.isNone) w:=by simp[binOp,atP w t e a l c h]
theorem OW A n c xs w(hR:Reads w w.heap.size 1 A n xs)(h1:∀u∈xs,u.oneCell'=true)(hn:n<=1000000000) :
 Calls prog 98 #[.slice A n c] w λe w'=>∃v',e=.returned v'/\w'.ownsRow w.heap.size 5 1 v' n xs/\K w w':=by
 have kk:=K.rf w
 have j:=λ(W:World) (a:Option Addr) (l c:Nat)=>Qj (P:=prog) W 94 5 a l c underlying94
 go_enter func98,ntmps98
 cases A with
 | none => exact Qk
 | some ad => exact agB
theorem apd A n c xs w(hR:Reads w w.heap.size 1 A n xs)(h1:∀u∈xs,u.oneCell'=true)(hn:n<=1000000000) :
 Calls prog 207 #[.slice A n c] w λe w'=>∃v',e=.returned v'/\w'.ownsRow w.heap.size 5 1 v' n xs/\K w w':=by
 have kk:=K.rf w
 have j:=λ(W:World) (a:Option Addr) (l c:Nat)=>Qj (P:=prog) W 94 5 a l c underlying94
 go_enter func207,ntmps207
 cases A with
 | none => exact Qk
 | some ad => exact agB
theorem ab4 A n c xs w(hR:Reads w w.heap.size 3 A n xs)(y:∀u∈xs,u.oneCell'=true)(hn:n<=1000000000) :
 Calls prog 116 #[.slice A n c] w λe w'=>∃v',e=.returned v'/\w'.ownsRow w.heap.size 26 3 v' n xs/\K w w':=by
 have kk:=K.rf w
 have B:=λ(W:World) (a:Option Addr) (l c:Nat)=>Qj (P:=prog) W 44 26 a l c underlying44
 go_enter func116,ntmps116
 cases A with
 | none => exact Qk
 | some t =>
  have hb:=ai.new w 26 #[];have k1:=hb.aU;have ho:(w.alloc (.cells #[] 26)).ownsRow w.heap.size 26 3 (.slice (some ⟨w.heap.size,0,none⟩) 0 0) 0 [] :=
   ⟨rfl,.inr ⟨w.heap.size,0,_,rfl,aD _,hb,aD _,BW,aj,aj⟩⟩
  have j:=(hR.below k1 (aD _)).more k1.size;go_wp2_with (at_builtin;refine iW rfl _ _ 44 rfl w.heap.size 26 _ 3 24 wU _ 0 [] rfl ho _ (some t) n c xs rfl j y ?p1 k1.size ?_)
  case p1=>omega
  exact Wl
theorem ab5 A n c xs w(hR:Reads w w.heap.size 5 A n xs)(y:∀u∈xs,u.oneCell'=true)(hn:n<=1000000000) :
 Calls prog 316 #[.slice A n c] w λe w'=>∃v',e=.returned v'/\w'.ownsRow w.heap.size 73 5 v' n xs/\K w w':=by
 have kk:=K.rf w
 have B:=λ(W:World) (a:Option Addr) (l c:Nat)=>Qj (P:=prog) W 53 73 a l c underlying53
 go_enter func316,ntmps316
 cases A with
 | none => exact Qk
 | some t =>
  have hb:=ai.new w 73 #[];have k1:=hb.aU;have ho:(w.alloc (.cells #[] 73)).ownsRow w.heap.size 73 5 (.slice (some ⟨w.heap.size,0,none⟩) 0 0) 0 [] :=
   ⟨rfl,.inr ⟨w.heap.size,0,_,rfl,aD _,hb,aD _,BW,aj,aj⟩⟩
  have j:=(hR.below k1 (aD _)).more k1.size;go_wp2_with (at_builtin;refine iW rfl _ _ 53 rfl w.heap.size 73 _ 5 56 TF _ 0 [] rfl ho _ (some t) n c xs rfl j y ?p1 k1.size ?_)
  case p1=>omega
  exact Wl
theorem arZ(a b:Nat)(t:a<4294967296)(hb:b<4294967296):bits .or .i64 (a:Int) (b:Int)=((a ||| b:Nat):Int):=by
 have j:a ||| b<2^32:=Nat.or_lt_two_pow af af
 show IntKind.i64.wrap ((BitVec.ofInt 64 (a:Int) ||| BitVec.ofInt 64 (b:Int)).toNat:Int)=_;rw[BitVec.toNat_or,ofInt_u64 a af,ofInt_u64 b af,IntKind.wrap_i64];omega
theorem ab6 g A u c t k(l:List UInt8) w(hb:ai w g 94 #[.slice (some ⟨A,u,none⟩) l.length c])(B:∀j (G:j<l.length),w.cell? ⟨A,u+j,none⟩=some (.int .u8 (l[j].toNat:Int)))
 (S:t+k<=l.length) (T:l.length<=c) (U:0<k) (hk:k<=4) (Q:l.length<=1000000000) :
 Calls prog 205 #[.int .i64 t,.int .i64 k,.pointer (some ⟨g,0,none⟩)] w λe w'=>e=.returned (.int .i64 (jc ((l.drop t).take k):Int))/\K w w':=by
 have C:=K.rf w
 have q:=hb.cell
 have F:=ae B
 have M:(t:Int)+k<=(l.length:Int):=af
 have O:(l.length:Int)<=c:=af
 have V:¬c=t:=af
 clear B hb
 go_enter func205,ntmps205
 go_wp2_with fail
 go_loop [6,8,16] (fun n _ i=>∃j:Nat,j<=k/\i=.int .i64 j/\∃m:Nat,n=.int .i64 m/\Hid (m=jc ((l.drop t).take j))) (fun _ _ i=>k-(intOf i).toNat)
 case atStart=>exact⟨0,af,rfl,0,rfl,ae cV⟩
 case round =>
  obtain⟨j,G,rfl,m,rfl,y⟩:=hrel;by_cases J:j<k
  ·have H:(j:Int)<k:=af;have N:w.cell? ⟨A,u+t+j,none⟩=some (.int .u8 ((l[t+j]'af).toNat:Int)):=by have:=F.aa (t+j) af;rwa [Nat.add_assoc]
   have R:=(l[t+j]'af).toNat_lt;have E:Hid (jc ((l.drop t).take (j+1))=m*256+(l[t+j]'af).toNat):=ae (by rw[gJ (by simp;omega),UR,y.aa];simp);have hm:m<16777216:=by have:=Ld ((l.drop t).take j);rw[<- y.aa]at this;have I:((l.drop t).take j).length<=3:=ba;have L:256^((l.drop t).take j).length<=256^3:=Nat.pow_le_pow_right ax I;omega
   generalize (l[t+j]'af).toNat=x at *;have D:=ae (show bits BinOp.or IntKind.i64 ((m:Int)*256) (x:Int)=((m*256+x:Nat):Int) by
    rw[show (m:Int)*256=((m*256:Nat):Int) by simp,arZ _ _ af af,nat_join 8 _ _ af af])
   go_wp2;go_round
   case rel=>exact⟨j+1,af,bI,m*256+x,by rw[D.aa],ae E.aa.symm⟩
   case measure=>simp[intOf];omega
  ·have H:¬(j:Int)<k:=af;obtain rfl:j=k:=af;go_wp2;go_ret;exact⟨by rw[<- y.aa];rfl,C⟩
def frames(j:List (List UInt8)):List UInt8:=j.flatMap frame
theorem atQ(t:List (List UInt8))(j:Nat)(h:j<t.length)(u:ij t[j]=true) :
 ∃rest,frames t=frames (t.take j)++(frame t[j]++rest)/\jc (((frames t).drop (frames (t.take j)).length).take 2)=t[j].length/\jc (((frames t).drop ((frames (t.take j)).length+2)).take 4)=xL t[j] /\
  ((frames t).take ((frames (t.take j)).length+6+t[j].length)).drop ((frames (t.take j)).length+6)=t[j]/\(frames t).length=(frames (t.take j)).length+6+t[j].length+rest.length/\(frames (t.take (j+1))).length=(frames (t.take j)).length+6+t[j].length:=by
 have e:frames t=frames (t.take j)++(frame t[j]++frames (t.drop (j+1))):=by unfold frames;conv=>lhs;rw[<- List.take_append_drop j t,List.flatMap_append,<- List.getElem_cons_drop h,uy]
 have y:t[j].length<=4000:=by simp only[ij,dC,decide_eq_true_eq]at u;exact u.2
 have A:=Wk t[j]
 refine⟨_,e,?_,?_,?_,?_,?_⟩
 ·rw[e,List.drop_left,frame,eu,eu,List.take_left' (vQ 2 _),VD];exact Nat.mod_eq_of_lt af
 ·rw[e,List.drop_append,List.drop_of_length_le af,aO,Nat.add_sub_cancel_left,frame,eu,eu,List.drop_left' (vQ 2 _),List.take_left' (vQ 4 _),VD];exact Nat.mod_eq_of_lt af
 ·rw[e,Nat.add_assoc,List.take_append,gQ (show (frames (t.take j)).length<=_ by omega),Nat.add_sub_cancel_left,List.drop_append,List.drop_of_length_le af,aO,Nat.add_sub_cancel_left,
   List.take_left' (by rw[BU];rfl),frame,List.drop_left' (by simp[vQ])]
 ·rw[e];simp only[dx,BU,xV];omega
 ·rw[gJ h];simp only[frames,List.flatMap_append,uy,List.flatMap_nil,List.append_nil,dx,BU,xV];omega
theorem aqB t v w A c(hv:v=.slice A (frames t).length c)(Q:Reads w w.heap.size 1 A (frames t).length (dS (frames t)))(D:(frames t).length<=c)(hn:(frames t).length<=1000000000)(O:∀b∈t,ij b=true) :
 Calls prog 117 #[v] w λe w'=>∃v',e=.returned (.tuple #[v',.int .i64 ((frames t).length:Int)])/\aB (λk=>k<w.heap.size) w.heap.size 94 ly t v' w'/\K w w':=by
 subst hv
 have j0:=ae O
 have p8:=ae λj h=>atQ t j h (O _ (bZ h))
 have hrl:t.length<=(frames t).length:=by
  clear Q D hn j0 p8
  induction t with
  | nil=>simp
  | cons b t ih => have:=ih (λb hb=>O b (by simp[hb]));simp only[frames,uy,dx,fg,BU,xV]at this⊢;omega
 have HE:Hid ((frames (t.take t.length)).length=(frames t).length):=ae (by rw[nC])
 obtain⟨L,V⟩:∃L,L=frames t:=⟨_,rfl⟩
 have HL:=ae V
 rw[<- V]at Q D hn hrl HE p8⊢
 clear V O
 have hb0:=ai.new w 94 #[.slice A L.length c]
 have M:=hb0.aU
 go_enter func117,ntmps117
 go_wp2
 go_step3
 go_wp2_with fail
 generalize w.alloc _=w0 at *
 have Bg:=(Q.below M (aD _)).more M.size
 have kN:=aB.nil (λk=>k<w.heap.size) w0.heap.size 94 ly w0
 clear Q
 go_step3
 go_wp2_with fail
 go_loopw [4,5,7,8,9] (fun o at_ _ _ _ W=>∃j:Nat,j<=t.length/\at_=.int .i64 ((frames (t.take j)).length:Int)/\aB (fun k=>k<w.heap.size) w0.heap.size 94 ly (t.take j) o W/\K w0 W) (fun _ at_ _ _ _ _=>L.length+1-(intOf at_).toNat)
 case atStart=>exact⟨0,af,rfl,by simpa using kN,K.rf w0⟩
 case round =>
  clear kN;obtain⟨j,hj,rfl,E,kr⟩:=hrel;have G:=hb0.ay kr;have q:=G.cell;have hgr:=G.lt;have krw:=M.tr kr;by_cases hlt:j<t.length
  ·obtain⟨rest,h1,h2,h3,X,h5,h6⟩:=p8.aa j hlt;have hx:=j0.aa _ (bZ hlt);have HT:=ae (gJ hlt);simp only[ij,dC,decide_eq_true_eq]at hx;obtain⟨hx1,hx2⟩:=hx;have H6:=ae h6;have H1:=ae h1;have HX:=ae X;generalize (frames (t.take j)).length=y at *;generalize t[j]=x at *;have H:(L.length:Int)=y+6+(x.length:Int)+rest.length:=af;have JM:6<(L.length:Int)-(y:Int):=af;have aN:((x.length:Int)==0)=false:=by rw[beq_eq_false_iff_ne];omega
   have hb2:¬4000<(x.length:Int):=af;have bG:¬((L.length:Int)-((y:Int)+6)<(x.length:Int)):=af;have hb4:(y:Int)+6+(x.length:Int)<=c:=af;have HLI:=ae H;clear H;have h0L:0<L.length:=af;have U:=(Bg.below kr (aD _)).more kr.size;obtain⟨C,F,rfl,hbk,T⟩:=U.at_ h0L;have C1:=ae (ab6 w.heap.size C F c y 2 L wr G T af D af af hn);rw[h2]at C1;have C2:Hid (∀W,K wr W->Calls prog 205 #[.int .i64 ((y:Int)+2),.int .i64 4,.pointer (some ⟨w.heap.size,0,none⟩)] W λe w'=>e=.returned (.int .i64 (xL x:Int))/\K W w'):=ae λW k=>by have h:=ab6 w.heap.size C F c (y+2) 4 L W (G.below k hgr) (λi hi=>(k.cell (p:=⟨C,F+i,none⟩) hbk).trans (T i hi)) af D af af hn;rw[h3]at h;exact h
   have hcut:=U.cut (y+6) (y+6+x.length) c af af D;rw[show ((dS L).take (y+6+x.length)).drop (y+6)=dS x from by unfold dS;rw[<- List.map_take,<- List.map_drop,X],show y+6+x.length-(y+6)=x.length by omega,if_neg (show ¬c=y+6 by omega)]at hcut;have CS:=ae λW (k:K wr W)=>acY x (.slice (some ⟨C,F+(y+6),none⟩) x.length (c-(y+6))) W ⟨_,_,rfl,(hcut.below k (aD _)).more k.size⟩ af
   have CB:=ae λW (k:K wr W)=>apd (some ⟨C,F+(y+6),none⟩) x.length (c-(y+6)) (dS x) W ((hcut.below k (aD _)).more k.size) (xw x) af
   have hcs:=Wk x;have hne:¬c=y+6:=af;clear h1 h2 h3 X h5 h6 hcut T U;go_wp2_with fail
   apply aM C1.aa;intro w1 J;have q1:=(G.below J hgr).cell;clear q;go_wp2_with fail
   rw[show y+6+x.length-(y+6)=x.length from by omega];apply cG (C2.aa w1 J) J;intro w2 k2 Z;go_wp2_with fail
   apply cG (CS.aa w2 Z) Z;intro Y k3 R;have hcb:((xL x:Int) != (xL x:Int))=false:=aj;clear q1 J k2 Z k3;generalize xL x=sx at *;go_wp2_with fail
   apply bS (CB.aa Y R);rintro I N⟨B,k4⟩;replace B:Own N Y.heap.size 5 I x:=by unfold Own;exact B
   have rm:=R.tr k4;have bT:=E.blk;have cI:=(E.st rm).st ((K.rf N).al (.cells #[I] 94));have hz:=R.size;have hF:Fx (λk=>k<Y.heap.size) (λW=>ly.rel x [I] W) N:=λW u=>⟨I,rfl,eT (i6 B u λb hb h=>by have:=(B.lt b hb).1;omega)⟩
   obtain⟨A4,c4,rfl,-⟩:=B.slice;have hr:=eD.new (S:=ly) (e:=94) (v:=.slice A4 x.length c4) hF 0 (eV _);have M8:=(kr.tr rm).tr ((K.rf N).al (.cells #[.slice A4 x.length c4] 94));have hwz:=krw.size;clear E hF B C1 C2 CS CB;go_wp2_with (at_builtin;refine jN rfl _ _ 119 rfl _ 1 24 Sj rfl rfl cI _ rfl x ?p1 ?p2 ?p3 ?_)
   case p1=>exact hr.less λk hk=>agC
   case p2=>simp;omega
   case p3=>exact M8.size
   intro v9 w9 bq bC _ aY;rw[<- HT.aa]at bq;have k9:K w0 w9:=by exact M8.trans aY
   clear hr cI;go_wp2;go_roundw
   case rel=>exact⟨j+1,af,by rw[H6.aa];go_num,bq,k9⟩
   case measure=>simp[intOf];omega
  ·obtain rfl:j=t.length:=af;rw[nC]at E;have H:((frames (t.take t.length)).length:Int)=(L.length:Int):=Ll;rw[H];have JM:¬6<(L.length:Int)-(L.length:Int):=af;clear H;go_wp2;try rw[iq]
   go_ret2;exact⟨_,rfl,E.low M.size,krw⟩
structure gS(d:pC)(s:dA):Prop where
 eZ:∀r∈d.eZ,dR r=true/\jQ r/\(bL r).length<=4000
 run:js bU d.eZ=some s
 fit:ir d.eZ<=d.room
 room:d.room<=1048576
theorem atS n:1<=(az n).length:=by grind [az]
theorem acZ r:1<=(bL r).length:=by
 grind [atS,bf,bL,dx]
theorem Vp{r}(h:(bL r).length<=4000):ij (bL r)=true:=by
 grind [acZ,ij]
theorem O6 l:(frames (l.map bL)).length=ir l:=by
 induction l with
 | nil=>rfl
 | cons r l j =>
  grind [frames,dx,BU,ir]
theorem atT l:7*l.length<=ir l:=by
 induction l with
 | nil=>simp[ir]
 | cons r l j =>
  grind [acZ,ir,fg,xV]
theorem axj l(h:∀r∈l,dR r=true/\jQ r):∀s t,rS s->js s l=some t->rS t:=by
 induction l with
 | nil=>intro s t i e;injection e with e;exact e▸i
 | cons r l j =>
  intro s t i e
  simp only[js]at e
  cases h1:dZ s r with
  | none=>rw[h1]at e;cases e
  | some u => rw[h1]at e;obtain⟨a,b⟩:=h r aj;exact j (λq y=>h q aA) u t (i.on a b h1) e
theorem axk l:∀s t,js s l=some t->t.list.length<=s.list.length+l.length/\t.prom.length<=s.prom.length+l.length/\t.ab.length<=s.ab.length+l.length:=by
 induction l with
 | nil=>intro s t e;injection e with e;subst e;simp
 | cons r l j =>
  intro s t e
  simp only[js]at e
  cases h1:dZ s r with
  | none=>rw[h1]at e;cases e
  | some u =>
   rw[h1]at e
   have a:=ajy s u r h1
   grind
theorem avV l a:(ja l a).length<=l.length:=mw _ _
theorem ayx{s t r}(e:dZ s r=some t):t.list.length+t.prom.length+t.ab.length<=s.list.length+s.prom.length+s.ab.length+1:=by
 unfold dZ zo xR xS xT zq at e
 grind [dx,fg,List.length_nil,avV,ar,iP]
theorem axl l:∀s t,js s l=some t->t.list.length+t.prom.length+t.ab.length<=s.list.length+s.prom.length+s.ab.length+l.length:=by
 induction l with
 | nil=>intro s t e;injection e with e;subst e;simp
 | cons r l j =>
  intro s t e
  simp only[js]at e
  cases h1:dZ s r with
  | none=>rw[h1]at e;cases e
  | some u =>
   rw[h1]at e
   have a:=ayx h1
   grind
theorem avW{s t r}(u:dR r=true)(e:dZ s r=some t):∀q∈cM t,q∈cM s∨q=r∨q.kind=1:=by
 have A:∀(p:List aK) a q,q∈lG (ja p a)->q∈lG p:=λp a q j=>by
  grind [lG,List.mem_map_of_mem,Pq]
 have B:∀n,∀q∈wF n,q.kind=1:=λn q j=>by
  grind [dR,dZ,cM,wF]
 intro q j
 obtain⟨k,n,x,b,l,c⟩:=r
 have hk:=BR u
 simp only at hk
 unfold cM at j⊢
 simp only[Eh]at j⊢
 unfold dZ zo xR xS xT zq at e
 simp only at e
 repeat' split at e
 all_goals first|(cases e;done)|(injection e with e;subst e)
 all_goals try simp only at j⊢
 all_goals rcases j with ((j|j)|j)|j
 all_goals first
  | exact .inr (.inr (B _ _ j))
  | exact .inl (.inl (.inl (.inr j)))
  | exact .inl (.inl (.inr j))
  | exact .inl (.inl (.inr (A _ _ _ j)))
  | exact .inl (.inr j)
  | skip
 ·grind [dR,dZ,cM,mE]
 ·grind [dR,dZ,cM,lG]
 ·unfold pQ at j;rename_i E C y D h6;rw[List.map_append,Eh]at j;rcases j with j|j
  ·exact .inl (.inr j)
  ·simp at j;rcases hk with ⟨g,_⟩|⟨g,_⟩|⟨_,_,rfl,rfl⟩
   ·omega
   ·omega
   ·subst y;exact .inr (.inl j)
theorem atU l(h:∀r∈l,dR r=true):∀s t,js s l=some t->∀q∈cM t,q∈cM s∨q∈l∨q.kind=1:=by
 induction l with
 | nil=>intro s t e q j;injection e with e;subst e;exact .inl j
 | cons r l y =>
  intro s t e q j
  simp only[js]at e
  cases h1:dZ s r with
  | none=>rw[h1]at e;cases e
  | some u =>
   rw[h1]at e;rcases y (λq j=>h q aA) u t e q j with a|a|a
   ·rcases avW (h r aj) h1 q a with b|b|b;all_goals grind
   all_goals grind
section
variable {d:pC} {s t:dA} {r:Rec}
theorem gS.inv(h:gS d s):rS s:=axj _ (λr j=>⟨(h.eZ r j).1,(h.eZ r j).2.1⟩) _ _ rS.zero h.run
theorem gS.cnt(h:gS d s):d.eZ.length<=150000:=by have:=atT d.eZ;have:=h.fit;have:=h.room;omega
theorem gS.len(h:gS d s):s.list.length<=150000/\s.prom.length<=150000/\s.ab.length<=150000:=by have a:=axk _ _ _ h.run;have b:=h.cnt;simp only[bU,List.length_nil]at a;omega
theorem gS.tot(h:gS d s):s.list.length+s.prom.length+s.ab.length<=150000:=by have a:=axl _ _ _ h.run;have b:=h.cnt;simp only[bU,List.length_nil]at a;omega
theorem gS.next(h:gS d s)(y:dR r=true)(A:jQ r)(u:uC d r=true)(e:dZ s r=some t):gS ⟨d.eZ++[r],d.room⟩ t:=by
 simp only[uC,dC,decide_eq_true_eq]at u;refine⟨λq j=>?_,?_,?_,h.room⟩
 ·simp only[Eh,List.mem_singleton]at j;rcases j with j|rfl
  ·exact h.eZ q j
  ·grind
 ·show js bU (d.eZ++[r])=_;rw[PD,h.run];simp[js,e]
 ·grind [dR,jQ,uC,dZ,ir,xV,bL]
theorem rS.bP(h:rS s):rS (bP s):=⟨h.nl,h.np,h.na,h.lp,h.la,h.pa,h.zw,h.zx,h.GY,Nat.mod_lt _ ax⟩
theorem gS.small(h:gS d s):∀q∈cM (bP s),(bL q).length<=4000:=by
 intro q j;have y:=V7 h.inv.bP agD q j;have hk:q∈cM s∨q.kind=1:=by
  grind [cM,bP,bL,wF]
 have t:q∈d.eZ∨q.kind=1:=by
  rcases hk with a|a
  ·rcases atU _ (λr u=>(h.eZ r u).1) _ _ h.run q a with b|b|b
   ·grind [cM,bU,wF,mE,lG,pQ]
   ·grind
   ·omega
  ·omega
 rcases t with a|a
 ·exact (h.eZ q a).2.2
 ·have e:bL q=az (bf q.kind)++az q.n:=by grind [bL]
  have B:=cS (bf q.kind) (gP q.kind);have A:=cS q.n y.2.2.1;rw[e,dx];omega
theorem gS.life(h:gS d s)(u:ir (cM (bP s))<=d.room):gS ⟨cM (bP s),d.room⟩ (bP s):=by have t:=V7 h.inv.bP agD;exact⟨λq j=>⟨(t q j).1,(t q j).2,h.small q j⟩,avM h.inv.bP,u,h.room⟩
theorem gS.new{room}(h:room<=1048576):gS ⟨[],room⟩ bU:=⟨aj,rfl,by simp[ir],h⟩
end
structure gN(gd:Nat)(vh:Value)(l:List UInt8)(gZ room:Nat)(w:World):Prop where
 blk:ai w gd 145 #[vh,.int .i64 (gZ:Int),.int .i64 (room:Int)]
 own:Own w 0 5 vh l
 len:l.length<=room
 room:room<=1048576
def lP(gd:Nat)(vh:Value)(k:Nat):Prop:=k=gd∨vh.ownBlock=some k
structure kO(gd:Nat)(vh dI:Value)(w w':World):Prop where
 up:ag (lP gd vh) w w'
 new:∀k,lP gd dI k->lP gd vh k∨w.heap.size<=k
section
variable {gd:Nat} {vh dI Ml:Value} {l:List UInt8} {gZ room:Nat} {w w' w'':World}
theorem gN.st(h:gN gd vh l gZ room w)(k:K w w'):gN gd vh l gZ room w':=⟨h.blk.ay k,qv h.own k,h.len,h.room⟩
theorem gN.ne(h:gN gd vh l gZ room w):vh.ownBlock≠some gd:=λe=>by obtain⟨cur,h1⟩:=mq h.own e;exact Wm
theorem gN.lt(h:gN gd vh l gZ room w):∀k,lP gd vh k->k<w.heap.size:=λk hk=>hk.elim (λe=>e▸h.blk.lt) λe=>(h.own.lt k e).2
theorem kO.rf(k:K w w'):kO gd vh vh w w':=⟨ag.aT k _,λ_ h=>.inl h⟩
theorem kO.tr(h:kO gd vh dI w w')(k:kO gd dI Ml w' w''):kO gd vh Ml w w'' :=
 ⟨h.up.gF k.up λb hb t=>(h.new b t).resolve_right af,λb hb=>(k.new b hb).elim (λj=>h.new b j) λj=>.inr (bn h.up.size j)⟩
theorem kO.k(h:kO gd vh dI w w')(k:K w' w''):kO gd vh dI w w'':=h.tr (kO.rf k)
end
theorem agE(room:Nat) w(h:room<=1048576) :
 Calls prog 41 #[.int .i64 room] w λe w'=>e=.returned (.tuple #[.pointer (some ⟨w.heap.size,0,none⟩),.int .i64 0])/\gN w.heap.size (.slice none 0 0) [] 0 room w'/\K w w':=by
 have u:¬(room:Int)<0:=af
 have t:¬1048576<(room:Int):=af
 have hb:=ai.new w 145 #[.slice none 0 0,.int .i64 0,.int .i64 room]
 have j:=hb.aU
 go_enter func41,ntmps41
 go_wp2
 go_ret2
 exact⟨rfl,⟨hb,kU _ _ _ _,aj,h⟩,j⟩
def tR(l b:List UInt8)(room:Nat):List UInt8×Int:=if l.length+b.length<=room then (l++b,0)else (l,90)
theorem abO gd vh v l b y room w(h:gN gd vh l y room w)(hb:sl b v w)(hn:b.length<=1000000000) :
 Calls prog 59 #[.pointer (some ⟨gd,0,none⟩),v] w λe w'=>∃E,e=.returned (.int .i64 (tR l b room).2)/\gN gd E (tR l b room).1 y room w'/\kO gd vh E w w':=by
 have HA:Hid (tR l b room=if l.length+b.length<=room then (l++b,0)else (l,90)):=ae rfl
 generalize tR l b room=R at *
 have Q:=h.ne
 obtain⟨A,c,rfl,-⟩:=h.own.slice
 obtain⟨I,F,rfl,L⟩:=hb
 have Z:=h.len
 have O:=h.room
 have q:=h.blk.cells
 have H:=ae h
 clear h
 go_enter func59,ntmps59
 go_wp2
 refine Kz 0 rfl ?_
 have C:IntKind.i64.wrap ((room:Int)-(l.length:Int))=(room:Int)-(l.length:Int):=IntWalk.i64_in _ af
 go_upto_region 3 with (fail)
 have qs:=And.intro q C
 refine dV 13 ?_
 iterate 13 refine au.i ?_
 clear qs
 intro V W kW hA
 simp only[aO,aR,cC,aJ,Nat.reduceAdd]at hA
 refine aH.h ?_
 clear hA q C
 have t:=ae (H.aa.st kW)
 have G:=(L.below kW (aD _)).more kW.size
 have q:=t.aa.blk.cell
 have z:=t.aa.blk.frozen
 by_cases hfit:l.length+b.length<=room
 ·have J:decide ((room:Int)-(l.length:Int)<b.length)=false:=ba;have HR:Hid (R=(l++b,0)):=ae agF;go_wp2_with (at_builtin;refine iW rfl _ _ 94 rfl 0 5 _ 1 1 TB _ _ _ rfl t.aa.own _ I b.length F (dS b) rfl G (xw b) ?p1 (eV _) ?_)
  case p1=>omega
  intro j u dG D M S;have B:Own u 0 5 j (l++b):=agG;have hx2:=t.aa.blk.grown D λe=>Q e.symm
  have N:j.ownBlock≠some gd:=λe=>by obtain⟨cur,h1⟩:=mq B e;exact Qi
  have hV:gN gd j (l++b) y room (u.setCell ⟨gd,0,none⟩ j) :=
   ⟨hx2.aQ 0 j,i6 B (ag.bM (X:=λk=>k=gd) rfl 0 j) λk hk e=>N vV,ba,O⟩
  have hU:kO gd (.slice A l.length c) j w (u.setCell ⟨gd,0,none⟩ j):=by
   have U:=kW.size;refine⟨((ag.aT kW _).tr (ag.eU D λk hk=>.inr hk)).tr (ag.bM (.inl rfl) 0 j),λk hk=>?_⟩;rcases hk with hk|hk
   ·exact .inl (.inl hk)
   ·rcases M with e|e <;> rw[e]at hk
    ·exact .inl (.inr hk)
    grind
  clear q z;have Y:=hx2.cell;have T:=hx2.frozen;obtain⟨A2,c2,rfl,-⟩:=B.slice;simp only[dx]at hV hU;go_wp2;simp only[Exit.jump];exact agH
 ·have J:decide ((room:Int)-(l.length:Int)<b.length)=true:=ba;have HR:Hid (R=(l,90)):=ae agI;go_wp2_with fail
  go_step3;refine⟨rfl,?_⟩;go_wp2;rw[iq];go_ret;exact⟨_,fW,by rw[HR.aa];exact t.aa,kO.rf kW⟩
theorem aqC gd vh l u room w(h:gN gd vh l u room w) :
 Calls prog 305 #[.pointer (some ⟨gd,0,none⟩)] w λe w'=>e=.returned (.int .i64 0)/\gN gd vh l l.length room w'/\kO gd vh vh w w':=by
 have y:=h.ne
 obtain⟨A,c,rfl,-⟩:=h.own.slice
 have q:=h.blk.cell
 have z:=h.blk.frozen
 have j:gN gd (.slice A l.length c) l l.length room (w.setCell ⟨gd,1,none⟩ (.int .i64 l.length)) :=
  ⟨h.blk.aQ 1 (.int .i64 l.length),i6 h.own (ag.bM (X:=λk=>k=gd) rfl 1 _) λk hk e=>y vV,h.len,h.room⟩
 have t:kO gd (.slice A l.length c) (.slice A l.length c) w (w.setCell ⟨gd,1,none⟩ (.int .i64 l.length)):=⟨ag.bM (.inl rfl) 1 _,λ_ h=>.inl h⟩
 clear h
 go_enter func305,ntmps305
 go_wp2
 go_ret
 exact⟨rfl,j,t⟩
theorem ar0 gd vh l C room w(h:gN gd vh l C room w) :
 Calls prog 118 #[.pointer (some ⟨gd,0,none⟩),.int .i64 l.length] w λe w'=>e=.returned (.int .i64 0)/\gN gd vh l l.length room w'/\kO gd vh vh w w':=by
 have t:=h.ne
 have E:=h.len
 have G:=h.room
 have j:=h.own
 have u:∃A c,vh=.slice A l.length c/\l.length<=c:=by
  rcases j.2 with ⟨rfl,H⟩|⟨g,cap,cur,rfl,-,-,I,-⟩
  ·grind
  ·grind
 obtain⟨A,c,rfl,D⟩:=u
 have q:=h.blk.cell
 have z:=h.blk.frozen
 have F:(l.length:Int)<=c:=af
 have y:gN gd (.slice A l.length c) l l.length room ((w.setCell ⟨gd,0,none⟩ (.slice A l.length c)).setCell ⟨gd,1,none⟩ (.int .i64 l.length)):=by refine⟨(h.blk.aQ 0 (.slice A l.length c)).aQ 1 (.int .i64 l.length),?_,h.len,h.room⟩;exact i6 (i6 h.own (ag.bM (X:=λk=>k=gd) rfl 0 _) λk hk e=>t vV) (ag.bM (X:=λk=>k=gd) rfl 1 _) λk hk e=>t vV
 have B:kO gd (.slice A l.length c) (.slice A l.length c) w ((w.setCell ⟨gd,0,none⟩ (.slice A l.length c)).setCell ⟨gd,1,none⟩ (.int .i64 l.length)):=⟨(ag.bM (.inl rfl) 0 _).tr (ag.bM (.inl rfl) 1 _),λ_ h=>.inl h⟩
 clear h j
 go_enter func118,ntmps118
 go_wp2
 go_ret
 exact⟨rfl,y,B⟩
def xW(l b:List UInt8)(room:Nat):List UInt8×Int:=if b.length<=room then (b,0)else (l,90)
theorem aqD gd vh v l b room w(h:gN gd vh l l.length room w)(hb:sl b v w)(hn:b.length<=1000000000) :
 Calls prog 285 #[.pointer (some ⟨gd,0,none⟩),v] w λe w'=>∃D,e=.returned (.int .i64 (xW l b room).2)/\gN gd D (xW l b room).1 (xW l b room).1.length room w'/\kO gd vh D w w':=by
 have HA:Hid (xW l b room=if b.length<=room then (b,0)else (l,90)):=ae rfl
 generalize xW l b room=R at *
 have S:=h.ne
 have M:=h.room
 have G:=h.blk.lt
 obtain⟨F,E,rfl,J⟩:=hb
 have L:=ae (OW F b.length E (dS b) w J (xw b) hn)
 have q:=h.blk.cell
 have H:=ae h
 clear h
 go_enter func285,ntmps285
 go_wp2
 refine Kz 0 rfl ?_
 by_cases hfit:b.length<=room
 ·have I:¬(room:Int)<b.length:=af;have HR:Hid (R=(b,0)):=ae agF;go_wp2_with fail
  apply bS L.aa;rintro j y⟨A,B⟩;have u:Own y w.heap.size 5 j b:=A;have t:=H.aa.blk.below B G;have C:j.ownBlock≠some gd:=λe=>by have:=(u.lt gd e).1;omega
  have hV:gN gd j b b.length room ((y.setCell ⟨gd,0,none⟩ j).setCell ⟨gd,1,none⟩ (.int .i64 b.length)):=by refine⟨(t.aQ 0 j).aQ 1 (.int .i64 b.length),?_,hfit,M⟩;exact i6 (i6 (mN (eV _) A) (ag.bM (X:=λk=>k=gd) rfl 0 j) λk hk e=>C vV) (ag.bM (X:=λk=>k=gd) rfl 1 _) λk hk e=>C vV
  have hU:kO gd vh j w ((y.setCell ⟨gd,0,none⟩ j).setCell ⟨gd,1,none⟩ (.int .i64 b.length)) :=
   ⟨((ag.aT B _).tr (ag.bM (.inl rfl) 0 j)).tr (ag.bM (.inl rfl) 1 _),λk hk=>hk.elim (λe=>.inl (.inl e)) λe=>.inr (u.lt k e).1⟩
  clear q;have O:=t.cell;have N:=t.frozen;obtain⟨Q,c2,rfl,-⟩:=u.slice;clear u A t;go_wp2;try simp only[Exit.jump]
  exact agH
 ·have I:(room:Int)<b.length:=af;have HR:Hid (R=(l,90)):=ae agI;go_wp2_with fail
  go_step3;refine⟨rfl,?_⟩;go_wp2;rw[iq];go_ret;exact⟨_,fW,by rw[HR.aa];exact H.aa,kO.rf (K.rf w)⟩
theorem acp gd vh l E room w(h:gN gd vh l E room w) :
 Calls prog 60 #[.pointer (some ⟨gd,0,none⟩)] w λe w'=>∃v',e=.returned v'/\Own w' w.heap.size 5 v' l/\K w w':=by
 have F:=h.len
 have G:=h.room
 obtain⟨A,c,rfl,j⟩:=h.own.slice
 have q:=h.blk.cell
 have D:=ae (OW A l.length c (dS l) w j (xw l) af)
 clear h j
 go_enter func60,ntmps60
 go_wp2_with fail
 apply bS D.aa
 rintro C B⟨t,y⟩
 have u:Hid (Own B w.heap.size 5 C l):=ae t
 clear t
 go_wp2
 go_ret
 exact⟨_,rfl,u.aa,y⟩
theorem apN gd vh l room keep w(h:gN gd vh l l.length room w)(hk:cD keep) :
 Calls prog 45 #[.pointer (some ⟨gd,0,none⟩),.int .i64 keep] w λe w'=>e=.returned (.tuple #[])/\gN gd vh l l.length room w'/\kO gd vh vh w w':=by
 have F:=h.ne
 have G:=h.len
 have U:=h.room
 have M:∃A c,vh=.slice A l.length c/\l.length<=c:=by
  rcases h.own.2 with ⟨rfl,T⟩|⟨g,cap,cur,rfl,-,-,N,-⟩
  ·exact⟨_,_,by rw[T],af⟩
  ·exact⟨_,_,rfl,N⟩
 obtain⟨A,c,rfl,Y⟩:=M
 have L:(l.length:Int)<=c:=af
 have q:=h.blk.cells
 have E:IntKind.i64.wrap ((l.length:Int)-(l.length:Int))=0:=by rw[Int.sub_self];rfl
 have H:=ae h
 clear h
 go_enter func45,ntmps45
 go_upto_region 1 with (fail)
 have qs:=And.intro q E
 refine dV 14 ?_
 iterate 14 refine au.i ?_
 clear qs
 intro V W kW hA
 simp only[aO,aR,cC,aJ,Nat.reduceAdd]at hA
 refine aH.h ?_
 first
 | rw[show min (max keep 0) (IntKind.i64.wrap 0)=0 from by
  rw[show IntKind.i64.wrap 0=0 from rfl];omega]
 | rw[show (if IntKind.i64.wrap 0<(if keep<0 then (0:Int)else keep)then IntKind.i64.wrap 0 else if keep<0 then 0 else keep)=0 from by
  rw[show IntKind.i64.wrap 0=0 from rfl];split <;> split <;> omega]
 have j:=H.aa.st kW
 have R:=j.blk.cell
 have z:=j.blk.frozen
 have u:=j.blk.aQ 1 (.int .i64 l.length)
 have I:=i6 j.own (ag.bM (X:=λk=>k=gd) rfl 1 (.int .i64 l.length)) λk hk e=>F vV
 have J:ag (lP gd (.slice A l.length c)) w (W.setCell ⟨gd,1,none⟩ (.int .i64 l.length)):=(ag.aT kW _).tr (ag.bM (.inl rfl) 1 _)
 clear hA q E
 go_upto_region 3 with (fail)
 generalize W.setCell _ _=y at *
 clear R z
 have D:=(show ai y gd 145 #[.slice A l.length c,.int .i64 l.length,.int .i64 room]from u).cells
 have qs:=And.intro D L
 refine dV 10 ?_
 iterate 10 refine au.i ?_
 clear qs
 intro V W kW hA
 simp only[aO,aR,cC,aJ,Nat.reduceAdd]at hA
 have t:=(show ai y gd 145 #[.slice A l.length c,.int .i64 l.length,.int .i64 room]from u).below kW (show gd<y.heap.size from u.lt)
 have Q:=qv I kW
 have C:=t.cell
 have B:=t.frozen
 clear D
 iterate 2 (apply aH.pure;rfl;(simp[aF,List.lookup,bj,hA,execOp,aG,go_sem];rfl))
 refine aH.skip (W.setCell ⟨gd,0,none⟩ (.slice A l.length c)) rfl (by simp[aF,List.lookup,bj,hA,execOp,aG,C,B,go_sem]) ?_
 refine aH.e ?_
 have S:gN gd (.slice A l.length c) l l.length room (W.setCell ⟨gd,0,none⟩ (.slice A l.length c)) :=
  ⟨t.aQ 0 (.slice A l.length c),i6 Q (ag.bM (X:=λk=>k=gd) rfl 0 _) λk hk e=>F vV,G,U⟩
 have O:kO gd (.slice A l.length c) (.slice A l.length c) w (W.setCell ⟨gd,0,none⟩ (.slice A l.length c)):=⟨(J.tr (ag.aT kW _)).tr (ag.bM (.inl rfl) 0 _),λ_ h=>.inl h⟩
 clear C B hA
 go_wp2
 all_goals
  go_end0
  exact⟨rfl,S,O⟩
theorem ar1 g base lo v u l b w(hb:ai w g 94 #[v])(t:Own w base 5 v l)(J:sl b u w)(C:lo<=g/\lo<=base/\lo<=w.heap.size)(W:base<=w.heap.size)(hn:b.length<=1000000000)(Y:l.length<=1000000000) :
 Calls prog 311 #[u,.pointer (some ⟨g,0,none⟩)] w λe w'=>∃v',e=.returned (.int .i64 (Ge b))/\ai w' g 94 #[v']/\Own w' base 5 v' (l++Az b)/\Below lo w w':=by
 have M:=ae (aqA b u w J hn)
 have V:(Az b).length<=4006:=agJ
 obtain⟨A,c,rfl,Q⟩:=J
 generalize Az b=f at *
 go_enter func311,ntmps311
 go_wp2_with fail
 refine M.aa.mono ?_
 rintro e w1⟨Z,rfl,O,y⟩
 have B:=hb.ay y
 have D:=UO (aD _) t y
 obtain⟨N,c1,rfl,S⟩:=O.slice
 have hz:=y.size
 have T:v.ownBlock≠some g:=λe=>by obtain⟨cur,h1⟩:=mq D e;exact absurd (h1.ie B) ax
 have q:=B.cell
 clear M hb t Q
 go_wp2_with (at_builtin;refine iW rfl _ _ 94 rfl base 5 _ 1 1 TB _ _ _ rfl D _ N f.length c1 (dS f) rfl S (xw f) ?p1 af ?_)
 case p1=>omega
 intro j E dG I _ G
 have t:Own E base 5 j (l++f):=agG
 have hx2:=B.grown I λe=>T e.symm
 have R:j.ownBlock≠some g:=λe=>by obtain⟨cur,h1⟩:=mq t e;exact Qi
 have H:=hx2.aQ 0 j
 have F:Own (E.setCell ⟨g,0,none⟩ j) base 5 j (l++f):=i6 t (ag.bM (X:=λk=>k=g) rfl 0 j) λk hk e=>R vV
 have L:=((y.mono C.2.2).trans (G.mono C.2.1)).setCell (p:=⟨g,0,none⟩) C.1 j
 have q2:=hx2.cell
 have U:=hx2.frozen
 clear q B D hx2 dG I G
 obtain⟨A2,c2,rfl,-⟩:=t.slice
 simp only[dx]at H F L
 go_wp2
 go_ret
 exact⟨_,rfl,H,F,L⟩
def Ah(j:List (List UInt8)):List UInt8×Int:=if j.all ij then (frames j,0)else ([],30)
def Ai(j:List (List UInt8)):List UInt8:=j.flatMap Az
theorem acq j:(Ai j).length<=j.length*4006:=by
 induction j with
 | nil=>simp[Ai]
 | cons b j t => have u:(Az b).length<=4006:=agJ;simp only[Ai,uy,dx,fg]at t⊢;omega
theorem ac0{j}(h:j.all ij=true):Ai j=frames j:=by
 unfold Ai frames
 rw[xC]at h
 induction j with
 | nil=>rfl
 | cons b j t =>
  grind [ij,Ai,frames,Az]
theorem abP t v w(h:aq ly t v w)(hn:t.length<=200000)(hb:∀b∈t,b.length<=1000000000) :
 Calls prog 284 #[v] w λe w'=>∃v',e=.returned (.tuple #[v',.int .i64 (Ah t).2])/\Own w' w.heap.size 5 v' (Ah t).1/\K w w':=by
 have T:Hid (Ah t=if t.all ij then (frames t,0)else ([],30)):=ae rfl
 generalize Ah t=R at *
 obtain⟨A,c,rfl,hl,-⟩:=h
 have HB:=ae hb
 have y:=ai.new w 94 #[.slice none 0 0]
 have k0:=y.aU
 clear hb
 go_enter func284,ntmps284
 go_wp2_with fail
 generalize w.alloc _=w0 at *
 have nS:Own w0 w.heap.size 5 (.slice none 0 0) []:=kU _ _ _ _
 have hb0:=cT w.heap.size w0
 go_loopw [7,8,12] (fun _ _ i W=>∃(j:Nat) (v':Value),j<=t.length/\i=.int .i64 j/\ai W w.heap.size 94 #[v']/\Own W w.heap.size 5 v' (Ai (t.take j))/\Hid ((t.take j).all ij=true)/\Below w.heap.size w W) (fun _ _ i _=>t.length-(intOf i).toNat)
 case atStart=>exact⟨0,_,af,rfl,y,fP,ae aj,k0⟩
 case round =>
  clear y nS hb0;obtain⟨j,v',hj,rfl,y,B,E,kr⟩:=hrel;by_cases C:j<t.length
  ·have aP:(j:Int)<t.length:=af;obtain⟨b1,Z,cs,rfl,hcl,F,d0,d⟩:=eB hl j C ax;have V:=HB.aa _ (bZ C);have M:=ae (gJ C);have D:Hid (ij t[j]=false->R=([],30)):=ae λh=>by rw[T.aa,if_neg];simp only[xC];intro h2;have:=h2 _ (bZ C);rw[h]at this;cases this
   generalize t[j]=b at *;obtain⟨u,rfl,S⟩:=F w (K.rf w);have cj:wr.cell? ⟨b1,Z+j,none⟩=some u:=by
    grind
   have J:=oh _ _ _ _ S kr;obtain⟨H,Q,rfl⟩:∃H Q,u=.slice H b.length Q:=by obtain⟨A,c,e,-⟩:=S;exact⟨A,c,e⟩
   have gV:=acq (t.take j);have aEQ:(t.take j).length<=200000:=ba;have C1:=ae (ar1 w.heap.size w.heap.size w.heap.size v' _ (Ai (t.take j)) b wr y B J ⟨aD _,aD _,kr.size⟩ kr.size V af);have I:Hid (Ge b=if ij b then 0 else 30):=ae rfl;clear d d0 hcl F J y B;go_wp2_with fail
   refine C1.aa.mono ?_;rintro e U⟨O,rfl,hx2,G,N⟩;cases hok:ij b
   ·have fy:=ae (D.aa hok);rw[show Ge b=30 by rw[I.aa,hok];rfl];clear hok;go_wp2;go_ret2;exact⟨_,Lr,by rw[fy.aa];exact kU _ _ _ _,kr.trans N⟩
   ·have Y:Hid ((t.take (j+1)).all ij=true):=ae (by rw[M.aa,List.all_append,E.aa];simp[hok]);rw[show Ge b=0 by rw[I.aa,hok];rfl];have X:Own U w.heap.size 5 O (Ai (t.take (j+1))):=by rw[M.aa];simpa [Ai]using G
    clear hok G;go_wp2;go_roundw
    case rel=>exact⟨j+1,O,af,bI,hx2,X,Y,kr.trans N⟩
    case measure=>simp[intOf];omega
  ·have aP:¬(j:Int)<t.length:=af;obtain rfl:j=t.length:=af;have fy:Hid (R=(frames t,0)):=ae (by have:=E.aa;rw[nC]at this;rw[T.aa,if_pos this]);have D:Hid (Own wr w.heap.size 5 v' (frames t)):=ae (by have L:=E.aa;rw[nC]at B L;rw[<- ac0 L];exact B);have q:=y.cell;clear B y;go_wp2;go_ret2;exact⟨_,Lr,by rw[fy.aa];exact D.aa,kr⟩
theorem Ui t v w(h:aq ly t v w)(hn:t.length<=200000)(hb:∀b∈t,b.length<=1000000000) :
 Calls prog 121 #[v] w λe w'=>∃v',e=.returned v'/\aB (λk=>k<w.heap.size) w.heap.size 94 ly t v' w'/\K w w':=by
 obtain⟨A,c,rfl,hl,-⟩:=h
 have HB:=ae hb
 obtain⟨i,N,L,M,hz2⟩:=info_parts ajz
 have Y:∀W:World,(Instr.makeSlice 119 (.int .i64 0) (.int .i64 t.length)).run prog W=.ok (.slice (some ⟨W.heap.size,0,none⟩) 0 t.length) (W.alloc (.cells (madeCells #[.slice none 0 0] t.length) 94)):=by intro W;have h:=run_make (P:=prog) W 119 94 i (.slice none 0 0) underlying119 N L .i64 .i64 0 (t.length:Int) af af VA af;rw[M]at h;simpa [Value.cells]using h
 clear N L M hz2 hb
 have E:=ai.new w 94 (madeCells #[.slice none 0 0] t.length)
 have k0:=E.aU
 go_enter func121,ntmps121
 go_wp2_with fail
 generalize w.alloc _=w0 at *
 have kN:aB (λk=>k<w.heap.size) w.heap.size 94 ly [] (.slice (some ⟨w.heap.size,0,none⟩) 0 t.length) w0 :=
  ⟨[],OO (xs:=[]) (rest:=List.replicate t.length (.slice none 0 0)) (aD _) (by rw[aO,<- toList_madeCells_one];exact E) rfl aj BW,rfl,λ_ _=>Each.nil _ _⟩
 clear Y E
 go_loopw [3,5,11] (fun o _ i W=>∃j:Nat,j<=t.length/\i=.int .i64 j/\aB (fun k=>k<w.heap.size) w.heap.size 94 ly (t.take j) o W/\K w W) (fun _ _ i _=>t.length-(intOf i).toNat)
 case atStart=>exact⟨0,af,rfl,fP,k0⟩
 case round =>
  clear kN;obtain⟨j,hj,rfl,hO,kr⟩:=hrel;by_cases D:j<t.length
  ·have aP:(j:Int)<t.length:=af;obtain⟨b1,Z,cs,rfl,hcl,H,d0,d⟩:=eB hl j D ax;have U:=HB.aa _ (bZ D);have V:=ae (gJ D);generalize t[j]=b at *;obtain⟨u,rfl,hu⟩:=H w (K.rf w);have cj:wr.cell? ⟨b1,Z+j,none⟩=some u:=by
    grind
   obtain⟨Au,cu,rfl,F⟩:=oh _ _ _ _ hu kr;have Q:=ae (OW Au b.length cu (dS b) wr F (xw b) U);have X:=hO.blk;clear d d0 hcl H F;go_wp2_with fail
   apply bS Q.aa;rintro C B⟨y,G⟩;replace y:Own B wr.heap.size 5 C b:=af;have T:=(hO.st G).st ((K.rf B).al (.cells #[C] 94));have hz:=kr.size;have I:Fx (λk=>k<wr.heap.size) (λW=>ly.rel b [C] W) B:=λW u=>⟨C,rfl,eT (i6 y u λb hb h=>by have:=(y.lt b hb).1;omega)⟩
   obtain⟨J,c4,rfl,-⟩:=y.slice;have O:=eD.new (S:=ly) (e:=94) (v:=.slice J b.length c4) I 0 (eV _);have R:=(kr.tr G).tr ((K.rf B).al (.cells #[.slice J b.length c4] 94));clear hO I y Q;go_wp2_with (at_builtin;refine jN rfl _ _ 119 rfl _ 1 24 Sj rfl rfl T _ rfl b ?p1 ?p2 ?p3 ?_)
   case p1=>exact O.less λk hk=>by rcases hk with hk|hk;omega;have:=X k hk;omega
   case p2=>simp;omega
   case p3=>exact R.size
   intro v9 w9 bq bC _ aY;rw[<- V.aa]at bq;have k9:=R.trans aY;clear O T;exact Wn
  ·have aP:¬(j:Int)<t.length:=af;obtain rfl:j=t.length:=af;rw[nC]at hO;exact Ql
