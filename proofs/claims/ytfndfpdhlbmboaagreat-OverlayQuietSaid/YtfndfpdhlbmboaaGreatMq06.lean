/-
  The walk of slices.Delete on transactions of the call's own (layer 17). Conditions: none.
-/
import Derived.Test.YtfndfpdhlbmboaaGreatMq05
import Derived.Deep.RegionLaw
import Derived.Lib.SlicesDelete
import Derived.Shelf.SlSortCmp.WholeK
import Derived.Deep.QuietTactic
import Derived.BigQuiet
import Derived.Shelf.SlSortCmp.NoneTotal
import Derived.Shelf.Lay
import Derived.Ground.SlsfProg
import Derived.Test.YtfndfpdhlbmboaaGreatMqz
set_option maxRecDepth 100000
set_option maxHeartbeats 16000000
set_option linter.all false
namespace Go.Proofs.YtfndfpdhlbmboaaGreat
open Go Go.RowKit _root_.Go.Proofs.Tryz
theorem T5{α:Type} n:∀(css:List (List α)),(∀cs∈css,cs.length=n)->∀k,(css.take k).flatten=css.flatten.take (k*n)
 | [],_,k=>aj
 | c :: css,h,0=>aj
 | c :: css,h,k+1=>by have hc:=h c aj;have ih:=T5 n css (λx hx=>h x Iz) k;exact af6
theorem T6{α:Type} n:∀(css:List (List α)),(∀cs∈css,cs.length=n)->∀k,(css.drop k).flatten=css.flatten.drop (k*n)
 | [],_,k=>aj
 | c :: css,h,0=>aj
 | c :: css,h,k+1=>by have hc:=h c aj;have j:=T6 n css (λx hx=>h x Iz) k;rw[List.drop_succ_cons,List.flatten_cons,j,List.drop_append,show List.drop ((k+1)*n) c=[]from List.drop_eq_nil_of_le PM,hc,show (k+1)*n-n=k*n by rw[Nat.succ_mul];omega,aN]
theorem ah.ajL:∀(vs:List Value) {w:World} {g o:Nat} {e:TypeId} {cur:Array Value},ah w g e cur->ah (w.setCells g o vs) g e (Lib.lay cur o vs)
 | [],_,_,_,_,_,h=>h
 | v :: r,_,_,o,_,_,h=>ah.ajL r (o:=o+1) (h.aP o v)
theorem acn g:∀(vs:List Value) (o:Nat) (w:World),w.grownBy (w.setCells g o vs) (some g)
 | [],_,w=>⟨rfl,rfl,rfl,aD _,λ_ _ _=>rfl⟩
 | v :: r,o,w=>by have h:=acn g r (o+1) (w.setCell ⟨g,o,none⟩ v);exact⟨h.os,h.tape,h.output,by have j:=h.size;rw[show (w.setCell ⟨g,o,none⟩ v).heap.size=w.heap.size by simp]at j;exact j,λk hk t=>(h.block k sN t).trans (Below.heap_setCell w ⟨g,o,none⟩ v k (by rintro rfl;exact t rfl))⟩
theorem aoD{P w t e z cur}(D:P.underlying t=some (.slice e))(B:∀w,(zeroValue e).run P w=.ok z w) g o(hb:ah w g e cur)(E:o+z.cells.size<=cur.size)(A:∀u∈z.cells.toList,u.oneCell'=true) :
 ∃w',(∀ty c,(Builtin.clear_ #[t] ty #[.slice (some ⟨g,o,none⟩) 1 c]).run P w=.ok (.tuple #[]) w')/\ah w' g e (cur.toList.take o++z.cells.toList++cur.toList.drop (o+z.cells.size)).toArray/\w.grownBy w' (some g):=by
 have j:=run_storeCells_at P g o e z.cells.toList 0 cur w hb af A
 simp only[Nat.add_zero,Array.length_toList]at j
 have C:(Builtin.zeroCells z.cells 1).toList=z.cells.toList:=by
  simp[Builtin.zeroCells];apply List.ext_getElem
  ·simp
  ·grind [Nat.mod_eq_of_lt]
 refine⟨_,λty c=>?_,setRow_heap w g cur _ e _ hb,⟨rfl,rfl,rfl,aj,λk hk y=>setRow_other w g k _ (λe=>y DW)⟩⟩
 simp[Builtin.clear_,run_underlying D,B,C,j]
theorem ayq W:(zeroValue 128).run prog W=.ok (.agg (gP vM (.slice none 0 0) (.slice none 0 0))) W:=by rfl
theorem apc l(base k j:Nat)(X:j=k+1) v w(h:aV base base 128 cW l v w)(hk:k<l.length)(hlen:l.length<=1000000) :
 Calls prog 271 #[v,.int .i64 k,.int .i64 j] w λe w'=>∃v',e=.returned v'/\aV base base 128 cW (l.eraseIdx k) v' w'/\w.grownBy w' v.ownBlock:=by
 obtain⟨css,J,hcl,F⟩:=h
 have D:∀cs∈css,cs.length=9:=(F w (aK.rf _ _ _)).lens
 have R:=(F w (aK.rf _ _ _)).ones
 rcases J.2 with ⟨S,zj⟩|⟨g,cap,cur,rfl,g1,Q,g3,g4,G,N⟩
 ·omega
 have G:cur.size=cap*9:=G
 have N:cur.toList.take (l.length*9)=css.flatten:=N
 have hb:ah w g 128 cur:=Q
 have cN:css.flatten.length=l.length*9:=J.1
 obtain⟨y,M⟩:∃y,y=css.flatten.drop (j*9):=⟨_,rfl⟩
 obtain⟨m,hm⟩:∃m,m=l.length-j:=⟨_,rfl⟩
 have hnl:y.length=m*9:=aB
 have U:∀t u,y[t]?=some u->cur[j*9+t]?=some u:=by
  grind
 obtain⟨A,hA,hsrc⟩:∃A:Addr,(if cap=j then (some ⟨g,0,none⟩:Option Addr)else some ⟨g,j*9,none⟩)=some A/\Hid (∀t u,y[t]?=some u->w.drew.cell? (A.add t)=some u):=by
  by_cases h:cap=j
  ·refine⟨⟨g,0,none⟩,Ix,λt u hu=>?_⟩;have S:y.length=0:=af;rw[List.length_eq_zero_iff.1 S]at hu;simp at hu
  ·refine⟨⟨g,j*9,none⟩,Ix,λt u hu=>?_⟩;rw[Addr.add_lit];exact (hb.cell _).trans (U t u hu)
 have s1:Hid (y.length=m*9):=hnl
 have s2:Hid (∀u∈y,u.oneCell'=true):=λu hu=>R u (List.mem_of_mem_drop (by rw[<- M];exact hu))
 have s3:Hid (∀t,t<y.length->(w.drew.cell? ⟨g,0+k*9+t,none⟩).isSome=true/\w.drew.frozen? ⟨g,0+k*9+t,none⟩=false):=by intro t V;refine⟨?_,hb.frozen _⟩;show (w.cell? _).isSome=true;rw[hb.cell,Array.getElem?_eq_getElem af];rfl
 obtain⟨W1,E⟩:∃W1,W1=w.drew.setCells g (0+k*9) y:=⟨_,rfl⟩
 have T:ah W1 g 128 (Lib.lay cur (0+k*9) y):=by rw[E];exact ah.ajL y hb.drew
 have B:w.drew.grownBy W1 (some g):=by rw[E];exact acn g y _ _
 have I:(Lib.lay cur (0+k*9) y).size=cap*9:=by rw[Lib.lay_size,G]
 obtain⟨H,azL,hb2,C⟩:=aoD (P:=prog) (w:=W1) (t:=123) (e:=128) underlying123 ayq g ((l.length-1)*9) T (by rw[I];show (l.length-1)*9+9<=_;omega) axb
 have HW:Hid (aV base base 128 cW (l.eraseIdx k) (.slice (some ⟨g,0,none⟩) (l.length-1) cap) H/\w.grownBy H (some g)):=by
  have Y:w.grownBy H (some g):=⟨C.os.trans B.os,C.tape.trans B.tape,C.output.trans B.output,bo B.size C.size,λk hk O=>(C.block k (bw hk B.size) O).trans (B.block k hk O)⟩;have L:(l.eraseIdx k).length=l.length-1:=aB;have Ns:(css.eraseIdx k).length=l.length-1:=aB;refine⟨⟨css.eraseIdx k,⟨?_,.inr ⟨g,cap,_,by rw[L],g1,hb2,af,g4,?_,?_⟩⟩,af,λw' u=>?_⟩,Y⟩
  ·rw[L,BV 9 _ (λcs h=>D cs (List.mem_of_mem_eraseIdx h)),Ns];rfl
  ·have h9:(Value.agg (gP vM (.slice none 0 0) (.slice none 0 0))).cells.size=9:=rfl;simp only[List.size_toArray,dq,p8,List.length_drop,Array.length_toList,I,h9];show _=cap*9;omega
  ·show List.take ((l.eraseIdx k).length*9) _=_;rw[L,dQ,List.take_append_of_le_length aB,List.take_take,Nat.min_self,List.eraseIdx_eq_take_drop_succ,List.flatten_append,T5 9 css D,T6 9 css D,<- X,<- M];apply List.ext_getElem?;intro t;by_cases V:t<(l.length-1)*9
   ·rw[List.getElem?_take_of_lt V,Array.getElem?_toList,Lib.lay_get? _ _ _ _ af];by_cases h1:t<k*9
    ·grind
    grind
   grind
  ·have W:=F w' (aK.tr (aK.eP Y base) u);rw[List.eraseIdx_eq_take_drop_succ,List.eraseIdx_eq_take_drop_succ];exact (W.take k).append (W.drop (k+1))
 have hW:Hid (W1=w.drew.setCells g (0+k*9) y):=E
 obtain⟨Z,hi0,hz0⟩:=Option.map_eq_some_iff.1 ajJ
 have hz1:Z.size=9:=aB
 have:k+m=l.length-1:=af
 have:k<=cap:=af
 have:j<=cap:=af
 have:(k:Int)<l.length:=af
 have:k≠j:=af
 have:k<=j:=af
 have:j<=l.length:=af
 have:cap<=9223372036854775807:=g4
 have:=hm.symm
 have vX:l.length-(l.length-1)=1:=af
 have:¬(k:Int)=j:=af
 clear hm X
 clear E hcl F D R J N hb cN M hnl U T B I hb2 C Q
 go_in
 go_wp2_with fail
 go_region_law (refine step_append_room rfl (.tmp 22) (.tmp 25) 123 rfl 128 Z 9 underlying123 hi0 hz1 g 0 k cap cC A m (cap-j) y cC s1.aa hsrc.aa s2.aa af s3.aa ?_;rw[<- hW.aa])
 go_wp2
 go_ret
 exact⟨_,rfl,HW.aa.1,HW.aa.2⟩
theorem arB l a v w(h:aq cW l v w)(hl:∀s∈l,ew s.e)(O:l.length<=1000000) :
 Calls prog 110 #[v,cA a] w λe w'=>∃v',e=.returned (.tuple #[v',.int .i64 (iH l a).2])/\aV w.heap.size w.heap.size 128 cW (iH l a).1 v' w'/\K w w':=by
 have C1:=ae λW (kW:K w W)=>Kv l v W (bj h kW) hl O
 have C2:=ae λW (kW:K w W)=>UG l a v W (bj h kW) O
 obtain⟨A,d,rfl⟩:=av h
 have G:=ah.new w 26 #[.int .i64 a.1,.int .u64 a.2.1,.int .u64 a.2.2]
 have E:=G.aS
 have HI:Hid (AK l a=match pA l a with|some k=>(k:Int)|none=>-1):=ae rfl
 have HC:Hid (iH l a=match pA l a with|none=>(l,170)|some k=>match l[k]? with|none=>(l,170)|some t=>(l.set k ⟨t.e,true⟩,0)):=ae rfl
 have HO:=ae λk h=>@O6 l a k h
 generalize iH l a=R at *
 generalize AK l a=I at *
 go_in
 go_wp2_with fail
 generalize w.alloc _=D at *
 have y:=E.size
 have F:Hid (w.heap.size=w.heap.size):=ae rfl
 generalize eO:w.heap.size=g at G y F⊢
 replace F:=ae eO
 have:=G.cells
 apply rr (C1.aa D E) E
 intro v2 w2 B k2 C
 go_wp2_with fail
 apply aI (C2.aa w2 C)
 intro j S
 replace C:=C.tr S
 replace B:=B.st S
 cases ho:pA l a with
 | none => obtain rfl:I=-1:=AA;have HQ:Hid (R=(l,170)):=ae Lx;have L:=ae (aV.low (aV.floor B y) y);go_wp2;go_ret2;exact⟨_,nL,by rw[HQ.aa,F.aa];exact L.aa,C⟩
 | some k =>
  obtain rfl:I=(k:Int):=AA;obtain⟨t,h1,-,-,-⟩:=HO.aa k ho;have HQ:Hid (R=(l.set k ⟨t.e,true⟩,0)):=ae Wu;obtain⟨hk,uy⟩:=List.getElem?_eq_some_iff.1 h1;have:(k:Int)<l.length:=af;have:¬(k:Int)<0:=af;have hkb:=B.blk;obtain⟨css,J,hcl,H⟩:=B;have X:=(H j (aK.rf _ _ _)).lens;have V:k<css.length:=af;have cN:=(H j (aK.rf _ _ _)).Gj;have M:k*9+8<css.flatten.length:=by rw[cN];show k*9+8<l.length*9;omega
  rcases J.2 with ⟨h0,zj⟩|⟨go,cap,cur,rfl,-⟩
  ·omega
  obtain⟨Y,hfz⟩:=Fv J;have d8:=Y _ M;rw[List.getElem?_eq_getElem M]at d8;have:=hfz (k*9+8);have XU:=VN J M (.bool true);have Z:css.flatten.set (k*9+8) (.bool true)=(css.set k ((css[k]).set 8 (.bool true))).flatten:=by rw[show k*9+8=k*cW.size+8 from rfl];exact OX cW.size (.bool true) css X k 8 V ax
  rw[Z]at XU;have:=(hkb go rfl).1;have k4:K w (j.setCell ⟨go,k*9+8,none⟩ (.bool true)):=C.setCell (by have:=E.size;simp;omega) _;have L:Hid (aV g g 128 cW (l.set k ⟨t.e,true⟩) (.slice (some ⟨go,0,none⟩) l.length cap) (j.setCell ⟨go,k*9+8,none⟩ (.bool true))):=by refine ae (aV.low (aV.floor (base:=D.heap.size) (lo:=D.heap.size) (e:=128) ⟨css.set k ((css[k]).set 8 (.bool true)),aB,by simp[hcl],λw' u=>?_⟩ y) y);have u3:aK D.heap.size (some go) j w':=aK.tr (a:=j) (b:=j.setCell ⟨go,k*9+8,none⟩ (.bool true)) ⟨rfl,rfl,rfl,aj,λi _ _ h3=>Below.heap_setCell j ⟨go,k*9+8,none⟩ (.bool true) i (by rintro rfl;exact h3 rfl)⟩ u;have Q:=H w' u3;refine Q.set k ?_;obtain⟨vf,ve,T,U,N⟩:=Q.2 k hk V;rw[uy]at T U N;exact⟨vf,ve,by rw[T];rfl,U,N⟩
  go_wp2;go_ret2;exact⟨_,nL,by rw[HQ.aa,F.aa];exact L.aa,k4⟩
theorem Pd l a v w(h:aq cW l v w)(X:∀s∈l,ew s.e)(B:l.length<=1000000) :
 Calls prog 203 #[v,cA a] w λe w'=>∃v',e=.returned v'/\aV w.heap.size w.heap.size 128 cW (fE l a) v' w'/\K w w':=by
 have V:=ae λW (kW:K w W)=>Kv l v W (bj h kW) X B
 have Y:=ae λW (kW:K w W)=>Pc l a v W (bj h kW) B
 obtain⟨A,d,rfl⟩:=av h
 have D:=ah.new w 26 #[.int .i64 a.1,.int .u64 a.2.1,.int .u64 a.2.2]
 have y:=D.aS
 have HI:Hid (rX l a=match iZ l a with|some k=>(k:Int)|none=>-1):=ae rfl
 have HC:Hid (fE l a=match iZ l a with|none=>l|some k=>l.eraseIdx k):=ae rfl
 have T:=ae λk h=>@KP l a k h
 generalize fE l a=R at *
 go_in
 go_wp2_with fail
 generalize w.alloc _=E at *
 apply bN (V.aa E y)
 rintro Z M⟨j,S⟩
 have q:=D.cells
 have u:=y.tr S
 generalize rX l a=I at *
 go_wp2_with fail
 apply aI (Y.aa M u)
 intro N G
 replace u:=u.tr G
 replace j:=j.st G
 cases ho:iZ l a with
 | none => obtain rfl:I=-1:=AA;have HQ:Hid (R=l):=ae Lx;have HW:=ae (aV.low (aV.floor j y.size) y.size);go_wp2;go_ret;exact⟨_,rfl,FV,u⟩
 | some k =>
  obtain rfl:I=(k:Int):=AA;have HQ:Hid (R=l.eraseIdx k):=ae Lx;obtain⟨t,H,-⟩:=T.aa k ho;obtain⟨hk,-⟩:=List.getElem?_eq_some_iff.1 H;have F:=apc l E.heap.size k (k+1) rfl Z N j hk B;rw[show ((k+1:Nat):Int)=(k:Int)+1 by omega]at F;have Q:=ae F;have hb:=j.blk;have:¬(k:Int)<0:=af;have C:=y.size;have U:=ae λg h=>bo C (hb g h).1
  have:(k:Int)<1000000:=af;go_wp2_with fail
  apply bN Q.aa;rintro v4 w4⟨O,J⟩;have HW:=ae (aV.low (aV.floor O C) C);have L:=(aK.eP J 0).k u U.aa;go_wp2;go_ret;exact⟨_,rfl,FV,L⟩
theorem atz l a v w(h:aq cW l v w)(t:∀s∈l,ew s.e)(j:l.length<=1000000) :
 Calls prog 135 #[v,cA a] w λe w'=>∃v',e=.returned (.tuple #[v',.int .i64 (iW l a).2])/\aV w.heap.size w.heap.size 128 cW (iW l a).1 v' w'/\K w w':=by
 have E:=ae λW (kW:K w W)=>Kv l v W (bj h kW) t j
 have G:=ae λW (kW:K w W)=>UG l a v W (bj h kW) j
 have D:=ae λW (kW:K w W)=>Pd l a v W (bj h kW) t j
 obtain⟨A,d,rfl⟩:=av h
 have u:=ah.new w 26 #[.int .i64 a.1,.int .u64 a.2.1,.int .u64 a.2.2]
 have C:=u.aS
 have HI:Hid (AK l a=match pA l a with|some k=>(k:Int)|none=>-1):=ae rfl
 have y:Hid (iW l a=if (pA l a).isSome then (fE l a,0)else (l,170)):=ae rfl
 generalize iW l a=R at *
 have q:=u.cells
 go_in
 go_wp2_with fail
 generalize w.alloc _=F at *
 apply cF (G.aa F C) C
 intro B H bB
 generalize AK l a=I at *
 cases ho:pA l a with
 | none =>
  obtain rfl:I=-1:=AA;have HQ:Hid (R=(l,170)):=ae (by rw[y.aa,ho];rfl);go_wp2_with fail
  apply bN (E.aa B bB);exact ag2
 | some k =>
  obtain rfl:I=(k:Int):=AA;have HQ:Hid (R=(fE l a,0)):=ae (by rw[y.aa,ho];rfl);generalize fE l a=T at *;go_wp2_with fail
  apply bN (D.aa B bB);exact ag2
theorem O2{M p B w}(h:bA M p B w) :
 Calls prog 90 #[.pointer (some ⟨p.g,0,none⟩)] w λe w'=>e=.returned (.bool (nh B))/\K w w':=by
 have HR:Hid (nh B=decide (B.me=0)):=ae rfl
 have q:=h.blk.cell
 obtain⟨g,gl,gd,gr,gt,vd,vr,vp,vh,vl,vq,va,vt,vf,vw,kr⟩:=p
 simp only at q
 have j:=K.rf w
 generalize nh B=R at *
 go_in
 go_wp2
 go_ret
 exact⟨fJ,j⟩
theorem Ut{M p B w}(h:bA M p B w)(C:bC B) :
 Calls prog 94 #[.pointer (some ⟨p.g,0,none⟩)] w λe w'=>∃v',e=.returned v'/\aC (λk=>k<w.heap.size) w.heap.size 3 cL (pD B) v' w'/\K w w':=by
 have hn:B.par.length<=1000000:=by have:=rU C.tr;omega
 have q:=h.q
 have u:=ae λW (k:K w W)=>ap3 B.par B.me p.vp W (h.bF.at k).par hn
 have y:=av h.bF.now.par
 obtain⟨g,gl,gd,gr,gt,vd,vr,vp,vh,vl,vq,va,vt,vf,vw,kr⟩:=p
 simp only at q u y
 obtain⟨A,c,rfl⟩:=y
 unfold pD
 generalize Gb B.par B.me=R at *
 go_in
 go_upto_region 1 with fail
 have qs:=q
 refine dK 9 ?_
 iterate 8 refine ar.i ?_
 refine ar.op (λv W=>aC (λk=>k<w.heap.size) w.heap.size 3 cL R v W) (λ_ _ _ h k=>h.st k) (λV W kW hp=>?_) ?_
 ·(try simp only[cz,aN,aQ,bV,bW,aJ]at hp)
  simp[bO,aF,List.lookup,hp,cU,execOp,aG,q,go_sem];apply bN (u.aa W kW);rintro O Q⟨j,I⟩;exact⟨_,rfl,(j.less λk hk=>bw hk kW.size).low kW.size,I⟩
 intro V W kW hA
 simp only[aN,aQ,b6,aJ,Nat.reduceAdd]at hA
 obtain⟨F,N,G,H,L,D,J,E,j,-⟩:=hA
 obtain⟨S,c2,t⟩:=j.slice
 rw[t]at j
 apply aH.pure
 rfl
 simp[aF,List.lookup,ba,t,execOp,aG,go_sem]
 rfl
 refine aH.nil ?_
 simp only[fT,Act.put,rW,rh,qZ,Nat.reduceAdd,ba,F,N,G,H,L,D,J,E,t]
 go_wp2
 go_ret
 exact⟨_,rfl,j,kW⟩
theorem acV l a:(cT (pF l) a).isSome=dG l a:=by
 have key:∀(l:List aT) (n i:Nat),(fW a ((l.zipIdx n).map λp=>(p.1,Value.int .i64 p.2)) i).isSome=dG l a:=by
  intro l
  induction l with
  | nil=>intro n i;rfl
  | cons x l j =>
   intro n i;simp only[List.zipIdx_cons,jU,fW,dG,List.any_cons];by_cases h:x=a
   ·simp[h]
   ·grind [cT,pF,dG]
 unfold cT pF
 grind
theorem Wv W:(zeroValue 3).run prog W=.ok (.int .i64 0) W:=by rfl
theorem T7{M p B w}(h:bA M p B w)(hG:bC B) a :
 Calls prog 108 #[.pointer (some ⟨p.g,0,none⟩),cA a] w λe w'=>e=.returned (.bool (tJ B a))/\K w w':=by
 have J:Hid (tJ B a=(dG B.told a||dG B.st.ab a)):=ae rfl
 have hb:=ah.new w 26 #[.int .i64 a.1,.int .u64 a.2.1,.int .u64 a.2.2]
 have j:=hb.aS
 have:=ae h
 have L:=ae λW (k:K w W)=>Ia B.st a (.agg (cJ B.st p.vl p.vq p.va)) W ⟨_,_,_,rfl,(h.bF.at k).list,(h.bF.at k).prom,(h.bF.at k).ab⟩ Cb
 have C:=ae λW (k:K w W)=>(DN Rl underlying160 (Wv W) (h.wK.st k) a).1
 simp only[acV]at C
 have I:=av h.bF.now.list
 have E:=av h.bF.now.prom
 have G:=av h.bF.now.ab
 have q:=h.q
 obtain⟨g,gl,gd,gr,gt,vd,vr,vp,vh,vl,vq,va,vt,vf,vw,kr⟩:=p
 simp only at q L C I E G
 obtain⟨T,cl,rfl⟩:=I
 obtain⟨Y,cp,rfl⟩:=E
 obtain⟨O,S,rfl⟩:=G
 generalize (cT (pF B.told) a).getD (.int .i64 0)=N at *
 generalize tJ B a=R at *
 go_in
 go_upto_region 1 with fail
 generalize w.alloc _=F at *
 generalize w.heap.size=X at hb⊢
 have A:=hb.cells
 have D:=λW (k:K F W)=>q W (j.tr k)
 have y:∀W,K F W->(Instr.lookup 160 (.map (some gt)) (.agg #[.int .i64 a.1,.int .u64 a.2.1,.int .u64 a.2.2]) true).run prog W=.ok (.tuple #[N,.bool (dG B.told a)]) W:=λW k=>C.aa W (j.tr k)
 cases ht:dG B.told a
 ·have HQ:Hid (R=dG B.st.ab a):=ae (by rw[J.aa,ht];rfl);rw[ht]at y;have qs:=And.intro D (And.intro A y);refine dK 11 ?_;iterate 11 refine ar.i ?_
  intro V W kW hA;simp only[aN,aQ,b6,aJ,Nat.reduceAdd]at hA;refine aH.h ?_;have u:=λW' (k:K W W')=>q W' (j.tr (kW.tr k))
  have t:=λW' (k:K W W')=>A W' (kW.tr k)
  have k2:=j.tr kW;generalize dG B.st.ab a=Z at *;go_upto_region 2 with fail;have qs:=And.intro u t;refine dK 10 ?_;iterate 7 refine ar.i ?_
  refine ar.is (.bool Z) (λV W kW hp=>?_) ?_
  ·(try simp only[cz,aN,aQ,bV,bW,aJ]at hp)
   simp[bO,aF,List.lookup,hp,cU,execOp,aG,aJ,u,t,go_sem];apply aI (L.aa W (k2.tr kW));intro Q U;grind
  iterate 2 refine ar.i ?_
  exact ag3
 ·have HQ:Hid (R=true):=ae (by rw[J.aa,ht];rfl);rw[ht]at y;have qs:=And.intro D (And.intro A y);refine dK 11 ?_;iterate 11 refine ar.i ?_
  intro V W kW hA;simp only[aN,aQ,b6,aJ,Nat.reduceAdd]at hA;refine aH.h ?_;have u:=λW' (k:K W W')=>q W' (j.tr (kW.tr k))
  have t:=λW' (k:K W W')=>A W' (kW.tr k)
  have k2:=j.tr kW;go_upto_region 2 with fail;have qs:=And.intro u t;refine dK 10 ?_;iterate 7 refine ar.i ?_
  refine ar.i ?_;iterate 2 refine ar.i ?_
  exact ag3
section
open Go Go.RowKit Go.Sort
def pJ(l:List aT)(a:aT):Nat:=(l.findIdx? λx=>decide (x=a)).getD 0
theorem adF(a:aT):∀(l:List aT) (n i:Nat),fW a ((l.zipIdx n).map λp=>(p.1,Value.int .i64 p.2)) i=(l.findIdx? λx=>decide (x=a)).map λj=>(i+j,Value.int .i64 ((n+j:Nat):Int))
 | [],n,i=>rfl
 | x :: l,n,i=>by
  rw[List.zipIdx_cons,jU,List.findIdx?_cons];unfold fW;by_cases h:x=a
  ·simp[h]
  ·simp only[h,if_false,decide_false,Bool.false_eq_true];rw[adF a l (n+1) (i+1),Option.map_map];congr 1;funext j;simp only[Function.comp_apply,Prod.mk.injEq,Value.int.injEq,true_and];constructor
   ·omega
   ·congr 1;omega
theorem atA l a:(cT (pF l) a).getD (.int .i64 0)=.int .i64 (pJ l a:Int):=by unfold cT pF pJ;rw[adF a l 0 0];cases l.findIdx? λx=>decide (x=a) <;> simp
theorem ag4{l}(h:l.Nodup) i(j:i<l.length):pJ l l[i]=i:=by
 unfold pJ;have:(l.findIdx? λx=>decide (x=l[i]))=some i:=by
  grind [List.findIdx?_eq_some_iff_getElem,List.pairwise_iff_getElem]
 rw[this];rfl
def Gr(l:List aT)(x y:aT):Int:=Lib.compareInt (pJ l x:Int) (pJ l y:Int)
theorem SB l x y:Go.Proofs.ltOf (Gr l) x y=decide (pJ l x<pJ l y):=by
 unfold ltOf Gr Lib.compareInt
 grind
theorem azV l:SWO (Go.Proofs.ltOf (Gr l)) where
 irrefl x:=by rw[SB];simp
 trans x y z h1 h2:=by rw[SB]at *;simp at *;omega
 ntrans x y z h1 h2:=by rw[SB]at *;simp at *;omega
theorem aqc{l}(h:l.Nodup){d t}(hp:d.toList.Perm l)(A:PermIn 0 d.size d t)(C:SortedIn (Go.Proofs.ltOf (Gr l)) 0 d.size t):t.toList=l:=by
 obtain⟨G,-,D⟩:=A;have B:t.toList.Perm d.toList:=by have H:(t.extract 0 d.size)=t:=aB;simp_all
 have u:=B.trans hp;refine List.Perm.eq_of_pairwise (le:=λa b=>pJ l a<=pJ l b) ?_ ?_ ?_ u
 ·grind [List.mem_iff_getElem,ag4]
 ·rw[List.pairwise_iff_getElem];intro i j E F y;have:=C i j (eE _) y aB;rw[SB]at this;grind
 ·grind [List.pairwise_iff_getElem,ag4]
end
section
open Go Go.RowKit Go.Sort
theorem atB a w:Calls prog 265 #[.int .i64 a] w λe w'=>e=.returned (.bool false)/\w'=w:=by go_in;go_wp2;go_ret;exact⟨aj,rfl⟩
theorem atC a b w:Calls prog 179 #[.int .i64 a,.int .i64 b] w λe w'=>e=.returned (.int .i64 (Lib.compareInt a b))/\w'=w:=by
 have j:=ae λa W=>atB a W
 have HR:Hid (Lib.compareInt a b=if a<b then -1 else if b<a then 1 else 0):=ae rfl;generalize Lib.compareInt a b=R at *;go_in;go_wp2_with fail
 apply aI (j.aa a w);rintro t rfl;go_wp2_with fail
 apply aI (j.aa b t);rintro u rfl;by_cases h1:a<b
 ·have HE:Hid (R=-1):=ae ag5;exact qT
 by_cases h2:b<a
 ·have HE:Hid (R=1):=ae ag6;exact qT
 have HE:Hid (R=0):=ae ag7;exact qT
theorem dM.drewN{α enc w b}{ak:List (α×Value)}(h:dM enc w b ak) n:dM enc (w.drewN n) b ak:=h
theorem aoE told x y g gt gb A W(hg:ah W g 162 A)(hA:A[12]?=some (.map (some gt)))(hm:dM lW W gt (pF told))(hb:ah W gb 90 #[.pointer (some ⟨g,0,none⟩)]) :
 Calls prog 261 #[cA x,cA y,.pointer (some ⟨gb,0,none⟩)] W λe w'=>e=.returned (.int .i64 (Gr told x y))/\∃q Q,w'=grow (W.drewN q) Q:=by
 have B:=(ah.new W 26 (dh x)).alloc (.cells (dh y) 26)
 have t:=ah.new (W.alloc (.cells (dh x) 26)) 26 (dh y)
 have j:=K.kK W (.cells (dh x) 26) (.cells (dh y) 26)
 have F:=(hg.ay j).cell
 have S:=(hb.ay j).cell 0
 have H:=hm.st j
 have I:∃os,(W.alloc (.cells (dh x) 26)).alloc (.cells (dh y) 26)=grow W os:=⟨_,by rw[alloc_eq_grow,alloc_eq_grow,grow_grow]⟩
 have hz:(W.alloc (.cells (dh x) 26)).heap.size=W.heap.size+1:=aj
 rw[hz]at t
 obtain⟨os,E⟩:=I
 have N:=ae E
 have M:=ae λW=>atC (pJ told x:Int) (pJ told y:Int) W
 have L:Hid (Gr told x y=Lib.compareInt (pJ told x:Int) (pJ told y:Int)):=ae rfl
 have u:∀n (a:aT),(Instr.lookup 160 (.map (some gt)) (.agg #[.int .i64 a.1,.int .u64 a.2.1,.int .u64 a.2.2]) false).run prog (((W.alloc (.cells (dh x) 26)).alloc (.cells (dh y) 26)).drewN n)=.ok (.int .i64 (pJ told a:Int)) (((W.alloc (.cells (dh x) 26)).alloc (.cells (dh y) 26)).drewN n):=λn a=>by have:=(DN Rl underlying160 (Wv _) (H.drewN n) a).2;rw[atA]at this;exact this
 have T:=(F 12).trans hA
 clear hm H E hg hb F hz hA j
 have C:=B.cell
 have X:=t.cell
 clear B t
 go_in
 go_upto_region 1 with fail
 generalize World.alloc (World.alloc W _) _=U at *
 generalize Lib.compareInt (pJ told x:Int) (pJ told y:Int)=R at *
 generalize G:pJ told x=V at *
 generalize D:pJ told y=Y at *
 have J:=λn=>u n x
 have O:=λn=>u n y
 rw[G]at J
 rw[D]at O
 clear u G D
 have C:=λi=>C i
 go_quiet ((go_at_call 179;refine Calls.quiet_of_same (M.aa _)))
 go_wp2
 go_ret
 exact⟨by rw[L.aa];rfl,_,os,by rw[N.aa];rfl⟩
end
section
open Go Go.RowKit Go.Shelf Go.Sort
shelf_lay_g SlLaysF0.n6 Slsf 6 at Tryz 298 as Tryz.ag8
theorem ayr(l:List aT) i j(u:i<l.length)(t:j<3):(l.flatMap fG)[i*3+j]?=(fG l[i])[j]?:=by
 have e:l.flatMap fG=(l.map fG).flatten:=cC
 have h:=wX 3 (l.map fG) (λcs h=>aB) i j aB t
 grind
theorem aev d i j(t:i<d.size)(y:j<3):some (flatK fG 3 d)[i*3+j]! = (fG d[i])[j]?:=by
 have u:i*3+j<d.size*3:=af
 rw[get_flatK fG 3 d _ u,show (i*3+j)/3=i by omega,show (i*3+j)%3=j by omega,getElem!_pos d i t]
 grind
theorem Pr{w base g cap}{l:List aT}(h:w.ownsRow base 26 3 (.slice (some ⟨g,0,none⟩) l.length cap) l.length (l.flatMap fG))(I:base<=g):HoldsK fG 3 w g 0 l.toArray/\g<w.heap.size/\base<=g/\l.length<=cap:=by
 rcases h.2 with ⟨e,-⟩|⟨G,F,cur,e,hb,C,B,-,H,D⟩
 ·cases e
 ·injection e with e1 e2 e3;injection e1 with e1;injection e1 with e1;subst e1 e3;have j:ah w g 26 cur:=C;refine⟨λt E=>⟨?_,j.frozen _⟩,j.lt,hb,B⟩;rw[size_flatK,List.size_toArray]at E;have hi:t/3<l.length:=af;have A:t%3<3:=Nat.mod_lt _ ax;have y:t=t/3*3+t%3:=af;rw[j.cell];show cur[0+t]?=some _;rw[mz,show (flatK fG 3 l.toArray)[t]! = (flatK fG 3 l.toArray)[t/3*3+t%3]! by rw[<- y],id,aev _ _ _ PN A];have u:=ayr l (t/3) (t%3) hi A;rw[<- y,<- D,List.getElem?_take_of_lt af]at u;rw[<- Array.getElem?_toList,u];simp
theorem atD{w g cap d}(h:HoldsK fG 3 w g 0 d)(hg:g<w.heap.size)(B:d.size<=cap):aq bZ d.toList (.slice (some ⟨g,0,none⟩) d.size cap) w:=by
 refine⟨_,cap,aj,⟨d.toList.map fG,Pz _ _,?_,λ_=>⟨g,0,rfl,hg,λt u j=>?_⟩⟩,af⟩
 ·rw[BV 3 _ λcs h=>aB];simp[bZ]
 ·have hl:t<d.size*3:=by have:=(List.getElem?_eq_some_iff.1 j).1;rw[BV 3 _ λcs h=>aB]at this;simpa using this
  have hi:t/3<d.size:=af;have y:t%3<3:=Nat.mod_lt _ ax;have A:t=t/3*3+t%3:=af;rw[(h t Ww).1,id,show (flatK fG 3 d)[t]! = (flatK fG 3 d)[t/3*3+t%3]! by rw[<- A],aev _ _ _ hi y];have:=wX 3 (d.toList.map fG) (λcs h=>by obtain⟨a,-,rfl⟩:=List.mem_map.1 h;rfl) (t/3) (t%3) PN y;rw[<- A,j,List.getElem?_map,List.getElem?_eq_getElem (show t/3<d.toList.length by simpa using hi)]at this;exact this.symm
theorem adG w g m d os:ag (λk=>k=g) w (sortWorldK fG 3 w g 0 m d os):=by
 refine⟨rfl,rfl,rfl,?_,λk hk hg=>?_⟩
 ·simp[sortWorldK,grow,putRowK,putRow,mapBlock,Sort.ahead]
 ·simp only[sortWorldK,grow,putRowK,putRow,mapBlock,Sort.ahead];grind
theorem aof b t ak w(y:w.cell? ⟨t,0,none⟩=some (.map (some b)))(hm:dM lW w b ak)(A:ak.length<=1000000) :
 Calls prog 297 #[.func (.func 299) #[] #[.pointer (some ⟨t,0,none⟩)]] w λe w'=>∃(v':Value) (j:List aT),e=.returned v'/\j.Perm (ak.map (·.1))/\w'.ownsRow w.heap.size 26 3 v' j.length (j.flatMap fG)/\K w w':=by
 have C:=ae (aod b t ak w y hm A)
 go_in
 go_wp2_with fail
 refine C.aa.mono ?_
 rintro e E⟨v',j,rfl,hp,D,k⟩
 have B:=ae hp
 have u:=ae D
 go_wp2
 go_ret
 exact⟨_,j,rfl,B.aa,u.aa,k⟩
theorem atE l:(pF l).map (·.1)=l:=by unfold pF;rw[List.map_map];exact List.zipIdx_map_fst 0 l
theorem anS{α}[Inhabited α] enc k w blk j(d dk:Array α) m os(u:HoldsK enc k w blk j d)(t:blk<w.heap.size)(y:dk.size=d.size):HoldsK enc k (sortWorldK enc k w blk j m dk os) blk j dk:=holdsK_sortWorldK_c enc k w blk j d dk m os u t y
theorem aoF told g gt gb G A w(hg:ah w g 162 A)(hA:A[12]?=some (.map (some gt)))(hm:dM lW w gt (pF told))(hb:ah w gb 90 #[.pointer (some ⟨g,0,none⟩)])
 (M:w.cell? ⟨G,0,none⟩=some (.map (some gt))) (hn:told.Nodup) (O:told.length<=1000000) :
 Calls prog 259 #[.func (.func 299) #[] #[.pointer (some ⟨G,0,none⟩)],.func (.func 261) #[] #[.pointer (some ⟨gb,0,none⟩)]] w λe w'=>∃v',e=.returned v'/\aq bZ told v' w'/\K w w':=by
 have C:=ae (aof gt G (pF told) w M hm (by simpa [pF]using O))
 have hlt:=hm.lt
 have C2:=ae λW (k:K w W) (l:List aT) (j cap:Nat) (B:W.ownsRow w.heap.size 26 3 (.slice (some ⟨j,0,none⟩) l.length cap) l.length (l.flatMap fG)) (H:w.heap.size<=j) (hl:l.length<=1000000) =>
  AnyQ.slices_SortFunc Tryz.ag8 3 (λW=>Tryz.isAgg26 W) (λW=>Tryz.sizeOf26 W) fG (λ_=>rfl) (λx v N=>by simp at N;rcases N with rfl|rfl|rfl <;> rfl) (Gr told) (azV told) 261 #[.pointer (some ⟨gb,0,none⟩)] j 0 cap l.toArray W
   (enters_of func261 cC rfl)
   (λm os dk hs x y=>by
    have u:=adG W j m dk os;have E:=hg.lt;have V:=hb.lt;exact aoE told x y g gt gb A _ ((hg.below k E).aX u af) hA ((hm.st k).aX u af) ((hb.below k V).aX u af))
   (Pr B H).1 (Pr B H).2.1 aY
 have Y:=ae λ(p:Option Addr) (cap:Nat) (fv:Value) (W:World)=>AnyF.slices_SortFunc_none Tryz.ag8 p cap fv W
 rw[atE]at C
 have S:=ae hn
 have HL:=ae O
 go_in
 go_wp2_with fail
 refine C.aa.mono ?_
 rintro e D⟨v2,t,rfl,hp,B,I⟩
 have ZC:t.length<=1000000:=by rw[hp.length_eq];exact HL.aa
 have R:=ae hp
 have J:=ae B
 rcases B.2 with ⟨rfl,H⟩|⟨j,cap,cur,rfl,hb,hc,M,h2,h3,h4⟩
 ·have U:told=[]:=by
   have:=R.aa.length_eq
   cases told with
   | nil=>rfl
   | cons a l=>simp at this;omega
  go_wp2_with fail
  apply aI (Y.aa _ _ _ _);rintro Q rfl;go_wp2;go_ret;exact⟨_,rfl,by rw[U];exact gy _ _,I⟩
 ·have X:=ae (C2.aa D I t j cap J.aa hb ZC);have E:=(Pr J.aa hb).2.1;have Z:=ae (Pr J.aa hb).1;go_wp2_with fail
  apply aI X.aa;rintro Q⟨F,n,os,L,hs',rfl⟩;have u:=adG D j n F os;have hd:=aqc S.aa (d:=t.toArray) fk L hs';have hsz:F.size=t.length:=by have:=L.1;simpa using this
  have HF:=ae (atD (cap:=cap) (anS fG 3 D j 0 t.toArray F n os Z.aa E af) (bw E u.size) af);have kF:=u.k I λk hk=>af
  have T:=ae kF;generalize sortWorldK fG 3 D j 0 n F os=Q at *;go_wp2;go_ret;exact⟨_,rfl,by rw[<- hd,<- hsz];exact HF.aa,T.aa⟩
end
theorem jx.small{l}(h:jx l):∀t∈l,ew t.e:=λt j=>uK (h.each t j).1
def Rs(lo:Nat)(t:TypeId)(cs:Array Value)(v:Value)(W:World):Prop:=∃b,v=.pointer (some ⟨b,0,none⟩)/\lo<=b/\ah W b t cs
theorem axc lo t cs:∀v w w',Rs lo t cs v w->Below w.heap.size w w'->Rs lo t cs v w':=by rintro v w w'⟨b,e,j,h⟩ k;exact⟨b,e,j,h.ay k⟩
theorem avH{lo} t cs(W:World)(h:lo<=W.heap.size):Rs lo t cs (.pointer (some ⟨W.heap.size,0,none⟩)) (W.alloc (.cells cs t)):=⟨_,rfl,h,ah.new W t cs⟩
section
variable {M:Nat->Prop} {p:nE} {B:bf} {w:World}
theorem bA.Ms(h:bA M p B w){l v}(j:Fx M (λW=>aq cW l v W) w):bA M { p with vt:=v } { B with aA:=l } (w.setCell ⟨p.g,8,none⟩ v) :=
 h.cell 8 v (h.blk.aP 8 v) ⟨rfl,rfl,rfl,rfl,rfl,rfl,rfl,rfl⟩ ⟨rfl,rfl⟩ λW u d=>⟨d.par,d.ai,d.list,d.prom,d.ab,j W u,d.fB,d.waits,d.bI⟩
theorem bA.azW(h:bA M p B w) n:bA M p { B with calls:=n } (w.setCell ⟨p.g,9,none⟩ (.int .u64 n)) :=
 h.cell 9 _ (h.blk.aP 9 _) ⟨rfl,rfl,rfl,rfl,rfl,rfl,rfl,rfl⟩ ⟨rfl,rfl⟩ λW u d=>⟨d.par,d.ai,d.list,d.prom,d.ab,d.aA,d.fB,d.waits,d.bI⟩
theorem bA.azX(h:bA M p B w){l v}(j:Fx M (λW=>aq aW l v W) w):bA M { p with vw:=v } { B with waits:=l } (w.setCell ⟨p.g,13,none⟩ v) :=
 h.cell 13 v (h.blk.aP 13 v) ⟨rfl,rfl,rfl,rfl,rfl,rfl,rfl,rfl⟩ ⟨rfl,rfl⟩ λW u d=>⟨d.par,d.ai,d.list,d.prom,d.ab,d.aA,d.fB,j W u,d.bI⟩
theorem bA.azY(h:bA M p B w){l v}(j:Fx M (λW=>aq bZ l v W) w):bA M { p with vf:=v } { B with refused:=l } (w.setCell ⟨p.g,11,none⟩ v) :=
 h.cell 11 v (h.blk.aP 11 v) ⟨rfl,rfl,rfl,rfl,rfl,rfl,rfl,rfl⟩ ⟨rfl,rfl⟩ λW u d=>⟨d.par,d.ai,d.list,d.prom,d.ab,d.aA,j W u,d.waits,d.bI⟩
theorem bA.akw{p' B' w'}(h:bA M p B w)(hg:p'.g=p.g/\p'.gl=p.gl/\p'.gd=p.gd/\p'.gr=p.gr/\p'.gt=p.gt/\p'.vd=p.vd/\p'.vr=p.vr)(y:bA M p' B' w')(u:ag (bu p) w w'):dE M p B' w w':=by
 have j:∀k,bu p' k↔bu p k:=λk=>by
  grind [bu]
 exact⟨p',y.less (λk hk=>.inr hk) (λk hk=>hk.elim id λt=>h.sub k ((j k).1 t)),u,(by grind [nE.key]),λk hk=>.inl ((j k).1 hk)⟩
theorem aV.JP{e α S}{l:List α}{v w'}(h:aV w.heap.size w.heap.size e S l v w')(j:∀k,M k->k<w.heap.size):Fx M (λW=>Go.Proofs.YtfndfpdhlbmboaaGreat.aq S l v W) w':=(h.sw.fx λ_ h=>h).less j
end
theorem Uu{M p B w}(h:bA M p B w){l v} c(j:Fx M (λW=>aq cW l v W) w) :
 Calls prog 109 #[.pointer (some ⟨p.g,0,none⟩),v,.int .i64 c] w λe w'=>e=.returned (.int .i64 (dR B (l,c)).2)/\dE M p (dR B (l,c)).1 w w':=by
 have y:Hid (dR B (l,c)=if c=0 then ({ B with aA:=l },0)else (B,c)):=ae rfl
 generalize dR B (l,c)=R at *
 have u:=ae (h.akw (p':={ p with vt:=v }) ⟨rfl,rfl,rfl,rfl,rfl,rfl,rfl⟩ (h.Ms j) (ag.bK (X:=bu p) (.inl rfl) 8 v))
 have t:=ae (h.n (K.rf w))
 have q:=h.blk.cell
 have z:=h.blk.frozen
 obtain⟨A,cc,rfl⟩:=av j.now
 obtain⟨g,gl,gd,gr,gt,vd,vr,vp,vh,vl,vq,va,vt,vf,vw,kr⟩:=p
 simp only at q z u t
 go_in
 by_cases hc:c=0
 ·subst hc;have HR:Hid (R=({ B with aA:=l },0)):=ae fk;go_wp2;go_ret;exact⟨fJ,by rw[HR.aa];exact u.aa⟩
 ·have HR:Hid (R=(B,c)):=ae (by rw[y.aa,if_neg hc]);have:(c==0)=false:=DX;go_wp2;go_ret;exact⟨fJ,by rw[HR.aa];exact t.aa⟩
theorem aco{M p B w}(h:bA M p B w)(hG:bC B) c(f:Nat) cs j(hf:∀args W,(callFunc f args).run prog W=.ok (.enter f args) W)
 (akx:∀W,K w W->Calls prog f (#[cA (qD B)]++cs) W λe w'=>∃v',e=.returned (.tuple #[v',.int .i64 j.2])/\aV W.heap.size W.heap.size 128 cW j.1 v' w'/\K W w') :
 Calls prog 99 #[.pointer (some ⟨p.g,0,none⟩),.int .i64 c,.func (.func f) #[] cs] w λe w'=>e=.returned (.tuple #[cA (js B c j).2.1,.int .i64 (js B c j).2.2])/\dE M p (js B c j).1 w w':=by
 have HK:Hid (js B c j=if Ch B c then (if j.2=0 then ({ B with aA:=j.1,calls:=B.calls+1 },qD B,0)else (B,(0,0,0),j.2))else (B,(0,0,0),200)):=ae rfl
 generalize js B c j=R at *
 have H:=ae h
 have HX:=ae λk hk=>h.low k (h.sub k hk)
 have HM:=ae h.low
 have hcl:=hG.calls
 have C1:=ae λW (k:K w W)=>acm (h.st k) hG c
 have C2:=ae akx
 have q:=h.q
 have hr:=ah.new w 26 #[.int .i64 0,.int .u64 0,.int .u64 0]
 have k0:=hr.aS
 generalize Ch B c=HB at *
 generalize jM:qD B=u at *
 obtain⟨A,dX⟩:∃n,n=B.calls+1:=⟨_,rfl⟩
 have y4:Hid (u=(B.me,B.st.life,A)):=ae (by rw[dX];exact jM.symm)
 have S:IntKind.u64.wrap ((B.calls:Int)+1)=(A:Int):=by rw[IntWalk.u64_in _ (by omega),dX];omega
 have EX:=ae dX
 clear dX hcl
 clear h hG akx jM
 go_in
 go_upto_region 1 with fail
 generalize w.alloc _=w1 at *
 generalize eO:w.heap.size=t at hr⊢
 have G3:=ae eO
 clear eO
 go_wp2_with fail
 refine (C1.aa w1 k0).mono ?_
 rintro e N⟨rfl,k2⟩
 have G:=hr.ay k2
 have bB:=k0.tr k2
 clear C1 hr
 cases SC:HB
 ·have C:Hid (R=(B,(0,0,0),200)):=ae (by rw[HK.aa,SC];rfl);have O:=G.cell;have T:=G.frozen;clear HK C2 q;go_wp2;have U:ah (World.setCell (World.setCell (World.setCell N _ _) _ _) _ _) t 26 #[.int .i64 0,.int .u64 0,.int .u64 0]:=((G.aP 0 (.int .i64 0)).aP 1 (.int .u64 0)).aP 2 (.int .u64 0);have kS:=K.set (K.set (K.set bB (r:=t) Wx 0 (.int .i64 0)) (r:=t) Wx 1 (.int .u64 0)) (r:=t) Wx 2 (.int .u64 0);clear O T G;generalize World.setCell (World.setCell (World.setCell N _ _) _ _) _ _=W9 at *;have e9:=U.cell;try rw[ig]
  refine bodyPost_ret (v:=.tuple #[cA (0,0,0),.int .i64 200]) Wy rfl ?_;exact⟨by rw[C.aa],by rw[C.aa];exact H.aa.n kS⟩
 have GN:Hid (R=if j.2=0 then ({ B with aA:=j.1,calls:=B.calls+1 },u,0)else (B,(0,0,0),j.2)):=ae (by rw[HK.aa,SC,if_pos rfl])
 have q2:=λW (k:K N W)=>q W (bB.tr k)
 subst SC
 clear HK q
 obtain⟨g,gl,gd,gr,gt,vd,vr,vp,vh,vl,vq,va,vt,vf,vw,kr⟩:=p
 simp only at q2
 go_upto_region 5 with fail
 have qs:=And.intro q2 S
 refine dK 16 ?_
 iterate 15 refine ar.i ?_
 refine ar.op (Rs (N.heap.size) 26 #[.int .i64 0,.int .u64 0,.int .u64 0]) (axc _ _ _) (λV W kW hp=>?_) ?_
 ·simp[bO,aF,List.lookup,cU,execOp,aG,go_sem];exact⟨avH _ _ _ kW.size,(K.rf W).al _⟩
 clear qs
 intro V W kW hA
 simp only[aN,aQ,b6,aJ,Nat.reduceAdd]at hA
 obtain⟨e0,e1,e2,e3,e4,e5,e6,e7,e8,e9,gu,rN,G4,Dm,JQ,⟨b8,sE,Y,sF⟩,-⟩:=hA
 have E:=sF.cell
 have z8:=sF.frozen
 obtain⟨F,SD⟩:∃F,F=World.setCell (World.setCell (World.setCell W ⟨b8,0,none⟩ (.int .i64 B.me)) ⟨b8,1,none⟩ (.int .u64 B.st.life)) ⟨b8,2,none⟩ (.int .u64 A):=⟨_,rfl⟩
 refine aH.skip F rfl (by rw[SD];simp[aF,List.lookup,JQ,sE,ba,execOp,aG,E,z8,go_sem]) ?_
 refine aH.nil ?_
 simp only[fT,Act.put,rW,rh,qZ,Nat.reduceAdd,ba,e0,e1,e2,e3,e4,e5,e6,e7,e8,e9,gu,rN,G4,Dm,JQ,sE]
 have JR:ah F b8 26 #[.int .i64 u.1,.int .u64 u.2.1,.int .u64 u.2.2]:=by rw[SD,y4.aa];exact ((sF.aP 0 (.int .i64 B.me)).aP 1 (.int .u64 B.st.life)).aP 2 (.int .u64 A)
 have k8:K N F:=by rw[SD];exact K.set (K.set (K.set kW Y 0 _) Y 1 _) Y 2 _
 have s8:=G.ay k8
 have I:=bB.tr k8
 have HB8:=ae Y
 have C3:=ae (C2.aa F I)
 have HW:=ae S
 clear E z8 sF G Y SD e0 e1 e2 e3 e4 e5 e6 e7 e8 e9 gu rN G4 Dm JQ sE kW q2 S C2 k8
 have E:=JR.cell
 go_wp2_with fail
 refine C3.aa.mono ?_
 rintro e y⟨v4,rfl,cY,D⟩
 have:=G3.aa
 have il:=(I.tr D).size
 have:=bw s8.lt D.size
 have Q:bA (λk=>M k∨k=t) _ B y:=H.aa.far (X:=λ_=>False) (ag.aU (I.tr D) _) (λk hk=>hk.elim) (λk hk=>hk.elim) (λk hk L=>L.resolve_right af) (λk hk=>.inl (H.aa.sub k hk)) (λk hk=>hk.elim (λh=>bw (HM.aa k h) il) λe=>af)
 have jg:Fx (λk=>M k∨k=t) (λW=>aq cW j.1 v4 W) y:=cY.JP λk hk=>hk.elim (λh=>bw (HM.aa k h) I.size) λe=>e▸s8.lt
 have Nv:=JR.ay D
 have J:=s8.ay D
 have tv:=I.tr D
 obtain⟨A4,c4,rfl⟩:=av jg.now
 clear C3 cY D E JR s8 I
 by_cases hc:j.2=0
 rotate_left
 ·have C:Hid (R=(B,(0,0,0),j.2)):=ae (by rw[GN.aa,if_neg hc]);have:(j.2 != 0)=true:=DX;have O:=J.cell;have T:=J.frozen;clear Q jg Nv GN;go_wp2;have U:ah (World.setCell (World.setCell (World.setCell y _ _) _ _) _ _) t 26 #[.int .i64 0,.int .u64 0,.int .u64 0]:=((J.aP 0 (.int .i64 0)).aP 1 (.int .u64 0)).aP 2 (.int .u64 0);have kS:=K.set (K.set (K.set tv (r:=t) af 0 (.int .i64 0)) (r:=t) af 1 (.int .u64 0)) (r:=t) af 2 (.int .u64 0);clear O T J;generalize World.setCell (World.setCell (World.setCell y _ _) _ _) _ _=W9 at *;have e9:=U.cell;try rw[ig]
  refine bodyPost_ret (v:=.tuple #[cA (0,0,0),.int .i64 j.2]) Wy rfl ?_;exact⟨by rw[C.aa],by rw[C.aa];exact H.aa.n kS⟩
 ·have C:Hid (R=({ B with aA:=j.1,calls:=B.calls+1 },u,0)):=ae (by rw[GN.aa,if_pos hc]);have q4:=Q.blk.cell;have z4:=Q.blk.frozen;have E2:bA (λk=>M k∨k=t) ⟨g,gl,gd,gr,gt,vd,vr,vp,vh,vl,vq,va,.slice A4 j.1.length c4,vf,vw,kr⟩ { B with aA:=j.1,calls:=A } ((y.setCell ⟨g,8,none⟩ (.slice A4 j.1.length c4)).setCell ⟨g,9,none⟩ (.int .u64 A)):=(Q.Ms jg).azW A;have u5:ag (λk=>k=g) y ((y.setCell ⟨g,8,none⟩ (.slice A4 j.1.length c4)).setCell ⟨g,9,none⟩ (.int .u64 A)):=(ag.bK (X:=λk=>k=g) rfl 8 _).tr (ag.bK (X:=λk=>k=g) rfl 9 _);have:=HX.aa g (.inl rfl);have:=HB8.aa;have:=bB.size;have ZF:=Nv.aX u5 af;have Z:=J.aX u5 af;have S:=HW.aa;rw[hc];clear Q jg hc GN Nv J;simp only at q4 z4;go_upto_region 11 with fail;generalize (y.setCell ⟨g,8,none⟩ _).setCell ⟨g,9,none⟩ _=w5 at *;clear q4 z4 S;have E:=ZF.cell;have O:=Z.cell;have T:=Z.frozen;go_wp2;have U:ah (World.setCell (World.setCell (World.setCell w5 _ _) _ _) _ _) t 26 #[.int .i64 u.1,.int .u64 u.2.1,.int .u64 u.2.2]:=((Z.aP 0 (.int .i64 u.1)).aP 1 (.int .u64 u.2.1)).aP 2 (.int .u64 u.2.2);have u9:ag (λk=>k=t) w5 _:=((ag.bK (X:=λk=>k=t) rfl 0 (.int .i64 u.1)).tr (ag.bK (X:=λk=>k=t) rfl 1 (.int .u64 u.2.1))).tr (ag.bK (X:=λk=>k=t) rfl 2 (.int .u64 u.2.2));clear O T Z E;generalize World.setCell (World.setCell (World.setCell w5 _ _) _ _) _ _=W9 at *;have e9:=U.cell;have:=u5.size;have:=u9.size;have uC:=E2.far (M':=M) u9 (λk hk=>.inr hk) (λk hk L=>by have:=HX.aa k L;omega) (λk hk L=>.inl L) (λk hk=>H.aa.sub k hk) (λk hk=>by have:=HM.aa k hk;omega);have hU:ag (bu ⟨g,gl,gd,gr,gt,vd,vr,vp,vh,vl,vq,va,vt,vf,vw,kr⟩) w W9:=((ag.aU tv _).tr (u5.more λk hk=>.inl hk)).gq u9 λk hk L=>af
  have SE:=ae (H.aa.akw (p':=⟨g,gl,gd,gr,gt,vd,vr,vp,vh,vl,vq,va,.slice A4 j.1.length c4,vf,vw,kr⟩) ⟨rfl,rfl,rfl,rfl,rfl,rfl,rfl⟩ uC hU);try rw[ig]
  refine bodyPost_ret (v:=.tuple #[cA u,.int .i64 0]) Wy rfl ?_;exact⟨by rw[C.aa],by rw[C.aa,<- EX.aa];exact SE.aa⟩
theorem avI{Y base v l W}(h:W.ownsRow base 26 3 v l.length (l.flatMap fG)):aC Y base 26 bZ l v W :=
 ⟨l.map fG,by rw[<- List.flatMap_def];exact h,aj,λw' _=>Pz l w'⟩
theorem acW{v l W}(h:aq bZ l v W):∃A c,v=.slice A l.length c/\Reads W W.heap.size 3 A l.length (l.flatMap fG):=by
 obtain⟨A,c,rfl,⟨css,j,t⟩,-⟩:=h;have e:css=l.map fG:=by apply List.ext_getElem (by simpa using j.1);intro i u y;rw[List.getElem_map];exact j.2 i aB u
 rw[e,<- List.flatMap_def]at t;exact⟨A,c,rfl,t⟩
theorem apd{M p B w}(h:bA M p B w)(D:bC B)(hn:B.told.Nodup) :
 Calls prog 164 #[.pointer (some ⟨p.g,0,none⟩)] w λe w'=>∃v',e=.returned v'/\aC (λk=>k<w.heap.size) w.heap.size 26 bZ (Ci B) v' w'/\K w w':=by
 have HR:Hid (Ci B=B.st.ab++B.told):=ae rfl
 have:=D.dk.len
 have im:=D.told
 have q:=h.q
 have hb:=ah.new w 90 #[.pointer (some ⟨p.g,0,none⟩)]
 have Y:=hb.aS
 have H:=ae λW=>ap4 p.gt W
 have I:=ae λW (k:K w W) gb B1 (hb:ah W gb 90 #[.pointer (some ⟨p.g,0,none⟩)]) (h1:W.cell? ⟨B1,0,none⟩=some (.map (some p.gt)))=>aoF B.told p.g p.gt gb B1 _ W (h.blk.ay k) rfl (h.wK.st k) hb h1 hn im
 have t:=ae λW (k:K w W)=>acW (h.bF.at k).ab
 generalize Ci B=R at *
 obtain⟨g,gl,gd,gr,gt,vd,vr,vp,vh,vl,vq,va,vt,vf,vw,kr⟩:=p
 simp only at q hb Y H I t
 obtain⟨Aa,ca,rfl,-⟩:=t.aa w (K.rf w)
 clear h D hn
 go_in
 go_upto_region 1 with fail
 generalize w.alloc _=j at *
 generalize hgb:w.heap.size=gb at hb⊢
 clear hgb
 have C:=hb.cells j (K.rf _) 0
 go_wp2_with fail
 apply aI (H.aa j)
 rintro T rfl
 have y:=ah.new j 160 #[.map (some gt)]
 have E:=y.aS
 have G:=hb.ay E
 have lK:=Y.tr E
 generalize World.alloc j _=T at *
 have U:=ae (I.aa T lK gb j.heap.size G (y.cell 0))
 clear H I hb C y E
 go_wp2_with fail
 apply rr U.aa lK
 intro v3 u hv3 k3 F
 have bP:=G.ay k3
 have C:=bP.cells u (K.rf _) 0
 obtain⟨At,ct,rfl,Z⟩:=acW hv3
 obtain⟨Aa2,ca2,A,L⟩:=t.aa u F
 injection A with A _ e3
 subst A e3
 have Q:=ae (abX Aa B.st.ab.length ca _ u L (Qd _) af)
 have V:=ae λW (k:K u W)=>(Z.below k (aD _)).more k.size
 clear U t L Z hv3 G
 go_wp2_with fail
 apply bN Q.aa
 rintro v4 w4⟨X,S⟩
 have N:=V.aa w4 S
 have rK:=F.tr S
 have hz:=F.size
 have il:=rK.size
 clear Q V C
 go_wp2_with (at_builtin;refine iM rfl _ _ 44 rfl w.heap.size 26 _ 3 24 wu _ B.st.ab.length _ rfl (mo hz X) _ At B.told.length ct _ rfl N (Qd _) ?p1 il ?_)
 case p1=>omega
 intro v9 w9 O _ _ J
 have HF:=ae (show aC (λk=>k<w.heap.size) w.heap.size 26 bZ R v9 w9 by
  rw[HR.aa];refine avI ?_;rw[dq,List.flatMap_append];exact O)
 have kF:K w w9:=rK.trans J
 clear O J X N
 go_wp2
 go_ret
 exact⟨_,rfl,HF.aa,kF⟩
theorem atF(l:List eo)(t:eo):jj (l++[t])=if t.asked=true/\(jj l).length<4 then jj l++[t.e]else jj l:=by
 unfold jj;rw[List.filter_append,List.map_append,List.take_append];generalize ((l.filter eo.asked).map eo.e)=X;rcases t with ⟨e,b⟩;cases b
 ·simp
 ·simp only[p8,true_and,List.filter_cons,if_true,List.filter_nil,jU,List.map_nil];split
  ·rename_i h;rw[gI (l:=[e]) aY]
  ·rename_i h;rw[show 4-X.length=0 by omega,Q8,List.append_nil]
theorem axd:(prog.info? 126).map (λi=>(i.zero,i.size,i.bytes))=some (some (.agg eM),8,96):=by rfl
theorem azZ:fS prog 43 126 (.agg eM) 8 96:=⟨underlying43,axd,rfl,ax⟩
theorem arC l v w(h:aq cW l v w)(hs:∀t∈l,ew t.e)(hn:l.length<=1000000) :
 Calls prog 158 #[v] w λe w'=>∃v',e=.returned v'/\aV w.heap.size w.heap.size 126 aW (jj l) v' w'/\K w w':=by
 obtain⟨A,c,rfl,hl,hc⟩:=h
 have HS:=ae hs
 have kk:=K.rf w
 go_in
 go_wp2_with fail
 go_loopw [3,5,8] (fun o _ i W=>∃j:Nat,j<=l.length/\i=.int .i64 j/\aV w.heap.size w.heap.size 126 aW (jj (l.take j)) o W/\K w W) (fun _ _ i _=>l.length-(intOf i).toNat)
 case atStart=>exact⟨0,af,rfl,by simpa [jj]using aV.nil _ _ _ _ _,kk⟩
 case round =>
  obtain⟨j,hj,rfl,hO,kr⟩:=hrel;by_cases O:j<l.length
  ·have aO:(j:Int)<l.length:=af;obtain⟨Y,off,cs,rfl,X,hrl,d0,d⟩:=ed hl j O ax;have R:Hid (jj (l.take (j+1))=if l[j].asked=true/\(jj (l.take j)).length<4 then jj (l.take j)++[l[j].e]else jj (l.take j)):=ae (by rw[gg O,atF]);have hst:=HS.aa _ (bT O);generalize l[j]=t at *;obtain⟨vf,ve,rfl,hf,he⟩:=hrl w (K.rf w);obtain⟨M,H,rfl⟩:=b5 hf;obtain⟨D,C,rfl⟩:=av he;have HE:Hid (∀W,K w W->dx t.e (.agg (aE t.e (.slice M t.e.f.length H) (.slice D t.e.es.length C))) W):=ae λW k=>⟨_,_,rfl,eu _ _ _ _ hf k,bj he k⟩
   have d0:∀W,K w W->W.cell? ⟨Y,off+j*9,none⟩=some (.int .i64 t.e.kind):=d0;have d:∀W,K w W->∀i,i<9->W.cell? ⟨Y,off+j*9+i,none⟩=(gP t (.slice M t.e.f.length H) (.slice D t.e.es.length C))[i]?:=λW k i hi=>(d W k i hi).trans Array.getElem?_toList
   have im:(jj (l.take j)).length<=4:=by unfold jj;rw[p8];omega
   generalize jj (l.take j)=L at *;obtain⟨Ao,co,rfl,-⟩:=hO.slice;have N:=ah.new wr 128 (gP t (.slice M t.e.f.length H) (.slice D t.e.es.length C));have Z:=N.aS;go_upto_region 5 with fail;have dm:=hO.st Z;generalize wr.alloc _=U at *;generalize wr.heap.size=g5 at N⊢;generalize Value.slice M t.e.f.length H=vf at *;generalize Value.slice D t.e.es.length C=ve at *;have k5:=kr.tr Z;have q:=N.cell;have mN:=dm.blk;rcases t with ⟨y,ta⟩;cases ta
   ·have HQ:Hid (jj (l.take (j+1))=L):=ae (by rw[R.aa];simp);exact ag9
   ·by_cases h4:L.length<4;rotate_left
    ·have ZG:¬(L.length:Int)<4:=af;have HQ:Hid (jj (l.take (j+1))=L):=ae (by rw[R.aa,if_neg (λh=>h4 h.2)]);exact ag9
    ·have ZG:(L.length:Int)<4:=af;have HQ:Hid (jj (l.take (j+1))=L++[y]):=ae (by rw[R.aa,if_pos ⟨rfl,h4⟩]);go_wp2_with fail
     apply bN (Ky y _ U (HE.aa _ k5) hst);rintro v6 B⟨ho,Q⟩;have mQ:=dm.st Q;obtain⟨oB,oC,rfl,T,V⟩:=ho;have ot:=k5.tr Q;obtain⟨css,hown,X,mO⟩:=mQ;have xE:=Q.size;have rH:=k5.size;have HF:Hid (∀w',aK U.heap.size none B w'->eI y.f oB w'/\aq cI y.es oC w'):=ae λw' u=>⟨xc (T.up u),(V.up (aD _) u).aq⟩
     obtain⟨E,F,rfl⟩:=b5 (xc T);obtain⟨J,G,rfl⟩:=av V.aq;have I:=K.new B (.cells (aE y (.slice E y.f.length F) (.slice J y.es.length G)) 126);have hbase:w.heap.size<=(B.alloc (.cells (aE y (.slice E y.f.length F) (.slice J y.es.length G)) 126)).heap.size:=by have:=I.size;omega
     have MY:(L.length+1)*97<=140737488355328:=af;go_wp2_with (at_builtin;refine iM rfl _ _ 43 rfl w.heap.size 126 _ 8 96 azZ _ _ _ rfl (p7 hown _) (B.heap.size+1) _ 1 1 (Yb y (.slice E y.f.length F) (.slice J y.es.length G)) rfl ?c1 ?c2 ?c3 hbase ?_)
     case c1=>exact Reads.new B (Yb y (.slice E y.f.length F) (.slice J y.es.length G)) 126 8 1 rfl
     case c2=>have S:=HF.aa B (aK.rf _ _ _);exact aW.one (x:=y) (w:=B) ⟨_,_,rfl,S.1,S.2⟩
     case c3=>omega
     intro v9 w9 gJ cd eS bq;have k9:=(ot.tr I).trans bq;have bE:Hid (aV w.heap.size w.heap.size 126 aW (jj (l.take (j+1))) v9 w9):=by
      rw[HQ.aa];exact aV.snoc X (λw' u=>mO w' (aK.tr (aK.aU I _ _) u)) gJ cd tO
       (λw' u=>by
        have:=HF.aa w' ((aK.tr (aK.aU I _ _) u).more af (λk hk _ e=>aB));exact⟨_,_,rfl,this.1,this.2⟩)
     go_wp2;go_roundw
     case rel=>exact⟨j+1,af,bD,bE.aa,k9⟩
     case measure=>simp[intOf];omega
  ·have aO:¬(j:Int)<l.length:=af;exact aha
theorem acX{P ρ w} s x T ty t g o cur cells(hs:ρ s=.pointer (some ⟨g,o,none⟩))(hx:ρ x=.agg cells)(hb:ah w g t cur)
 (A:(P.info? T).map (·.size)=some cells.size) (B:o+cells.size<=cur.size) (y:∀u∈cells.toList,u.oneCell'=true) :
 ∃w',(execOp ρ (aG (.store T s x) ty)).run P w=.ok .skip w'/\ah w' g t (cur.toList.take o++cells.toList++cur.toList.drop (o+cells.size)).toArray/\w.grownBy w' (some g):=by
 have hst:=run_storeCells_at P g o t cells.toList 0 cur w hb af y
 simp only[Nat.add_zero,Array.length_toList]at hst
 refine⟨_,?_,setRow_heap w g cur _ t _ hb,⟨rfl,rfl,rfl,aj,λk hk j=>setRow_other w g k _ (λe=>j DW)⟩⟩
 cases hq:P.info? T with
 | none=>simp[hq]at A
 | some i => exact ahb
theorem atG(l:List eo)(a:aT):sQ l a=match iZ l a with|none=>(vM,false)|some k=>match l[k]? with|some t=>(t,true)|none=>(vM,false):=by
 cases h:iZ l a with
 | none=>exact arn (acP h)
 | some k =>
  grind [KP,List.getElem?_eq_some_iff,nV,List.find?_eq_some_iff_getElem,List.getElem?_eq_getElem,sQ]
abbrev E3:Array Value:=#[.int .i64 0,.int .i64 0,.int .u64 0,.int .u64 0,.int .i64 0,.int .u64 0,.slice none 0 0,.slice none 0 0,.bool false]
theorem aqd l a v w(h:aq cW l v w)(hs:∀s∈l,ew s.e)(hlen:l.length<=1000000) :
 Calls prog 106 #[v,cA a] w λe w'=>∃u,e=.returned (.tuple #[u,.bool (sQ l a).2])/\M6 (sQ l a).1 u w'/\K w w':=by
 have C2:=ae λW (kW:K w W)=>Pc l a v W (bj h kW) hlen
 obtain⟨A,c,rfl,hl,hc⟩:=h
 have hx:=(ah.new w 26 #[.int .i64 a.1,.int .u64 a.2.1,.int .u64 a.2.2]).alloc (.cells E3 128)
 have O:=ah.new (w.alloc (.cells #[.int .i64 a.1,.int .u64 a.2.1,.int .u64 a.2.2] 26)) 128 E3
 have D:=K.kK w (.cells #[.int .i64 a.1,.int .u64 a.2.1,.int .u64 a.2.2] 26) (.cells E3 128)
 have hz:(w.alloc (.cells #[.int .i64 a.1,.int .u64 a.2.1,.int .u64 a.2.2] 26)).heap.size=w.heap.size+1:=aj
 rw[hz]at O
 have HI:Hid (rX l a=match iZ l a with|some k=>(k:Int)|none=>-1):=ae rfl
 have HC:=ae (atG l a)
 have HO:=ae λk h=>@KP l a k h
 generalize sQ l a=R at *
 go_in
 go_upto_region 1 with fail
 generalize World.alloc (World.alloc w _) _=w1 at *
 have q:=hx.cell
 go_wp2_with fail
 apply cF (C2.aa w1 D) D
 intro G k2 N
 have B:=O.ay k2
 have hrg:w.heap.size<=w.heap.size+1:=af
 generalize w.heap.size+1=y at *
 generalize rX l a=I at *
 cases ho:iZ l a with
 | none => obtain rfl:I=-1:=AA;have HQ:Hid (R=(vM,false)):=ae Lx;have q:=B.cell;have z:=B.frozen;go_wp2;have df:=((((((((B.aP 0 (.int .i64 0)).aP 1 (.int .i64 0)).aP 2 (.int .u64 0)).aP 3 (.int .u64 0)).aP 4 (.int .i64 0)).aP 5 (.int .u64 0)).aP 6 (.slice none 0 0)).aP 7 (.slice none 0 0)).aP 8 (.bool false);have e9:=df.cell;refine bodyPost_ret (v:=.tuple #[.agg E3,.bool false]) ahc rfl ?_;refine⟨.agg E3,by rw[HQ.aa],by rw[HQ.aa];exact ag1 vM rfl rfl _,?_⟩;exact ((((((((N.setCell Cc _).setCell Cc _).setCell Cc _).setCell Cc _).setCell Cc _).setCell Cc _).setCell Cc _).setCell Cc _).setCell Cc _
 | some k =>
  obtain rfl:I=(k:Int):=AA;obtain⟨t,h1,-⟩:=HO.aa k ho;have HQ:Hid (R=(t,true)):=ae Wu;obtain⟨hk,uy⟩:=List.getElem?_eq_some_iff.1 h1;have fe:(k:Int)<l.length:=af;obtain⟨T,Z,cs,rfl,hcl,Y,H,d⟩:=ed hl k hk ax;have S:=hs _ (bT hk);rw[uy]at Y S;obtain⟨vf,j,rfl,hf,he⟩:=Y w (K.rf w);have HE:Hid (∀W,K w W->dx t.e (.agg (aE t.e vf j)) W):=ae λW k=>⟨_,_,rfl,eu _ _ _ _ hf k,bj he k⟩
  have H:∀W,K w W->W.cell? ⟨T,Z+k*9,none⟩=some (.int .i64 t.e.kind):=H;have d:∀W,K w W->∀i,i<9->W.cell? ⟨T,Z+k*9+i,none⟩=(gP t vf j)[i]?:=λW kk i hi=>(d W kk i hi).trans Array.getElem?_toList
  go_upto_region 4 with fail;obtain⟨gb,Q⟩:∃gb,gb=G.heap.size:=⟨_,rfl⟩;have F:y<gb:=by rw[Q];exact B.lt
  have C:∀W,ag (λk=>k=y) G W->K w W:=λW u=>u.k N λk e=>e▸hrg
  have qs:=And.intro (λW u=>H W (C W u)) (And.intro (λW u=>d W (C W u)) fe);refine OI 14 [12] (λW=>ag (λk=>k=y) G W) (λW W'=>W.grownBy W' (some y)) (λk _ W=>∃cs,ah W y 128 cs/\(k=0/\cs=E3∨k≠0/\∃vf j,cs=gP t vf j/\Fx (λk=>k<gb) (λW=>cW.rel t (gP t vf j).toList W) W)) [([],[]),([],[]),([0,1],[(13,0),(14,1)]),([2],[(15,2)]),([3],[(16,3)]),([4],[(17,4)]),([],[]),([],[]),([6,7],[(19,6),(20,7)]),([8],[(21,8)]),([9],[(22,9)]),([5,10],[(18,5),(23,10)]),([11],[(24,11)]),([],[])] 25
   (λ_ _ h k=>h.tr (ag.aU k _)) (λ_ _ h=>BU h _) (λk vs W W' ⟨cs,h1,h3⟩ kW=>⟨cs,h1.ay kW,h3.imp id λ⟨h,vf,j,e,f⟩=>⟨h,vf,j,e,f.k kW⟩⟩) (ag.rf _ _) (λ_=>⟨E3,B,.inl ⟨rfl,rfl⟩⟩) ?_
  iterate 5 refine ar.i ?_
  refine ar.c (Ex gb t.e) (λv w w' ⟨vf,j,e,h⟩ k=>⟨vf,j,e,h.up (ag.eP (X:=λb=>b=y) k λ_ e=>by cases e;rfl) λk e=>e▸F⟩) (λW u=>(Ky t.e _ W (HE.aa _ (C W u)) S).mono λe w' ⟨v,e1,ho,D⟩=>⟨v,e1,XR (by rw[Q];exact u.size) ho,D⟩) ?_;iterate 5 refine ar.i ?_
  refine ar.op (Nr gb t) (λv w w' ⟨vf,j,e,h⟩ k=>⟨vf,j,e,h.up (ag.eP (X:=λb=>b=y) k λ_ e=>by cases e;rfl) λk e=>e▸F⟩) (λV W kW hp=>?_) ?_
  ·exact Wq
  refine ar.s ?_;refine ar.i ?_;refine⟨⟨⟨_,_,rfl,rfl,rfl,λV W E J hp=>?_⟩,trivial⟩,λV W E J hA=>?_⟩
  ·simp only[cz,aN,aQ,bV,bW,aJ]at hp;obtain⟨⟨JS,JT,e3,hF⟩,-⟩:=hp;obtain⟨_,hb,⟨-,rfl⟩|⟨h,-⟩⟩:=J
   ·change jO _ _ ((execOp (aF [(24,11)] _ V) (aG (.store 128 (.tmp 4) (.tmp 24)) 0)).run _ _);generalize hA:aF [(24,11)] _ V=ρ;obtain⟨w'',hrun,hb2,M⟩:=acX (P:=prog) (ρ:=ρ) (.tmp 4) (.tmp 24) 128 0 128 y 0 E3 (gP t JS JT) (by rw[<- hA];rfl) (by rw[<- hA];exact e3) hb fo aj (cW.one (x:=t) (w:=W) hF.now);have u2:ag (λk=>k=y) W w'':=ag.eP M λ_ e=>by cases e;rfl
    rw[hrun];exact⟨E.tr u2,M,⟨_,hb2,.inr ⟨ax,JS,JT,rfl,hF.up u2 λk e=>e▸F⟩⟩,trivial⟩
   ·exact absurd rfl h
  simp only[aN,aQ,b6,aJ,Nat.reduceAdd]at hA;obtain⟨_,bq,⟨h,-⟩|⟨-,U,L,rfl,hF⟩⟩:=J
  ·cases h
  refine aH.h ?_;have kW:=C W E;have HW:Hid (M6 t (.agg (gP t U L)) W):=ae (by
   obtain⟨vf,j,e,h1,h2⟩:=hF.now;simp at e;obtain⟨rfl,rfl⟩:=e;exact⟨_,_,rfl,h1,h2⟩)
  have e9:=bq.cell;go_wp2;refine bodyPost_ret (v:=.tuple #[.agg (gP t U L),.bool true]) ahc rfl ?_;exact⟨_,by rw[HQ.aa],FV,kW⟩
theorem aqe l a j v u w(h:aq cW l v w)(hu:iy j u w)(hl:∀s∈l,ew s.e)(hlf:∀s∈l,cE s.e)(iF:j.length<=1000000)(Rt:∀x∈j,lU x)(hlen:l.length<=1000000) :
 Calls prog 134 #[v,cA a,u] w λe w'=>∃v',e=.returned (.tuple #[v',.int .i64 (ie l a j).2])/\(∀W,aK w.heap.size none w' W->aq cW (ie l a j).1 v' W)/\K w w':=by
 have C1:=ae λW (kW:K w W)=>Kv l v W (bj h kW) hl hlen
 have C2:=ae λW (kW:K w W)=>UG l a v W (bj h kW) hlen
 have C3:=ae λW (kW:K w W)=>acN (mY _ _ _ _ hu kW)
 obtain⟨A,d,rfl,uB,-⟩:=h
 have HU:Hid (∀W,K w W->iy j u W):=ae λW k=>mY _ _ _ _ hu k
 obtain⟨Ae,ce,rfl⟩:=wY hu
 clear hu
 have T:=ah.new w 26 #[.int .i64 a.1,.int .u64 a.2.1,.int .u64 a.2.2]
 have k1:=T.aS
 have HI:Hid (AK l a=match pA l a with|some k=>(k:Int)|none=>-1):=ae rfl
 have HC:Hid (ie l a j=match pA l a with|none=>(l,170)|some k=>match l[k]? with|none=>(l,170)|some t=>if fN j=false then (l,40)else if 8<=t.e.es.length then (l,171)else if r9 (mC t.e j)then (l,172)else (l.set k ⟨mC t.e j,t.asked⟩,0)):=ae rfl
 have HO:=ae λk h=>@O6 l a k h
 have HEV:=ae Rt
 clear Rt
 generalize ie l a j=R at *
 have q:=T.cells
 go_in
 go_wp2
 go_step3
 go_wp2_with fail
 generalize w.alloc _=w1 at *
 apply rr (C1.aa w1 k1) k1
 intro u8 w2 y k2 bB
 generalize AK l a=I at *
 replace q:=T.ay k2
 replace q:=ah.cell q
 go_wp2_with fail
 apply aI (C2.aa w2 bB)
 intro w3 k3
 replace bB:=bB.tr k3
 replace y:=y.st k3
 have mR:=k1.size
 have Dk:=ae λ(W W':World) (h:aV w1.heap.size w1.heap.size 128 cW l u8 W) (u:aK w.heap.size none W W')=>(h.up (aD _) (u.more mR (λk _ h=>h))).aq
 clear C1 C2 k3 k2 T q
 cases ho:pA l a with
 | none =>
  obtain rfl:I=-1:=AA;have HQ:Hid (R=(l,170)):=ae Lx;have HW:=ae λW u=>Dk.aa _ W y u
  clear y ho HI HC HO;go_wp2;go_step3;exact IG
 | some k =>
  obtain rfl:I=(k:Int):=AA;obtain⟨t,h1,-⟩:=HO.aa k ho;have HR:Hid (R=if fN j=false then (l,40)else if 8<=t.e.es.length then (l,171)else if r9 (mC t.e j)then (l,172)else (l.set k ⟨mC t.e j,t.asked⟩,0)):=ae Wu;obtain⟨hk,uy⟩:=List.getElem?_eq_some_iff.1 h1;have:(k:Int)<l.length:=af;have:(0:Int)<=(k:Int):=af;clear ho HI HC HO h1;go_wp2;go_step3;go_wp2_with fail
  apply aI (C3.aa w3 bB);intro E k4;replace y:=y.st k4;replace bB:=bB.tr k4;cases hok:fN j
  ·have HQ:Hid (R=(l,40)):=ae (by rw[HR.aa,if_pos hok]);have HW:=ae λW u=>Dk.aa _ W y u
   have az0:jX j=40:=by unfold jX;rw[hok];rfl
   rw[az0];clear y HR;exact IG
  have hc0:jX j=0:=by unfold jX;rw[hok];rfl
  rw[hc0];have iT:Hid (R=if 8<=t.e.es.length then (l,171)else if r9 (mC t.e j)then (l,172)else (l.set k ⟨mC t.e j,t.asked⟩,0)):=ae (by rw[HR.aa,if_neg (by rw[hok];decide)]);clear HR;obtain⟨b1,off,cs,rfl,hcl,hrl,d0,d⟩:=ed uB k hk ax;have hst:=hl _ (bT hk);have D:=hlf _ (bT hk);rw[uy]at hrl hst D;obtain⟨vf,ve,rfl,hf,he⟩:=hrl w (K.rf w);have HE:Hid (∀W,K w W->dx t.e (.agg (aE t.e vf ve)) W):=ae λW k=>⟨_,_,rfl,eu _ _ _ _ hf k,bj he k⟩
  have d0:∀W,K w W->W.cell? ⟨b1,off+k*9,none⟩=some (.int .i64 t.e.kind):=d0;have d:∀W,K w W->∀i,i<9->W.cell? ⟨b1,off+k*9+i,none⟩=(gP t vf ve)[i]?:=λW kk i hi=>(d W kk i hi).trans Array.getElem?_toList
  clear hrl hcl hf he;have q:=d _ bB;go_wp2_with fail
  apply bN (Ky t.e _ E (HE.aa _ bB) hst);rintro v5 w5⟨qK,k5⟩;obtain⟨SF,Y,rfl,Nx,Q⟩:=qK;obtain⟨U,c5,rfl,-⟩:=Nx.slice;obtain⟨D5,d5,rfl,-⟩:=Q.slice;have O:=ah.new w5 126 (aE t.e (.slice U t.e.f.length c5) (.slice D5 t.e.es.length d5));have k6:=O.aS;go_upto_region 8 with fail;generalize w5.alloc _=M at *;have ZH:=k5.tr k6;have tv:=bB;replace bB:=bB.tr ZH;have q6:=O.cell;clear q;by_cases h8:8<=t.e.es.length
  ·have xC:(8:Int)<=(t.e.es.length:Int):=af;have HQ:Hid (R=(l,171)):=ae (by rw[iT.aa,if_pos h8]);have HW:=ae λW u=>Dk.aa _ W (y.st ZH) u
   clear y iT Nx Q;exact IG
  have xC:¬(8:Int)<=(t.e.es.length:Int):=af;have yd:Hid (R=if r9 (mC t.e j)then (l,172)else (l.set k ⟨mC t.e j,t.asked⟩,0)):=ae (by rw[iT.aa,if_neg h8]);clear iT;go_upto_region 10 with fail;have:=k5.size;have:=k6.size;obtain⟨B,qI⟩:∃B,B=w5.heap.size:=⟨_,rfl⟩;rw[<- qI]at O q6⊢;have:=O.lt;have JX:=Q.blk;obtain⟨N,C⟩:∃N:Nat->Prop,N=λk=>(k<E.heap.size∨k=B)∨(Value.slice D5 t.e.es.length d5).ownBlock=some k:=⟨_,rfl⟩
  have hNl:∀k,N k->k<M.heap.size:=λk h=>aB
  have hoY:aC (λk=>k<E.heap.size∨k=B) E.heap.size 51 cI t.e.es (.slice D5 t.e.es.length d5) M:=(Q.sw.to (ag.rf (λ_=>False) _) (λ_ h=>h.elim) (λ_ _ h=>h) λk hk h=>.inl af).st k6;have HX:=ae (show Fx N (λW=>eI t.e.f (.slice U t.e.f.length c5) W) M from λW' u=>xc (FB Nx λg h1 h2 h3=>(u.block g af (λhk=>by
   rw[C]at hk;rcases hk with (hk|hk)|hk
   ·omega
   ·omega
   ·obtain⟨cur,h4⟩:=lO Nx h3;exact absurd ((Q.sw.own hk).2.2.elim λ_ h=>h4.gY h) ax)).trans (k6.block g h2)))
  have hne:(Value.slice D5 t.e.es.length d5).ownBlock≠some B:=λe=>by have:=JX B e;omega
  generalize hve:Value.slice D5 t.e.es.length d5=Y at *;generalize G5:Value.slice U t.e.f.length c5=SF at *;have aky:Hid (∀W,K E W->K w W):=ae λW k=>tv.tr k
  have kR:∀W,rA Y M W->K E W:=λW u=>u.k ZH λk e=>(JX k e).1
  have qs:=λW (u:rA Y M W)=>(O.aX u hne).cell
  refine Fp 7 5 t.e.es Y j 37 Jw [([],[]),([0],[(34,0)]),([],[]),([2],[(36,2)]),([3],[(37,3)]),([1,4],[(35,1),(38,4)]),([5],[]),([6,5],[(40,6),(39,5)])] 50 hoY af af ?_;iterate 3 refine ar.i ?_
  refine ar.op (λv W=>(∃A n c,v=.slice A n c)/\Fx N (λW=>iy j v W) W) (λv w w' ⟨e,h⟩ k=>⟨e,h.up (ag.eP (X:=λb=>Y.ownBlock=some b) k λ_ h=>h) λb h=>by rw[C];exact .inr h⟩) (λV W H hp=>?_) ?_
  ·simp only[cz,aN,aQ,bV,bW,aJ]at hp;obtain⟨wL,wM,e2,bG⟩:=HU.aa W (aky.aa _ (kR W H));rw[e2]at hp;obtain⟨v',w'',hrun,h1,h5,h3⟩:=asO (P:=prog) (ρ:=aF [(36,2)] _ V) (.const (.slice none 0 0)) (.tmp 36) 51 51 76 W.heap.size _ 4 48 TE (.slice none 0 0) 0 [] rfl (jV _ _ _ _) W.heap.size wL j.length wM (j.flatMap kJ) hp.1 bG (Vf j) af (aD _);change cU _ _ _ ((execOp (aF [(36,2)] _ V) (aG (.call { callee:=.builtin .append,args:=#[.const (.slice none 0 0),.tmp 36],argTypes:=#[51,51] }) 51)).run _ _);rw[hrun];have ho:qj w'' W.heap.size v' j:=B8;have hr:Fx N (λW=>iy j v' W) w'':=λW' u=>by obtain⟨v2,Z,h9⟩:=qj.rel ho W' (u.rI λk h1 _ _ T=>by have:=hNl k T;have:=H.size;omega);injection Z with Z;rw[Z];exact h9
   obtain⟨A3,c3,Z⟩:=wY hr.now;exact⟨⟨⟨_,_,_,Z⟩,hr⟩,h5⟩
  refine ar.Gp (S:=cI) (N:=N) M.heap.size Jw j (λ_ h=>h.size) (λb hb=>⟨by rw[C];exact .inr hb,hNl b (by rw[C];exact .inr hb)⟩) (λV W H hp=>?_) ?_
  ·simp only[cz,aN,aQ,bV,bW,aJ]at hp;obtain⟨⟨⟨A,n,c,e⟩,hF⟩,-⟩:=hp;show uv _ _ _ (V 3) _;rw[e]at hF⊢;exact⟨rfl,hF.mono λW h=>⟨_,rfl,h⟩⟩
  refine ar.s ?_;refine ar.i ?_;refine⟨λ_ _=>trivial,λV W H hp=>?_,λV W H hP hv hA=>?_⟩
  ·simp only[cz,aN,aQ,bV,bW,aJ]at hp;exact⟨hp.1,hp.2.1.less λ_ h=>by rw[C];exact h⟩
  simp only[aN,aQ,b6,aJ,Nat.reduceAdd]at hA;obtain⟨F,G,L⟩:=hP.slice;rw[dq,List.length_singleton]at L;rw[L]at hP;have hA:=And.intro L hA;have mj:=O.aX H hne;have qs:=And.intro mj.cell mj.frozen;refine aH.s ?_;refine aH.h ?_;have us:ag (λk=>k=B) W (W.setCell ⟨B,7,none⟩ (.slice F (t.e.es.length+1) G)):=ag.bK (X:=λk=>k=B) rfl 7 _;have bq:ah (W.setCell ⟨B,7,none⟩ (.slice F (t.e.es.length+1) G)) B 126 (aE (mC t.e j) SF (.slice F (t.e.es.length+1) G)):=mj.aP 7 _;have kW4:=us.k (kR W H) λk e=>af
  have C:∀W',ag (λk=>k<E.heap.size∨k=B) (W.setCell ⟨B,7,none⟩ (.slice F (t.e.es.length+1) G)) W'->eI t.e.f SF W'/\aq cI (t.e.es++[j]) (.slice F (t.e.es.length+1) G) W':=λW' u=>by
   have u2:ag (λk=>k<E.heap.size∨k=B) W W':=(us.more λ_ h=>.inr h).tr u;refine⟨HX.aa W' ((H.more λk h=>by rw[C];exact .inr h).tr (u2.more λk h=>by rw[C];exact .inl h)),(hP.to u2 (λ_ h=>h) (λk e h=>?_) λ_ _ h=>.inl h).aq⟩;have h1:=hP.own e;rcases h with h|h
   ·omega
   ·subst h;exact absurd (h1.2.2.elim λ_ h=>h.gY mj) ax
  clear hA qs us hP hv;generalize World.setCell W _ _=W at *;have kW:=aky.aa _ kW4;have q:=bq.cell;have Ny:cE (mC t.e j):=⟨D.1,D.2.1,D.2.2.1,D.2.2.2.1,D.2.2.2.2.1,D.2.2.2.2.2.1,D.2.2.2.2.2.2.1,λe he=>by
   rcases List.mem_append.1 he with h1|h1
   ·exact D.2.2.2.2.2.2.2 e h1
   ·simp at h1;subst h1;exact HEV.aa⟩
  have C4:=ae (adD (mC t.e j) (.agg (aE (mC t.e j) SF (.slice F (t.e.es.length+1) G))) W ⟨_,_,rfl,(C W (ag.rf _ _)).1,(C W (ag.rf _ _)).2⟩ Ny);have HN:=ae C;have HOW:=ae (y.st kW4);have azd:=ae λg h=>(y.blk g h).2
  have:=ae (show w.heap.size<=E.heap.size from tv.size);clear HX y C Nx Q hoY D hst Ny qI;subst G5;go_wp2_with fail
  apply aI C4.aa;intro J k8;have SG:=ae (HOW.aa.st k8);have kw8:=kW.tr k8;have pU:=bq.ay k8;clear q bq;cases Yv:r9 (mC t.e j);rotate_left
  ·have HQ:Hid (R=(l,172)):=ae ahd;have HW:=ae λW u=>Dk.aa _ W SG.aa u
   clear Yv yd SG HOW;go_wp2;try rw[ig]
   go_ret2;exact⟨_,nL,FV,kw8⟩
  have HQ:Hid (R=(l.set k ⟨mC t.e j,t.asked⟩,0)):=ae ahd;have y:=SG.aa;have hkb:=y.blk;obtain⟨Ru,Ra,az1,ZI⟩:=y;have SH:=ZI J (aK.rf _ _ _);have vE:=SH.lens;have hkc:k<Ru.length:=af;have cN:=SH.Gj;obtain⟨vfo,veo,hcs,-,-⟩:=SH.2 k hk hkc;rw[uy]at hcs;rcases Ra.2 with ⟨h0,zj⟩|⟨go,cap,cur,rfl,-⟩
  ·omega
  have:=(hkb go rfl).1;have az2:=azd.aa go rfl;have hqO:k*9+9<=Ru.flatten.length:=by rw[cN];show k*9+9<=l.length*9;omega
  obtain⟨hcell,hfz⟩:=Fv Ra;have dO:∀i,i<9->J.cell? ⟨go,k*9+i,none⟩=(gP t vfo veo)[i]?:=λi hi=>by rw[hcell _ af,show k*9+i=k*cW.size+i from rfl,wX cW.size Ru vE k i hkc hi,List.getElem?_eq_getElem hkc,Option.getD_some,hcs];exact Array.getElem?_toList
  have:J.cell? ⟨go,k*9,none⟩=some (.int .i64 t.e.kind):=dO 0 af;have:=λi=>hfz (k*9+i)
  have:=hfz (k*9);have q:=pU.cell;obtain⟨xp,Rb⟩:∃xp:List Value,xp=(aE (mC t.e j) (.slice U t.e.f.length c5) (.slice F (t.e.es.length+1) G)).toList:=⟨_,rfl⟩;have ZJ:xp.length=8:=by rw[Rb];rfl
  have gJ:=Px xp _ (k*9) J Ra (by rw[ZJ];omega);have L:=OL cW.size xp Ru vE k 0 hkc (by rw[ZJ];decide);rw[show k*cW.size+0=k*9 from rfl]at L;rw[L,hcs]at gJ;have gu:oI (gP t vfo veo).toList 0 xp=(gP ⟨mC t.e j,t.asked⟩ (.slice U t.e.f.length c5) (.slice F (t.e.es.length+1) G)).toList:=by rw[Rb];rfl
  rw[gu]at gJ;have uG:=ag.sets (X:=λk=>k=go) (g:=go) rfl xp (k*9) J;have uX:=ag.sets (X:=λk=>k<E.heap.size∨k=B) (g:=go) (.inl az2) xp (k*9) J;have HK:=ae (aK.k (uG.rI (lo:=0) (row:=some go) (λk _ _ h e=>h FM)) kw8 (by rintro b e;cases e;omega));have HW:Hid (∀W',aK w.heap.size none (dY J go (k*9) xp) W'->aq cW (l.set k ⟨mC t.e j,t.asked⟩) (.slice (some ⟨go,0,none⟩) l.length cap) W'):=ae λW' u=>by have h9:=HN.aa _ (((ag.aU k8 _).tr uX).tr (aK.upN u (λk hk=>by rcases hk with hk|hk;exact .inl (by omega);cases hk)));have ZK:=(ZI _ ((uG.rI (λk _ _ h e=>h Cd)).tr (u.more mR (λk _ _=>aj)))).set k (x:=⟨mC t.e j,t.asked⟩) (cs:=(gP ⟨mC t.e j,t.asked⟩ (.slice U t.e.f.length c5) (.slice F (t.e.es.length+1) G)).toList) ⟨_,_,rfl,h9.1,h9.2⟩;exact O4 (S:=cW) (FB (by rw[List.length_set];exact gJ) λg h1 h2 _=>u.block g af h2 aj) ZK
  rw[Rb]at HW HK;clear hcell hfz Ra gJ ZI vE cN hkb HN uG uX L gu ZJ Rb SH hcs az1 hqO SG HOW yd Yv uy HU;go_wp2;try rw[ig]
  go_ret2;exact⟨_,nL,FV,HK.aa⟩
theorem aH.call{P j E k o r x xs V w}
 f args (hg:o.guard=none) (t:(execOp (aF x.2 j V) (aG o.op o.type)).run P w=.ok (.enter f args) w) (h:Calls P f args w λe u=>∃v,e=.returned v/\aH P j E (k+1) r xs (ba V k v) u):aH P j E k (o :: r) (x :: xs) V w:=by
 unfold aH
 rw[hg,if_pos (show bO V none=true from rfl),t]
 exact h
theorem jx.y6{l}(h:jx l):l.length<=1000000:=by have:=h.len;omega
theorem aoG{M p B w}(h:bA M p B w)(y:bC B) a :
 Calls prog 55 #[.pointer (some ⟨p.g,0,none⟩),cA a] w λe w'=>e=.returned (.int .i64 (dR B (iH B.aA a)).2)/\dE M p (dR B (iH B.aA a)).1 w w':=by
 have C1:=ae λW (k:K w W)=>arB B.aA a p.vt W (h.bF.at k).aA y.tx.small y.tx.y6
 have:=ae h
 have hz:=λk hk=>h.low k hk
 have I:=ae λk hk=>h.low k (h.sub k hk)
 have C:=ae λW (k:K w W) v E=>Uu (h.st k) (l:=(iH B.aA a).1) (v:=v) (iH B.aA a).2 E
 have q:=h.q
 have hb:=ah.new w 26 #[.int .i64 a.1,.int .u64 a.2.1,.int .u64 a.2.2]
 have k1:=hb.aS
 have u:=av h.bF.now.aA
 obtain⟨g,gl,gd,gr,gt,vd,vr,vp,vh,vl,vq,va,vt,vf,vw,kr⟩:=p
 simp only at q C1 u
 obtain⟨At,Z,rfl⟩:=u
 generalize O:iH B.aA a=R at *
 obtain⟨t,rc⟩:=R
 have G:=ae hz
 go_in
 go_upto_region 1 with fail
 generalize w.alloc _=j at *
 generalize w.heap.size=S at hb⊢
 have qa:=hb.cells
 have q1:=λW (k:K j W)=>q W (k1.tr k)
 go_upto_region 3 with fail
 have qs:=And.intro q1 qa
 refine dK 9 ?_
 iterate 6 refine ar.i ?_
 refine ar.op (λv W=>∃v',v=.tuple #[v',.int .i64 rc]/\aV j.heap.size j.heap.size 128 cW t v' W) (λ_ _ _ ⟨v',e,h⟩ k=>⟨v',e,h.st k⟩) (λV W kW hp=>?_) ?_
 ·(try simp only[cz,aN,aQ,bV,bW,aJ]at hp)
  exact ahe
 refine ar.op (λv W=>aV j.heap.size j.heap.size 128 cW t v W) (λ_ _ _ h k=>h.st k) (λV W kW hp=>?_) ?_
 ·exact Ly
 refine ar.is (.int .i64 rc) (λV W kW hp=>?_) ?_
 ·exact Lz
 intro V W kW hA
 simp only[aN,aQ,b6,aJ,Nat.reduceAdd]at hA
 obtain⟨e0,X,L,N,U,Q,⟨v',e6,Y⟩,hO,e8,-⟩:=hA
 have A:=k1.tr kW
 have D:=(aV.sw hO).fx (λ_ h=>h) |>.less λk hk=>bw (G.aa k hk) k1.size
 refine aH.call _ _ rfl ahf ?_
 refine (C.aa W A (V 7) D).mono ?_
 rintro e T⟨rfl,F⟩
 refine⟨_,rfl,?_⟩
 have J:=ae (F.x8 A I.aa)
 apply aH.pure
 rfl
 simp[aF,List.lookup,ba,execOp,aG,go_sem]
 rfl
 refine aH.e ?_
 go_wp2
 go_ret
 exact⟨Qr,J.aa⟩
theorem ape{M p B w}(h:bA M p B w)(y:bC B) a :
 Calls prog 85 #[.pointer (some ⟨p.g,0,none⟩),cA a] w λe w'=>e=.returned (.int .i64 (dR B (iW B.aA a)).2)/\dE M p (dR B (iW B.aA a)).1 w w':=by
 have C1:=ae λW (k:K w W)=>atz B.aA a p.vt W (h.bF.at k).aA y.tx.small y.tx.y6
 have:=ae h
 have hz:=λk hk=>h.low k hk
 have I:=ae λk hk=>h.low k (h.sub k hk)
 have C:=ae λW (k:K w W) v E=>Uu (h.st k) (l:=(iW B.aA a).1) (v:=v) (iW B.aA a).2 E
 have q:=h.q
 have hb:=ah.new w 26 #[.int .i64 a.1,.int .u64 a.2.1,.int .u64 a.2.2]
 have k1:=hb.aS
 have u:=av h.bF.now.aA
 obtain⟨g,gl,gd,gr,gt,vd,vr,vp,vh,vl,vq,va,vt,vf,vw,kr⟩:=p
 simp only at q C1 u
 obtain⟨At,Z,rfl⟩:=u
 generalize O:iW B.aA a=R at *
 obtain⟨t,rc⟩:=R
 have G:=ae hz
 go_in
 go_upto_region 1 with fail
 generalize w.alloc _=j at *
 generalize w.heap.size=S at hb⊢
 have qa:=hb.cells
 have q1:=λW (k:K j W)=>q W (k1.tr k)
 go_upto_region 3 with fail
 have qs:=And.intro q1 qa
 refine dK 9 ?_
 iterate 6 refine ar.i ?_
 refine ar.op (λv W=>∃v',v=.tuple #[v',.int .i64 rc]/\aV j.heap.size j.heap.size 128 cW t v' W) (λ_ _ _ ⟨v',e,h⟩ k=>⟨v',e,h.st k⟩) (λV W kW hp=>?_) ?_
 ·(try simp only[cz,aN,aQ,bV,bW,aJ]at hp)
  exact ahe
 refine ar.op (λv W=>aV j.heap.size j.heap.size 128 cW t v W) (λ_ _ _ h k=>h.st k) (λV W kW hp=>?_) ?_
 ·exact Ly
 refine ar.is (.int .i64 rc) (λV W kW hp=>?_) ?_
 ·exact Lz
 intro V W kW hA
 simp only[aN,aQ,b6,aJ,Nat.reduceAdd]at hA
 obtain⟨e0,X,L,N,U,Q,⟨v',e6,Y⟩,hO,e8,-⟩:=hA
 have A:=k1.tr kW
 have D:=(aV.sw hO).fx (λ_ h=>h) |>.less λk hk=>bw (G.aa k hk) k1.size
 refine aH.call _ _ rfl ahf ?_
 refine (C.aa W A (V 7) D).mono ?_
 rintro e T⟨rfl,F⟩
 refine⟨_,rfl,?_⟩
 have J:=ae (F.x8 A I.aa)
 apply aH.pure
 rfl
 simp[aF,List.lookup,ba,execOp,aG,go_sem]
 rfl
 refine aH.e ?_
 go_wp2
 go_ret
 exact⟨Qr,J.aa⟩
def ye(lo:Nat){α:Type}(S:dV α)(l:List α)(v:Value)(w:World):Prop:=∀W,aK lo none w W->aq S l v W
theorem ye.st{lo α S}{l:List α}{v w w'}(h:ye lo S l v w)(k:K w w'):ye lo S l v w':=λW u=>h W ((aK.aU k _ _).tr u)
theorem ye.low{lo j α S}{l:List α}{v w}(h:ye lo S l v w)(k:j<=lo):ye j S l v w:=λW u=>h W (u.more k λ_ _ h=>h)
theorem ye.fx{lo α S}{l:List α}{v w M}(h:ye lo S l v w)(j:∀k,M k->k<lo):Fx M (λW=>aq S l v W) w:=Fx.fresh h j
theorem aog{M p B w}(h:bA M p B w)(A:bC B) a j u(C:iy j u w)(L:j.length<=1000000)(Q:∀x∈j,lU x) :
 Calls prog 84 #[.pointer (some ⟨p.g,0,none⟩),cA a,u] w λe w'=>e=.returned (.int .i64 (dR B (ie B.aA a j)).2)/\dE M p (dR B (ie B.aA a j)).1 w w':=by
 have J:=ae λW (k:K w W)=>aqe B.aA a j p.vt u W (h.bF.at k).aA (mY _ _ _ _ C k) A.tx.small (λs X=>(A.tx.each s X).2.1) L Q A.tx.y6
 have:=ae h
 have hz:=λk hk=>h.low k hk
 have Z:=ae λk hk=>h.low k (h.sub k hk)
 have N:=ae λW (k:K w W) v S=>Uu (h.st k) (l:=(ie B.aA a j).1) (v:=v) (ie B.aA a j).2 S
 have q:=h.q
 have hb:=ah.new w 26 #[.int .i64 a.1,.int .u64 a.2.1,.int .u64 a.2.2]
 have t:=hb.aS
 have F:=av h.bF.now.aA
 obtain⟨g,gl,gd,gr,gt,vd,vr,vp,vh,vl,vq,va,vt,vf,vw,kr⟩:=p
 simp only at q J F
 obtain⟨At,ct,rfl⟩:=F
 obtain⟨Au,cu,rfl⟩:=wY C
 generalize hR:ie B.aA a j=R at *
 obtain⟨E,rc⟩:=R
 have Y:=ae hz
 go_in
 go_upto_region 1 with fail
 generalize w.alloc _=y at *
 generalize w.heap.size=ga at hb⊢
 have I:=hb.cells
 have D:=λW (k:K y W)=>q W (t.tr k)
 go_upto_region 3 with fail
 have qs:=And.intro D I
 refine dK 10 ?_
 iterate 7 refine ar.i ?_
 refine ar.op (λv W=>∃v',v=.tuple #[v',.int .i64 rc]/\ye y.heap.size cW E v' W) (λ_ _ _ ⟨v',e,h⟩ k=>⟨v',e,h.st k⟩) (λV W kW hp=>?_) ?_
 ·(try simp only[cz,aN,aQ,bV,bW,aJ]at hp)
  simp[bO,aF,List.lookup,hp,cU,execOp,aG,D,I,go_sem];refine (J.aa W (t.tr kW)).mono ?_;rintro e w4⟨v4,rfl,hO,T⟩;exact⟨_,rfl,⟨_,rfl,ye.low hO kW.size⟩,T⟩
 refine ar.op (λv W=>ye y.heap.size cW E v W) (λ_ _ _ h k=>h.st k) (λV W kW hp=>?_) ?_
 ·exact Ly
 refine ar.is (.int .i64 rc) (λV W kW hp=>?_) ?_
 ·exact Lz
 intro V W kW hA
 simp only[aN,aQ,b6,aJ,Nat.reduceAdd]at hA
 obtain⟨e0,e1,e2,e3,e4,e5,e6,⟨v',e7,fI⟩,hO,e9,-⟩:=hA
 have G:=t.tr kW
 have O:=ye.fx hO λk hk=>bw (Y.aa k hk) t.size
 refine aH.call _ _ rfl ahg ?_
 refine (N.aa W G (V 8) O).mono ?_
 rintro e w5⟨rfl,U⟩
 refine⟨_,rfl,?_⟩
 have G6:=ae (U.x8 G Z.aa)
 apply aH.pure
 rfl
 simp[aF,List.lookup,ba,execOp,aG,go_sem]
 rfl
 refine aH.e ?_
 go_wp2
 go_ret
 exact⟨Qr,G6.aa⟩
theorem bC.new{B}(j:bC B):dJ (qD B):=by
 have t:=j.me;have:=j.calls;have u:=j.dk.inv.life;have:=rU j.tr;simp only[fY,dz,decide_eq_true_eq]at t;refine⟨?_,u,?_⟩
 ·grind [dJ,qD,bR]
 ·grind [dJ,qD]
theorem aoH{M p B w}(h:bA M p B w)(j:bC B) c(hc:bR c) gb F(H:ah w gb 90 #[.pointer (some ⟨p.g,0,none⟩)])(N:ah w F 3 #[.int .i64 c]) :
 Calls prog 100 #[cA (qD B),.pointer (some ⟨gb,0,none⟩),.pointer (some ⟨F,0,none⟩)] w λe w'=>∃v',e=.returned (.tuple #[v',.int .i64 (yG B.aA (qD B) c).2])/\aV w.heap.size w.heap.size 128 cW (yG B.aA (qD B) c).1 v' w'/\K w w':=by
 have C1:=ae λW (k:K w W)=>aqb B.aA (qD B) c p.vt W (h.bF.at k).aA j.new hc j.tx.small j.tx.y6
 have q:=h.q
 have y:=H.cells
 have L:=N.cells
 have G:=av h.bF.now.aA
 generalize qD B=a at *
 have hb:=ah.new w 26 #[.int .i64 a.1,.int .u64 a.2.1,.int .u64 a.2.2]
 have k1:=hb.aS
 obtain⟨g,gl,gd,gr,gt,vd,vr,vp,vh,vl,vq,va,vt,vf,vw,kr⟩:=p
 simp only at q C1 G y
 obtain⟨At,ct,rfl⟩:=G
 generalize yG B.aA a c=R at *
 obtain⟨E,rc⟩:=R
 clear h j H N
 go_in
 go_upto_region 1 with fail
 generalize w.alloc _=u at *
 obtain⟨lo,hlo⟩:∃lo,Hid (lo=w.heap.size):=⟨_,ae rfl⟩
 generalize w.heap.size=ga at hb⊢
 have C:=hb.cells
 have t:=λW (k:K u W)=>q W (k1.tr k)
 have D:=λW (k:K u W)=>y W (k1.tr k)
 have A:=λW (k:K u W)=>L W (k1.tr k)
 clear q y L hb
 have qs:=And.intro t (And.intro C (And.intro D A))
 refine dK 9 ?_
 iterate 6 refine ar.i ?_
 refine ar.op (λv W=>∃v',v=.tuple #[v',.int .i64 rc]/\aV lo lo 128 cW E v' W) (λ_ _ _ ⟨v',e,h⟩ k=>⟨v',e,h.st k⟩) (λV W kW hp=>?_) ?_
 ·(try simp only[cz,aN,aQ,bV,bW,aJ]at hp)
  simp[bO,aF,List.lookup,hp,cU,execOp,aG,t,C,D,A,go_sem];exact ahh
 refine ar.op (λv W=>aV lo lo 128 cW E v W) (λ_ _ _ h k=>h.st k) (λV W kW hp=>?_) ?_
 ·exact Ly
 refine ar.is (.int .i64 rc) (λV W kW hp=>?_) ?_
 ·exact Lz
 clear qs
 intro V W kW hA
 simp only[aN,aQ,b6,aJ,Nat.reduceAdd]at hA
 obtain⟨Z,X,O,Q,U,T,⟨v',e6,Y⟩,hO,J,-⟩:=hA
 have kF:=k1.tr kW
 generalize I:V 7=v7 at *
 have S:=av hO.aq
 obtain⟨A7,c7,rfl⟩:=S
 apply aH.pure
 rfl
 simp[aF,List.lookup,ba,I,execOp,aG,go_sem]
 rfl
 apply aH.pure
 rfl
 simp[aF,List.lookup,ba,J,execOp,aG,go_sem]
 rfl
 refine aH.e ?_
 have HO:=ae hO
 clear hO Y C1 t C D A I Z X O Q U T e6 J
 go_wp2
 go_ret2
 exact⟨_,rfl,by rw[<- hlo.aa];exact HO.aa,kF⟩
theorem aqf{M p B w}(h:bA M p B w)(y:bC B) c(hc:bR c)(n:Nat)(hn:n<18446744073709551616) f H(O:eI f H w)(Rc:∀t∈f,iB t)(cN:f.length<=1000000) gb X Q gf(Z:ah w gb 90 #[.pointer (some ⟨p.g,0,none⟩)])(td:ah w X 3 #[.int .i64 c])(NA:ah w Q 24 #[.int .u64 n])(T:ah w gf 53 #[H]) :
 Calls prog 131 #[cA (qD B),.pointer (some ⟨gb,0,none⟩),.pointer (some ⟨X,0,none⟩),.pointer (some ⟨Q,0,none⟩),.pointer (some ⟨gf,0,none⟩)] w λe w'=>∃v',e=.returned (.tuple #[v',.int .i64 (xv B.aA (rE B 2 c n f)).2])/\aV w.heap.size w.heap.size 128 cW (xv B.aA (rE B 2 c n f)).1 v' w'/\K w w':=by
 have I:=y.new
 have hfit:cE (rE B 2 c n f):=⟨by simp[rE,bR],I.1,hc,I.2.1,I.2.2,hn,Rc,by simp[rE]⟩
 have C1:=ae λW (k:K w W)=>aty B.aA (rE B 2 c n f) p.vt (.agg (aE (rE B 2 c n f) H (.slice none 0 0))) W (h.bF.at k).aA ⟨_,_,rfl,eu _ _ _ _ O k,gy _ _⟩ hfit (by simp[ew,rE];exact cN) y.tx.small y.tx.y6
 have q:=h.q
 have E:=Z.cells
 have qc:=td.cells
 have S:=NA.cells
 have qf:=T.cells
 obtain⟨Af,cf,rfl⟩:=b5 O
 have Y:=av h.bF.now.aA
 simp only[rE]at C1
 have D:Hid (qD B=(B.me,B.st.life,B.calls+1)):=ae rfl
 obtain⟨n1,G⟩:∃n,n=B.calls+1:=⟨_,rfl⟩
 rw[<- G]at C1 D
 rw[D.aa]
 generalize u:xv B.aA (rE B 2 c n f)=R at *
 simp only[rE]at u
 rw[<- G]at u
 rw[u]at C1
 clear G u D
 have hb:=ah.new w 26 #[.int .i64 B.me,.int .u64 B.st.life,.int .u64 n1]
 have k1:=hb.aS
 obtain⟨g,gl,gd,gr,gt,vd,vr,vp,vh,vl,vq,va,vt,vf,vw,kr⟩:=p
 simp only at q C1 Y E
 obtain⟨At,ct,rfl⟩:=Y
 obtain⟨U,rc⟩:=R
 clear h y Z td NA hfit T O Rc
 go_in
 go_upto_region 1 with fail
 generalize w.alloc _=j at *
 obtain⟨lo,hlo⟩:∃lo,Hid (lo=w.heap.size):=⟨_,ae rfl⟩
 generalize w.heap.size=ga at hb⊢
 have J:=hb.cells
 have A:=λW (k:K j W)=>q W (k1.tr k)
 have L:=λW (k:K j W)=>E W (k1.tr k)
 have F:=λW (k:K j W)=>qc W (k1.tr k)
 have C:=λW (k:K j W)=>S W (k1.tr k)
 have N:=λW (k:K j W)=>qf W (k1.tr k)
 clear qf
 clear q E qc S hb
 have qs:=And.intro A (And.intro J (And.intro L (And.intro F (And.intro C N))))
 refine dK 12 ?_
 iterate 9 refine ar.i ?_
 refine ar.op (λv W=>∃v',v=.tuple #[v',.int .i64 rc]/\aV lo lo 128 cW U v' W) (λ_ _ _ ⟨v',e,h⟩ k=>⟨v',e,h.st k⟩) (λV W kW hp=>?_) ?_
 ·(try simp only[cz,aN,aQ,bV,bW,aJ]at hp)
  simp[bO,aF,List.lookup,hp,cU,execOp,aG,A,J,L,F,C,N,go_sem];exact ahh
 refine ar.op (λv W=>aV lo lo 128 cW U v W) (λ_ _ _ h k=>h.st k) (λV W kW hp=>?_) ?_
 ·exact Ly
 refine ar.is (.int .i64 rc) (λV W kW hp=>?_) ?_
 ·exact Lz
 clear qs
 intro V W kW hA
 simp only[aN,aQ,b6,aJ,Nat.reduceAdd]at hA
 obtain⟨e0,e1,e2,e3,e4,e5,e6,e7,e8,⟨v',ev,fI⟩,hO,ec,-⟩:=hA
 have kF:=k1.tr kW
 generalize Nz:V 10=v7 at *
 have kP:=av hO.aq
 obtain⟨A7,c7,rfl⟩:=kP
 apply aH.pure
 rfl
 simp[aF,List.lookup,ba,Nz,execOp,aG,go_sem]
 rfl
 apply aH.pure
 rfl
 simp[aF,List.lookup,ba,ec,execOp,aG,go_sem]
 rfl
 refine aH.e ?_
 have HO:=ae hO
 clear hO fI C1 A J L F C N Nz e0 e1 e2 e3 e4 e5 e6 e7 e8 ev ec
 go_wp2
 go_ret2
 exact⟨_,rfl,by rw[<- hlo.aa];exact HO.aa,kF⟩
section
variable {M:Nat->Prop} {p:nE} {B B':bf} {w w1 w2 w3:World} {g9:Nat}
theorem bA.E5(h:bA M p B w)(k:K w w1)(y:w.heap.size<=g9)(u:g9<w1.heap.size):bA (λk=>M k∨k=g9) p B w1 :=
 h.far (X:=λ_=>False) (ag.aU k _) (λ_ h=>h.elim) (λ_ h=>h.elim) (λk hk t=>t.resolve_right af) (λk hk=>.inl (h.sub k hk)) λb hb=>hb.elim (λj=>bw (h.low b j) k.size) λe=>e▸u
theorem dE.scratch(h:dE (λk=>M k∨k=g9) p B' w1 w2)(u:ag (λk=>k=g9) w2 w3)(k:K w w1)(C:w.heap.size<=g9)(G:g9<w1.heap.size)(F:∀k,bu p k->k<w.heap.size)(E:∀k,M k->k<w.heap.size):dE M p B' w w3:=by
 obtain⟨p',y,t,hg,hn⟩:=h;have B:¬bu p' g9:=λj=>(hn g9 j).elim (λh=>aB) λh=>af
 have:=t.size;have A:=u.size;refine⟨p',y.far u (λk hk=>.inl (.inr hk)) (λk hk j=>B (hk▸j)) (λk _ j=>j.imp .inl id) (λk hk=>.inr hk) (λk hk=>hk.elim (λh=>aB) λh=>bw (y.low k (.inr h)) A),((ag.aU k _).tr t).gq u λk hk e=>af,hg,λk hk=>(hn k hk).imp id λh=>af⟩
theorem dE.keeps{t cs}(h:dE M p B' w1 w2)(hb:ah w1 g9 t cs)(hg:¬bu p g9):ah w2 g9 t cs:=by obtain⟨p',u,j,-⟩:=h;exact hb.aX j hg
end
theorem apf{M p B w}(h:bA M p B w)(H:bC B) c(S:bR c) :
 Calls prog 49 #[.pointer (some ⟨p.g,0,none⟩),.int .i64 c] w λe w'=>e=.returned (.tuple #[cA (xg B c).2.1,.int .i64 (xg B c).2.2])/\dE M p (xg B c).1 w w':=by
 have HX:=ae λk hk=>h.low k (h.sub k hk)
 have Z:=ae h.low
 have G:=((ah.new w 90 #[.pointer (some ⟨p.g,0,none⟩)]).alloc (.cells #[.int .i64 c] 3)).alloc (.cells #[.int .i64 0,.int .u64 0,.int .u64 0] 26)
 have E:=(ah.new (w.alloc (.cells #[.pointer (some ⟨p.g,0,none⟩)] 90)) 3 #[.int .i64 c]).alloc (.cells #[.int .i64 0,.int .u64 0,.int .u64 0] 26)
 have C:=ah.new ((w.alloc (.cells #[.pointer (some ⟨p.g,0,none⟩)] 90)).alloc (.cells #[.int .i64 c] 3)) 26 #[.int .i64 0,.int .u64 0,.int .u64 0]
 have I:=K.Rk w (.cells #[.pointer (some ⟨p.g,0,none⟩)] 90) (.cells #[.int .i64 c] 3) (.cells #[.int .i64 0,.int .u64 0,.int .u64 0] 26)
 simp only[World.size_alloc]at E C
 generalize cd:w.heap.size+1+1=t at C
 have h9:w.heap.size<=t:=af
 have F:=h.E5 I h9 C.lt
 have C1:=ae (aco F H c 100 #[.pointer (some ⟨w.heap.size,0,none⟩),.pointer (some ⟨w.heap.size+1,0,none⟩)] (yG B.aA (qD B) c) (λargs W=>cC) (λW kW=>aoH (F.st kW) H c S _ _ (G.ay kW) (E.ay kW)))
 have J:Hid (xg B c=js B c (yG B.aA (qD B) c)):=ae rfl
 generalize xg B c=R at *
 generalize js B c (yG B.aA (qD B) c)=U at *
 obtain⟨B',j,ec⟩:=U
 have N:=ae λy O (A:dE (λk=>M k∨k=t) p B' _ y) (u:ag (λk=>k=t) y O)=>A.scratch u I h9 C.lt HX.aa Z.aa
 have Y:=ae λy (A:dE (λk=>M k∨k=t) p B' _ y)=>A.keeps C λhx=>Wz
 have:=G.cell
 have:=E.cell
 go_in
 go_upto_region 1 with fail
 generalize World.alloc (World.alloc (World.alloc w _) _) _=w1 at *
 go_wp2_with fail
 apply aI C1.aa
 intro y A
 have D:=Y.aa _ A
 have Q:=ae (N.aa _ · A)
 have:=D.cell
 have:=D.frozen
 go_wp2
 have V:ah (World.setCell (World.setCell (World.setCell y _ _) _ _) _ _) t 26 #[.int .i64 j.1,.int .u64 j.2.1,.int .u64 j.2.2]:=((D.aP 0 (.int .i64 j.1)).aP 1 (.int .u64 j.2.1)).aP 2 (.int .u64 j.2.2)
 have T:=ae (Q.aa _ (((ag.bK (X:=λk=>k=t) rfl 0 (.int .i64 j.1)).tr (ag.bK (X:=λk=>k=t) rfl 1 (.int .u64 j.2.1))).tr (ag.bK (X:=λk=>k=t) rfl 2 (.int .u64 j.2.2))))
 generalize World.setCell (World.setCell (World.setCell y _ _) _ _) _ _=W9 at *
 have L:=V.cell
 try rw[ig]
 refine bodyPost_ret (v:=.tuple #[cA j,.int .i64 ec]) (by simp[results,results49,go_sem,L]) rfl ?_
 exact⟨by rw[J.aa],by rw[J.aa];exact T.aa⟩
theorem arD{M p B w}(h:bA M p B w)(N:bC B) c(hc:bR c)(n:Nat)(hn:n<18446744073709551616) f S(U:eI f S w)(Rc:∀t∈f,iB t)(cN:f.length<=1000000) :
 Calls prog 77 #[.pointer (some ⟨p.g,0,none⟩),.int .i64 c,.int .u64 n,S] w λe w'=>e=.returned (.tuple #[cA (yV B c n f).2.1,.int .i64 (yV B c n f).2.2])/\dE M p (yV B c n f).1 w w':=by
 obtain⟨D,C,e0⟩:=b5 U
 subst e0
 have HX:=ae λk hk=>h.low k (h.sub k hk)
 have HM:=ae h.low
 have L:=(((((ah.new w 90 #[.pointer (some ⟨p.g,0,none⟩)]).alloc (.cells #[.int .i64 c] 3)).alloc (.cells #[.int .u64 n] 24)).alloc (.cells #[(Value.slice D f.length C)] 53)).alloc (.cells #[.int .i64 0,.int .u64 0,.int .u64 0] 26))
 have I:=((((ah.new (w.alloc (.cells #[.pointer (some ⟨p.g,0,none⟩)] 90)) 3 #[.int .i64 c]).alloc (.cells #[.int .u64 n] 24)).alloc (.cells #[(Value.slice D f.length C)] 53)).alloc (.cells #[.int .i64 0,.int .u64 0,.int .u64 0] 26))
 have O:=(((ah.new ((w.alloc (.cells #[.pointer (some ⟨p.g,0,none⟩)] 90)).alloc (.cells #[.int .i64 c] 3)) 24 #[.int .u64 n]).alloc (.cells #[(Value.slice D f.length C)] 53)).alloc (.cells #[.int .i64 0,.int .u64 0,.int .u64 0] 26))
 have Q:=((ah.new (((w.alloc (.cells #[.pointer (some ⟨p.g,0,none⟩)] 90)).alloc (.cells #[.int .i64 c] 3)).alloc (.cells #[.int .u64 n] 24)) 53 #[(Value.slice D f.length C)]).alloc (.cells #[.int .i64 0,.int .u64 0,.int .u64 0] 26))
 have F:=ah.new ((((w.alloc (.cells #[.pointer (some ⟨p.g,0,none⟩)] 90)).alloc (.cells #[.int .i64 c] 3)).alloc (.cells #[.int .u64 n] 24)).alloc (.cells #[(Value.slice D f.length C)] 53)) 26 #[.int .i64 0,.int .u64 0,.int .u64 0]
 have H:=K.azz w (.cells #[.pointer (some ⟨p.g,0,none⟩)] 90) (.cells #[.int .i64 c] 3) (.cells #[.int .u64 n] 24) (.cells #[(Value.slice D f.length C)] 53) (.cells #[.int .i64 0,.int .u64 0,.int .u64 0] 26)
 simp only[World.size_alloc]at I O Q F
 generalize cd:w.heap.size+1+1+1+1=y at F
 have h9:w.heap.size<=y:=af
 have J:=h.E5 H h9 F.lt
 have C1:=ae (aco J N c 131 #[.pointer (some ⟨w.heap.size,0,none⟩),.pointer (some ⟨w.heap.size+1,0,none⟩),.pointer (some ⟨w.heap.size+1+1,0,none⟩),.pointer (some ⟨w.heap.size+1+1+1,0,none⟩)] (xv B.aA (rE B 2 c n f)) (λargs W=>cC) (λW kW=>aqf (J.st kW) N c hc n hn f (Value.slice D f.length C) (eu _ _ _ _ U (H.tr kW)) Rc cN _ _ _ _ (L.ay kW) (I.ay kW) (O.ay kW) (Q.ay kW)))
 have T:Hid (yV B c n f=js B c (xv B.aA (rE B 2 c n f))):=ae rfl
 generalize yV B c n f=R at *
 generalize js B c (xv B.aA (rE B 2 c n f))=RR at *
 obtain⟨B',j,ec⟩:=RR
 have Y:=ae λA Z (E:dE (λk=>M k∨k=y) p B' _ A) (u:ag (λk=>k=y) A Z)=>E.scratch u H h9 F.lt HX.aa HM.aa
 have HR:=ae λA (E:dE (λk=>M k∨k=y) p B' _ A)=>E.keeps F λhx=>Wz
 have:=L.cell
 have:=I.cell
 go_in
 go_upto_region 1 with fail
 generalize World.alloc (World.alloc (World.alloc (World.alloc (World.alloc w _) _) _) _) _=w1 at *
 go_wp2_with fail
 apply aI C1.aa
 intro A E
 have G:=HR.aa _ E
 have GS:=ae (Y.aa _ · E)
 have:=G.cell
 have:=G.frozen
 go_wp2
 have sZ:ah (World.setCell (World.setCell (World.setCell A _ _) _ _) _ _) y 26 #[.int .i64 j.1,.int .u64 j.2.1,.int .u64 j.2.2]:=((G.aP 0 (.int .i64 j.1)).aP 1 (.int .u64 j.2.1)).aP 2 (.int .u64 j.2.2)
 have HF:=ae (GS.aa _ (((ag.bK (X:=λk=>k=y) rfl 0 (.int .i64 j.1)).tr (ag.bK (X:=λk=>k=y) rfl 1 (.int .u64 j.2.1))).tr (ag.bK (X:=λk=>k=y) rfl 2 (.int .u64 j.2.2))))
 generalize World.setCell (World.setCell (World.setCell A _ _) _ _) _ _=W9 at *
 have V:=sZ.cell
 try rw[ig]
 refine bodyPost_ret (v:=.tuple #[cA j,.int .i64 ec]) (by simp[results,results77,go_sem,V]) rfl ?_
 exact⟨by rw[T.aa],by rw[T.aa];exact HF.aa⟩
theorem ab0 x v w(h:dx x v w)(X:ew x) :
 Calls prog 122 #[v] w λe w'=>∃v',e=.returned v'/\vN w.heap.size x v' w'/\K w w':=by
 have V:=ae func122
 have R:=ae ntmps122
 have zR:=ae results122
 obtain⟨vf,ve,rfl,Y,he⟩:=h
 obtain⟨A,c,F,H⟩:=Y
 obtain rfl:=F
 obtain⟨D,d,F,he,T⟩:=he
 obtain rfl:=F
 obtain⟨S,N,I⟩:=X
 obtain⟨k,b,l,s,cl,u,f,es⟩:=x
 simp only at H he T S N I⊢
 have B:=(ah.new w 126 (aE ⟨k,b,l,s,cl,u,f,es⟩ (.slice A f.length c) (.slice D es.length d))).alloc (.cells eM 126)
 have C:=ah.new (w.alloc (.cells (aE ⟨k,b,l,s,cl,u,f,es⟩ (.slice A f.length c) (.slice D es.length d)) 126)) 126 eM
 have G:=K.kK w (.cells (aE ⟨k,b,l,s,cl,u,f,es⟩ (.slice A f.length c) (.slice D es.length d)) 126) (.cells eM 126)
 have hz:(w.alloc (.cells (aE ⟨k,b,l,s,cl,u,f,es⟩ (.slice A f.length c) (.slice D es.length d)) 126)).heap.size=w.heap.size+1:=aj
 rw[hz]at C
 have GM:=ae I
 go_enter V.aa,R.aa
 go_upto_region 1 with fail
 generalize World.alloc (World.alloc w _) _=w1 at *
 have O:=(H.below G (aD _)).more G.size
 have hr1:=C.lt
 have q:=B.cell
 have z:=B.frozen
 go_wp2_with (at_builtin;refine iM rfl _ _ 53 rfl w1.heap.size 73 _ 5 56 TF _ 0 [] rfl (jV _ _ _ _) _ A f.length c (f.flatMap fq) rfl O (Ij f) ?p1 (aD _) ?_)
 case p1=>omega
 intro L t J _ _ aR
 have E:=B.ay aR
 have Q:=C.ay aR
 have U:=G.tr aR
 obtain⟨A1,c1,rfl,-⟩:=(show fQ t w1.heap.size L f from J).slice
 have q:=E.cell
 have z:=E.frozen
 have Z:=aR.size
 go_upto_region 3 with fail
 have fM:ah (t.setCell ⟨w.heap.size,6,none⟩ (.slice A1 f.length c1)) w.heap.size 126 #[.int .i64 k,.int .i64 b,.int .u64 l,.int .u64 s,.int .i64 cl,.int .u64 u,.slice A1 f.length c1,.slice D es.length d]:=E.aP 6 (.slice A1 f.length c1)
 have dU:=Q.far (p:=⟨w.heap.size,6,none⟩) aj (.slice A1 f.length c1)
 have k3:K w (t.setCell ⟨w.heap.size,6,none⟩ (.slice A1 f.length c1)):=K.set U (aD _) 6 _
 have fL:fQ (t.setCell ⟨w.heap.size,6,none⟩ (.slice A1 f.length c1)) w1.heap.size (.slice A1 f.length c1) f:=fQ.up J (aK.set af 6 _)
 have sq:w.heap.size+1<(t.setCell ⟨w.heap.size,6,none⟩ (.slice A1 f.length c1)).heap.size:=Lr
 generalize t.setCell _ _=w3 at *
 have M:=K.rf w3
 have q:=fM.cell
 go_wp2_with fail
 go_loopw [3,5,13] (fun o _ i W=>∃j:Nat,j<=es.length/\i=.int .i64 j/\aV w3.heap.size w3.heap.size 51 cI (es.take j) o W/\K w3 W) (fun _ _ i _=>es.length-(intOf i).toNat)
 case atStart=>exact⟨0,af,rfl,FR,M⟩
 case round => exact Ls
theorem OQ x v w(h:dx x v w)(X:ew x) :
 Calls prog 232 #[v] w λe w'=>∃v',e=.returned v'/\vN w.heap.size x v' w'/\K w w':=by
 have V:=ae func232
 have R:=ae ntmps232
 have zR:=ae results232
 obtain⟨vf,ve,rfl,Y,he⟩:=h
 obtain⟨A,c,F,H⟩:=Y
 obtain rfl:=F
 obtain⟨D,d,F,he,T⟩:=he
 obtain rfl:=F
 obtain⟨S,N,I⟩:=X
 obtain⟨k,b,l,s,cl,u,f,es⟩:=x
 simp only at H he T S N I⊢
 have B:=(ah.new w 126 (aE ⟨k,b,l,s,cl,u,f,es⟩ (.slice A f.length c) (.slice D es.length d))).alloc (.cells eM 126)
 have C:=ah.new (w.alloc (.cells (aE ⟨k,b,l,s,cl,u,f,es⟩ (.slice A f.length c) (.slice D es.length d)) 126)) 126 eM
 have G:=K.kK w (.cells (aE ⟨k,b,l,s,cl,u,f,es⟩ (.slice A f.length c) (.slice D es.length d)) 126) (.cells eM 126)
 have hz:(w.alloc (.cells (aE ⟨k,b,l,s,cl,u,f,es⟩ (.slice A f.length c) (.slice D es.length d)) 126)).heap.size=w.heap.size+1:=aj
 rw[hz]at C
 have GM:=ae I
 go_enter V.aa,R.aa
 go_upto_region 1 with fail
 generalize World.alloc (World.alloc w _) _=w1 at *
 have O:=(H.below G (aD _)).more G.size
 have hr1:=C.lt
 have q:=B.cell
 have z:=B.frozen
 go_wp2_with (at_builtin;refine iM rfl _ _ 53 rfl w1.heap.size 73 _ 5 56 TF _ 0 [] rfl (jV _ _ _ _) _ A f.length c (f.flatMap fq) rfl O (Ij f) ?p1 (aD _) ?_)
 case p1=>omega
 intro L t J _ _ aR
 have E:=B.ay aR
 have Q:=C.ay aR
 have U:=G.tr aR
 obtain⟨A1,c1,rfl,-⟩:=(show fQ t w1.heap.size L f from J).slice
 have q:=E.cell
 have z:=E.frozen
 have Z:=aR.size
 go_upto_region 3 with fail
 have fM:ah (t.setCell ⟨w.heap.size,6,none⟩ (.slice A1 f.length c1)) w.heap.size 126 #[.int .i64 k,.int .i64 b,.int .u64 l,.int .u64 s,.int .i64 cl,.int .u64 u,.slice A1 f.length c1,.slice D es.length d]:=E.aP 6 (.slice A1 f.length c1)
 have dU:=Q.far (p:=⟨w.heap.size,6,none⟩) aj (.slice A1 f.length c1)
 have k3:K w (t.setCell ⟨w.heap.size,6,none⟩ (.slice A1 f.length c1)):=K.set U (aD _) 6 _
 have fL:fQ (t.setCell ⟨w.heap.size,6,none⟩ (.slice A1 f.length c1)) w1.heap.size (.slice A1 f.length c1) f:=fQ.up J (aK.set af 6 _)
 have sq:w.heap.size+1<(t.setCell ⟨w.heap.size,6,none⟩ (.slice A1 f.length c1)).heap.size:=Lr
 generalize t.setCell _ _=w3 at *
 have M:=K.rf w3
 have q:=fM.cell
 go_wp2_with fail
 go_loopw [3,5,13] (fun o _ i W=>∃j:Nat,j<=es.length/\i=.int .i64 j/\aV w3.heap.size w3.heap.size 51 cI (es.take j) o W/\K w3 W) (fun _ _ i _=>es.length-(intOf i).toNat)
 case atStart=>exact⟨0,af,rfl,FR,M⟩
 case round => exact Ls
theorem apg x v w(h:dx x v w)(X:ew x) :
 Calls prog 307 #[v] w λe w'=>∃v',e=.returned v'/\vN w.heap.size x v' w'/\K w w':=by
 have V:=ae func307
 have R:=ae ntmps307
 have zR:=ae results307
 obtain⟨vf,ve,rfl,Y,he⟩:=h
 obtain⟨A,c,F,H⟩:=Y
 obtain rfl:=F
 obtain⟨D,d,F,he,T⟩:=he
 obtain rfl:=F
 obtain⟨S,N,I⟩:=X
 obtain⟨k,b,l,s,cl,u,f,es⟩:=x
 simp only at H he T S N I⊢
 have B:=(ah.new w 126 (aE ⟨k,b,l,s,cl,u,f,es⟩ (.slice A f.length c) (.slice D es.length d))).alloc (.cells eM 126)
 have C:=ah.new (w.alloc (.cells (aE ⟨k,b,l,s,cl,u,f,es⟩ (.slice A f.length c) (.slice D es.length d)) 126)) 126 eM
 have G:=K.kK w (.cells (aE ⟨k,b,l,s,cl,u,f,es⟩ (.slice A f.length c) (.slice D es.length d)) 126) (.cells eM 126)
 have hz:(w.alloc (.cells (aE ⟨k,b,l,s,cl,u,f,es⟩ (.slice A f.length c) (.slice D es.length d)) 126)).heap.size=w.heap.size+1:=aj
 rw[hz]at C
 have GM:=ae I
 go_enter V.aa,R.aa
 go_upto_region 1 with fail
 generalize World.alloc (World.alloc w _) _=w1 at *
 have O:=(H.below G (aD _)).more G.size
 have hr1:=C.lt
 have q:=B.cell
 have z:=B.frozen
 go_wp2_with (at_builtin;refine iM rfl _ _ 53 rfl w1.heap.size 73 _ 5 56 TF _ 0 [] rfl (jV _ _ _ _) _ A f.length c (f.flatMap fq) rfl O (Ij f) ?p1 (aD _) ?_)
 case p1=>omega
 intro L t J _ _ aR
 have E:=B.ay aR
 have Q:=C.ay aR
 have U:=G.tr aR
 obtain⟨A1,c1,rfl,-⟩:=(show fQ t w1.heap.size L f from J).slice
 have q:=E.cell
 have z:=E.frozen
 have Z:=aR.size
 go_upto_region 3 with fail
 have fM:ah (t.setCell ⟨w.heap.size,6,none⟩ (.slice A1 f.length c1)) w.heap.size 126 #[.int .i64 k,.int .i64 b,.int .u64 l,.int .u64 s,.int .i64 cl,.int .u64 u,.slice A1 f.length c1,.slice D es.length d]:=E.aP 6 (.slice A1 f.length c1)
 have dU:=Q.far (p:=⟨w.heap.size,6,none⟩) aj (.slice A1 f.length c1)
 have k3:K w (t.setCell ⟨w.heap.size,6,none⟩ (.slice A1 f.length c1)):=K.set U (aD _) 6 _
 have fL:fQ (t.setCell ⟨w.heap.size,6,none⟩ (.slice A1 f.length c1)) w1.heap.size (.slice A1 f.length c1) f:=fQ.up J (aK.set af 6 _)
 have sq:w.heap.size+1<(t.setCell ⟨w.heap.size,6,none⟩ (.slice A1 f.length c1)).heap.size:=Lr
 generalize t.setCell _ _=w3 at *
 have M:=K.rf w3
 have q:=fM.cell
 go_wp2_with fail
 go_loopw [3,5,13] (fun o _ i W=>∃j:Nat,j<=es.length/\i=.int .i64 j/\aV w3.heap.size w3.heap.size 51 cI (es.take j) o W/\K w3 W) (fun _ _ i _=>es.length-(intOf i).toNat)
 case atStart=>exact⟨0,af,rfl,FR,M⟩
 case round => exact Ls
