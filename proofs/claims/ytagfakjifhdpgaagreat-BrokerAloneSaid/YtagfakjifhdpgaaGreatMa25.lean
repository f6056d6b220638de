/-
  A region that draws its order, in which a call's first result is stored in a block made for it, and its second one is taken (broker.Status, broker.note). Conditions: none.
-/
import Derived.Test.YtagfakjifhdpgaaGreatMa24
set_option maxRecDepth 100000
set_option maxHeartbeats 16000000
set_option linter.unusedVariables false
set_option linter.unusedSimpArgs false
namespace Go.Proofs.YtagfakjifhdpgaaGreat
open Go Go.RowKit
structure GotI (w:World) (T:TypeId) (z:Array Value) (cs:Nat->Value) (Φ:Nat->Array Value->Value->World->Prop) (L:Nat->Bool) (V:Nat->Value) (W:World):Prop where
 k:K w W
 pre:∀ j,j<5->L j=true->V j=cs j
 al:L 9=true->∃ b,V 9=.pointer (some ⟨b,0,none⟩)/\w.heap.size<=b/\(L 5=false->Blk W b T z)
 got:L 5=true->∃ xs c lo W1,V 5=.tuple #[.agg xs,c]/\w.heap.size<=lo/\W1.heap.size<=W.heap.size/\Φ lo xs c W/\(L 10=false->K W1 W/\Φ lo xs c W1) /\
  (L 6=true->V 6=.tuple #[.agg xs,c])/\(L 7=true->V 7=.agg xs)/\(L 8=true->V 8=c)/\(L 11=true->V 11=c) /\
  (L 9=true->∃ b,V 9=.pointer (some ⟨b,0,none⟩)/\w.heap.size<=b/\(b<lo∨W1.heap.size<=b)/\Blk W b T (cond (L 10) xs z))
section
variable {P:Program} {Q:Exit->Act->World->Prop}
theorem upd_ne {L:Nat->Bool} {i j:Nat} (h:j≠i):upd L i j=L j:=by unfold upd;rw[if_neg h]
theorem updV_ne {V:Nat->Value} {i j:Nat} {v:Value} (h:j≠i):updV V i v j=V j:=by unfold updV;rw[if_neg h]
theorem upd_eq {L:Nat->Bool} {i:Nat}:upd L i i=true:=by unfold upd;rw[if_pos rfl]
theorem updV_eq {V:Nat->Value} {i:Nat} {v:Value}:updV V i v i=v:=by unfold updV;rw[if_pos rfl]
variable {w:World} {T:TypeId} {z:Array Value} {cs:Nat->Value} {Φ:Nat->Array Value->Value->World->Prop} {L:Nat->Bool} {V:Nat->Value} {W:World}
theorem GotI.early (h:GotI w T z cs Φ L V W) (i:Nat) (hi:i<5):GotI w T z cs Φ (upd L i) (updV V i (cs i)) W:=by
 refine⟨h.k,fun j hj hL=>?_,fun hL=>?_,fun hL=>?_⟩
 · by_cases e:j=i
   · subst e;exact updV_eq
   · rw[updV_ne e];exact h.pre j hj (by rwa [upd_ne e] at hL)
 · rw[upd_ne (by omega)] at hL
   rw[updV_ne (by omega),upd_ne (by omega)]
   exact h.al hL
 · rw[upd_ne (by omega)] at hL
   obtain⟨xs,c,lo,W1,a⟩:=h.got hL
   refine⟨xs,c,lo,W1,?_⟩
   simp only[upd_ne (show 10≠i by omega),upd_ne (show 6≠i by omega),upd_ne (show 7≠i by omega),upd_ne (show 8≠i by omega),upd_ne (show 11≠i by omega),upd_ne (show 9≠i by omega),updV_ne (show 5≠i by omega),updV_ne (show 6≠i by omega),updV_ne (show 7≠i by omega),updV_ne (show 8≠i by omega),updV_ne (show 11≠i by omega),updV_ne (show 9≠i by omega)]
   exact a
theorem GotI.call (h:GotI w T z cs Φ L V W) {W':World} {xs:Array Value} {c:Value} (k:K W W') (hΦ:Φ W.heap.size xs c W') (h5:L 5=false) (h6:L 6=false) (h7:L 7=false) (h8:L 8=false) (h10:L 10=false) (h11:L 11=false):GotI w T z cs Φ (upd L 5) (updV V 5 (.tuple #[.agg xs,c])) W':=by
 refine⟨h.k.tr k,fun j hj hL=>?_,fun hL=>?_,fun _=>⟨xs,c,W.heap.size,W',updV_eq,h.k.size,Nat.le_refl _,hΦ,fun _=>⟨K.rf _,hΦ⟩,fun hL=>?_,fun hL=>?_,fun hL=>?_,fun hL=>?_,fun hL=>?_⟩⟩
 · rw[updV_ne (by omega)];exact h.pre j hj (by rwa [upd_ne (by omega)] at hL)
 · rw[upd_ne (by omega)] at hL
   obtain⟨b,e,h1,h2⟩:=h.al hL
   rw[updV_ne (by omega)]
   exact⟨b,e,h1,fun hx=>by rw[upd_eq] at hx;cases hx⟩
 · rw[upd_ne (by omega),h6] at hL;cases hL
 · rw[upd_ne (by omega),h7] at hL;cases hL
 · rw[upd_ne (by omega),h8] at hL;cases hL
 · rw[upd_ne (by omega),h11] at hL;cases hL
 · rw[upd_ne (by omega)] at hL
   obtain⟨b,e,h1,h2⟩:=h.al hL
   rw[updV_ne (by omega)]
   have hb:=h2 h5
   refine⟨b,e,h1,.inl hb.lt,?_⟩
   rw[upd_ne (by omega),h10]
   exact hb.below k hb.lt
theorem GotI.late (h:GotI w T z cs Φ L V W) (i:Nat) (v:Value) (hi:i=6∨i=7∨i=8∨i=11) (h5:L 5=true) (hv:∀ xs c,V 5=.tuple #[.agg xs,c]->v=if i=6 then .tuple #[.agg xs,c] else if i=7 then .agg xs else c):GotI w T z cs Φ (upd L i) (updV V i v) W:=by
 refine⟨h.k,fun j hj hL=>?_,fun hL=>?_,fun hL=>?_⟩
 · rw[updV_ne (by omega)];exact h.pre j hj (by rwa [upd_ne (by omega)] at hL)
 · rw[upd_ne (by omega)] at hL
   rw[updV_ne (by omega),upd_ne (by omega)]
   exact h.al hL
 · obtain⟨xs,c,lo,W1,e5,a1,a2,a3,a4,a6,a7,a8,a11,a9⟩:=h.got h5
   have hvx:=hv xs c e5
   refine⟨xs,c,lo,W1,by rw[updV_ne (by omega)];exact e5,a1,a2,a3,fun hx=>a4 (by rwa [upd_ne (by omega)] at hx),fun hx=>?_,fun hx=>?_,fun hx=>?_,fun hx=>?_,fun hx=>?_⟩
   · by_cases e:i=6
     · subst e;rw[updV_eq,hvx];rfl
     · rw[updV_ne (Ne.symm e)];exact a6 (by rwa [upd_ne (Ne.symm e)] at hx)
   · by_cases e:i=7
     · subst e;rw[updV_eq,hvx];rfl
     · rw[updV_ne (Ne.symm e)];exact a7 (by rwa [upd_ne (Ne.symm e)] at hx)
   · by_cases e:i=8
     · subst e;rw[updV_eq,hvx];rfl
     · rw[updV_ne (Ne.symm e)];exact a8 (by rwa [upd_ne (Ne.symm e)] at hx)
   · by_cases e:i=11
     · subst e;rw[updV_eq,hvx];rfl
     · rw[updV_ne (Ne.symm e)];exact a11 (by rwa [upd_ne (Ne.symm e)] at hx)
   · rw[upd_ne (by omega)] at hx
     rw[updV_ne (by omega),upd_ne (by omega)]
     exact a9 hx
theorem GotI.made (h:GotI w T z cs Φ L V W) (hK:∀ lo xs c W W',Φ lo xs c W->K W W'->Φ lo xs c W') (h10:L 10=false):GotI w T z cs Φ (upd L 9) (updV V 9 (.pointer (some ⟨W.heap.size,0,none⟩))) (W.alloc (.cells z T)):=by
 have k:K W (W.alloc (.cells z T)):=(K.rf W).al _
 have hb:=Blk.new W T z
 refine⟨h.k.tr k,fun j hj hL=>?_,fun _=>⟨_,updV_eq,h.k.size,fun _=>hb⟩,fun hL=>?_⟩
 · rw[updV_ne (by omega)];exact h.pre j hj (by rwa [upd_ne (by omega)] at hL)
 · rw[upd_ne (by omega)] at hL
   obtain⟨xs,c,lo,W1,e5,a1,a2,a3,a4,a6,a7,a8,a11,a9⟩:=h.got hL
   refine⟨xs,c,lo,W1,by rw[updV_ne (by omega)];exact e5,a1,Nat.le_trans a2 k.size,hK _ _ _ _ _ a3 k,fun hx=>⟨(a4 h10).1.tr k,(a4 h10).2⟩,fun hx=>?_,fun hx=>?_,fun hx=>?_,fun hx=>?_,fun _=>⟨_,updV_eq,h.k.size,.inr a2,?_⟩⟩
   · rw[updV_ne (by omega)];exact a6 (by rwa [upd_ne (by omega)] at hx)
   · rw[updV_ne (by omega)];exact a7 (by rwa [upd_ne (by omega)] at hx)
   · rw[updV_ne (by omega)];exact a8 (by rwa [upd_ne (by omega)] at hx)
   · rw[updV_ne (by omega)];exact a11 (by rwa [upd_ne (by omega)] at hx)
   · rw[upd_ne (by omega),h10];exact hb
theorem GotI.kept (h:GotI w T z cs Φ L V W) (hK:∀ lo xs c W W',Φ lo xs c W->K W W'->Φ lo xs c W') (hlow:∀ lo xs c W W' b,Φ lo xs c W->b<lo->UpN (fun k=>k=b) W W'->Φ lo xs c W') (h5:L 5=true) (h9:L 9=true) (h10:L 10=false) {W':World} {b:Nat} {xs:Array Value} {c:Value} (e5:V 5=.tuple #[.agg xs,c]) (e9:V 9=.pointer (some ⟨b,0,none⟩)) (hb:Blk W' b T xs) (hg:W.grownBy W' (some b)):GotI w T z cs Φ (upd L 10) (updV V 10 undef) W':=by
 have u:UpN (fun k=>k=b) W W':=UpN.of_mut hg fun k e=>by injection e with e;exact e.symm
 obtain⟨xs',c',lo,W1,e5',a1,a2,a3,a4,a6,a7,a8,a11,a9⟩:=h.got h5
 rw[e5] at e5'
 injection e5' with e5'
 simp at e5'
 obtain⟨rfl,rfl⟩:=e5'
 obtain⟨b',e9',hb1,hb2,-⟩:=a9 h9
 rw[e9] at e9'
 injection e9' with e9'
 injection e9' with e9'
 injection e9' with e9' _
 subst e9'
 obtain⟨k1,p1⟩:=a4 h10
 have hΦ:Φ lo xs c W':=by
  rcases hb2 with hb2|hb2
  · exact hlow _ _ _ _ _ b a3 hb2 u
  · exact hK _ _ _ _ _ p1 (u.k k1 fun k e=>by omega)
 refine⟨u.k h.k fun k e=>by omega,fun j hj hL=>?_,fun hL=>?_,fun hL=>?_⟩
 · rw[updV_ne (by omega)];exact h.pre j hj (by rwa [upd_ne (by omega)] at hL)
 · rw[updV_ne (by omega)]
   exact⟨b,e9,hb1,fun hx=>by rw[upd_ne (by omega),h5] at hx;cases hx⟩
 · refine⟨xs,c,lo,W1,by rw[updV_ne (by omega)];exact e5,a1,Nat.le_trans a2 u.size,hΦ,fun hx=>(by rw[upd_eq] at hx;cases hx),fun hx=>?_,fun hx=>?_,fun hx=>?_,fun hx=>?_,fun _=>⟨b,by rw[updV_ne (by omega)];exact e9,hb1,hb2,?_⟩⟩
   · rw[updV_ne (by omega)];exact a6 (by rwa [upd_ne (by omega)] at hx)
   · rw[updV_ne (by omega)];exact a7 (by rwa [upd_ne (by omega)] at hx)
   · rw[updV_ne (by omega)];exact a8 (by rwa [upd_ne (by omega)] at hx)
   · rw[updV_ne (by omega)];exact a11 (by rwa [upd_ne (by omega)] at hx)
   · rw[upd_eq];exact hb
def gotPl:List (List Nat):=[[],[0],[1],[2],[],[3,4],[5],[6],[6],[],[7,9],[8]]
def runX (P:Program) (a0:Act) (ops:Array Oper) (pl:List (List Nat×List (Nat×Nat))) (i:Nat) (V:Nat->Value) (W:World):Result Next :=
 match ops[i]?,pl[i]? with
 | some o,some x=>(execOp (rhoP x.2 a0 V) (bareOp o.op o.type)).run P W
 | _,_=>.halt (.stuck "") W
theorem wp_region_got {id:Nat} {ops:Array Oper} {a0:Act} {w:World} (T:TypeId) (z:Array Value) (cs:Nat->Value) (Φ:Nat->Array Value->Value->World->Prop) (pl:List (List Nat×List (Nat×Nat))) (f:FuncId) (args:Array Value)
 (n:Nat) (hn:a0.tmps.size=n) (hm:P.follows .mixedOrders=true) (hok:regionOk ops n=true) (hpl:planOk ops pl=true) (hsz:ops.size=12) (hgp:pl.map (·.1)=gotPl) (hgd:∀ o∈ops.toList,o.guard=none)
 (hpre:∀ i,i<5->∀ V W,K w W->(∀ j∈(pl.getD i ([],[])).1,V j=cs j)->runX P a0 ops pl i V W=.ok (.value (cs i)) W)
 (hcall:∀ V W,K w W->V 3=cs 3->V 4=cs 4->runX P a0 ops pl 5 V W=.ok (.enter f args) W)
 (hC:∀ W,K w W->Calls P f args W fun e W'=>∃ xs c,e=.returned (.tuple #[.agg xs,c])/\Φ W.heap.size xs c W'/\K W W')
 (h6:∀ V W v,V 5=v->runX P a0 ops pl 6 V W=.ok (.value v) W)
 (h7:∀ V W xs c,V 6=.tuple #[.agg xs,c]->runX P a0 ops pl 7 V W=.ok (.value (.agg xs)) W)
 (h8:∀ V W xs c,V 6=.tuple #[.agg xs,c]->runX P a0 ops pl 8 V W=.ok (.value c) W)
 (h9:∀ V W,runX P a0 ops pl 9 V W=.ok (.value (.pointer (some ⟨W.heap.size,0,none⟩))) (W.alloc (.cells z T)))
 (h10:∀ V W b lo xs c W0,V 9=.pointer (some ⟨b,0,none⟩)->V 7=.agg xs->Blk W b T z->Φ lo xs c W0->∃ W',runX P a0 ops pl 10 V W=.ok .skip W'/\Blk W' b T xs/\W.grownBy W' (some b))
 (h11:∀ V W c,V 8=c->runX P a0 ops pl 11 V W=.ok (.value c) W)
 (hK:∀ lo xs c W W',Φ lo xs c W->K W W'->Φ lo xs c W') (hlow:∀ lo xs c W W' b,Φ lo xs c W->b<lo->UpN (fun k=>k=b) W W'->Φ lo xs c W')
 (fin:∀ V W b xs c lo,K w W->(∀ j,j<5->V j=cs j)->V 5=.tuple #[.agg xs,c]->V 6=.tuple #[.agg xs,c]->V 7=.agg xs->V 8=c->V 9=.pointer (some ⟨b,0,none⟩)->V 11=c->w.heap.size<=b->Blk W b T xs->w.heap.size<=lo->Φ lo xs c W->Q .normal (putAll V ops.toList 0 a0) W) :
 (Code.region id ops true).wp P Q a0 w:=by
 have hplx:∀ (i:Nat) (o:Oper),ops[i]?=some o->∃ x:List Nat×List (Nat×Nat),pl[i]?=some x/\∀ j∈x.1,j∈ahead o:=by
  intro i o ho
  have h3:=List.all_eq_true.1 hpl (o,i) (List.mem_zipIdx_iff_getElem?.2 (by rw[Array.getElem?_toList];exact ho))
  cases hx:pl[i]? with
  | none=>simp only[hx] at h3;cases h3
  | some x =>
    simp only[hx,Bool.and_eq_true] at h3
    exact⟨x,rfl,fun j hj=>by simpa using List.all_eq_true.1 h3.1.1 j hj⟩
 refine wp_region_inv (GotI w T z cs Φ) n hn hm hok ⟨(K.rf w).drew,fun _ _ hj=>(by cases hj),fun hj=>(by cases hj),fun hj=>(by cases hj)⟩ ?_ ?_
 · intro i o ho L V W hLi hcl hal hI
   have hlt:i<12:=by have:=(Array.getElem?_eq_some_iff.1 ho).1;omega
   obtain⟨x,hx,hxa⟩:=hplx i o ho
   have hgo:o.guard=none:=hgd o (by have:=(Array.getElem?_eq_some_iff.1 ho).2;rw[<- this];simp)
   have hex:execOp (rho ops a0 V o) o=execOp (rhoP x.2 a0 V) (bareOp o.op o.type):=by
    have h1:=List.all_eq_true.1 hpl (o,i) (List.mem_zipIdx_iff_getElem?.2 (by rw[Array.getElem?_toList];exact ho))
    simp only[hx,Bool.and_eq_true] at h1
    rw[<- execOp_bare]
    refine execOp_congr o (fun cs b e=>by rw[e] at h1;exact absurd h1.1.2 (by simp)) fun y hy=>?_
    have h4:=List.all_eq_true.1 h1.2 y (by simpa using hy)
    cases y with
    | tmp t =>
      simp only[beq_iff_eq] at h4
      simp only[rho,rhoP,h4]
    | const v=>rfl
    | global g=>rfl
    | func f=>rfl
   have hrx:(execOp (rho ops a0 V o) o).run P W=runX P a0 ops pl i V W:=by
    rw[hex]
    unfold runX
    rw[ho,hx]
   have hw:wants V o=true:=by unfold wants;rw[hgo]
   rw[if_pos hw,hrx]
   have hx1:x.1=gotPl.getD i []:=by
    have:=congrArg (fun l=>l.getD i []) hgp
    simp only[List.getD_eq_getElem?_getD,List.getElem?_map,hx,Option.map_some,Option.getD_some] at this
    simpa [List.getD_eq_getElem?_getD] using this
   have hd:∀ j∈gotPl.getD i [],L j=true:=fun j hj=>hal j (hxa j (by rw[hx1];exact hj))
   have hall:∀ k o',ops[k]?=some o'->L k=true->∀ j∈gotPl.getD k [],L j=true:=fun k o' ho' hk j hj=>by
    obtain⟨y,hy,hya⟩:=hplx k o' ho'
    have hy1:y.1=gotPl.getD k []:=by
     have:=congrArg (fun l=>l.getD k []) hgp
     simp only[List.getD_eq_getElem?_getD,List.getElem?_map,hy,Option.map_some,Option.getD_some] at this
     simpa [List.getD_eq_getElem?_getD] using this
    exact hcl.1 k o' ho' hk j (hya j (by rw[hy1];exact hj))
   have hb:∀ k,k<12->∀ j∈gotPl.getD k [],L j=false->L k=false:=fun k hk j hj hjL=>by
    cases hLk:L k with
    | false=>rfl
    | true =>
      have:=hall k _ (show ops[k]?=some ops[k] by simp[hsz,hk]) hLk j hj
      rw[hjL] at this;cases this
   have h55:∀ k,k=6∨k=7∨k=8∨k=11∨k=10->(∀ j∈gotPl.getD k [],L j=true)->L 5=true:=fun k hk hj=>by
    have a6:L 6=true->L 5=true:=fun h=>hall 6 _ (show ops[6]?=some ops[6] by simp[hsz]) h 5 (by simp[gotPl])
    have a7:L 7=true->L 6=true:=fun h=>hall 7 _ (show ops[7]?=some ops[7] by simp[hsz]) h 6 (by simp[gotPl])
    have a8:L 8=true->L 6=true:=fun h=>hall 8 _ (show ops[8]?=some ops[8] by simp[hsz]) h 6 (by simp[gotPl])
    rcases hk with rfl|rfl|rfl|rfl|rfl
    · exact hj 5 (by simp[gotPl])
    · exact a6 (hj 6 (by simp[gotPl]))
    · exact a6 (hj 6 (by simp[gotPl]))
    · exact a6 (a8 (hj 8 (by simp[gotPl])))
    · exact a6 (a7 (hj 7 (by simp[gotPl])))
   have hinj:∀ {xs xs':Array Value} {c c':Value},V 5=.tuple #[.agg xs,c]->V 5=.tuple #[.agg xs',c']->xs=xs'/\c=c':=fun e e'=>by
    rw[e] at e'
    injection e' with e'
    simpa using e'
   by_cases hi5:i<5
   · have hpx:(pl.getD i ([],[])).1=gotPl.getD i []:=by rw[List.getD_eq_getElem?_getD,hx];exact hx1
     rw[hpre i hi5 V W hI.k fun j hj=>by
      rw[hpx] at hj
      refine hI.pre j ?_ (hd j hj)
      have:i=0∨i=1∨i=2∨i=3∨i=4:=by omega
      rcases this with rfl|rfl|rfl|rfl|rfl <;> simp[gotPl] at hj <;> omega]
     exact hI.early i hi5
   have hi:i=5∨i=6∨i=7∨i=8∨i=9∨i=10∨i=11:=by omega
   rcases hi with rfl|rfl|rfl|rfl|rfl|rfl|rfl
   · have l6:=hb 6 (by omega) 5 (by simp[gotPl]) hLi
     have l7:=hb 7 (by omega) 6 (by simp[gotPl]) l6
     have l8:=hb 8 (by omega) 6 (by simp[gotPl]) l6
     have l10:=hb 10 (by omega) 7 (by simp[gotPl]) l7
     have l11:=hb 11 (by omega) 8 (by simp[gotPl]) l8
     rw[hcall V W hI.k (hI.pre 3 (by omega) (hd 3 (by simp[gotPl]))) (hI.pre 4 (by omega) (hd 4 (by simp[gotPl])))]
     refine (hC W hI.k).mono ?_
     rintro e W' ⟨xs,c,rfl,hΦ,k⟩
     exact⟨_,rfl,hI.call k hΦ hLi l6 l7 l8 l10 l11⟩
   · have h5:=h55 6 (by simp) hd
     rw[h6 V W _ rfl]
     exact hI.late 6 _ (by simp) h5 fun xs c e=>by rw[e];rfl
   · have h5:=h55 7 (by simp) hd
     obtain⟨xs,c,lo,W1,e5,-,-,-,-,a6,-⟩:=hI.got h5
     rw[h7 V W xs c (a6 (hd 6 (by simp[gotPl])))]
     exact hI.late 7 _ (by simp) h5 fun xs' c' e=>by rw[(hinj e5 e).1];rfl
   · have h5:=h55 8 (by simp) hd
     obtain⟨xs,c,lo,W1,e5,-,-,-,-,a6,-⟩:=hI.got h5
     rw[h8 V W xs c (a6 (hd 6 (by simp[gotPl])))]
     exact hI.late 8 _ (by simp) h5 fun xs' c' e=>by rw[(hinj e5 e).2];rfl
   · have l10:=hb 10 (by omega) 9 (by simp[gotPl]) hLi
     rw[h9 V W]
     exact hI.made hK l10
   · have h5:=h55 10 (by simp) hd
     obtain⟨xs,c,lo,W1,e5,a1,a2,a3,a4,a6,a7,a8,a11,a9⟩:=hI.got h5
     obtain⟨b,e9,hb1,hb2,hbk⟩:=a9 (hd 9 (by simp[gotPl]))
     rw[hLi] at hbk
     obtain⟨W',hrun,hb',hg'⟩:=h10 V W b lo xs c W e9 (a7 (hd 7 (by simp[gotPl]))) hbk a3
     rw[hrun]
     exact hI.kept hK hlow h5 (hd 9 (by simp[gotPl])) hLi e5 e9 hb' hg'
   · have h5:=h55 11 (by simp) hd
     obtain⟨xs,c,lo,W1,e5,-,-,-,-,a6,a7,a8,-⟩:=hI.got h5
     rw[h11 V W c (a8 (hd 8 (by simp[gotPl])))]
     exact hI.late 11 _ (by simp) h5 fun xs' c' e=>by rw[(hinj e5 e).2];rfl
 · intro V W hI
   have hL:∀ j,j<12->decide (j<ops.size)=true:=fun j hj=>by rw[hsz];simpa using hj
   obtain⟨xs,c,lo,W1,e5,a1,a2,a3,a4,a6,a7,a8,a11,a9⟩:=hI.got (hL 5 (by omega))
   obtain⟨b,e9,hb1,hb2,hbk⟩:=a9 (hL 9 (by omega))
   rw[hL 10 (by omega)] at hbk
   exact fin V W b xs c lo hI.k (fun j hj=>hI.pre j hj (hL j (by omega))) e5 (a6 (hL 6 (by omega))) (a7 (hL 7 (by omega))) (a8 (hL 8 (by omega))) e9 (a11 (hL 11 (by omega))) hb1 hbk a1 a3
end
section
variable {M:Nat->Prop} {p:BrW} {B:Brk} {w w':World}
theorem BrV.log (h:BrV M p B w) {vd vr:Value} {d:Dsk} (hl:LgR p.gl p.gd vd vr d w') (u:LgU p.gl p.gd p.vd p.vr vd vr w w') :
 BrV (fun k=>M k∨BrX { p with vd:=vd,vr:=vr } k) { p with vd:=vd,vr:=vr } { B with dk:=d } w'/\UpN (BrX p) w w'/\∀ k,BrX { p with vd:=vd,vr:=vr } k->BrX p k∨w.heap.size<=k:=by
 obtain⟨a1,a2,a3,a4,a5⟩:=h.apart
 have hn:∀ k,BrX { p with vd:=vd,vr:=vr } k->BrX p k∨w.heap.size<=k:=fun k hk=>by
  rcases hk with hk|hk|hk|hk
  · exact .inl (.inl hk)
  · exact .inl (.inr (.inl hk))
  · exact .inl (.inr (.inr (.inl hk)))
  · exact (u.new k hk).imp (fun h=>.inr (.inr (.inr h))) id
 have hz:=u.up.size
 refine⟨⟨h.blk.upn u.up a3,hl,h.rep.upn u.up a4,h.tol.upn u.up a5,?_,fun k hk=>.inr hk,fun k hk=>?_,h.ne⟩,u.up.more fun k hk=>.inr (.inr (.inr hk)),hn⟩
 · have h1:=h.dat.to (N:=fun k=>M k∨BrX { p with vd:=vd,vr:=vr } k) u.up (fun k hk=>h.sub k (.inr (.inr (.inr hk)))) fun k hk hx=>hx.elim id fun hx=>h.sub k ((hn k hx).resolve_right (by omega))
   exact h1.mono fun W d=>⟨d.par,d.hom,d.list,d.prom,d.ab,d.txns,d.refd,d.waits,d.reps⟩
 · rcases hk with hk|hk
   · exact Nat.lt_of_lt_of_le (h.low k hk) hz
   · rcases hk with hk|hk|hk|hk
     · exact Nat.lt_of_lt_of_le (h.low k (h.sub k (.inl hk))) hz
     · exact Nat.lt_of_lt_of_le (h.low k (h.sub k (.inr (.inl hk)))) hz
     · exact Nat.lt_of_lt_of_le (h.low k (h.sub k (.inr (.inr (.inl hk))))) hz
     · exact hl.lt k hk
theorem BrV.putS (h:BrV M p B w) {s:Stt} {vl vq va:Value} (hs:stF M s vl vq va w) :
 BrV M { p with vl:=vl,vq:=vq,va:=va } { B with st:=s } (World.setCell (World.setCell (World.setCell (World.setCell w ⟨p.g,4,none⟩ (.int .u64 (s.life:Int))) ⟨p.g,5,none⟩ vl) ⟨p.g,6,none⟩ vq) ⟨p.g,7,none⟩ va):=by
 have g:=h.sub p.g (.inl rfl)
 have h1:=h.cell (p':=p) (B':={ B with st:=⟨s.life,B.st.list,B.st.prom,B.st.ab⟩ }) 4 (.int .u64 (s.life:Int)) (h.blk.set_ 4 _) ⟨rfl,rfl,rfl,rfl,rfl,rfl,rfl,rfl⟩ ⟨rfl,rfl⟩ fun W u d=>⟨d.par,d.hom,d.list,d.prom,d.ab,d.txns,d.refd,d.waits,d.reps⟩
 have s1:stF M s vl vq va _:=hs.up (UpN.set1 (X:=M) g 4 (.int .u64 (s.life:Int))) fun _ h=>h
 have h2:=h1.cell (p':={ p with vl:=vl }) (B':={ B with st:=⟨s.life,s.list,B.st.prom,B.st.ab⟩ }) 5 vl (h1.blk.set_ 5 _) ⟨rfl,rfl,rfl,rfl,rfl,rfl,rfl,rfl⟩ ⟨rfl,rfl⟩ fun W u d=>⟨d.par,d.hom,(s1 W u).1,d.prom,d.ab,d.txns,d.refd,d.waits,d.reps⟩
 have s2:stF M s vl vq va _:=s1.up (UpN.set1 (X:=M) g 5 vl) fun _ h=>h
 have h3:=h2.cell (p':={ p with vl:=vl,vq:=vq }) (B':={ B with st:=⟨s.life,s.list,s.prom,B.st.ab⟩ }) 6 vq (h2.blk.set_ 6 _) ⟨rfl,rfl,rfl,rfl,rfl,rfl,rfl,rfl⟩ ⟨rfl,rfl⟩ fun W u d=>⟨d.par,d.hom,d.list,(s2 W u).2.1,d.ab,d.txns,d.refd,d.waits,d.reps⟩
 have s3:stF M s vl vq va _:=s2.up (UpN.set1 (X:=M) g 6 vq) fun _ h=>h
 exact h3.cell (p':={ p with vl:=vl,vq:=vq,va:=va }) (B':={ B with st:=s }) 7 va (h3.blk.set_ 7 _) ⟨rfl,rfl,rfl,rfl,rfl,rfl,rfl,rfl⟩ ⟨rfl,rfl⟩ fun W u d=>⟨d.par,d.hom,d.list,d.prom,(s3 W u).2.2,d.txns,d.refd,d.waits,d.reps⟩
end
theorem force_ok {d:Dsk} {r:Rec} (hf:fitsR d r=true):apL (dkB d) [encRec r] d.room=(dkB ⟨d.recs++[r],d.room⟩,0):=by
 simp only[fitsR,Bool.and_eq_true,decide_eq_true_eq] at hf
 have h1:okFr (encRec r)=true:=okFr_rec hf.1
 have h2:(dkB d).length+(frames [encRec r]).length<=d.room:=by
  unfold dkB
  rw[frames_recs]
  simpa [frames,frame_len] using hf.2
 unfold apL apD
 rw[if_pos (by simp[h1]),if_pos h2]
 simp[dkB,frames]
theorem force_no {d:Dsk} {r:Rec} (hf:fitsR d r=false):(apL (dkB d) [encRec r] d.room).1=dkB d/\(apL (dkB d) [encRec r] d.room).2≠0:=by
 have h1:¬ ((encRec r).length<=4000/\dkLen d.recs+frN (encRec r)<=d.room):=by simpa [fitsR] using hf
 unfold apL
 split
 · rename_i hok
   have h3:(encRec r).length<=4000:=by simp[okFr] at hok;exact hok.2
   unfold apD
   rw[if_neg]
   · exact⟨rfl,by simp⟩
   · intro h4
     refine h1 ⟨h3,?_⟩
     unfold dkB at h4
     rw[frames_recs] at h4
     simpa [frames,frame_len] using h4
 · exact⟨rfl,by simp⟩
theorem stepS_none {s:Stt} {r:Rec} (hok:okRec r=true) (h:onS s r=none):stepS s r=(s,160):=by simp[stepS,hok,h]
theorem stepS_some {s t:Stt} {r:Rec} (hok:okRec r=true) (h:onS s r=some t):stepS s r=(t,0):=by simp[stepS,hok,h]
theorem StoR.kk {base:Nat} {s:Stt} {vl vp va:Value} {c1 c2:List (List Value)} {W W':World} (h:StoR base s vl vp va c1 c2 W) (k:K W W'):StoR base s vl vp va c1 c2 W':=h.low (UpN.of_k k _)
theorem StoR.sl3 {base:Nat} {s:Stt} {vl vp va:Value} {c1 c2:List (List Value)} {W:World} (h:StoR base s vl vp va c1 c2 W):(∃ A c,vl=.slice A s.list.length c)/\(∃ A c,vp=.slice A s.prom.length c)/\∃ A c,va=.slice A s.ab.length c:=by
 obtain⟨x,y,z,e,h1,h2,h3⟩:=h.stv
 simp at e
 obtain⟨rfl,rfl,rfl⟩:=e
 exact⟨lst_slice h1,lst_slice h2,lst_slice h3⟩
theorem encRec_le {x:Rec} (h:okRec x=true) (hf:fitRec x):(encRec x).length<=30000:=by
 have a1:=packN_len (kindN x.kind) (kindN_lt _)
 have a2:=packN_len x.n hf.2.1
 have a3:=packN_len (kindN x.br) (kindN_lt _)
 have a4:=packN_len x.life hf.2.2.2.2.1
 have a5:=packN_len x.ser hf.2.2.2.2.2
 rcases okRec_kind h with ⟨hk,-⟩|⟨hk,hoe,-⟩|⟨hk,-⟩
 · rw[encRec_1 hk];simp only[List.length_append];omega
 · have:=encEn_len hoe hf.2.2.1
   have a6:=packN_len (encEn x.e).length (by omega)
   rw[encRec_23 (by omega)];simp only[List.length_append,packB];omega
 · rw[encRec_45 hk];simp only[List.length_append,encId];omega
def stepF (s:Stt) (code:Int) (lo:Nat) (xs:Array Value) (c:Value) (W:World):Prop:=∃ Bn vl vp va c1 c2,lo<=Bn/\xs=stA s vl vp va/\c=.int .i64 code/\StoR Bn s vl vp va c1 c2 W
theorem BNote_calls {M:Nat->Prop} {p:BrW} {B:Brk} {w:World} (h:BrV M p B w) (hG:GoodB B) (r:Rec) (u:Value) (hr:rcd r u w) (hfit:fitRec r) (hsm:smallEn r.e) :
 Calls Tryz.prog 155 #[.pointer (some ⟨p.g,0,none⟩),u] w fun e w'=>e=.returned (.bool (noteB B r).2)/\BrN M p (noteB B r).1 w w':=by
 have HN:Hid (noteB B r=if okRec r&&fitsR B.dk r then (match onS B.st r with
  | none=>(B,false)
  | some t=>({ B with st:=t,dk:=⟨B.dk.recs++[r],B.dk.room⟩,txns:=if r.kind=2 then settleT B.txns (idE r.e) else B.txns },true))
  else (B,false)):=Lib.hid rfl
 have H:=Lib.hid h
 have HX:=Lib.hid fun k hk=>h.low k (h.sub k hk)
 have HM:=Lib.hid h.low
 have C1:=Lib.hid fun W (k:K w W)=>Pack_new r u W (rcd_st hr k) hfit
 have hsmL:=hG.smallL
 have hln:=hG.dk.len
 have C2:=Lib.hid fun W (k:K w W)=>Step_own B.st r (.agg (stA B.st p.vl p.vq p.va)) u W ⟨_,_,_,rfl,(h.dat.at k).list,(h.dat.at k).prom,(h.dat.at k).ab⟩ (rcd_st hr k) hfit hsm hsmL.1 hsmL.2.1 ⟨by omega,by omega,by omega⟩
 have q:=h.q
 have hs1:=lst_slice h.dat.now.list
 have hs2:=lst_slice h.dat.now.prom
 have hs3:=lst_slice h.dat.now.ab
 have hs4:=lst_slice h.dat.now.txns
 obtain⟨vf,ve,rfl,hf,he⟩:=hr
 obtain⟨Af,cf,rfl⟩:=flt_slice hf
 obtain⟨Ae,ce,rfl⟩:=lst_slice he
 have k1:K w (w.alloc (.cells (recA r (.slice Af r.e.f.length cf) (.slice Ae r.e.es.length ce)) 219)):=(K.rf w).al _
 have hb:=Blk.new w 219 (recA r (.slice Af r.e.f.length cf) (.slice Ae r.e.es.length ce))
 have HGO:=Lib.hid hG
 clear hf he hsmL hln h hG
 generalize noteB B r=R at *
 go_enter Tryz.func155,Tryz.ntmps155
 go_upto_region 1 with (fail)
 generalize w.alloc _=w1 at *
 generalize hga:w.heap.size=ga at hb ⊢
 have HGA:=Lib.hid hga
 clear hga
 have qa:=hb.cell
 go_wp2_with fail
 refine (C1.out w1 k1).mono ?_
 rintro e w2 ⟨v2,rfl,ho2,k2⟩
 have k02:=k1.tr k2
 have hb2:=hb.below k2 hb.lt
 clear C1 qa
 have HC:Hid (chkRec r=if okRec r then 0 else 110):=Lib.hid rfl
 have HE:Hid (encRecR r=if okRec r then encRec r else []):=Lib.hid rfl
 generalize chkRec r=cc at *
 generalize encRecR r=eb at *
 cases hok:okRec r
 · have HR:Hid (R=(B,false)):=Lib.hid (by rw[HN.out,hok];rfl)
   obtain rfl:cc=110:=by rw[HC.out,hok];rfl
   have HF:=Lib.hid (H.out.n k02)
   obtain⟨A2,c2,rfl,-⟩:=ho2.slice
   clear q hb hb2 ho2
   go_wp2
   go_ret
   exact⟨by rw[HR.out];rfl,by rw[HR.out];exact HF.out⟩
 obtain rfl:cc=0:=by rw[HC.out,hok];rfl
 obtain rfl:eb=encRec r:=by rw[HE.out,hok];rfl
 obtain⟨A2,c2,rfl,-⟩:=ho2.slice
 have HO2:=Lib.hid ho2
 have HOK:=Lib.hid hok
 clear ho2 HC HE hok
 go_upto_region 4 with (fail)
 have q2:=fun W (k:K w2 W)=>q W (k02.tr k)
 have qb:=hb2.cells
 have C3:=Lib.hid fun W (k:K w2 W)=>C2.out W (k02.tr k)
 obtain⟨s',hs'⟩:∃ s',s'=(stepS B.st r).1:=⟨_,rfl⟩
 obtain⟨code,hcode⟩:∃ c,c=(stepS B.st r).2:=⟨_,rfl⟩
 simp only[<- hs',<- hcode] at C3
 have HST:=Lib.hid hs'
 have HCD:=Lib.hid hcode
 obtain⟨g,gl,gd,gr,gt,vd,vr,vp,vh,vl,vq,va,vt,vf',vw,kr⟩:=p
 simp only at q2 hs1 hs2 hs3 hs4 C3
 obtain⟨Al,cl,rfl⟩:=hs1
 obtain⟨Aq,cq,rfl⟩:=hs2
 obtain⟨Aa,ca,rfl⟩:=hs3
 obtain⟨At,ct,rfl⟩:=hs4
 have HB2:=Lib.hid hb2
 clear q hb hb2 C2 hs' hcode
 refine wp_region_got 53 zSt (fun i=>[Value.pointer (some ⟨g,0,none⟩),.pointer (some ⟨g,0,none⟩),.pointer (some ⟨g,4,none⟩),.agg (stA B.st (.slice Al B.st.list.length cl) (.slice Aq B.st.prom.length cq) (.slice Aa B.st.ab.length ca)),.agg (recA r (.slice Af r.e.f.length cf) (.slice Ae r.e.es.length ce))].getD i undef) (stepF s' code)
  [([],[]),([0],[(16,0)]),([1],[(17,1)]),([2],[(18,2)]),([],[]),([3,4],[(19,3),(20,4)]),([5],[(21,5)]),([6],[(15,6)]),([6],[(15,6)]),([],[]),([7,9],[(7,9),(22,7)]),([8],[(23,8)])] 207 #[.agg (stA B.st (.slice Al B.st.list.length cl) (.slice Aq B.st.prom.length cq) (.slice Aa B.st.ab.length ca)),.agg (recA r (.slice Af r.e.f.length cf) (.slice Ae r.e.es.length ce))] 52 rfl (by kernel_rfl) (by kernel_rfl) (by kernel_rfl) rfl rfl ?gd ?pre ?call ?cc ?h6 ?h7 ?h8 ?h9 ?h10 ?h11 ?hk ?hlow ?_
 case gd=>simp
 case pre =>
  intro i hi V W kW hp
  have:i=0∨i=1∨i=2∨i=3∨i=4:=by omega
  rcases this with rfl|rfl|rfl|rfl|rfl <;> simp at hp <;> simp[runX,rhoP,List.lookup,hp,execOp,bareOp,q2,qb,kW,go_sem]
 case call=>intro V W kW h3 h4;simp at h3 h4;simp[runX,rhoP,List.lookup,h3,h4,execOp,bareOp,go_sem]
 case cc =>
  intro W kW
  refine (C3.out W kW).mono ?_
  rintro e w3 ⟨Bn,vl2,vq2,va2,c1,c2',rfl,hB,hS,k3⟩
  exact⟨_,_,rfl,⟨Bn,vl2,vq2,va2,c1,c2',hB,rfl,rfl,hS⟩,k3⟩
 case h6=>intro V W v h5;simp[runX,rhoP,List.lookup,h5,execOp,bareOp,go_sem]
 case h7=>intro V W xs c h5;simp[runX,rhoP,List.lookup,h5,execOp,bareOp,go_sem]
 case h8=>intro V W xs c h5;simp[runX,rhoP,List.lookup,h5,execOp,bareOp,go_sem]
 case h9=>intro V W;simp[runX,execOp,bareOp,go_sem]
 case h10 =>
  rintro V W b lo xs c W0 e9 e7 hb ⟨Bn,vl2,vq2,va2,c1,c2',-,rfl,-,hS⟩
  obtain⟨⟨El,fl,rfl⟩,⟨Ep,fp,rfl⟩,Ea,fa,rfl⟩:=hS.sl3
  have qz:=hb.cell
  have zz:=hb.frozen
  refine⟨World.setCell (World.setCell (World.setCell (World.setCell W ⟨b,0,none⟩ (.int .u64 (s'.life:Int))) ⟨b,1,none⟩ (.slice El s'.list.length fl)) ⟨b,2,none⟩ (.slice Ep s'.prom.length fp)) ⟨b,3,none⟩ (.slice Ea s'.ab.length fa),by simp[runX,rhoP,List.lookup,e9,e7,execOp,bareOp,qz,zz,go_sem],(((hb.set_ 0 (.int .u64 (s'.life:Int))).set_ 1 (.slice El s'.list.length fl)).set_ 2 (.slice Ep s'.prom.length fp)).set_ 3 (.slice Ea s'.ab.length fa),?_⟩
  have u:=(((UpN.set1 (X:=fun k=>k=b) (W:=W) rfl 0 (.int .u64 (s'.life:Int))).tr (UpN.set1 (X:=fun k=>k=b) rfl 1 (.slice El s'.list.length fl))).tr (UpN.set1 (X:=fun k=>k=b) rfl 2 (.slice Ep s'.prom.length fp))).tr (UpN.set1 (X:=fun k=>k=b) rfl 3 (.slice Ea s'.ab.length fa))
  exact⟨u.os,u.tape,u.output,u.size,fun k hk hne=>u.block k hk fun e=>hne (by rw[e])⟩
 case h11=>intro V W c h5;simp[runX,rhoP,List.lookup,h5,execOp,bareOp,go_sem]
 case hk=>rintro lo xs c W W' ⟨Bn,vl2,vq2,va2,c1,c2',a1,a2,a3,hS⟩ k;exact⟨Bn,vl2,vq2,va2,c1,c2',a1,a2,a3,hS.kk k⟩
 case hlow=>rintro lo xs c W W' b ⟨Bn,vl2,vq2,va2,c1,c2',a1,a2,a3,hS⟩ hb u;exact⟨Bn,vl2,vq2,va2,c1,c2',a1,a2,a3,hS.low (u.more fun k e=>by omega)⟩
 intro V W b xs c lo kW hcs e5 e6 e7 e8 e9 e11 hbl hbk hlo hΦ
 obtain⟨Bn,vl2,vq2,va2,c1,c2',hB,rfl,rfl,hS⟩:=hΦ
 obtain⟨⟨El,fl,rfl⟩,⟨Ep,fp,rfl⟩,Ea,fa,rfl⟩:=hS.sl3
 simp only[putAll,Act.put,List.setIfInBounds_toArray,List.set_cons_succ,List.set_cons_zero,e5,e6,e7,e8,e9,e11]
 have k0W:=k02.tr kW
 cases hon:onS B.st r with
 | none =>
   have HR:Hid (R=(B,false)):=Lib.hid (by rw[HN.out,HOK.out,hon];split <;> rfl)
   obtain rfl:code=160:=by rw[HCD.out,stepS_none HOK.out hon]
   have HF:=Lib.hid (H.out.n k0W)
   clear hcs e5 e6 e7 e8 e9 e11 hbk hS q2 qb C3 hon
   go_wp2
   go_ret
   exact⟨by rw[HR.out];rfl,by rw[HR.out];exact HF.out⟩
 | some t =>
   obtain rfl:code=0:=by rw[HCD.out,stepS_some HOK.out hon]
   obtain rfl:s'=t:=by rw[HST.out,stepS_some HOK.out hon]
   have HR:Hid (R=if fitsR B.dk r then ({ B with st:=s',dk:=⟨B.dk.recs++[r],B.dk.room⟩,txns:=if r.kind=2 then settleT B.txns (idE r.e) else B.txns },true) else (B,false)):=Lib.hid (by rw[HN.out,HOK.out,hon];rfl)
   have hB0:=H.out.st k0W
   have kB:K W (W.alloc (.cells #[.slice A2 (encRec r).length c2] 62)):=(K.rf W).al _
   have hlgx:∀ k,LgX gl gd vd vr k->k<w.heap.size:=fun k hk=>HX.out k (.inr (.inr (.inr hk)))
   have hzw:=k0W.size
   have hz1:=k1.size
   have hFx:Fx (LgX gl gd vd vr) (fun W'=>lst byS [encRec r] (.slice (some ⟨W.heap.size,0,none⟩) 1 1) W') (W.alloc (.cells #[.slice A2 (encRec r).length c2] 62)):=fun W' u=>by
    have hown:=row_upn (row_below HO2.out (kW.tr kB)) u fun k hk hx=>by
     have:=(HO2.out.lt k hk).1
     have:=hlgx k hx
     omega
    have hbk':=(Blk.new W 62 #[.slice A2 (encRec r).length c2]).upn u fun hx=>by have:=hlgx _ hx;omega
    refine⟨some ⟨W.heap.size,0,none⟩,1,rfl,⟨[[.slice A2 (encRec r).length c2]],Each.one ⟨_,rfl,sl_own hown⟩,rfl,fun _=>⟨W.heap.size,0,rfl,hbk'.lt,fun j u hu=>?_⟩⟩,by simp⟩
    rw[Nat.zero_add,hbk'.cell j]
    simpa using hu
   have hbl:∀ b∈[encRec r],b.length<=1000000000:=fun b hb=>by
    simp at hb
    subst hb
    exact Nat.le_trans (encRec_le HOK.out hfit) (by omega)
   have C4:=Lib.hid (WForce_calls gl gd vd vr (.slice (some ⟨W.heap.size,0,none⟩) 1 1) (dkB B.dk) B.dk.room [encRec r] _ (hB0.lg.st kB) hFx (by simp) hbl)
   have qW:=q2 W kW
   have hbb:=hbk.below kB hbk.lt
   have HB5:=Lib.hid (H.out.st (k0W.tr kB))
   have HK5:=Lib.hid (k0W.tr kB)
   have hne:Hid (fitsR B.dk r=false->(apL (dkB B.dk) [encRec r] B.dk.room).1=dkB B.dk/\(apL (dkB B.dk) [encRec r] B.dk.room).2≠0):=Lib.hid force_no
   have hye:Hid (fitsR B.dk r=true->apL (dkB B.dk) [encRec r] B.dk.room=(dkB ⟨B.dk.recs++[r],B.dk.room⟩,0)):=Lib.hid force_ok
   generalize apL (dkB B.dk) [encRec r] B.dk.room=AP at *
   obtain⟨al,ac⟩:=AP
   have HSS:=Lib.hid hS
   have HQ2:=Lib.hid q2
   have HQB:=Lib.hid qb
   have hW5:∀ W',W'=W.alloc (.cells #[.slice A2 (encRec r).length c2] 62)->True:=fun _ _=>trivial
   clear hW5 hB0 hFx hbl hS q2 qb C3 hcs e5 e6 e7 e8 e9 e11 hon hbk
   go_upto_region 7 with (fail)
   go_wp2_with fail
   refine C4.out.mono ?_
   rintro e w6 ⟨vh6,vr6,rfl,hL6,hu6⟩
   cases hft:fitsR B.dk r
   · have HRR:Hid (R=(B,false)):=Lib.hid (by rw[HR.out,hft];rfl)
     obtain⟨e1,e2⟩:=hne.out hft
     subst e1
     obtain⟨b1,b2,b3⟩:=HB5.out.log (d:=B.dk) hL6 hu6
     have HF:Hid (BrN M ⟨g,gl,gd,gr,gt,vd,vr,vp,vh,.slice Al B.st.list.length cl,.slice Aq B.st.prom.length cq,.slice Aa B.st.ab.length ca,.slice At B.txns.length ct,vf',vw,kr⟩ B w w6):=Lib.hid (BrN.ofk ⟨_,b1,b2,rfl,b3⟩ HK5.out HX.out)
     have e3:(ac != 0)=true:=by simpa using e2
     clear b1 b2 b3 hL6 hu6 C4 qW hbb kB hft e2
     go_wp2
     go_ret
     exact⟨by rw[HRR.out];rfl,by rw[HRR.out];exact HF.out⟩
   have HRR:Hid (R=({ B with st:=s',dk:=⟨B.dk.recs++[r],B.dk.room⟩,txns:=if r.kind=2 then settleT B.txns (idE r.e) else B.txns },true)):=Lib.hid (by rw[HR.out,hft];rfl)
   obtain⟨rfl,rfl⟩:=Prod.mk.inj (hye.out hft)
   obtain⟨b1,b2,b3⟩:=HB5.out.log (d:=⟨B.dk.recs++[r],B.dk.room⟩) hL6 hu6
   have hz2:=k02.size
   have hga:=HGA.out
   have hs6:stF (fun k=>M k∨BrX ⟨g,gl,gd,gr,gt,vh6,vr6,vp,vh,.slice Al B.st.list.length cl,.slice Aq B.st.prom.length cq,.slice Aa B.st.ab.length ca,.slice At B.txns.length ct,vf',vw,kr⟩ k) s' (.slice El s'.list.length fl) (.slice Ep s'.prom.length fp) (.slice Ea s'.ab.length fa) w6:=by
    have h0:stF (fun k=>k<w2.heap.size) s' (.slice El s'.list.length fl) (.slice Ep s'.prom.length fp) (.slice Ea s'.ab.length fa) W:=fun W' u=>by
     obtain⟨x,y,z,e,a1,a2,a3⟩:=(HSS.out.low (u.more fun k hk=>Nat.lt_of_lt_of_le hk (Nat.le_trans hlo hB))).stv
     simp at e
     obtain⟨rfl,rfl,rfl⟩:=e
     exact⟨a1,a2,a3⟩
    refine h0.to (X:=LgX gl gd vd vr) ((UpN.of_k kB _).tr hu6.up) (fun k hk=>by have:=hlgx k hk;omega) fun k hk hx=>?_
    rcases hx with hx|hx
    · have:=HM.out k hx;omega
    · rcases b3 k hx with hx|hx
      · have:=HX.out k hx;omega
      · have:=kB.size;omega
   have hbb6:=hbb.upn hu6.up fun hx=>by have:=hlgx _ hx;omega
   have hb6:=(HB2.out.below (kW.tr kB) HB2.out.lt).upn hu6.up fun hx=>by have:=hlgx _ hx;omega
   have hP:=b1.putS hs6
   simp only at hP
   have HU6:Hid (UpN (BrX ⟨g,gl,gd,gr,gt,vd,vr,vp,vh,.slice Al B.st.list.length cl,.slice Aq B.st.prom.length cq,.slice Aa B.st.ab.length ca,.slice At B.txns.length ct,vf',vw,kr⟩) w w6):=Lib.hid ((UpN.of_k HK5.out _).tr b2)
   have HN6:=Lib.hid b3
   have q6:=b1.blk.cell
   have z6:=b1.blk.frozen
   have qs6:=hbb6.cell
   clear b2 b3 hs6 b1 hL6 hu6 C4 qW hbb kB hne hye hft HQ2 HQB
   go_upto_region 10 with (fail)
   have u7:UpN (fun k=>k=g) w6 (World.setCell (World.setCell (World.setCell (World.setCell w6 ⟨g,4,none⟩ (.int .u64 (s'.life:Int))) ⟨g,5,none⟩ (.slice El s'.list.length fl)) ⟨g,6,none⟩ (.slice Ep s'.prom.length fp)) ⟨g,7,none⟩ (.slice Ea s'.ab.length fa)):=(((UpN.set1 (X:=fun k=>k=g) (W:=w6) rfl 4 (.int .u64 (s'.life:Int))).tr (UpN.set1 (X:=fun k=>k=g) rfl 5 (.slice El s'.list.length fl))).tr (UpN.set1 (X:=fun k=>k=g) rfl 6 (.slice Ep s'.prom.length fp))).tr (UpN.set1 (X:=fun k=>k=g) rfl 7 (.slice Ea s'.ab.length fa))
   have hgw:g<w.heap.size:=HX.out g (.inl rfl)
   have hb7:=hb6.upn u7 (by omega)
   generalize World.setCell (World.setCell (World.setCell (World.setCell w6 _ _) _ _) _ _) _ _=w7 at *
   have HU7:Hid (UpN (BrX ⟨g,gl,gd,gr,gt,vd,vr,vp,vh,.slice Al B.st.list.length cl,.slice Aq B.st.prom.length cq,.slice Aa B.st.ab.length ca,.slice At B.txns.length ct,vf',vw,kr⟩) w w7):=Lib.hid (HU6.out.tr (u7.more fun k hk=>.inl hk))
   have HX5:=Lib.hid HK5.out.size
   have q7:=hb7.cells
   clear q6 z6 qs6 hbb6 hb6 u7 hb7
   by_cases hk2:r.kind=2
   rotate_left
   · have HRF:Hid (R=({ B with st:=s',dk:=⟨B.dk.recs++[r],B.dk.room⟩ },true)):=Lib.hid (by rw[HRR.out,if_neg hk2])
     have hk3:(r.kind==2)=false:=by simpa using hk2
     have HF:Hid (BrN M ⟨g,gl,gd,gr,gt,vd,vr,vp,vh,.slice Al B.st.list.length cl,.slice Aq B.st.prom.length cq,.slice Aa B.st.ab.length ca,.slice At B.txns.length ct,vf',vw,kr⟩ { B with st:=s',dk:=⟨B.dk.recs++[r],B.dk.room⟩ } w w7):=Lib.hid ⟨⟨g,gl,gd,gr,gt,vh6,vr6,vp,vh,.slice El s'.list.length fl,.slice Ep s'.prom.length fp,.slice Ea s'.ab.length fa,.slice At B.txns.length ct,vf',vw,kr⟩,hP,HU7.out,rfl,fun k hk=>(HN6.out k hk).imp id fun h=>by have:=HX5.out;omega⟩
     have qk:=q7 w7 (K.rf _)
     clear hP q7 hk2
     go_wp2
     go_ret
     exact⟨by rw[HRF.out];rfl,by rw[HRF.out];exact HF.out⟩
   have HRF:Hid (R=({ B with st:=s',dk:=⟨B.dk.recs++[r],B.dk.room⟩,txns:=settleT B.txns (idE r.e) },true)):=Lib.hid (by rw[HRR.out,if_pos hk2])
   have qk:=q7 w7 (K.rf _)
   have C5:=Lib.hid fun W' (k:K w7 W')=>Settle_own B.txns (idE r.e) (.slice At B.txns.length ct) W' (hP.dat.at k).txns HGO.out.tx.small HGO.out.tx.len6
   have qg:=hP.blk.cells
   simp only at qg
   have HP:=Lib.hid hP
   clear hP
   go_upto_region 11 with (fail)
   clear qk
   refine wp_region_auto 9 [([],[]),([],[]),([1],[(42,1)]),([2],[(43,2)]),([3],[(44,3)]),([],[]),([5],[(46,5)]),([6],[(47,6)]),([4,7],[(45,4),(48,7)]),([0,1,2,3,4,5,6,7,8],[(41,0)]),([0,1,2,3,4,5,6,7,8,9],[(50,9)]),([0,1,2,3,4,5,6,7,8,10],[(51,10),(49,8)])] 52 rfl (by kernel_rfl) (by kernel_rfl) (by kernel_rfl) (by kernel_rfl) (by decide) ?_
   simp only[List.take_succ_cons,List.take_zero,List.drop_succ_cons,List.drop_zero]
   iterate 8 (apply AutoQ.is;intro V W kW hp;(try simp only[List.forall_mem_cons,List.nil_append,List.cons_append,tab_zero,tab_succ,isV] at hp);simp[wantsG,rhoP,List.lookup,hp,ResG,execOp,bareOp,isV,Below.refl,kW,q7,qg,go_sem];rfl)
   refine AutoQ.op (fun v W'=>OwnL w7.heap.size w7.heap.size 121 txS (settleT B.txns (idE r.e)) v W') (fun _ _ _ h k=>h.st k) (fun V W kW hp=>?_) ?_
   · (try simp only[List.forall_mem_cons,List.nil_append,List.cons_append,tab_zero,tab_succ,isV] at hp)
     simp[wantsG,rhoP,List.lookup,hp,ResG,execOp,bareOp,q7,qg,go_sem]
     refine (C5.out W kW).mono ?_
     rintro e w4 ⟨v4,rfl,hO,k4⟩
     exact⟨_,rfl,OwnL.low (OwnL.floor hO kW.size) kW.size,k4⟩
   intro V W kW hA
   simp only[List.nil_append,List.cons_append,AllT,isV,Nat.reduceAdd] at hA
   obtain⟨d0,d1,d2,d3,d4,d5,d6,d7,hO8,-⟩:=hA
   generalize hv8:V 8=v8 at *
   have hB8:=HP.out.st kW
   have hfx:=hO8.fxM HP.out.low
   obtain⟨A8,c8,rfl⟩:=lst_slice hO8.lst
   have q8:=hB8.blk.cell
   have z8:=hB8.blk.frozen
   simp only at q8 z8
   iterate 2 (apply TailQ.pure;rfl;(simp[rhoP,List.lookup,updV,d0,hv8,execOp,bareOp,go_sem];rfl))
   refine TailQ.skip (W.setCell ⟨g,8,none⟩ (.slice A8 (settleT B.txns (idE r.e)).length c8)) rfl (by simp[rhoP,List.lookup,updV,hv8,execOp,bareOp,q8,z8,go_sem]) ?_
   refine TailQ.nil ?_
   simp only[putAll,Act.put,List.setIfInBounds_toArray,List.set_cons_succ,List.set_cons_zero,Nat.reduceAdd,updV]
   have hP9:=hB8.putT hfx
   have hU9:=HU7.out.tr (((UpN.of_k kW _).tr (UpN.set1 (X:=BrX ⟨g,gl,gd,gr,gt,vd,vr,vp,vh,.slice Al B.st.list.length cl,.slice Aq B.st.prom.length cq,.slice Aa B.st.ab.length ca,.slice At B.txns.length ct,vf',vw,kr⟩) (.inl rfl) 8 (.slice A8 (settleT B.txns (idE r.e)).length c8))))
   have HF:Hid (BrN M ⟨g,gl,gd,gr,gt,vd,vr,vp,vh,.slice Al B.st.list.length cl,.slice Aq B.st.prom.length cq,.slice Aa B.st.ab.length ca,.slice At B.txns.length ct,vf',vw,kr⟩ { B with st:=s',dk:=⟨B.dk.recs++[r],B.dk.room⟩,txns:=settleT B.txns (idE r.e) } w (W.setCell ⟨g,8,none⟩ (.slice A8 (settleT B.txns (idE r.e)).length c8))):=Lib.hid ⟨⟨g,gl,gd,gr,gt,vh6,vr6,vp,vh,.slice El s'.list.length fl,.slice Ep s'.prom.length fp,.slice Ea s'.ab.length fa,.slice A8 (settleT B.txns (idE r.e)).length c8,vf',vw,kr⟩,hP9,hU9,rfl,fun k hk=>(HN6.out k hk).imp id fun h=>by have:=HX5.out;omega⟩
   clear hP9 hU9 hB8 hfx hO8 q8 z8 q7 qg C5 d0 d1 d2 d3 d4 d5 d6 d7 hv8
   go_wp2
   go_ret
   exact⟨by rw[HRF.out];rfl,by rw[HRF.out];exact HF.out⟩
theorem BList_calls {M:Nat->Prop} {p:BrW} {B:Brk} {w:World} (h:BrV M p B w) (hG:GoodB B) (x:Ent) (u:Value) (hx:ent x u w) (hfit:fitEn x) (hsm:smallEn x) :
 Calls Tryz.prog 91 #[.pointer (some ⟨p.g,0,none⟩),u] w fun e w'=>e=.returned (.bool (listB B x).2)/\BrN M p (listB B x).1 w w':=by
 have HX:=Lib.hid fun k hk=>h.low k (h.sub k hk)
 have hln:=hG.dk.len
 have C1:=Lib.hid fun W (k:K w W) v (hv:rcd (recE B.st.list.length x) v W)=>BNote_calls (h.st k) hG (recE B.st.list.length x) v hv ⟨by simp[recE,i64ok],by simp only[recE];omega,hfit,by simp[recE,i64ok],by simp[recE],by simp[recE]⟩ hsm
 have HXE:=Lib.hid fun W (k:K w W)=>ent_st hx k
 have q:=h.q
 have hs1:=lst_slice h.dat.now.list
 obtain⟨vf,ve,rfl,hf,he⟩:=hx
 obtain⟨Af,cf,rfl⟩:=flt_slice hf
 obtain⟨Ae,ce,rfl⟩:=lst_slice he
 have k1:K w (w.alloc (.cells (entA x (.slice Af x.f.length cf) (.slice Ae x.es.length ce)) 42)):=(K.rf w).al _
 have hb:=Blk.new w 42 (entA x (.slice Af x.f.length cf) (.slice Ae x.es.length ce))
 obtain⟨g,gl,gd,gr,gt,vd,vr,vp,vh,vl,vq,va,vt,vf',vw,kr⟩:=p
 simp only at q hs1
 obtain⟨Al,cl,rfl⟩:=hs1
 have hw:IntKind.u64.wrap ((B.st.list.length:Int))=(B.st.list.length:Int):=by rw[IntWalk.u64_in _ (by omega)]
 unfold listB
 generalize noteB B (recE B.st.list.length x)=R at *
 clear h hG hf he hln
 go_enter Tryz.func91,Tryz.ntmps91
 go_upto_region 1 with (fail)
 generalize w.alloc _=w1 at *
 generalize w.heap.size=ga at hb ⊢
 have qa:=hb.cells
 have q1:=fun W (k:K w1 W)=>q W (k1.tr k)
 clear q hb
 refine wp_region_auto 10 [([],[]),([],[]),([1],[(6,1)]),([2],[(7,2)]),([3],[(8,3)]),([4],[(9,4)]),([5],[(10,5)]),([6],[(11,6)]),([],[]),([7,8],[(12,7),(13,8)]),([0,9],[(5,0),(14,9)]),([0,1,2,3,4,5,6,7,8,9,10],[(15,10)])] 16 rfl (by kernel_rfl) (by kernel_rfl) (by kernel_rfl) (by kernel_rfl) (by decide) ?_
 simp only[List.take_succ_cons,List.take_zero,List.drop_succ_cons,List.drop_zero]
 iterate 10 (apply AutoQ.is;intro V W kW hp;(try simp only[List.forall_mem_cons,List.nil_append,List.cons_append,tab_zero,tab_succ,isV] at hp);simp[wantsG,rhoP,List.lookup,hp,ResG,execOp,bareOp,isV,Below.refl,kW,q1,qa,hw,go_sem];rfl)
 intro V W kW hA
 simp only[List.nil_append,List.cons_append,AllT,isV,Nat.reduceAdd] at hA
 obtain⟨e0,e1,e2,e3,e4,e5,e6,e7,e8,e9,-⟩:=hA
 have kF:=k1.tr kW
 refine TailQ.call _ _ rfl (by simp[rhoP,List.lookup,updV,e0,e9,execOp,bareOp,go_sem];exact⟨rfl,rfl⟩) ?_
 refine (C1.out W kF _ ?_).mono ?_
 · obtain⟨vf1,ve1,e,h1,h2⟩:=HXE.out W kF
   simp at e
   obtain⟨rfl,rfl⟩:=e
   exact⟨_,_,rfl,h1,h2⟩
 rintro e w5 ⟨rfl,hN⟩
 refine⟨_,rfl,?_⟩
 have hNN:=Lib.hid (hN.ofk kF HX.out)
 apply TailQ.pure
 rfl
 simp[rhoP,List.lookup,updV,execOp,bareOp,go_sem]
 rfl
 refine TailQ.nil ?_
 simp only[putAll,Act.put,List.setIfInBounds_toArray,List.set_cons_succ,List.set_cons_zero,Nat.reduceAdd,updV]
 clear hN C1 HXE q1 qa
 go_wp2
 go_ret
 exact⟨by first|rfl|(simp[updV];done),hNN.out⟩
theorem noteB_no {B:Brk} {r:Rec} (h:(noteB B r).2=false):(noteB B r).1=B:=by
 unfold noteB at h ⊢
 split
 · split
   · rfl
   · rename_i h1 _ _ h2
     rw[if_pos h1] at h
     simp only[h2] at h
     cases h
 · rfl
theorem noteB_tx {B:Brk} {r:Rec} (h:r.kind≠2):(noteB B r).1.txns=B.txns:=by
 unfold noteB
 split
 · split
   · rfl
   · simp[h]
 · rfl
theorem BAbort1_calls {M:Nat->Prop} {p:BrW} {B:Brk} {w:World} (h:BrV M p B w) (hG:GoodB B) (a:Idn) (fa:fitI a) :
 Calls Tryz.prog 92 #[.pointer (some ⟨p.g,0,none⟩),idv a] w fun e w'=>e=.returned (.bool (abortB B a).2)/\BrN M p (abortB B a).1 w w':=by
 have HA:Hid (abortB B a=if (noteB B (recI 4 a)).2 then ({ (noteB B (recI 4 a)).1 with txns:=settleT (noteB B (recI 4 a)).1.txns a },true) else (B,false)):=Lib.hid rfl
 have HX:=Lib.hid fun k hk=>h.low k (h.sub k hk)
 have HNO:=Lib.hid (@noteB_no B (recI 4 a))
 have HTX:Hid ((noteB B (recI 4 a)).1.txns=B.txns):=Lib.hid (noteB_tx (by simp[recI]))
 have hrc:∀ W,rcd (recI 4 a) (.agg (recA (recI 4 a) (.slice none 0 0) (.slice none 0 0))) W:=fun W=>⟨_,_,rfl,⟨none,0,rfl,Reads.nil _ _ _ _⟩,lst_nil _ _⟩
 have C1:=Lib.hid fun W (k:K w W)=>BNote_calls (h.st k) hG (recI 4 a) _ (hrc W) ⟨by simp[recI,i64ok],by simp[recI],fit_ent0,fa.1,fa.2.1,fa.2.2⟩ (by simp[recI,smallEn,ent0])
 have HG:=Lib.hid hG.tx
 have k1:K w (w.alloc (.cells #[.int .i64 a.1,.int .u64 (a.2.1:Int),.int .u64 (a.2.2:Int)] 35)):=(K.rf w).al _
 have hb:=Blk.new w 35 #[.int .i64 a.1,.int .u64 (a.2.1:Int),.int .u64 (a.2.2:Int)]
 generalize abortB B a=R at *
 generalize noteB B (recI 4 a)=NB at *
 obtain⟨B1,ok⟩:=NB
 simp only[recI,recA,ent0] at C1
 clear h hG hrc
 go_enter Tryz.func92,Tryz.ntmps92
 go_upto_region 1 with (fail)
 generalize w.alloc _=w1 at *
 have hga:w.heap.size<=w.heap.size:=Nat.le_refl _
 generalize hgx:w.heap.size=ga at hb ⊢
 have HGX:=Lib.hid hgx
 clear hgx hga
 have qa:=hb.cell
 go_wp2_with fail
 refine (C1.out w1 k1).mono ?_
 rintro e w2 ⟨rfl,hN⟩
 cases ok
 · have HR:Hid (R=(B,false)):=Lib.hid (by rw[HA.out];rfl)
   obtain rfl:B1=B:=HNO.out rfl
   have HF:=Lib.hid (hN.ofk k1 HX.out)
   clear hN C1 qa
   go_wp2
   go_ret
   exact⟨by rw[HR.out];rfl,by rw[HR.out];exact HF.out⟩
 have HR:Hid (R=({ B1 with txns:=settleT B1.txns a },true)):=Lib.hid (by rw[HA.out];rfl)
 have hgx:=HGX.out
 have hb2:=hN.keeps hb fun hx=>by have:=HX.out _ hx;omega
 obtain⟨p1,hB1,hu,hg,hn⟩:=hN
 have C5:=Lib.hid fun W (k:K w2 W)=>Settle_own B1.txns a p1.vt W (hB1.dat.at k).txns (by rw[HTX.out];exact HG.out.small) (by rw[HTX.out];exact HG.out.len6)
 have hs4:=lst_slice hB1.dat.now.txns
 have q2:=hB1.q
 have HB1:=Lib.hid hB1
 have HU:=Lib.hid hu
 have HNW:=Lib.hid hn
 rw[<- kg2 hg]
 have HGG:=Lib.hid hg
 have qb:=hb2.cells
 obtain⟨g1,gl,gd,gr,gt,vd,vr,vp,vh,vl,vq,va,vt,vf',vw,kr⟩:=p1
 simp only at q2 C5 hs4
 obtain⟨At,ct,rfl⟩:=hs4
 clear hB1 hu hn hg C1 qa hb hb2
 go_upto_region 3 with (fail)
 refine wp_region_auto 7 [([],[]),([],[]),([1],[(11,1)]),([2],[(12,2)]),([3],[(13,3)]),([],[]),([4,5],[(14,4),(15,5)]),([0,1,2,3,4,5,6],[(10,0)]),([0,1,2,3,4,5,6,7],[(17,7)]),([0,1,2,3,4,5,6,8],[(18,8),(16,6)])] 19 rfl (by kernel_rfl) (by kernel_rfl) (by kernel_rfl) (by kernel_rfl) (by decide) ?_
 simp only[List.take_succ_cons,List.take_zero,List.drop_succ_cons,List.drop_zero]
 iterate 6 (apply AutoQ.is;intro V W kW hp;(try simp only[List.forall_mem_cons,List.nil_append,List.cons_append,tab_zero,tab_succ,isV] at hp);simp[wantsG,rhoP,List.lookup,hp,ResG,execOp,bareOp,isV,Below.refl,kW,q2,qb,go_sem];rfl)
 refine AutoQ.op (fun v W'=>OwnL w2.heap.size w2.heap.size 121 txS (settleT B1.txns a) v W') (fun _ _ _ h k=>h.st k) (fun V W kW hp=>?_) ?_
 · (try simp only[List.forall_mem_cons,List.nil_append,List.cons_append,tab_zero,tab_succ,isV] at hp)
   simp[wantsG,rhoP,List.lookup,hp,ResG,execOp,bareOp,q2,qb,go_sem]
   refine (C5.out W kW).mono ?_
   rintro e w4 ⟨v4,rfl,hO,k4⟩
   exact⟨_,rfl,OwnL.low (OwnL.floor hO kW.size) kW.size,k4⟩
 intro V W kW hA
 simp only[List.nil_append,List.cons_append,AllT,isV,Nat.reduceAdd] at hA
 obtain⟨d0,d1,d2,d3,d4,d5,hO8,-⟩:=hA
 generalize hv8:V 6=v8 at *
 have hB8:=HB1.out.st kW
 have hfx:=hO8.fxM HB1.out.low
 obtain⟨A8,c8,rfl⟩:=lst_slice hO8.lst
 have q8:=hB8.blk.cell
 have z8:=hB8.blk.frozen
 simp only at q8 z8
 iterate 2 (apply TailQ.pure;rfl;(simp[rhoP,List.lookup,updV,d0,hv8,execOp,bareOp,go_sem];rfl))
 refine TailQ.skip (W.setCell ⟨g1,8,none⟩ (.slice A8 (settleT B1.txns a).length c8)) rfl (by simp[rhoP,List.lookup,updV,hv8,execOp,bareOp,q8,z8,go_sem]) ?_
 refine TailQ.nil ?_
 simp only[putAll,Act.put,List.setIfInBounds_toArray,List.set_cons_succ,List.set_cons_zero,Nat.reduceAdd,updV]
 have hP9:=hB8.putT hfx
 have hU9:=(UpN.of_k k1 _).tr (HU.out.tr (((UpN.of_k kW _).tr (UpN.set1 (X:=BrX p) (.inl (by have:=kg2 HGG.out;exact this)) 8 (.slice A8 (settleT B1.txns a).length c8)))))
 have HF:Hid (BrN M p { B1 with txns:=settleT B1.txns a } w (W.setCell ⟨g1,8,none⟩ (.slice A8 (settleT B1.txns a).length c8))):=Lib.hid ⟨⟨g1,gl,gd,gr,gt,vd,vr,vp,vh,vl,vq,va,.slice A8 (settleT B1.txns a).length c8,vf',vw,kr⟩,hP9,hU9,HGG.out,fun k hk=>(HNW.out k hk).imp id fun h=>Nat.le_trans k1.size h⟩
 clear hP9 hU9 hB8 hfx hO8 q8 z8 q2 qb C5 d0 d1 d2 d3 d4 d5 hv8
 go_wp2
 go_ret
 exact⟨by rw[HR.out];rfl,by rw[HR.out];exact HF.out⟩
