/-
  The walks of order.Decide's closures (layer 19). Conditions: none.
-/
import Derived.Test.YtagfakjifhdpgaaGreatMa28
set_option maxRecDepth 100000
set_option maxHeartbeats 16000000
set_option linter.unusedVariables false
set_option linter.unusedSimpArgs false
namespace Go.Proofs.YtagfakjifhdpgaaGreat
open Go Go.RowKit
def BoxP {α:Type} (Y:Nat->Prop) (base:Nat) (T e:TypeId) (S:Shp α) (l:List α) (vo:Value) (ob:Nat) (w w':World):Prop :=
 ∃ v',Blk w' ob T #[v']/\OwnY Y base e S l v' w'/\(∀ k,v'.ownBlock=some k->vo.ownBlock=some k∨w.heap.size<=k)/\UpN (fun k=>k=ob∨vo.ownBlock=some k) w w'
theorem Dec1_calls (Y:Nat->Prop) (base:Nat) (o:List Ent) (vo:Value) (ob:Nat) (x:Ent) (v:Value) (w:World) (h:ent x v w) (hs:smallEn x) (hb:Blk w ob 32 #[vo]) (hO:OwnY Y base 42 enS o vo w) (hY:∀ k,Y k->k<w.heap.size) (hYo:Y ob) (hbase:base<=w.heap.size) (hob:ob<base) (hlen:o.length<=1000000) :
 Calls Tryz.prog 174 #[v,.pointer (some ⟨ob,0,none⟩)] w fun e w'=>e=.returned (.tuple #[])/\BoxP Y base 32 42 enS (o++[x]) vo ob w w':=by
 have HE:=Lib.hid fun W (k:K w W)=>ent_st h k
 obtain⟨vf,ve,rfl,hf,he⟩:=h
 obtain⟨Af,cf,rfl⟩:=flt_slice hf
 obtain⟨Ae,ce,rfl⟩:=lst_slice he
 have k1:K w (w.alloc (.cells (entA x (.slice Af x.f.length cf) (.slice Ae x.es.length ce)) 42)):=(K.rf w).al _
 have hx:=Blk.new w 42 (entA x (.slice Af x.f.length cf) (.slice Ae x.es.length ce))
 obtain⟨Ao,co,rfl⟩:=hO.slice
 have hb1:=hb.below k1 hb.lt
 have hO1:=hO.st k1
 have hbl:=hO.blk
 clear hf he hb hO
 go_enter Tryz.func174,Tryz.ntmps174
 go_upto_region 1 with (fail)
 generalize w.alloc _=w1 at *
 have qx:=hx.cells
 have qo:=hb1.cells
 refine wp_region_auto 4 [([],[]),([],[]),([1],[(4,1)]),([2],[(5,2)]),([0,2,3],[(3,0),(6,3)]),([0,1,2,3,4],[(7,4)])] 8 rfl (by kernel_rfl) (by kernel_rfl) (by kernel_rfl) (by kernel_rfl) (by decide) ?_
 simp only[List.take_succ_cons,List.take_zero,List.drop_succ_cons,List.drop_zero]
 iterate 2 (apply AutoQ.is;intro V W kW hp;(try simp only[List.forall_mem_cons,List.nil_append,List.cons_append,tab_zero,tab_succ,isV] at hp);simp[wantsG,rhoP,List.lookup,hp,ResG,execOp,bareOp,isV,Below.refl,kW,qx,qo,go_sem];rfl)
 refine AutoQ.op (entN w1.heap.size x) (entN_st _ _) (fun V W kW hp=>?_) ?_
 · (try simp only[List.forall_mem_cons,List.nil_append,List.cons_append,tab_zero,tab_succ,isV] at hp)
   simp[wantsG,rhoP,List.lookup,hp,ResG,execOp,bareOp,qx,qo,go_sem]
   refine (OWhole_calls x _ W (HE.out _ (k1.tr kW)) hs).mono ?_
   rintro e w4 ⟨v2,rfl,ho,k4⟩
   exact⟨_,rfl,by obtain⟨vf2,ve2,e,hF⟩:=entO_fx ho;exact⟨vf2,ve2,e,hF.less fun k hk=>Nat.lt_of_lt_of_le hk kW.size⟩,k4⟩
 refine AutoQ.row (N:=fun k=>k<w1.heap.size) (lo:=0) (S:=enS) 32 _ 8 96 TEn rfl (by decide) _ x rfl rfl (Nat.zero_le _) (fun V W kW hp=>?_) ?_
 · simp only[List.forall_mem_cons,List.nil_append,List.cons_append,tab_zero,tab_succ,isV] at hp
   obtain⟨⟨vf2,ve2,e6,hF⟩,-⟩:=hp
   simp[rhoP,List.lookup,e6]
   exact⟨rfl,hF⟩
 intro V W kW hA
 simp only[List.nil_append,List.cons_append,AllT,isV,Nat.reduceAdd] at hA
 obtain⟨e0,e1,h2,h3,-⟩:=hA
 have hOW:=hO1.st kW
 have hz1:=k1.size
 refine TailQ.push _ _ 32 _ 8 96 TEn rfl rfl rfl _ o x (by simp[rhoP,List.lookup,e0]) hOW ?_ (by omega) (Nat.le_trans hbase (Nat.le_trans hz1 kW.size)) ?_
 · simp only[rhoP,List.lookup]
   exact h3.less fun k hk=>by
    rcases hk with hk|hk
    · have:=hY k hk;omega
    · have:=hbl k hk;omega
 intro v9 w9 hO9 hg9 hat9 hb9
 obtain⟨L9,HL9⟩:∃ L9,Hid (L9=o++[x]):=⟨_,Lib.hid rfl⟩
 rw[<- HL9.out] at hO9
 have hbW:=hb1.below kW hb1.lt
 have hb9':=hbW.grown hg9 (by intro e;have:=(hbl ob e.symm).1;omega)
 have q9:=hb9'.cell
 have z9:=hb9'.frozen
 have h1:v9.oneCell'=true:=by obtain⟨A9,c9,rfl⟩:=hO9.slice;rfl
 have HU:Hid (UpN (fun k=>k=ob∨(Value.slice Ao o.length co).ownBlock=some k) w (w9.setCell ⟨ob,0,none⟩ v9)):=Lib.hid ((UpN.of_k (k1.tr kW) _).tr ((UpN.of_mut (X:=fun k=>k=ob∨(Value.slice Ao o.length co).ownBlock=some k) hg9 fun k e=>.inr e).tr (UpN.set1 (X:=fun k=>k=ob∨(Value.slice Ao o.length co).ownBlock=some k) (.inl rfl) 0 v9)))
 have HB:Hid (Blk (w9.setCell ⟨ob,0,none⟩ v9) ob 32 #[v9]):=Lib.hid (hb9'.set_ 0 v9)
 have HOF:Hid (OwnY Y base 42 enS L9 v9 (w9.setCell ⟨ob,0,none⟩ v9)):=Lib.hid (hO9.to (X:=fun k=>k=ob) (UpN.set1 (X:=fun k=>k=ob) rfl 0 v9) (fun k hk=>by rw[hk];exact hYo) (fun k hk e=>by subst e;have:=(hO9.blk _ hk).1;omega) fun k _ hk=>.inl hk)
 have HAT:Hid (∀ k,v9.ownBlock=some k->(Value.slice Ao o.length co).ownBlock=some k∨w.heap.size<=k):=Lib.hid fun k hk=>by
  rcases hat9 with h|h
  · exact .inl (h ▸ hk)
  · rw[h] at hk;injection hk with hk;have:=kW.size;exact .inr (by omega)
 obtain⟨A9,c9,rfl⟩:=hO9.slice
 refine TailQ.skip (w9.setCell ⟨ob,0,none⟩ (.slice A9 L9.length c9)) rfl (by simp[rhoP,List.lookup,updV,execOp,bareOp,q9,z9,go_sem]) ?_
 refine TailQ.nil ?_
 simp only[putAll,Act.put,List.setIfInBounds_toArray,List.set_cons_succ,List.set_cons_zero,Nat.reduceAdd,updV,Nat.reduceEqDiff,reduceIte]
 clear hOW hO9 hg9 hat9 hb9 hbW hb9' q9 z9 h1 h2 h3 e0 e1 qx qo hO1 hb1 hx
 go_wp2
 go_end0
 exact⟨rfl,_,HB.out,by rw[<- HL9.out];exact HOF.out,HAT.out,HU.out⟩
theorem Dec2_calls (Y:Nat->Prop) (base:Nat) (o:List Ent) (vo:Value) (ob:Nat) (x:Ent) (v:Value) (w:World) (h:ent x v w) (hs:smallEn x) (hb:Blk w ob 32 #[vo]) (hO:OwnY Y base 42 enS o vo w) (hY:∀ k,Y k->k<w.heap.size) (hYo:Y ob) (hbase:base<=w.heap.size) (hob:ob<base) (hlen:o.length<=1000000) :
 Calls Tryz.prog 175 #[v,.pointer (some ⟨ob,0,none⟩)] w fun e w'=>e=.returned (.tuple #[])/\BoxP Y base 32 42 enS (o++[x]) vo ob w w':=by
 have HE:=Lib.hid fun W (k:K w W)=>ent_st h k
 obtain⟨vf,ve,rfl,hf,he⟩:=h
 obtain⟨Af,cf,rfl⟩:=flt_slice hf
 obtain⟨Ae,ce,rfl⟩:=lst_slice he
 have k1:K w (w.alloc (.cells (entA x (.slice Af x.f.length cf) (.slice Ae x.es.length ce)) 42)):=(K.rf w).al _
 have hx:=Blk.new w 42 (entA x (.slice Af x.f.length cf) (.slice Ae x.es.length ce))
 obtain⟨Ao,co,rfl⟩:=hO.slice
 have hb1:=hb.below k1 hb.lt
 have hO1:=hO.st k1
 have hbl:=hO.blk
 clear hf he hb hO
 go_enter Tryz.func175,Tryz.ntmps175
 go_upto_region 1 with (fail)
 generalize w.alloc _=w1 at *
 have qx:=hx.cells
 have qo:=hb1.cells
 refine wp_region_auto 4 [([],[]),([],[]),([1],[(4,1)]),([2],[(5,2)]),([0,2,3],[(3,0),(6,3)]),([0,1,2,3,4],[(7,4)])] 8 rfl (by kernel_rfl) (by kernel_rfl) (by kernel_rfl) (by kernel_rfl) (by decide) ?_
 simp only[List.take_succ_cons,List.take_zero,List.drop_succ_cons,List.drop_zero]
 iterate 2 (apply AutoQ.is;intro V W kW hp;(try simp only[List.forall_mem_cons,List.nil_append,List.cons_append,tab_zero,tab_succ,isV] at hp);simp[wantsG,rhoP,List.lookup,hp,ResG,execOp,bareOp,isV,Below.refl,kW,qx,qo,go_sem];rfl)
 refine AutoQ.op (entN w1.heap.size x) (entN_st _ _) (fun V W kW hp=>?_) ?_
 · (try simp only[List.forall_mem_cons,List.nil_append,List.cons_append,tab_zero,tab_succ,isV] at hp)
   simp[wantsG,rhoP,List.lookup,hp,ResG,execOp,bareOp,qx,qo,go_sem]
   refine (OWhole_calls x _ W (HE.out _ (k1.tr kW)) hs).mono ?_
   rintro e w4 ⟨v2,rfl,ho,k4⟩
   exact⟨_,rfl,by obtain⟨vf2,ve2,e,hF⟩:=entO_fx ho;exact⟨vf2,ve2,e,hF.less fun k hk=>Nat.lt_of_lt_of_le hk kW.size⟩,k4⟩
 refine AutoQ.row (N:=fun k=>k<w1.heap.size) (lo:=0) (S:=enS) 32 _ 8 96 TEn rfl (by decide) _ x rfl rfl (Nat.zero_le _) (fun V W kW hp=>?_) ?_
 · simp only[List.forall_mem_cons,List.nil_append,List.cons_append,tab_zero,tab_succ,isV] at hp
   obtain⟨⟨vf2,ve2,e6,hF⟩,-⟩:=hp
   simp[rhoP,List.lookup,e6]
   exact⟨rfl,hF⟩
 intro V W kW hA
 simp only[List.nil_append,List.cons_append,AllT,isV,Nat.reduceAdd] at hA
 obtain⟨e0,e1,h2,h3,-⟩:=hA
 have hOW:=hO1.st kW
 have hz1:=k1.size
 refine TailQ.push _ _ 32 _ 8 96 TEn rfl rfl rfl _ o x (by simp[rhoP,List.lookup,e0]) hOW ?_ (by omega) (Nat.le_trans hbase (Nat.le_trans hz1 kW.size)) ?_
 · simp only[rhoP,List.lookup]
   exact h3.less fun k hk=>by
    rcases hk with hk|hk
    · have:=hY k hk;omega
    · have:=hbl k hk;omega
 intro v9 w9 hO9 hg9 hat9 hb9
 obtain⟨L9,HL9⟩:∃ L9,Hid (L9=o++[x]):=⟨_,Lib.hid rfl⟩
 rw[<- HL9.out] at hO9
 have hbW:=hb1.below kW hb1.lt
 have hb9':=hbW.grown hg9 (by intro e;have:=(hbl ob e.symm).1;omega)
 have q9:=hb9'.cell
 have z9:=hb9'.frozen
 have h1:v9.oneCell'=true:=by obtain⟨A9,c9,rfl⟩:=hO9.slice;rfl
 have HU:Hid (UpN (fun k=>k=ob∨(Value.slice Ao o.length co).ownBlock=some k) w (w9.setCell ⟨ob,0,none⟩ v9)):=Lib.hid ((UpN.of_k (k1.tr kW) _).tr ((UpN.of_mut (X:=fun k=>k=ob∨(Value.slice Ao o.length co).ownBlock=some k) hg9 fun k e=>.inr e).tr (UpN.set1 (X:=fun k=>k=ob∨(Value.slice Ao o.length co).ownBlock=some k) (.inl rfl) 0 v9)))
 have HB:Hid (Blk (w9.setCell ⟨ob,0,none⟩ v9) ob 32 #[v9]):=Lib.hid (hb9'.set_ 0 v9)
 have HOF:Hid (OwnY Y base 42 enS L9 v9 (w9.setCell ⟨ob,0,none⟩ v9)):=Lib.hid (hO9.to (X:=fun k=>k=ob) (UpN.set1 (X:=fun k=>k=ob) rfl 0 v9) (fun k hk=>by rw[hk];exact hYo) (fun k hk e=>by subst e;have:=(hO9.blk _ hk).1;omega) fun k _ hk=>.inl hk)
 have HAT:Hid (∀ k,v9.ownBlock=some k->(Value.slice Ao o.length co).ownBlock=some k∨w.heap.size<=k):=Lib.hid fun k hk=>by
  rcases hat9 with h|h
  · exact .inl (h ▸ hk)
  · rw[h] at hk;injection hk with hk;have:=kW.size;exact .inr (by omega)
 obtain⟨A9,c9,rfl⟩:=hO9.slice
 refine TailQ.skip (w9.setCell ⟨ob,0,none⟩ (.slice A9 L9.length c9)) rfl (by simp[rhoP,List.lookup,updV,execOp,bareOp,q9,z9,go_sem]) ?_
 refine TailQ.nil ?_
 simp only[putAll,Act.put,List.setIfInBounds_toArray,List.set_cons_succ,List.set_cons_zero,Nat.reduceAdd,updV,Nat.reduceEqDiff,reduceIte]
 clear hOW hO9 hg9 hat9 hb9 hbW hb9' q9 z9 h1 h2 h3 e0 e1 qx qo hO1 hb1 hx
 go_wp2
 go_end0
 exact⟨rfl,_,HB.out,by rw[<- HL9.out];exact HOF.out,HAT.out,HU.out⟩
theorem Dec3_calls (Y:Nat->Prop) (base:Nat) (o:List Idn) (vo:Value) (ob:Nat) (x:Ent) (v:Value) (w:World) (h:ent x v w) (hb:Blk w ob 51 #[vo]) (hO:OwnY Y base 35 idS o vo w) (hYo:Y ob) (hbase:base<=w.heap.size) (hob:ob<base) (hlen:o.length<=1000000) :
 Calls Tryz.prog 176 #[v,.pointer (some ⟨ob,0,none⟩)] w fun e w'=>e=.returned (.tuple #[])/\BoxP Y base 51 35 idS (o++[idE x]) vo ob w w':=by
 obtain⟨vf,ve,rfl,hf,he⟩:=h
 obtain⟨Af,cf,rfl⟩:=flt_slice hf
 obtain⟨Ae,ce,rfl⟩:=lst_slice he
 have k1:K w (w.alloc (.cells (entA x (.slice Af x.f.length cf) (.slice Ae x.es.length ce)) 42)):=(K.rf w).al _
 have hx:=Blk.new w 42 (entA x (.slice Af x.f.length cf) (.slice Ae x.es.length ce))
 obtain⟨Ao,co,rfl⟩:=hO.slice
 have hb1:=hb.below k1 hb.lt
 have hO1:=hO.st k1
 have hbl:=hO.blk
 clear hf he hb hO
 go_enter Tryz.func176,Tryz.ntmps176
 go_upto_region 1 with (fail)
 generalize w.alloc _=w1 at *
 have hz1:=k1.size
 have qx:=hx.cell
 have qo:=hb1.cell
 have kA:K w1 (w1.alloc (.cells (idA (idE x)) 35)):=(K.rf w1).al _
 have hO2:=hO1.st kA
 have hr:=rowY.new (S:=idS) (e:=35) (x:=idE x) (v:=.agg (idA (idE x))) (w:=w1) (N:=fun k=>Y k∨(Value.slice Ao o.length co).ownBlock=some k) (fun W u=>rfl) 0 (Nat.zero_le _)
 go_wp2_with (at_builtin;refine wpList_push rfl _ _ 51 rfl _ 3 24 TId rfl rfl hO2 _ rfl (idE x) ?p1 ?p2 ?p3 ?_)
 case p1=>exact hr.less fun k hk=>hk
 case p2=>omega
 case p3=>exact Nat.le_trans hbase (Nat.le_trans hz1 kA.size)
 intro v9 w9 hO9 hg9 hat9 hb9
 obtain⟨L9,HL9⟩:∃ L9,Hid (L9=o++[idE x]):=⟨_,Lib.hid rfl⟩
 rw[<- HL9.out] at hO9
 have hbW:=hb1.below kA hb1.lt
 have hb9':=hbW.grown hg9 (by intro e;have:=(hbl ob e.symm).1;omega)
 have q9:=hb9'.cell
 have z9:=hb9'.frozen
 have HU:Hid (UpN (fun k=>k=ob∨(Value.slice Ao o.length co).ownBlock=some k) w (w9.setCell ⟨ob,0,none⟩ v9)):=Lib.hid ((UpN.of_k (k1.tr kA) _).tr ((UpN.of_mut (X:=fun k=>k=ob∨(Value.slice Ao o.length co).ownBlock=some k) hg9 fun k e=>.inr e).tr (UpN.set1 (X:=fun k=>k=ob∨(Value.slice Ao o.length co).ownBlock=some k) (.inl rfl) 0 v9)))
 have HB:Hid (Blk (w9.setCell ⟨ob,0,none⟩ v9) ob 51 #[v9]):=Lib.hid (hb9'.set_ 0 v9)
 have HOF:Hid (OwnY Y base 35 idS L9 v9 (w9.setCell ⟨ob,0,none⟩ v9)):=Lib.hid (hO9.to (X:=fun k=>k=ob) (UpN.set1 (X:=fun k=>k=ob) rfl 0 v9) (fun k hk=>by rw[hk];exact hYo) (fun k hk e=>by subst e;have:=(hO9.blk _ hk).1;omega) fun k _ hk=>.inl hk)
 have HAT:Hid (∀ k,v9.ownBlock=some k->(Value.slice Ao o.length co).ownBlock=some k∨w.heap.size<=k):=Lib.hid fun k hk=>by
  rcases hat9 with h|h
  · exact .inl (h ▸ hk)
  · rw[h] at hk;injection hk with hk;exact .inr (by omega)
 obtain⟨A9,c9,rfl⟩:=hO9.slice
 clear hO9 hg9 hat9 hb9 hbW hb9' qx qo hO1 hO2 hb1 hx hr
 go_wp2
 go_end0
 exact⟨rfl,_,HB.out,by rw[<- HL9.out];exact HOF.out,HAT.out,HU.out⟩
theorem IdxE_calls (l:List Ent) (v:Value) (q:Ent->Bool) (f:Nat) (cs:Array Value) (w:World) (h:lst enS l v w) (hlen:l.length<=1000000) (hf:∀ args W,(callFunc f args).run Tryz.prog W=.ok (.enter f args) W)
 (hC:∀ W,K w W->∀ x∈l,∀ u,ent x u W->Calls Tryz.prog f (#[u]++cs) W fun e W'=>e=.returned (.bool (q x))/\K W W') :
 Calls Tryz.prog 177 #[v,.func (.func f) #[] cs] w fun e w'=>∃ i:Int,e=.returned (.int .i64 i)/\K w w'/\decide (0<=i)=l.any q:=by
 have kk:=K.rf w
 obtain⟨A,c,rfl,h,-⟩:=h
 have HC:=Lib.hid hC
 clear hC
 go_enter Tryz.func177,Tryz.ntmps177
 go_wp2_with fail
 go_loopw [5,8] (fun _ i wr=>∃ k:Nat,k<=l.length/\i=.int .i64 (k:Int)/\Hid ((l.take k).any q=false)/\K w wr) (fun _ i _=>l.length - (intOf i).toNat)
 case atStart=>exact⟨0,by omega,rfl,Lib.hid (by simp),kk⟩
 case round =>
  clear kk
  obtain⟨k,hk,rfl,hall,kr⟩:=hrel
  by_cases hlt:k<l.length
  · have hki:(k:Int)<(l.length:Int):=by omega
    obtain⟨b1,off,cs1,rfl,hcl,hrl,d0,d⟩:=lsr_cells h k hlt (by decide)
    have HB:=Lib.hid (any_take_succ q l k hlt)
    have HA:=Lib.hid (any_of_take q l (k+1))
    have hm:=List.getElem_mem hlt
    generalize l[k]=t at *
    obtain⟨vf,ve,rfl,hf1,he⟩:=hrl wr kr
    have d0:∀ W,K w W->W.cell? ⟨b1,off+k * 8,none⟩=some (.int .i64 t.kind):=d0
    have d:∀ W,K w W->∀ i,i<8->W.cell? ⟨b1,off+k * 8+i,none⟩=(entA t vf ve)[i]?:=fun W j hj=>fun hi=>(d W j hj hi).trans Array.getElem?_toList
    have C1:=Lib.hid (HC.out wr kr t hm (.agg (entA t vf ve)) ⟨vf,ve,rfl,hf1,he⟩)
    clear hrl hcl hm
    go_wp2_with fail
    refine C1.out.mono ?_
    rintro e w2 ⟨rfl,k2⟩
    have kW:=kr.tr k2
    clear d d0 hf1 he C1
    cases hx:q t
    · have hrr:Hid ((l.take (k+1)).any q=false):=Lib.hid (by rw[HB.out,hall.out,hx];rfl)
      go_wp2
      go_roundw
      case rel=>exact⟨k+1,by omega,by go_num,hrr,kW⟩
      case measure=>simp[intOf];omega
    · have HE:Hid (l.any q=true):=Lib.hid (HA.out (by rw[HB.out,hx];simp))
      go_wp2
      go_ret
      exact⟨_,rfl,kW,by rw[HE.out];simp⟩
  · have hki:¬ (k:Int)<(l.length:Int):=by omega
    have HE:Hid (l.any q=false):=Lib.hid (by
     have:=hall.out
     rw[List.take_of_length_le (by omega)] at this
     exact this)
    go_wp2
    go_ret
    exact⟨_,rfl,kr,by rw[HE.out];simp⟩
theorem ContE_calls (l:List Ent) (v:Value) (q:Ent->Bool) (f:Nat) (cs:Array Value) (w:World) (h:lst enS l v w) (hlen:l.length<=1000000) (hf:∀ args W,(callFunc f args).run Tryz.prog W=.ok (.enter f args) W)
 (hC:∀ W,K w W->∀ x∈l,∀ u,ent x u W->Calls Tryz.prog f (#[u]++cs) W fun e W'=>e=.returned (.bool (q x))/\K W W') :
 Calls Tryz.prog 95 #[v,.func (.func f) #[] cs] w fun e w'=>e=.returned (.bool (l.any q))/\K w w':=by
 have C1:=Lib.hid (IdxE_calls l v q f cs w h hlen hf hC)
 obtain⟨A,c,rfl⟩:=lst_slice h
 clear h hC
 generalize l.any q=R at *
 go_enter Tryz.func95,Tryz.ntmps95
 go_wp2_with fail
 refine C1.out.mono ?_
 rintro e w2 ⟨i,rfl,k2,hR⟩
 have HR:=Lib.hid hR
 clear C1 hR
 go_wp2
 go_ret
 exact⟨by rw[<- HR.out];rfl,k2⟩
theorem OrdOfC_calls (x:Ent) (a:Idn) (v:Value) (g:Nat) (w:World) (h:ent x v w) (hg:Blk w g 35 #[.int .i64 a.1,.int .u64 (a.2.1:Int),.int .u64 (a.2.2:Int)]) :
 Calls Tryz.prog 227 #[v,.pointer (some ⟨g,0,none⟩)] w fun e w'=>e=.returned (.bool (isIdE a x))/\K w w':=by
 obtain⟨vf,ve,rfl,hf,he⟩:=h
 obtain⟨A,c,rfl⟩:=flt_slice hf
 obtain⟨D,d,rfl⟩:=lst_slice he
 clear hf he
 have HI:=Lib.hid (isIdE_iff a x)
 have q:=hg.cells
 have ka:=fun o=>(K.rf w).al o
 obtain⟨a0,a1,a2⟩:=a
 obtain⟨k,b,l,s,cl,u,f,es⟩:=x
 simp only at q HI ⊢
 generalize isIdE (a0,a1,a2) ⟨k,b,l,s,cl,u,f,es⟩=R at *
 go_enter Tryz.func227,Tryz.ntmps227
 go_wp2
 all_goals
  go_ret
  refine⟨?_,(K.rf w).al _⟩
  rw[HI.out]
  show Ending.returned (.bool _)=Ending.returned (.bool _)
  clear q ka
  first|(simp_all;done)|(simp_all;omega)|(congr 2;rw[Bool.eq_iff_iff];simp_all;omega)
theorem AskC_calls (x y:Ent) (v vf9 ve9:Value) (g:Nat) (w:World) (h:ent x v w) (hg:Blk w g 42 (entA y vf9 ve9)) :
 Calls Tryz.prog 102 #[v,.pointer (some ⟨g,0,none⟩)] w fun e w'=>e=.returned (.bool (isIdE (idE y) x))/\K w w':=by
 obtain⟨vf,ve,rfl,hf,he⟩:=h
 obtain⟨A,c,rfl⟩:=flt_slice hf
 obtain⟨D,d,rfl⟩:=lst_slice he
 clear hf he
 have HI:Hid (isIdE (idE y) x=(decide (x.br=y.br)&&decide (x.life=y.life)&&decide (x.ser=y.ser))):=Lib.hid (isIdE_iff (y.br,y.life,y.ser) x)
 have q:=hg.cells
 have ka:=fun o=>(K.rf w).al o
 generalize isIdE (idE y) x=R at *
 obtain⟨yk,yb,yl,ys,yc,yu,yf,yes⟩:=y
 obtain⟨k,b,l,s,cl,u,f,es⟩:=x
 simp only at q HI ⊢
 clear hg
 go_enter Tryz.func102,Tryz.ntmps102
 go_wp2
 all_goals
  go_ret
  refine⟨?_,(K.rf w).al _⟩
  rw[HI.out]
  show Ending.returned (.bool _)=Ending.returned (.bool _)
  clear q ka HI
  rw[show decide (l=yl)=decide ((l:Int)=(yl:Int)) from decide_eq_decide.2 (by omega),show decide (s=ys)=decide ((s:Int)=(ys:Int)) from decide_eq_decide.2 (by omega)]
  simp[*]
theorem WorkC_calls (x y:Ent) (v vf9 ve9:Value) (g:Nat) (w:World) (h:ent x v w) (hg:Blk w g 42 (entA y vf9 ve9)) :
 Calls Tryz.prog 96 #[v,.pointer (some ⟨g,0,none⟩)] w fun e w'=>e=.returned (.bool (isIdE (idE y) x))/\K w w':=by
 obtain⟨vf,ve,rfl,hf,he⟩:=h
 obtain⟨A,c,rfl⟩:=flt_slice hf
 obtain⟨D,d,rfl⟩:=lst_slice he
 clear hf he
 have HI:Hid (isIdE (idE y) x=(decide (x.br=y.br)&&decide (x.life=y.life)&&decide (x.ser=y.ser))):=Lib.hid (isIdE_iff (y.br,y.life,y.ser) x)
 have q:=hg.cells
 have ka:=fun o=>(K.rf w).al o
 generalize isIdE (idE y) x=R at *
 obtain⟨yk,yb,yl,ys,yc,yu,yf,yes⟩:=y
 obtain⟨k,b,l,s,cl,u,f,es⟩:=x
 simp only at q HI ⊢
 clear hg
 go_enter Tryz.func96,Tryz.ntmps96
 go_wp2
 all_goals
  go_ret
  refine⟨?_,(K.rf w).al _⟩
  rw[HI.out]
  show Ending.returned (.bool _)=Ending.returned (.bool _)
  clear q ka HI
  rw[show decide (l=yl)=decide ((l:Int)=(yl:Int)) from decide_eq_decide.2 (by omega),show decide (s=ys)=decide ((s:Int)=(ys:Int)) from decide_eq_decide.2 (by omega)]
  simp[*]
theorem OrdOf_calls (l:List Ent) (a:Idn) (v:Value) (w:World) (h:lst enS l v w) (hlen:l.length<=1000000) :
 Calls Tryz.prog 172 #[v,idv a] w fun e w'=>e=.returned (.bool (hasE l a))/\K w w':=by
 have k1:K w (w.alloc (.cells #[.int .i64 a.1,.int .u64 (a.2.1:Int),.int .u64 (a.2.2:Int)] 35)):=(K.rf w).al _
 have hb:=Blk.new w 35 #[.int .i64 a.1,.int .u64 (a.2.1:Int),.int .u64 (a.2.2:Int)]
 have HR:Hid (hasE l a=l.any (isIdE a)):=Lib.hid rfl
 have H:=Lib.hid h
 obtain⟨A,c,rfl⟩:=lst_slice h
 generalize hasE l a=R at *
 clear h
 go_enter Tryz.func172,Tryz.ntmps172
 go_upto_region 1 with (fail)
 generalize w.alloc _=w1 at *
 generalize w.heap.size=ga at hb ⊢
 have C1:=Lib.hid (ContE_calls l _ (isIdE a) 227 #[.pointer (some ⟨ga,0,none⟩)] w1 (lst_st H.out k1) hlen (fun _ _=>by rfl) (fun W k x _ u hu=>OrdOfC_calls x a u ga W hu (hb.below k hb.lt)))
 clear hb
 go_wp2_with fail
 refine C1.out.mono ?_
 rintro e w2 ⟨rfl,k2⟩
 have kF:=k1.tr k2
 clear C1
 go_wp2
 go_ret
 exact⟨by rw[HR.out];rfl,kF⟩
theorem kidsP_len (p:List Int) (n:Int):(kidsP p n).length<=p.length:=by
 unfold kidsP
 split
 · unfold kidsU
   rw[List.length_map]
   exact Nat.le_trans (List.length_filter_le _ _) (by simp)
 · simp
theorem msv_rel {m:Msg} {v:Value} {W:World} (h:msv m v W):msS.rel m v.cells.toList W:=by
 obtain⟨v1,v2,v3,v4,v5,v6,rfl,h⟩:=h
 exact⟨v1,v2,v3,v4,v5,v6,rfl,h⟩
theorem BLast_calls {M:Nat->Prop} {p:BrW} {B:Brk} {w:World} (h:BrV M p B w) (hG:GoodB B) :
 Calls Tryz.prog 47 #[.pointer (some ⟨p.g,0,none⟩)] w fun e w'=>∃ v',e=.returned v'/\Fx M (fun W=>lst msS (lastB B) v' W) w'/\K w w':=by
 have H:=Lib.hid h
 have C1:=Lib.hid (BKids_calls h hG)
 have hkl:(kidsB B).length<=16:=Nat.le_trans (kidsP_len _ _) (okTr_par hG.tr).2
 have HM:=Lib.hid h.low
 have q:=h.q
 have Q1:=Lib.hid fun W (k:K w W) x=>(run_lookG (keyI (P:=Tryz.prog) (kt:=3) Tryz.underlying3) Tryz.underlying98 (zeroMs W) (h.rep.st k) x).2
 have HL:Hid (lastB B=(kidsB B).map (repB B)):=Lib.hid rfl
 generalize kidsB B=ks at *
 generalize lastB B=R at *
 obtain⟨g,gl,gd,gr,gt,vd,vr,vp,vh,vl,vq,va,vt,vf,vw,kr⟩:=p
 simp only at q Q1
 clear h hG
 go_enter Tryz.func47,Tryz.ntmps47
 go_wp2_with fail
 refine C1.out.mono ?_
 rintro e w1 ⟨v1,rfl,hO1,k1⟩
 obtain⟨A1,c1,e1,hl1,-⟩:=hO1.lst
 subst e1
 have HL1:=Lib.hid hl1
 clear hO1 hl1 C1
 have hO:=OwnY.nil (fun k=>M k) w1.heap.size 61 msS w1
 have kk:=K.rf w1
 go_wp2_with fail
 go_loopw [3,5,9] (fun o _ i W=>∃ j:Nat,j<=ks.length/\i=.int .i64 (j:Int)/\OwnY (fun k=>M k) w1.heap.size 61 msS ((ks.take j).map (repB B)) o W/\K w1 W) (fun _ _ i _=>ks.length - (intOf i).toNat)
 case atStart=>exact⟨0,by omega,rfl,by simpa using hO,kk⟩
 case round =>
  clear hO kk
  obtain⟨j,hj,rfl,hO,kR⟩:=hrel
  by_cases hlt:j<ks.length
  · have hji:(j:Int)<(ks.length:Int):=by omega
    obtain⟨b,off,rfl,hcell⟩:=ints_at HL1.out (by omega)
    have cj:=hcell wr kR j hlt
    have HT:Hid ((ks.take (j+1)).map (repB B)=(ks.take j).map (repB B)++[repB B ks[j]]):=Lib.hid (by rw[List.take_succ_eq_append_getElem hlt,List.map_append];rfl)
    generalize ks[j]=x at *
    have hF0:Fx (fun k=>M k∨w.heap.size<=k) (fun W=>msv (repB B x) ((lookG kr x).getD (.agg zMs)) W) wr:=(H.out.dat.to (X:=fun _=>False) (N:=fun k=>M k∨w.heap.size<=k) (UpN.of_k (k1.tr kR) _) (fun _ h=>h.elim) (fun k hk hx=>hx.resolve_right (by omega))).mono fun W d=>d.reps.look x
    obtain⟨m1,m2,m3,m4,m5,m6,em,hm⟩:=hF0.now
    have ql:=Q1.out wr (k1.tr kR) x
    rw[em] at ql hF0
    have qg:=q wr (k1.tr kR)
    simp only[encI] at ql
    have hbl:=hO.blk
    have hz:=kR.size
    have hF1:Fx (fun k=>M k∨w.heap.size<=k) (fun W=>msS.rel (repB B x) (Value.agg (msA (repB B x) m1 m2 m3 m4 m5 m6)).cells.toList W) wr:=hF0.mono fun W h=>msv_rel h
    have hr:=rowY.new (S:=msS) (e:=61) (v:=.agg (msA (repB B x) m1 m2 m3 m4 m5 m6)) hF1 0 (Nat.zero_le _)
    have hO3:=hO.st ((K.rf wr).al (.cells (msA (repB B x) m1 m2 m3 m4 m5 m6) 61))
    have kr3:=kR.tr ((K.rf wr).al (.cells (msA (repB B x) m1 m2 m3 m4 m5 m6) 61))
    have HMM:=Lib.hid HM.out
    clear hO hF0 hF1 hm em hcell
    go_wp2_with (at_builtin;refine wpList_push rfl _ _ 113 rfl _ 8 160 TMs rfl rfl hO3 _ rfl (repB B x) ?p1 ?p2 ?p3 ?_)
    case p1 =>
     refine hr.less fun k hk=>?_
     rcases hk with hk|hk
     · exact .inl hk
     · have:=(hbl k hk).1;have:=k1.size;exact .inr (by omega)
    case p2=>simp;omega
    case p3=>exact kr3.size
    intro v9 w9 hO9 hg9 _ hb9
    rw[<- List.map_take,<- HT.out] at hO9
    have kr9:=kr3.trans hb9
    clear hr hO3 ql qg cj
    go_wp2
    go_roundw
    case rel=>exact⟨j+1,by omega,by go_num,hO9,kr9⟩
    case measure=>simp[intOf];omega
  · have hji:¬ (j:Int)<(ks.length:Int):=by omega
    obtain rfl:j=ks.length:=by omega
    rw[List.take_length] at hO
    have HF:Hid (Fx M (fun W=>lst msS R _ W) wr):=Lib.hid (by rw[HL.out];exact hO.fx fun k hk=>Nat.lt_of_lt_of_le (HM.out k hk) k1.size)
    have kF:=k1.tr kR
    clear hO
    go_wp2
    go_ret
    exact⟨_,rfl,HF.out,kF⟩
def findF (t:Txn) (is:Bool) (_:Nat) (xs:Array Value) (c:Value) (_:World):Prop:=∃ vf ve,xs=txA t vf ve/\c=.bool is/\(∃ A k,vf=.slice A t.e.f.length k)/\∃ A k,ve=.slice A t.e.es.length k
abbrev zTx9:Array Value:=txA txn0 (.slice none 0 0) (.slice none 0 0)
theorem BStatus_calls {M:Nat->Prop} {p:BrW} {B:Brk} {w:World} (h:BrV M p B w) (hG:GoodB B) (a:Idn) :
 Calls Tryz.prog 22 #[.pointer (some ⟨p.g,0,none⟩),idv a] w fun e w'=>e=.returned (.int .i64 (statusB B a))/\K w w':=by
 have HR:Hid (statusB B a=if hasE B.st.list a then 3 else if abortedB B a then 4 else if (findT B.txns a).2 then (if (findT B.txns a).1.asked then 2 else 1) else 0):=Lib.hid rfl
 have H:=Lib.hid h
 have HG:=Lib.hid hG
 have k1:K w (w.alloc (.cells #[.int .i64 a.1,.int .u64 (a.2.1:Int),.int .u64 (a.2.2:Int)] 35)):=(K.rf w).al _
 have hb:=Blk.new w 35 #[.int .i64 a.1,.int .u64 (a.2.1:Int),.int .u64 (a.2.2:Int)]
 have C1:=Lib.hid fun W (k:K w W)=>TFind_calls B.txns a p.vt W (h.dat.at k).txns hG.tx.small (by have:=hG.tx.len6;omega)
 have C2:=Lib.hid fun W (k:K w W)=>Has_calls B.st a (.agg (stA B.st p.vl p.vq p.va)) W ⟨_,_,_,rfl,(h.dat.at k).list,(h.dat.at k).prom,(h.dat.at k).ab⟩ (by have:=hG.dk.len;omega)
 have hs1:=lst_slice h.dat.now.list
 have hs2:=lst_slice h.dat.now.prom
 have hs3:=lst_slice h.dat.now.ab
 have hs4:=lst_slice h.dat.now.txns
 have q:=h.q
 obtain⟨g,gl,gd,gr,gt,vd,vr,vp,vh,vl,vq,va,vt,vf,vw,kr⟩:=p
 simp only at q C1 C2 hs1 hs2 hs3 hs4
 obtain⟨Al,cl,rfl⟩:=hs1
 obtain⟨Ap,cp,rfl⟩:=hs2
 obtain⟨Aa,ca,rfl⟩:=hs3
 obtain⟨At,ct,rfl⟩:=hs4
 obtain⟨ft,hft⟩:∃ ft,ft=findT B.txns a:=⟨_,rfl⟩
 obtain⟨hl,hhl⟩:∃ hl,hl=hasE B.st.list a:=⟨_,rfl⟩
 obtain⟨ha,hha⟩:∃ ha,ha=abortedB B a:=⟨_,rfl⟩
 simp only[<- hft,<- hhl,<- hha] at C1 C2 HR
 have HA:=Lib.hid hha
 obtain⟨tx,is⟩:=ft
 clear h hG hft hhl hha
 generalize statusB B a=R at *
 go_enter Tryz.func22,Tryz.ntmps22
 go_upto_region 3 with (fail)
 generalize w.alloc _=w1 at *
 generalize w.heap.size=ga at hb ⊢
 have qb:=hb.cells
 have q1:=fun W (k:K w1 W)=>q W (k1.tr k)
 have C3:=Lib.hid fun W (k:K w1 W)=>C1.out W (k1.tr k)
 have HB:=Lib.hid hb
 clear hb C1 q
 refine wp_region_got 121 zTx9 (fun i=>[Value.pointer (some ⟨g,0,none⟩),.pointer (some ⟨g,0,none⟩),.pointer (some ⟨g,8,none⟩),.slice At B.txns.length ct,idv a].getD i undef) (findF tx is)
  [([],[]),([0],[(10,0)]),([1],[(11,1)]),([2],[(12,2)]),([],[]),([3,4],[(13,3),(14,4)]),([5],[(15,5)]),([6],[(9,6)]),([6],[(9,6)]),([],[]),([7,9],[(5,9),(16,7)]),([8],[(17,8)])] 57 #[.slice At B.txns.length ct,idv a] 37 rfl (by kernel_rfl) (by kernel_rfl) (by kernel_rfl) rfl rfl ?gd ?pre ?call ?cc ?h6 ?h7 ?h8 ?h9 ?h10 ?h11 ?hk ?hlow ?_
 case gd=>simp
 case pre =>
  intro i hi V W kW hp
  have:i=0∨i=1∨i=2∨i=3∨i=4:=by omega
  rcases this with rfl|rfl|rfl|rfl|rfl <;> simp at hp <;> simp[runX,rhoP,List.lookup,hp,execOp,bareOp,q1,qb,kW,go_sem]
 case call=>intro V W kW h3 h4;simp at h3 h4;simp[runX,rhoP,List.lookup,h3,h4,execOp,bareOp,go_sem]
 case cc =>
  intro W kW
  refine (C3.out W kW).mono ?_
  rintro e w3 ⟨u,rfl,⟨vf,ve,rfl,hf,he⟩,k3⟩
  obtain⟨Af,cf,rfl⟩:=flt_slice hf
  obtain⟨Ae,ce,rfl⟩:=lst_slice he
  exact⟨_,_,rfl,⟨_,_,rfl,rfl,⟨_,_,rfl⟩,⟨_,_,rfl⟩⟩,k3⟩
 case h6=>intro V W v h5;simp[runX,rhoP,List.lookup,h5,execOp,bareOp,go_sem]
 case h7=>intro V W xs c h5;simp[runX,rhoP,List.lookup,h5,execOp,bareOp,go_sem]
 case h8=>intro V W xs c h5;simp[runX,rhoP,List.lookup,h5,execOp,bareOp,go_sem]
 case h9=>intro V W;simp[runX,execOp,bareOp,go_sem];rfl
 case h10 =>
  rintro V W b lo xs c W0 e9 e7 hb ⟨vf,ve,rfl,-,⟨Af,cf,rfl⟩,Ae,ce,rfl⟩
  show ∃ W',(execOp (rhoP [(5,9),(16,7)] _ V) (bareOp (.store 121 (.tmp 5) (.tmp 16)) _)).run Tryz.prog W=_/\_/\_
  exact exec_store (.tmp 5) (.tmp 16) 121 _ 121 b 0 zTx9 (txA tx (.slice Af tx.e.f.length cf) (.slice Ae tx.e.es.length ce)) (by simp[rhoP,List.lookup,e9]) (by simp[rhoP,List.lookup,e7]) hb (by kernel_rfl) (by simp) (by simp[Value.oneCell'])
 case h11=>intro V W c h5;simp[runX,rhoP,List.lookup,h5,execOp,bareOp,go_sem]
 case hk=>exact fun lo xs c W W' h k=>h
 case hlow=>exact fun lo xs c W W' b h hb u=>h
 intro V W b xs c lo kW hcs e5 e6 e7 e8 e9 e11 hbl hbk hlo hΦ
 obtain⟨vf,ve,rfl,rfl,⟨Af,cf,rfl⟩,Ae,ce,rfl⟩:=hΦ
 simp only[putAll,Act.put,List.setIfInBounds_toArray,List.set_cons_succ,List.set_cons_zero,e5,e6,e7,e8,e9,e11]
 have k0W:=k1.tr kW
 have q2:=fun W' (k:K W W')=>q1 W' (kW.tr k)
 have qa2:=fun W' (k:K W W')=>qb W' (kW.tr k)
 have qt:=hbk.cells
 have C4:=Lib.hid fun W' (k:K W W')=>C2.out W' (k0W.tr k)
 have C5:=Lib.hid fun W' (k:K W W')=>BAborted_calls (H.out.st (k0W.tr k)) HG.out a
 simp only[<- HA.out] at C5
 clear hcs e5 e6 e7 e8 e9 e11 q1 qb C2 C3 hbk HA H HG
 go_upto_region 4 with (fail)
 cases hl
 rotate_left
 · have HF:Hid (R=3):=Lib.hid (by rw[HR.out];rfl)
   refine wp_region_auto 7 [([],[]),([0],[(19,0)]),([1],[(20,1)]),([2],[(21,2)]),([],[]),([3,4],[(22,3),(23,4)]),([5],[(24,5)])] 37 rfl (by kernel_rfl) (by kernel_rfl) (by kernel_rfl) (by kernel_rfl) (by decide) ?_
   simp only[List.take_succ_cons,List.take_zero,List.drop_succ_cons,List.drop_zero]
   iterate 5 (apply AutoQ.is;intro V W kW hp;(try simp only[List.forall_mem_cons,List.nil_append,List.cons_append,tab_zero,tab_succ,isV] at hp);simp[wantsG,rhoP,List.lookup,hp,ResG,execOp,bareOp,isV,Below.refl,kW,q2,qa2,go_sem];rfl)
   refine AutoQ.is (.bool true) (fun V W kW hp=>?_) ?_
   · (try simp only[List.forall_mem_cons,List.nil_append,List.cons_append,tab_zero,tab_succ,isV] at hp)
     simp[wantsG,rhoP,List.lookup,hp,ResG,execOp,bareOp,isV,q2,qa2,go_sem]
     refine (C4.out W kW).mono ?_
     rintro e w4 ⟨rfl,k4⟩
     exact⟨_,rfl,rfl,k4⟩
   (apply AutoQ.is;intro V W kW hp;(try simp only[List.forall_mem_cons,List.nil_append,List.cons_append,tab_zero,tab_succ,isV] at hp);simp[wantsG,rhoP,List.lookup,hp,ResG,execOp,bareOp,isV,Below.refl,kW,q2,qa2,go_sem];rfl)
   intro V W kW hA
   simp only[List.nil_append,List.cons_append,AllT,isV,Nat.reduceAdd] at hA
   refine TailQ.nil ?_
   simp only[putAll,Act.put,List.setIfInBounds_toArray,List.set_cons_succ,List.set_cons_zero,Nat.reduceAdd,hA]
   have kF:=k0W.tr kW
   clear hA q2 qa2 C5 qt HR
   go_wp2
   go_ret
   exact⟨by rw[HF.out];rfl,kF⟩
 refine wp_region_auto 7 [([],[]),([0],[(19,0)]),([1],[(20,1)]),([2],[(21,2)]),([],[]),([3,4],[(22,3),(23,4)]),([5],[(24,5)])] 37 rfl (by kernel_rfl) (by kernel_rfl) (by kernel_rfl) (by kernel_rfl) (by decide) ?_
 simp only[List.take_succ_cons,List.take_zero,List.drop_succ_cons,List.drop_zero]
 iterate 5 (apply AutoQ.is;intro V W kW hp;(try simp only[List.forall_mem_cons,List.nil_append,List.cons_append,tab_zero,tab_succ,isV] at hp);simp[wantsG,rhoP,List.lookup,hp,ResG,execOp,bareOp,isV,Below.refl,kW,q2,qa2,go_sem];rfl)
 refine AutoQ.is (.bool false) (fun V W kW hp=>?_) ?_
 · (try simp only[List.forall_mem_cons,List.nil_append,List.cons_append,tab_zero,tab_succ,isV] at hp)
   simp[wantsG,rhoP,List.lookup,hp,ResG,execOp,bareOp,isV,q2,qa2,go_sem]
   refine (C4.out W kW).mono ?_
   rintro e w4 ⟨rfl,k4⟩
   exact⟨_,rfl,rfl,k4⟩
 (apply AutoQ.is;intro V W kW hp;(try simp only[List.forall_mem_cons,List.nil_append,List.cons_append,tab_zero,tab_succ,isV] at hp);simp[wantsG,rhoP,List.lookup,hp,ResG,execOp,bareOp,isV,Below.refl,kW,q2,qa2,go_sem];rfl)
 intro V W kW hA
 simp only[List.nil_append,List.cons_append,AllT,isV,Nat.reduceAdd] at hA
 refine TailQ.nil ?_
 simp only[putAll,Act.put,List.setIfInBounds_toArray,List.set_cons_succ,List.set_cons_zero,Nat.reduceAdd,hA]
 have kF:=k0W.tr kW
 have C6:=Lib.hid (C5.out W kW)
 have qa3:=fun i=>qa2 W kW i
 have HQT:=Lib.hid fun W' (k:K W W')=>qt W' (kW.tr k)
 clear hA q2 qa2 C5 qt C4 k0W
 go_wp2_with fail
 refine C6.out.mono ?_
 rintro e w9 ⟨rfl,k9⟩
 have kG:=kF.tr k9
 clear C6
 cases ha
 rotate_left
 · have HF:Hid (R=4):=Lib.hid (by rw[HR.out];rfl)
   clear HR
   go_wp2
   go_ret
   exact⟨by rw[HF.out];rfl,kG⟩
 have qt9:=HQT.out w9 k9
 have HE:Hid (R=if is then (if tx.asked then 2 else 1) else 0):=Lib.hid (by rw[HR.out];rfl)
 clear HR qa3
 cases his:is
 · have HF:Hid (R=0):=Lib.hid (by rw[HE.out,his];rfl)
   go_wp2
   go_ret
   exact⟨by rw[HF.out];rfl,kG⟩
 cases hask:tx.asked
 · have HF:Hid (R=1):=Lib.hid (by rw[HE.out,his,hask];rfl)
   have q8:w9.cell? ⟨b,8,none⟩=some (.bool false):=(qt9 8).trans (by simp[txA,hask])
   clear qt9 HQT
   go_wp2
   go_ret
   exact⟨by rw[HF.out];rfl,kG⟩
 · have HF:Hid (R=2):=Lib.hid (by rw[HE.out,his,hask];rfl)
   have q8:w9.cell? ⟨b,8,none⟩=some (.bool true):=(qt9 8).trans (by simp[txA,hask])
   clear qt9 HQT
   go_wp2
   go_ret
   exact⟨by rw[HF.out];rfl,kG⟩
