/-
  The walk of stage.add (layer 17). Conditions: lists of at most a million.
-/
import Derived.Test.YtagfakjifhdpgaaGreatMa20
import Derived.Deep.RegionLaw
import Derived.Lib.SlicesDelete
set_option maxRecDepth 100000
set_option maxHeartbeats 16000000
set_option linter.unusedVariables false
set_option linter.unusedSimpArgs false
namespace Go.Proofs.YtagfakjifhdpgaaGreat
open Go Go.RowKit
theorem Add_calls (l:List Txn) (t:Txn) (v u:Value) (w:World) (h:lst txS l v w) (ht:txv t u w) (hfit:fitEn t.e) (hs:smallEn t.e) (hl:∀ s∈l,smallEn s.e) (hlen:l.length<=1000000) :
 Calls Tryz.prog 85 #[v,u] w fun e w'=>∃ v',e=.returned (.tuple #[v',.int .i64 (addT l t).2])/\OwnL w.heap.size w.heap.size 121 txS (addT l t).1 v' w'/\K w w':=by
 obtain⟨vf,ve,rfl,hf,he⟩:=ht
 obtain⟨Af,cf,rfl⟩:=flt_slice hf
 obtain⟨Ae,ce,rfl⟩:=lst_slice he
 have HE:Hid (∀ W,K w W->ent t.e (.agg (entA t.e (.slice Af t.e.f.length cf) (.slice Ae t.e.es.length ce))) W):=Lib.hid fun W k=>⟨_,_,rfl,flt_st _ _ _ _ hf k,lst_st he k⟩
 have HV:=Lib.hid (lst_al h)
 obtain⟨A,c,rfl⟩:=lst_slice h
 clear hf he h
 have HR:Hid (addT l t=if seekI l (idOf t.e)<0 then (if okEn t.e=false then (l,110) else if 8<=l.length then (l,171) else if bigE t.e then (l,172) else (l++[t],0)) else (l,170)):=Lib.hid (by
  unfold addT seekI
  cases seekT l (idOf t.e) with
  | none=>simp
  | some k =>
    simp only[Option.isSome_some,if_true]
    rw[if_neg (by omega)])
 generalize addT l t=R at *
 have HS:=Lib.hid hs
 have HL:=Lib.hid hl
 have HF:=Lib.hid hfit
 clear hs hl hfit
 have hx:=Blk.new w 121 (txA t (.slice Af t.e.f.length cf) (.slice Ae t.e.es.length ce))
 have k1:K w (w.alloc (.cells (txA t (.slice Af t.e.f.length cf) (.slice Ae t.e.es.length ce)) 121)):=(K.rf w).al _
 go_enter Tryz.func85,Tryz.ntmps85
 go_wp2
 go_step3
 go_wp2_with fail
 generalize w.alloc _=w1 at *
 have hg3w:w.heap.size<=w.heap.size:=Nat.le_refl _
 generalize w.heap.size=g3 at hx ⊢
 generalize Value.slice Af t.e.f.length cf=vf at *
 generalize Value.slice Ae t.e.es.length ce=ve at *
 have qx:=hx.cells
 refine (SCopied_calls l _ w1 (HV.out _ k1) HL.out hlen).mono ?_
 rintro e w2 ⟨u6,rfl,hO,k2⟩
 have k02:=k1.tr k2
 go_wp2_with fail
 go_step3
 go_wp2_with fail
 refine (Seek_calls l (idOf t.e) _ w2 (HV.out _ k02) hlen).mono ?_
 rintro e w3 ⟨rfl,k3⟩
 have hzw:=k1.size
 replace hO:=hO.st k3
 replace k02:=k02.tr k3
 have k23:=k2.tr k3
 have HW:Hid (OwnL w.heap.size w.heap.size 121 txS l u6 w3):=Lib.hid (OwnL.low (OwnL.floor hO hzw) hzw)
 generalize hI:seekI l (idOf t.e)=I at HR ⊢
 clear hI
 by_cases hneg:I<0
 rotate_left
 · have HQ:Hid (R=(l,170)):=Lib.hid (by rw[HR.out,if_neg hneg])
   clear hO
   go_wp2
   try rw[Exit.noGoto_ret]
   go_ret2
   exact⟨_,by rw[HQ.out];rfl,by rw[HQ.out];exact HW.out,k02⟩
 have HR2:Hid (R=if okEn t.e=false then (l,110) else if 8<=l.length then (l,171) else if bigE t.e then (l,172) else (l++[t],0)):=Lib.hid (by rw[HR.out,if_pos hneg])
 clear HR
 go_wp2_with fail
 refine (NCheck_calls t.e _ w3 (HE.out _ k02)).mono ?_
 rintro e w4 ⟨rfl,k4⟩
 replace hO:=hO.st k4
 replace k02:=k02.tr k4
 replace k23:=k23.tr k4
 cases hok:okEn t.e
 · have HQ:Hid (R=(l,110)):=Lib.hid (by rw[HR2.out,if_pos hok])
   have HW:Hid (OwnL w.heap.size w.heap.size 121 txS l u6 w4):=Lib.hid (OwnL.low (OwnL.floor hO hzw) hzw)
   have hne:(chkEn t.e != 0)=true:=by rw[chkEn_bad hok];rfl
   rw[chkEn_bad hok]
   clear hO
   go_wp2
   try rw[Exit.noGoto_ret]
   go_ret2
   exact⟨_,by rw[HQ.out];rfl,by rw[HQ.out];exact HW.out,k02⟩
 rw[chkEn_good hok]
 by_cases h8:8<=l.length
 · have h8':(8:Int)<=(l.length:Int):=by omega
   have HQ:Hid (R=(l,171)):=Lib.hid (by rw[HR2.out,if_neg (by rw[hok];decide),if_pos h8])
   have HW:Hid (OwnL w.heap.size w.heap.size 121 txS l u6 w4):=Lib.hid (OwnL.low (OwnL.floor hO hzw) hzw)
   clear hO
   go_wp2
   try rw[Exit.noGoto_ret]
   go_ret2
   exact⟨_,by rw[HQ.out];rfl,by rw[HQ.out];exact HW.out,k02⟩
 have h8':¬ (8:Int)<=(l.length:Int):=by omega
 go_wp2_with fail
 refine (Big_calls t.e _ w4 (HE.out _ k02) HF.out).mono ?_
 rintro e w5 ⟨rfl,k5⟩
 replace hO:=hO.st k5
 replace k02:=k02.tr k5
 replace k23:=k23.tr k5
 cases hb:bigE t.e
 rotate_left
 · have HQ:Hid (R=(l,172)):=Lib.hid (by rw[HR2.out,if_neg (by rw[hok];decide),if_neg h8,hb];rfl)
   have HW:Hid (OwnL w.heap.size w.heap.size 121 txS l u6 w5):=Lib.hid (OwnL.low (OwnL.floor hO hzw) hzw)
   clear hO
   go_wp2
   try rw[Exit.noGoto_ret]
   go_ret2
   exact⟨_,by rw[HQ.out];rfl,by rw[HQ.out];exact HW.out,k02⟩
 have HQ:Hid (R=(l++[t],0)):=Lib.hid (by rw[HR2.out,if_neg (by rw[hok];decide),if_neg h8,hb];rfl)
 go_upto_region 10 with (fail)
 have hx5:=hx.below k23 hx.lt
 have hvc:=hO.blk
 have hz5:=k23.size
 have hgb:=Nat.le_refl w5.heap.size
 have hg3:=hx.lt
 obtain⟨gb,hgbe⟩:∃ gb,gb=w5.heap.size:=⟨_,rfl⟩
 rw[<- hgbe] at hvc hz5 hgb
 have hgb5:gb<=w5.heap.size:=by omega
 clear hgbe hgb
 obtain⟨C,hC⟩:∃ C:World->Prop,C=fun W=>K w W/\gb<=W.heap.size/\Blk W g3 121 (txA t vf ve):=⟨_,rfl⟩
 have hg:∀ W W',C W->Below W.heap.size W W'->C W':=by
  subst hC
  rintro W W' ⟨h1,h0,h2⟩ hb
  exact⟨h1.tr hb,Nat.le_trans h0 hb.size,h2.below hb h2.lt⟩
 have hc0:C w5:=by rw[hC];exact⟨k02,hgb5,hx5⟩
 have hvc5:∀ b,u6.ownBlock=some b->b<gb:=fun b hb=>(hvc b hb).2
 have hO5:=hO
 refine wp_region_turn2 8 C (fun W=>OwnL w1.heap.size w1.heap.size 121 txS l u6 W) (fun _=>True) (fun W W'=>W.grownBy W' u6.ownBlock) [isV (u6),
  isV (.pointer (some ⟨g3,0,none⟩)),
  isV (.agg (entA t.e vf ve)),
  entF gb t.e,
  isV (.pointer (some ⟨g3,8,none⟩)),
  isV (.bool t.asked),
  txF gb t,
  rowF gb 121 t,
  ownF8 w1.heap.size 121 (l++[t]),
  ownF8 w1.heap.size 121 (l++[t])]
  [([],[]),([],[]),([1],[(29,1)]),([2],[(30,2)]),([],[]),([4],[(32,4)]),([3,5],[(31,3),(33,5)]),([6],[(34,6)]),([0,7],[(28,0),(35,7)]),([8],[(36,8)])] 39 rfl (by kernel_rfl) (by kernel_rfl) (by kernel_rfl) (by decide) hg (fun W W' h k=>h.st k) (fun _ _ h _=>h) (by exact hg _ _ hc0 (Below.drew (Below.refl _ _))) (hO5.st (Below.drew (Below.refl _ _))) ?st ?st2 ?ow ?_
 case st =>
  simp only[List.forall_mem_cons]
  and_intros
  all_goals first|exact isV_st _|exact entF_st _ _|exact txF_st _ _|exact rowF_st _ _ _|exact ownF8_st _ _ _|simp
 case st2 =>
  simp only[List.zipIdx_cons,List.zipIdx_nil,List.forall_mem_cons,Nat.zero_add,Nat.reduceAdd]
  and_intros
  all_goals first|exact .inl rfl|exact .inr (fun _ _ _ h _=>h)|exact .inr (entF_row hvc5)|exact .inr (txF_row hvc5)|exact .inr (rowF_row hvc5)|simp
 case ow =>
  simp only[OwedT]
  and_intros
  all_goals try trivial
  all_goals
   simp only[Nat.reduceEqDiff,if_false,Nat.reduceAdd]
  all_goals
   first
   | (intro V w' hc hD hp
      have hD2:OwnL w1.heap.size w1.heap.size 121 txS l u6 w':=hD
      simp only[List.forall_mem_cons,tab_zero,tab_succ,isV] at hp
      rw[hC] at hc
      obtain⟨kw,hgw,hbx⟩:=hc)
   | (intro V w' hc hp
      rw[hC] at hc
      obtain⟨kw,hgw,hbx⟩:=hc
      have q:=hbx.cell
      try simp only[List.forall_mem_cons,tab_zero,tab_succ,isV] at hp
      try simp[wantsG,rhoP,List.lookup,hp,tab_zero,tab_succ,ResG,execOp,bareOp,isV,undef,Below.refl,q,go_sem])
   | skip
  · refine (SWhole_calls t.e _ w' (HE.out _ kw) HS.out).mono ?_
    rintro e w'' ⟨v,rfl,ho,hb⟩
    exact⟨v,rfl,entO_entF (by omega) ho,hb⟩
  · obtain⟨⟨vf3,ve3,e3,hF⟩,h5,-⟩:=hp
    simp[e3,go_sem]
    exact⟨⟨vf3,ve3,rfl,hF⟩,Below.refl _ _⟩
  · obtain⟨⟨vf3,ve3,e3,hF⟩,-⟩:=hp
    have hA:=hF _ (UpB.rf _ _ _)
    obtain⟨A3,c3,rfl⟩:=flt_slice hA.1
    obtain⟨D3,d3,rfl⟩:=lst_slice hA.2
    simp[e3,go_sem]
    exact⟨⟨w'.heap.size,_,_,rfl,by omega,Blk.new _ _ _,fun W' u=>hF W' ((UpB.of_k ((K.rf w').al _) _ _).tr u)⟩,(K.rf w').al _⟩
  · obtain⟨h0,hr7,-⟩:=hp
    obtain⟨v',w'',hrun,h1,h2,h3⟩:=exec_one (P:=Tryz.prog) (ρ:=rhoP [(28,0),(35,7)] _ V) (.tmp 28) (.tmp 35) 55 55 121 w1.heap.size _ 104 l TTx u6 h0 hD2 gb hz5 hvc5 t (V 7) rfl hr7 (by omega) (by omega)
    rw[hrun]
    refine⟨h1,?_,trivial,h3⟩
    rw[hC]
    exact⟨kw.trans (h2.mono hzw),by have:=h3.size;omega,hbx.grown h3 (fun e=>by have:=hvc g3 e.symm;omega)⟩
 intro V W hc _ hp
 have h9:=hp 9 (by simp)
 simp only[tab_zero,tab_succ] at h9
 rw[hC] at hc
 have kW:=hc.1
 have HW:Hid (OwnL w.heap.size w.heap.size 121 txS (l++[t]) (V 9) W):=Lib.hid (OwnL.low (OwnL.floor h9 hzw) hzw)
 clear hp hc hg hc0 hC h9 hO5 hO hx qx hx5
 simp only[putAll,Act.put,List.setIfInBounds_toArray,List.set_cons_succ,List.set_cons_zero]
 generalize V 9=v9 at *
 go_wp2
 try rw[Exit.noGoto_ret]
 go_ret2
 exact⟨_,by rw[HQ.out];rfl,by rw[HQ.out];exact HW.out,kW⟩
theorem nil_txv (t:Txn) (hf:t.e.f=[]) (he:t.e.es=[]) (w:World):txv t (.agg (txA t (.slice none 0 0) (.slice none 0 0))) w :=
 ⟨_,_,rfl,by rw[hf];exact⟨none,0,rfl,Reads.nil _ _ _ _⟩,by rw[he];exact lst_nil _ _⟩
theorem pubE_fit {a:Idn} {c:Int} (fa:fitI a) (hc:i64ok c):fitEn (pubE a c):=⟨by simp[pubE,i64ok],fa.1,hc,fa.2.1,fa.2.2,by simp[pubE],by simp[pubE],by simp[pubE]⟩
theorem Begin_calls (l:List Txn) (a:Idn) (c:Int) (v:Value) (w:World) (h:lst txS l v w) (fa:fitI a) (hc:i64ok c) (hl:∀ s∈l,smallEn s.e) (hlen:l.length<=1000000) :
 Calls Tryz.prog 39 #[v,idv a,.int .i64 c] w fun e w'=>∃ v',e=.returned (.tuple #[v',.int .i64 (beginT l a c).2])/\OwnL w.heap.size w.heap.size 121 txS (beginT l a c).1 v' w'/\K w w':=by
 have HV:=Lib.hid (lst_al h)
 have C1:=Lib.hid fun W (kW:K w W)=>Add_calls l ⟨pubE a c,false⟩ v _ W (lst_st h kW) (nil_txv ⟨pubE a c,false⟩ rfl rfl W) (pubE_fit fa hc) (by simp[smallEn,pubE]) hl hlen
 obtain⟨A,d,rfl⟩:=lst_slice h
 clear h
 have k1:K w (w.alloc (.cells #[.int .i64 a.1,.int .u64 (a.2.1:Int),.int .u64 (a.2.2:Int)] 35)):=(K.rf w).al _
 unfold beginT
 generalize addT l ⟨pubE a c,false⟩=R at *
 go_enter Tryz.func39,Tryz.ntmps39
 go_wp2_with fail
 generalize w.alloc _=w1 at *
 refine (C1.out w1 k1).mono ?_
 rintro e w2 ⟨v2,rfl,hO,k2⟩
 have HW:=Lib.hid (OwnL.low (OwnL.floor hO k1.size) k1.size)
 clear hO
 go_wp2
 go_ret2
 exact⟨_,rfl,HW.out,k1.tr k2⟩
theorem Ask_calls (l:List Txn) (x:Ent) (v u:Value) (w:World) (h:lst txS l v w) (hx:ent x u w) (hf:fitEn x) (hs:smallEn x) (hl:∀ s∈l,smallEn s.e) (hlen:l.length<=1000000) :
 Calls Tryz.prog 56 #[v,u] w fun e w'=>∃ v',e=.returned (.tuple #[v',.int .i64 (askT l x).2])/\OwnL w.heap.size w.heap.size 121 txS (askT l x).1 v' w'/\K w w':=by
 obtain⟨vf,ve,rfl,hfl,he⟩:=hx
 have C1:=Lib.hid fun W (kW:K w W)=>Add_calls l ⟨x,true⟩ v (.agg (txA ⟨x,true⟩ vf ve)) W (lst_st h kW) ⟨vf,ve,rfl,flt_st _ _ _ _ hfl kW,lst_st he kW⟩ hf hs hl hlen
 obtain⟨A,d,rfl⟩:=lst_slice h
 clear h hfl he
 have k1:K w (w.alloc (.cells (entA x vf ve) 42)):=(K.rf w).al _
 unfold askT
 generalize addT l ⟨x,true⟩=R at *
 go_enter Tryz.func56,Tryz.ntmps56
 go_wp2_with fail
 generalize w.alloc _=w1 at *
 refine (C1.out w1 k1).mono ?_
 rintro e w2 ⟨v2,rfl,hO,k2⟩
 have HW:=Lib.hid (OwnL.low (OwnL.floor hO k1.size) k1.size)
 clear hO
 go_wp2
 go_ret2
 exact⟨_,rfl,HW.out,k1.tr k2⟩
theorem flatten_take_n {α:Type} (n:Nat):∀ (css:List (List α)),(∀ cs∈css,cs.length=n)->∀ k,(css.take k).flatten=css.flatten.take (k * n)
 | [],_,k=>by simp
 | c :: css,h,0=>by simp
 | c :: css,h,k+1=>by
   have hc:=h c (by simp)
   have ih:=flatten_take_n n css (fun x hx=>h x (by simp[hx])) k
   rw[List.take_succ_cons,List.flatten_cons,List.flatten_cons,ih,List.take_append,List.take_of_length_le (l:=c) (by rw[hc,Nat.succ_mul];omega),hc,show (k+1) * n - n=k * n by rw[Nat.succ_mul];omega]
theorem flatten_drop_n {α:Type} (n:Nat):∀ (css:List (List α)),(∀ cs∈css,cs.length=n)->∀ k,(css.drop k).flatten=css.flatten.drop (k * n)
 | [],_,k=>by simp
 | c :: css,h,0=>by simp
 | c :: css,h,k+1=>by
   have hc:=h c (by simp)
   have ih:=flatten_drop_n n css (fun x hx=>h x (by simp[hx])) k
   rw[List.drop_succ_cons,List.flatten_cons,ih,List.drop_append,show List.drop ((k+1) * n) c=[] from List.drop_eq_nil_of_le (by rw[hc,Nat.succ_mul];omega),hc,show (k+1) * n - n=k * n by rw[Nat.succ_mul];omega,List.nil_append]
theorem Blk.cells_:∀ (vs:List Value) {w:World} {g o:Nat} {e:TypeId} {cur:Array Value},Blk w g e cur->Blk (w.setCells g o vs) g e (Lib.lay cur o vs)
 | [],_,_,_,_,_,h=>h
 | v :: r,_,_,o,_,_,h=>Blk.cells_ r (o:=o+1) (h.set_ o v)
theorem grown_cells (g:Nat):∀ (vs:List Value) (o:Nat) (w:World),w.grownBy (w.setCells g o vs) (some g)
 | [],_,w=>⟨rfl,rfl,rfl,Nat.le_refl _,fun _ _ _=>rfl⟩
 | v :: r,o,w=>by
   have h:=grown_cells g r (o+1) (w.setCell ⟨g,o,none⟩ v)
   exact⟨h.os,h.tape,h.output,by have h2:=h.size;rw[show (w.setCell ⟨g,o,none⟩ v).heap.size=w.heap.size by simp] at h2;exact h2,fun k hk hne=>(h.block k (by simpa using hk) hne).trans (Below.heap_setCell w ⟨g,o,none⟩ v k (by rintro rfl;exact hne rfl))⟩
theorem run_clear_one {P:Program} {w:World} {t e:TypeId} {z:Value} {cur:Array Value} (ht:P.underlying t=some (.slice e)) (hv:∀ w,(zeroValue e).run P w=.ok z w) (g o:Nat) (hb:Blk w g e cur) (hl:o+z.cells.size<=cur.size) (h1:∀ u∈z.cells.toList,u.oneCell'=true) :
 ∃ w',(∀ ty c,(Builtin.clear_ #[t] ty #[.slice (some ⟨g,o,none⟩) 1 c]).run P w=.ok (.tuple #[]) w')/\Blk w' g e (cur.toList.take o++z.cells.toList++cur.toList.drop (o+z.cells.size)).toArray/\w.grownBy w' (some g):=by
 have hst:=run_storeCells_at P g o e z.cells.toList 0 cur w hb (by simpa using hl) h1
 simp only[Nat.add_zero,Array.length_toList] at hst
 have hzc:(Builtin.zeroCells z.cells 1).toList=z.cells.toList:=by
  simp[Builtin.zeroCells]
  apply List.ext_getElem
  · simp
  · intro i h1 h2
    simp at h1 h2
    simp[Nat.mod_eq_of_lt h2,getElem!_pos,h2]
 refine⟨_,fun ty c=>?_,setRow_heap w g cur _ e _ hb,⟨rfl,rfl,rfl,by simp,fun k hk hne=>setRow_other w g k _ (fun e=>hne (by simp[e]))⟩⟩
 simp[Builtin.clear_,run_underlying ht,hv,hzc,hst]
theorem zeroTx (W:World):(zeroValue 121).run Tryz.prog W=.ok (.agg (txA txn0 (.slice none 0 0) (.slice none 0 0))) W:=by kernel_rfl
theorem Delete_calls (l:List Txn) (base k j:Nat) (hj:j=k+1) (v:Value) (w:World) (h:OwnL base base 121 txS l v w) (hk:k<l.length) (hlen:l.length<=1000000) :
 Calls Tryz.prog 209 #[v,.int .i64 k,.int .i64 j] w fun e w'=>∃ v',e=.returned v'/\OwnL base base 121 txS (l.eraseIdx k) v' w'/\w.grownBy w' v.ownBlock:=by
 obtain⟨css,hown,hcl,hE⟩:=h
 have hlens:∀ cs∈css,cs.length=9:=(hE w (UpB.rf _ _ _)).lens
 have hones:=(hE w (UpB.rf _ _ _)).ones
 rcases hown.2 with ⟨h0,h00⟩|⟨g,cap,cur,rfl,g1,g2,g3,g4,g5,g6⟩
 · omega
 have g5:cur.size=cap * 9:=g5
 have g6:cur.toList.take (l.length * 9)=css.flatten:=g6
 have hb:Blk w g 121 cur:=g2
 have hfl:css.flatten.length=l.length * 9:=hown.1
 obtain⟨news,hnews⟩:∃ news,news=css.flatten.drop (j * 9):=⟨_,rfl⟩
 obtain⟨m,hm⟩:∃ m,m=l.length - j:=⟨_,rfl⟩
 have hnl:news.length=m * 9:=by rw[hnews,List.length_drop,hfl];omega
 have hget:∀ t u,news[t]?=some u->cur[j * 9+t]?=some u:=by
  intro t u hu
  rw[hnews,List.getElem?_drop] at hu
  have:=(List.getElem?_eq_some_iff.1 hu).1
  rw[<- g6,List.getElem?_take_of_lt (by omega),Array.getElem?_toList] at hu
  exact hu
 obtain⟨A,hA,hsrc⟩:∃ A:Addr,(if cap=j then (some ⟨g,0,none⟩:Option Addr) else some ⟨g,j * 9,none⟩)=some A/\Hid (∀ t u,news[t]?=some u->w.drew.cell? (A.add t)=some u):=by
  by_cases h:cap=j
  · refine⟨⟨g,0,none⟩,by simp[h],fun t u hu=>?_⟩
    have h0:news.length=0:=by omega
    rw[List.length_eq_zero_iff.1 h0] at hu
    simp at hu
  · refine⟨⟨g,j * 9,none⟩,by simp[h],fun t u hu=>?_⟩
    rw[Addr.add_lit]
    exact (hb.cell _).trans (hget t u hu)
 have s1:Hid (news.length=m * 9):=hnl
 have s2:Hid (∀ u∈news,u.oneCell'=true):=fun u hu=>hones u (List.mem_of_mem_drop (by rw[<- hnews];exact hu))
 have s3:Hid (∀ t,t<news.length->(w.drew.cell? ⟨g,0+k * 9+t,none⟩).isSome=true/\w.drew.frozen? ⟨g,0+k * 9+t,none⟩=false):=by
  intro t ht
  refine⟨?_,hb.frozen _⟩
  show (w.cell? _).isSome=true
  rw[hb.cell,Array.getElem?_eq_getElem (by omega)]
  rfl
 obtain⟨W1,hW1⟩:∃ W1,W1=w.drew.setCells g (0+k * 9) news:=⟨_,rfl⟩
 have hb1:Blk W1 g 121 (Lib.lay cur (0+k * 9) news):=by rw[hW1];exact Blk.cells_ news hb.drew
 have hg1:w.drew.grownBy W1 (some g):=by rw[hW1];exact grown_cells g news _ _
 have hls:(Lib.lay cur (0+k * 9) news).size=cap * 9:=by rw[Lib.lay_size,g5]
 obtain⟨W2,hclr,hb2,hg2⟩:=run_clear_one (P:=Tryz.prog) (w:=W1) (t:=55) (e:=121) Tryz.underlying55 zeroTx g ((l.length - 1) * 9) hb1 (by rw[hls];show (l.length - 1) * 9+9<=_;omega) (by intro u hu;exact txS.one (x:=txn0) (w:=w) ⟨_,_,rfl,⟨none,0,rfl,Reads.nil _ _ _ _⟩,lst_nil _ _⟩ u hu)
 have HW:Hid (OwnL base base 121 txS (l.eraseIdx k) (.slice (some ⟨g,0,none⟩) (l.length - 1) cap) W2/\w.grownBy W2 (some g)):=by
  have hgw:w.grownBy W2 (some g):=⟨hg2.os.trans hg1.os,hg2.tape.trans hg1.tape,hg2.output.trans hg1.output,Nat.le_trans hg1.size hg2.size,fun k hk hne=>(hg2.block k (Nat.lt_of_lt_of_le hk hg1.size) hne).trans (hg1.block k hk hne)⟩
  have hel:(l.eraseIdx k).length=l.length - 1:=by rw[List.length_eraseIdx,if_pos hk]
  have hec:(css.eraseIdx k).length=l.length - 1:=by rw[List.length_eraseIdx,if_pos (by omega)];omega
  refine⟨⟨css.eraseIdx k,⟨?_,.inr ⟨g,cap,_,by rw[hel],g1,hb2,by omega,g4,?_,?_⟩⟩,by rw[hec,hel],fun w' u=>?_⟩,hgw⟩
  · rw[hel,flatten_len 9 _ (fun cs h=>hlens cs (List.mem_of_mem_eraseIdx h)),hec];rfl
  · have h9:(Value.agg (txA txn0 (.slice none 0 0) (.slice none 0 0))).cells.size=9:=rfl
    simp only[List.size_toArray,List.length_append,List.length_take,List.length_drop,Array.length_toList,hls,h9]
    show _=cap * 9
    omega
  · show List.take ((l.eraseIdx k).length * 9) _=_
    rw[hel,List.append_assoc,List.take_append_of_le_length (by rw[List.length_take,show (Lib.lay cur (0+k * 9) news).toList.length=cap * 9 from hls];omega),List.take_take,Nat.min_self,List.eraseIdx_eq_take_drop_succ,List.flatten_append,flatten_take_n 9 css hlens,flatten_drop_n 9 css hlens,<- hj,<- hnews]
    apply List.ext_getElem?
    intro t
    by_cases ht:t<(l.length - 1) * 9
    · rw[List.getElem?_take_of_lt ht,Array.getElem?_toList,Lib.lay_get? _ _ _ _ (by omega)]
      by_cases h1:t<k * 9
      · rw[if_neg (by omega),List.getElem?_append_left (by rw[List.length_take];omega),List.getElem?_take_of_lt h1,<- g6,List.getElem?_take_of_lt (by omega),Array.getElem?_toList]
      · rw[if_pos (by omega),List.getElem?_append_right (by rw[List.length_take];omega),List.length_take]
        congr 1
        omega
    · rw[List.getElem?_eq_none (by rw[List.length_take];omega),List.getElem?_eq_none (by rw[List.length_append,List.length_take];omega)]
  · have hEw:=hE w' (UpB.tr (UpB.of_mut hgw base) u)
    rw[List.eraseIdx_eq_take_drop_succ,List.eraseIdx_eq_take_drop_succ]
    exact (hEw.take k).append (hEw.drop (k+1))
 have hW:Hid (W1=w.drew.setCells g (0+k * 9) news):=hW1
 obtain⟨i0,hi0,hz0⟩:=Option.map_eq_some_iff.1 infoTx
 have hz1:i0.size=9:=by injection hz0 with _ h;injection h
 have hlm:k+m=l.length - 1:=by omega
 have hkc:k<=cap:=by omega
 have hkc1:j<=cap:=by omega
 have hki:(k:Int)<(l.length:Int):=by omega
 have hkj:k≠j:=by omega
 have hkj2:k<=j:=by omega
 have hjl:j<=l.length:=by omega
 have hcm:cap<=9223372036854775807:=g4
 have hmj:l.length - j=m:=hm.symm
 have h11:l.length - (l.length - 1)=1:=by omega
 have hne1:¬ (k:Int)=(j:Int):=by omega
 clear hm hj
 clear hW1 hcl hE hlens hones hown g6 hb hfl hnews hnl hget hb1 hg1 hls hb2 hg2 g2
 go_enter Tryz.func209,Tryz.ntmps209
 go_wp2_with fail
 go_region_law (refine step_append_room rfl (.tmp 22) (.tmp 25) 55 rfl 121 i0 9 Tryz.underlying55 hi0 hz1 g 0 k cap (by simp[Act.eval,Act.put]) A m (cap - j) news (by simp[Act.eval,Act.put]) s1.out hsrc.out s2.out (by omega) s3.out ?_;rw[<- hW.out])
 go_wp2
 go_ret
 exact⟨_,rfl,HW.out.1,HW.out.2⟩
theorem Commit_own (l:List Txn) (a:Idn) (v:Value) (w:World) (h:lst txS l v w) (hl:∀ s∈l,smallEn s.e) (hlen:l.length<=1000000) :
 Calls Tryz.prog 42 #[v,idv a] w fun e w'=>∃ v',e=.returned (.tuple #[v',.int .i64 (commitT l a).2])/\OwnL w.heap.size w.heap.size 121 txS (commitT l a).1 v' w'/\K w w':=by
 have C1:=Lib.hid fun W (kW:K w W)=>SCopied_calls l v W (lst_st h kW) hl hlen
 have C2:=Lib.hid fun W (kW:K w W)=>Open_calls l a v W (lst_st h kW) hlen
 obtain⟨A,d,rfl⟩:=lst_slice h
 clear h
 have hx:=Blk.new w 35 #[.int .i64 a.1,.int .u64 (a.2.1:Int),.int .u64 (a.2.2:Int)]
 have k1:K w (w.alloc (.cells #[.int .i64 a.1,.int .u64 (a.2.1:Int),.int .u64 (a.2.2:Int)] 35)):=(K.rf w).al _
 have HI:Hid (openI l a=match openT l a with|some k=>(k:Int)|none=>-1):=Lib.hid rfl
 have HC:Hid (commitT l a=match openT l a with|none=>(l,170)|some k=>match l[k]? with|none=>(l,170)|some t=>(l.set k ⟨t.e,true⟩,0)):=Lib.hid rfl
 have HO:=Lib.hid fun k h=>@openT_some l a k h
 generalize commitT l a=R at *
 generalize openI l a=I at *
 go_enter Tryz.func42,Tryz.ntmps42
 go_wp2_with fail
 generalize w.alloc _=w1 at *
 have hgz:=k1.size
 have HGW:Hid (w.heap.size=w.heap.size):=Lib.hid rfl
 generalize hgw:w.heap.size=g at hx hgz HGW ⊢
 replace HGW:=Lib.hid hgw
 clear hgw
 have qx:=hx.cells
 refine (C1.out w1 k1).mono ?_
 rintro e w2 ⟨v2,rfl,hO,k2⟩
 have k02:=k1.tr k2
 go_wp2_with fail
 refine (C2.out w2 k02).mono ?_
 rintro e w3 ⟨rfl,k3⟩
 replace k02:=k02.tr k3
 replace hO:=hO.st k3
 clear C1 C2 k3
 cases ho:openT l a with
 | none =>
   obtain rfl:I=-1:=by rw[HI.out,ho]
   have HQ:Hid (R=(l,170)):=Lib.hid (by rw[HC.out,ho])
   have HW:=Lib.hid (OwnL.low (OwnL.floor hO hgz) hgz)
   clear hO ho HI HC HO
   go_wp2
   go_ret2
   exact⟨_,by rw[HQ.out];rfl,by rw[HQ.out,HGW.out];exact HW.out,k02⟩
 | some k =>
   obtain rfl:I=(k:Int):=by rw[HI.out,ho]
   obtain⟨t,h1,-,-,-⟩:=HO.out k ho
   have HQ:Hid (R=(l.set k ⟨t.e,true⟩,0)):=Lib.hid (by rw[HC.out,ho];simp only[h1])
   obtain⟨hk,hkt⟩:=List.getElem?_eq_some_iff.1 h1
   have hki:(k:Int)<(l.length:Int):=by omega
   have hk0:¬ (k:Int)<0:=by omega
   have hkb:=hO.blk
   obtain⟨css,hown,hcl,hE⟩:=hO
   have hlens:=(hE w3 (UpB.rf _ _ _)).lens
   have hkc:k<css.length:=by omega
   have hfl:=(hE w3 (UpB.rf _ _ _)).flen
   have hq:k * 9+8<css.flatten.length:=by
    rw[hfl];show k * 9+8<l.length * 9;omega
   rcases hown.2 with ⟨h0,h00⟩|⟨go,cap,cur,rfl,-⟩
   · omega
   obtain⟨hcell,hfz⟩:=own_cells hown
   have d8:w3.cell? ⟨go,k * 9+8,none⟩=css.flatten[k * 9+8]?:=hcell _ hq
   rw[List.getElem?_eq_getElem hq] at d8
   have z8:=hfz (k * 9+8)
   have hown2:=own_set hown hq (.bool true)
   have e9:css.flatten.set (k * 9+8) (.bool true)=(css.set k ((css[k]).set 8 (.bool true))).flatten:=by
    rw[show k * 9+8=k * txS.size+8 from rfl]
    exact flatten_set txS.size (.bool true) css hlens k 8 hkc (by decide)
   rw[e9] at hown2
   have hgo:=(hkb go rfl).1
   have k4:K w (w3.setCell ⟨go,k * 9+8,none⟩ (.bool true)):=k02.setCell (by have:=k1.size;simp;omega) _
   have HW:Hid (OwnL g g 121 txS (l.set k ⟨t.e,true⟩) (.slice (some ⟨go,0,none⟩) l.length cap) (w3.setCell ⟨go,k * 9+8,none⟩ (.bool true))):=by
    refine Lib.hid (OwnL.low (OwnL.floor (base:=w1.heap.size) (lo:=w1.heap.size) (e:=121) ⟨css.set k ((css[k]).set 8 (.bool true)),by rw[List.length_set];exact hown2,by simp[hcl],fun w' u=>?_⟩ hgz) hgz)
    have u3:UpB w1.heap.size (some go) w3 w':=UpB.tr (a:=w3) (b:=w3.setCell ⟨go,k * 9+8,none⟩ (.bool true)) ⟨rfl,rfl,rfl,by simp[World.setCell],fun i _ _ h3=>Below.heap_setCell w3 ⟨go,k * 9+8,none⟩ (.bool true) i (by rintro rfl;exact h3 rfl)⟩ u
    have hEw:=hE w' u3
    refine hEw.set k ?_
    obtain⟨vf,ve,hcs,hf,he⟩:=hEw.2 k hk hkc
    rw[hkt] at hcs hf he
    exact⟨vf,ve,by rw[hcs];rfl,hf,he⟩
   clear hcell hfz hown hown2 hE hlens hfl hkb HI HC HO h1 ho
   go_wp2
   go_ret2
   exact⟨_,by rw[HQ.out];rfl,by rw[HQ.out,HGW.out];exact HW.out,k4⟩
theorem Settle_own (l:List Txn) (a:Idn) (v:Value) (w:World) (h:lst txS l v w) (hl:∀ s∈l,smallEn s.e) (hlen:l.length<=1000000) :
 Calls Tryz.prog 158 #[v,idv a] w fun e w'=>∃ v',e=.returned v'/\OwnL w.heap.size w.heap.size 121 txS (settleT l a) v' w'/\K w w':=by
 have C1:=Lib.hid fun W (kW:K w W)=>SCopied_calls l v W (lst_st h kW) hl hlen
 have C2:=Lib.hid fun W (kW:K w W)=>Seek_calls l a v W (lst_st h kW) hlen
 obtain⟨A,d,rfl⟩:=lst_slice h
 clear h
 have hx:=Blk.new w 35 #[.int .i64 a.1,.int .u64 (a.2.1:Int),.int .u64 (a.2.2:Int)]
 have k1:K w (w.alloc (.cells #[.int .i64 a.1,.int .u64 (a.2.1:Int),.int .u64 (a.2.2:Int)] 35)):=(K.rf w).al _
 have HI:Hid (seekI l a=match seekT l a with|some k=>(k:Int)|none=>-1):=Lib.hid rfl
 have HC:Hid (settleT l a=match seekT l a with|none=>l|some k=>l.eraseIdx k):=Lib.hid rfl
 have HO:=Lib.hid fun k h=>@seekT_some l a k h
 generalize settleT l a=R at *
 go_enter Tryz.func158,Tryz.ntmps158
 go_wp2_with fail
 generalize w.alloc _=w1 at *
 refine (C1.out w1 k1).mono ?_
 rintro e w2 ⟨u5,rfl,hO,k2⟩
 have q:=hx.cells
 have hx2:=hx.below k2 hx.lt
 have k02:=k1.tr k2
 generalize seekI l a=I at *
 clear hx
 go_wp2_with fail
 refine (C2.out w2 k02).mono ?_
 rintro e w3 ⟨rfl,k3⟩
 replace k02:=k02.tr k3
 have k13:=k2.tr k3
 replace hO:=hO.st k3
 clear C1 C2 k3
 cases ho:seekT l a with
 | none =>
   obtain rfl:I=-1:=by rw[HI.out,ho]
   have HQ:Hid (R=l):=Lib.hid (by rw[HC.out,ho])
   have HW:=Lib.hid (OwnL.low (OwnL.floor hO k1.size) k1.size)
   clear hO ho HI HC HO
   go_wp2
   go_ret
   exact⟨_,rfl,by rw[HQ.out];exact HW.out,k02⟩
 | some k =>
   obtain rfl:I=(k:Int):=by rw[HI.out,ho]
   have HQ:Hid (R=l.eraseIdx k):=Lib.hid (by rw[HC.out,ho])
   obtain⟨t,h1,-⟩:=HO.out k ho
   obtain⟨hk,-⟩:=List.getElem?_eq_some_iff.1 h1
   have HD0:=Delete_calls l w1.heap.size k (k+1) rfl u5 w3 hO hk hlen
   rw[show ((k+1:Nat):Int)=(k:Int)+1 by omega] at HD0
   have HD:=Lib.hid HD0
   clear HD0
   have hb:=hO.blk
   have hk0:¬ (k:Int)<0:=by omega
   have hzw:=k1.size
   have HB:Hid (∀ g,u5.ownBlock=some g->w.heap.size<=g):=Lib.hid fun g h=>Nat.le_trans hzw (hb g h).1
   have hki:(k:Int)<1000000:=by omega
   clear hO ho HI HC HO h1 hb
   go_wp2_with fail
   refine HD.out.mono ?_
   rintro e w4 ⟨v4,rfl,hO4,hg4⟩
   have HW:=Lib.hid (OwnL.low (OwnL.floor hO4 hzw) hzw)
   have k4:K w w4:=(UpB.of_mut hg4 0).k k02 HB.out
   clear hO4 hg4
   go_wp2
   go_ret
   exact⟨_,rfl,by rw[HQ.out];exact HW.out,k4⟩
theorem BRoot_calls {M:Nat->Prop} {p:BrW} {B:Brk} {w:World} (h:BrV M p B w) :
 Calls Tryz.prog 45 #[.pointer (some ⟨p.g,0,none⟩)] w fun e w'=>e=.returned (.bool (rootB B))/\K w w':=by
 have HR:Hid (rootB B=decide (B.me=0)):=Lib.hid rfl
 have q:=h.blk.cell
 obtain⟨g,gl,gd,gr,gt,vd,vr,vp,vh,vl,vq,va,vt,vf,vw,kr⟩:=p
 simp only at q
 clear h
 have kk:=K.rf w
 generalize rootB B=R at *
 go_enter Tryz.func45,Tryz.ntmps45
 go_wp2
 go_ret
 exact⟨by rw[HR.out];rfl,kk⟩
theorem BKids_calls {M:Nat->Prop} {p:BrW} {B:Brk} {w:World} (h:BrV M p B w) (hG:GoodB B) :
 Calls Tryz.prog 49 #[.pointer (some ⟨p.g,0,none⟩)] w fun e w'=>∃ v',e=.returned v'/\OwnY (fun k=>k<w.heap.size) w.heap.size 3 inS (kidsB B) v' w'/\K w w':=by
 have hn:B.par.length<=1000000:=by have:=okTr_par hG.tr;omega
 have q:=h.q
 have C1:=Lib.hid fun W (k:K w W)=>TKids_calls B.par B.me p.vp W (h.dat.at k).par hn
 have hs:=lst_slice h.dat.now.par
 obtain⟨g,gl,gd,gr,gt,vd,vr,vp,vh,vl,vq,va,vt,vf,vw,kr⟩:=p
 simp only at q C1 hs
 obtain⟨A,c,rfl⟩:=hs
 clear h hG
 unfold kidsB
 generalize kidsP B.par B.me=R at *
 go_enter Tryz.func49,Tryz.ntmps49
 go_upto_region 1 with (fail)
 refine wp_region_auto 9 [([],[]),([0],[(3,0)]),([1],[(4,1)]),([2],[(5,2)]),([],[]),([4],[(7,4)]),([5],[(8,5)]),([6],[(9,6)]),([3,7],[(6,3),(10,7)]),([0,1,2,3,4,5,6,7,8],[(11,8)])] 12 rfl (by kernel_rfl) (by kernel_rfl) (by kernel_rfl) (by kernel_rfl) (by decide) ?_
 simp only[List.take_succ_cons,List.take_zero,List.drop_succ_cons,List.drop_zero]
 iterate 8 (apply AutoQ.is;intro V W kW hp;(try simp only[List.forall_mem_cons,List.nil_append,List.cons_append,tab_zero,tab_succ,isV] at hp);simp[wantsG,rhoP,List.lookup,hp,ResG,execOp,bareOp,isV,Below.refl,kW,q,go_sem];rfl)
 refine AutoQ.op (fun v W=>OwnY (fun k=>k<w.heap.size) w.heap.size 3 inS R v W) (fun _ _ _ h k=>h.st k) (fun V W kW hp=>?_) ?_
 · (try simp only[List.forall_mem_cons,List.nil_append,List.cons_append,tab_zero,tab_succ,isV] at hp)
   simp[wantsG,rhoP,List.lookup,hp,ResG,execOp,bareOp,q,go_sem]
   refine (C1.out W kW).mono ?_
   rintro e w4 ⟨v4,rfl,hO,k4⟩
   exact⟨_,rfl,(hO.less fun k hk=>Nat.lt_of_lt_of_le hk kW.size).low kW.size,k4⟩
 intro V W kW hA
 simp only[List.nil_append,List.cons_append,AllT,isV,Nat.reduceAdd] at hA
 obtain⟨e0,e1,e2,e3,e4,e5,e6,e7,hO,-⟩:=hA
 obtain⟨A2,c2,e8⟩:=hO.slice
 rw[e8] at hO
 apply TailQ.pure
 rfl
 simp[rhoP,List.lookup,updV,e8,execOp,bareOp,go_sem]
 rfl
 refine TailQ.nil ?_
 simp only[putAll,Act.put,List.setIfInBounds_toArray,List.set_cons_succ,List.set_cons_zero,Nat.reduceAdd,updV,e0,e1,e2,e3,e4,e5,e6,e7,e8]
 go_wp2
 go_ret
 exact⟨_,rfl,hO,kW⟩
theorem lookG_told (l:List Idn) (a:Idn):(lookG (toldK l) a).isSome=hasI l a:=by
 have key:∀ (l:List Idn) (n i:Nat),(idxG a ((l.zipIdx n).map fun p=>(p.1,Value.int .i64 (p.2:Int))) i).isSome=hasI l a:=by
  intro l
  induction l with
  | nil=>intro n i;rfl
  | cons x l ih =>
    intro n i
    simp only[List.zipIdx_cons,List.map_cons,idxG,hasI,List.any_cons]
    by_cases h:x=a
    · simp[h]
    · simp only[h,if_false,decide_false,Bool.false_or]
      exact ih (n+1) (i+1)
 unfold lookG toldK
 rw[Option.isSome_map]
 exact key l 0 0
theorem zeroInt (W:World):(zeroValue 3).run Tryz.prog W=.ok (.int .i64 0) W:=by kernel_rfl
theorem BAborted_calls {M:Nat->Prop} {p:BrW} {B:Brk} {w:World} (h:BrV M p B w) (hG:GoodB B) (a:Idn) :
 Calls Tryz.prog 58 #[.pointer (some ⟨p.g,0,none⟩),idv a] w fun e w'=>e=.returned (.bool (abortedB B a))/\K w w':=by
 have HR:Hid (abortedB B a=(hasI B.told a||hasI B.st.ab a)):=Lib.hid rfl
 have k1:K w (w.alloc (.cells #[.int .i64 a.1,.int .u64 (a.2.1:Int),.int .u64 (a.2.2:Int)] 35)):=(K.rf w).al _
 have hb:=Blk.new w 35 #[.int .i64 a.1,.int .u64 (a.2.1:Int),.int .u64 (a.2.2:Int)]
 have H:=Lib.hid h
 have C1:=Lib.hid fun W (k:K w W)=>Aborted_calls B.st a (.agg (stA B.st p.vl p.vq p.va)) W ⟨_,_,_,rfl,(h.dat.at k).list,(h.dat.at k).prom,(h.dat.at k).ab⟩ (by have:=hG.dk.len;omega)
 have Q1:=Lib.hid fun W (k:K w W)=>(run_lookG keyD Tryz.underlying99 (zeroInt W) (h.tol.st k) a).1
 simp only[lookG_told] at Q1
 have hs1:=lst_slice h.dat.now.list
 have hs2:=lst_slice h.dat.now.prom
 have hs3:=lst_slice h.dat.now.ab
 have q:=h.q
 obtain⟨g,gl,gd,gr,gt,vd,vr,vp,vh,vl,vq,va,vt,vf,vw,kr⟩:=p
 simp only at q C1 Q1 hs1 hs2 hs3
 obtain⟨Al,cl,rfl⟩:=hs1
 obtain⟨Ap,cp,rfl⟩:=hs2
 obtain⟨Aa,ca,rfl⟩:=hs3
 generalize (lookG (toldK B.told) a).getD (.int .i64 0)=vz at *
 generalize abortedB B a=R at *
 clear h hG H
 go_enter Tryz.func58,Tryz.ntmps58
 go_upto_region 1 with (fail)
 generalize w.alloc _=w1 at *
 generalize w.heap.size=ga at hb ⊢
 have qa:=hb.cells
 have q1:=fun W (k:K w1 W)=>q W (k1.tr k)
 have ql:∀ W,K w1 W->(Instr.lookup 99 (.map (some gt)) (.agg #[.int .i64 a.1,.int .u64 (a.2.1:Int),.int .u64 (a.2.2:Int)]) true).run Tryz.prog W=.ok (.tuple #[vz,.bool (hasI B.told a)]) W:=fun W k=>Q1.out W (k1.tr k)
 cases ht:hasI B.told a
 · have HQ:Hid (R=hasI B.st.ab a):=Lib.hid (by rw[HR.out,ht];rfl)
   rw[ht] at ql
   clear ht HR
   refine wp_region_auto 11 [([],[]),([0],[(8,0)]),([1],[(9,1)]),([2],[(10,2)]),([],[]),([3,4],[(11,3),(12,4)]),([5],[(13,5)]),([6],[(7,6)]),([6],[(7,6)]),([7],[(14,7)]),([8],[(15,8)])] 25 rfl (by kernel_rfl) (by kernel_rfl) (by kernel_rfl) (by kernel_rfl) (by decide) ?_
   simp only[List.take_succ_cons,List.take_zero,List.drop_succ_cons,List.drop_zero]
   iterate 11 (apply AutoQ.is;intro V W kW hp;(try simp only[List.forall_mem_cons,List.nil_append,List.cons_append,tab_zero,tab_succ,isV] at hp);simp[wantsG,rhoP,List.lookup,hp,ResG,execOp,bareOp,isV,Below.refl,kW,q1,qa,ql,go_sem];rfl)
   intro V W kW hA
   simp only[List.nil_append,List.cons_append,AllT,isV,Nat.reduceAdd] at hA
   refine TailQ.nil ?_
   simp only[putAll,Act.put,List.setIfInBounds_toArray,List.set_cons_succ,List.set_cons_zero,Nat.reduceAdd,hA]
   have q2:=fun W' (k:K W W')=>q W' (k1.tr (kW.tr k))
   have qa2:=fun W' (k:K W W')=>qa W' (kW.tr k)
   have k2:=k1.tr kW
   generalize hasI B.st.ab a=Z at *
   clear hA q1 ql qa hb
   go_upto_region 2 with (fail)
   refine wp_region_auto 10 [([],[]),([0],[(16,0)]),([1],[]),([1,2],[(18,2)]),([1,3],[(19,3)]),([1,4],[(20,4)]),([1],[]),([1,5,6],[(21,5),(22,6)]),([1,7],[(17,1),(23,7)]),([8],[(24,8)])] 25 rfl (by kernel_rfl) (by kernel_rfl) (by kernel_rfl) (by kernel_rfl) (by decide) ?_
   simp only[List.take_succ_cons,List.take_zero,List.drop_succ_cons,List.drop_zero]
   iterate 7 (apply AutoQ.is;intro V W kW hp;(try simp only[List.forall_mem_cons,List.nil_append,List.cons_append,tab_zero,tab_succ,isV] at hp);simp[wantsG,rhoP,List.lookup,hp,ResG,execOp,bareOp,isV,Below.refl,kW,q2,qa2,go_sem];rfl)
   refine AutoQ.is (.bool Z) (fun V W kW hp=>?_) ?_
   · (try simp only[List.forall_mem_cons,List.nil_append,List.cons_append,tab_zero,tab_succ,isV] at hp)
     simp[wantsG,rhoP,List.lookup,hp,ResG,execOp,bareOp,isV,q2,qa2,go_sem]
     refine (C1.out W (k2.tr kW)).mono ?_
     rintro e w4 ⟨rfl,k4⟩
     exact⟨_,rfl,rfl,k4⟩
   iterate 2 (apply AutoQ.is;intro V W kW hp;(try simp only[List.forall_mem_cons,List.nil_append,List.cons_append,tab_zero,tab_succ,isV] at hp);simp[wantsG,rhoP,List.lookup,hp,ResG,execOp,bareOp,isV,Below.refl,kW,q2,qa2,go_sem];rfl)
   intro V W kW hA
   simp only[List.nil_append,List.cons_append,AllT,isV,Nat.reduceAdd] at hA
   refine TailQ.nil ?_
   simp only[putAll,Act.put,List.setIfInBounds_toArray,List.set_cons_succ,List.set_cons_zero,Nat.reduceAdd,hA]
   have kF:=k2.tr kW
   clear hA q2 qa2
   go_wp2
   go_ret
   exact⟨by rw[HQ.out];rfl,kF⟩
 · have HQ:Hid (R=true):=Lib.hid (by rw[HR.out,ht];rfl)
   rw[ht] at ql
   clear ht HR
   refine wp_region_auto 11 [([],[]),([0],[(8,0)]),([1],[(9,1)]),([2],[(10,2)]),([],[]),([3,4],[(11,3),(12,4)]),([5],[(13,5)]),([6],[(7,6)]),([6],[(7,6)]),([7],[(14,7)]),([8],[(15,8)])] 25 rfl (by kernel_rfl) (by kernel_rfl) (by kernel_rfl) (by kernel_rfl) (by decide) ?_
   simp only[List.take_succ_cons,List.take_zero,List.drop_succ_cons,List.drop_zero]
   iterate 11 (apply AutoQ.is;intro V W kW hp;(try simp only[List.forall_mem_cons,List.nil_append,List.cons_append,tab_zero,tab_succ,isV] at hp);simp[wantsG,rhoP,List.lookup,hp,ResG,execOp,bareOp,isV,Below.refl,kW,q1,qa,ql,go_sem];rfl)
   intro V W kW hA
   simp only[List.nil_append,List.cons_append,AllT,isV,Nat.reduceAdd] at hA
   refine TailQ.nil ?_
   simp only[putAll,Act.put,List.setIfInBounds_toArray,List.set_cons_succ,List.set_cons_zero,Nat.reduceAdd,hA]
   have q2:=fun W' (k:K W W')=>q W' (k1.tr (kW.tr k))
   have qa2:=fun W' (k:K W W')=>qa W' (kW.tr k)
   have k2:=k1.tr kW
   clear hA q1 ql qa hb
   go_upto_region 2 with (fail)
   refine wp_region_auto 10 [([],[]),([0],[(16,0)]),([1],[]),([1,2],[(18,2)]),([1,3],[(19,3)]),([1,4],[(20,4)]),([1],[]),([1,5,6],[(21,5),(22,6)]),([1,7],[(17,1),(23,7)]),([8],[(24,8)])] 25 rfl (by kernel_rfl) (by kernel_rfl) (by kernel_rfl) (by kernel_rfl) (by decide) ?_
   simp only[List.take_succ_cons,List.take_zero,List.drop_succ_cons,List.drop_zero]
   iterate 7 (apply AutoQ.is;intro V W kW hp;(try simp only[List.forall_mem_cons,List.nil_append,List.cons_append,tab_zero,tab_succ,isV] at hp);simp[wantsG,rhoP,List.lookup,hp,ResG,execOp,bareOp,isV,Below.refl,kW,q2,qa2,go_sem];rfl)
   (apply AutoQ.is;intro V W kW hp;(try simp only[List.forall_mem_cons,List.nil_append,List.cons_append,tab_zero,tab_succ,isV] at hp);simp[wantsG,rhoP,List.lookup,hp,ResG,execOp,bareOp,isV,Below.refl,kW,q2,qa2,go_sem];rfl)
   iterate 2 (apply AutoQ.is;intro V W kW hp;(try simp only[List.forall_mem_cons,List.nil_append,List.cons_append,tab_zero,tab_succ,isV] at hp);simp[wantsG,rhoP,List.lookup,hp,ResG,execOp,bareOp,isV,Below.refl,kW,q2,qa2,go_sem];rfl)
   intro V W kW hA
   simp only[List.nil_append,List.cons_append,AllT,isV,Nat.reduceAdd] at hA
   refine TailQ.nil ?_
   simp only[putAll,Act.put,List.setIfInBounds_toArray,List.set_cons_succ,List.set_cons_zero,Nat.reduceAdd,hA]
   have kF:=k2.tr kW
   clear hA q2 qa2
   go_wp2
   go_ret
   exact⟨by rw[HQ.out];rfl,kF⟩
