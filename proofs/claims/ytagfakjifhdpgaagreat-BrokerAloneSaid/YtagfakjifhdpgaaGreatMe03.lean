/-
  The walks of SameEntries and SameIDs of the document's answer of layer 13. Conditions: the first lists are small.
-/
import Derived.Test.YtagfakjifhdpgaaGreatMe02
set_option maxRecDepth 100000
set_option maxHeartbeats 16000000
set_option linter.unusedVariables false
set_option linter.unusedSimpArgs false
namespace Go.Proofs.YtagfakjifhdpgaaGreat
open Go Go.RowKit
theorem WSameEntries_calls (la lb:List Ent) (v u:Value) (w:World) (h:lst enS la v w) (k:lst enS lb u w) (hs:∀ s∈la,smallEn s) (hlen:la.length<=1000000) :
 Calls Tryz.prog 17 #[v,u] w fun e w'=>e=.returned (.bool (decide (la=lb)))/\K w w':=by
 obtain⟨D1,d1,rfl,he1,hd1⟩:=h
 obtain⟨D2,d2,rfl,he2,hd2⟩:=k
 have HS:=Lib.hid hs
 clear hs
 obtain⟨R,hR0⟩:∃ R,R=decide (la=lb):=⟨_,rfl⟩
 rw[<- hR0]
 have HI:Hid (R=decide (la=lb)):=Lib.hid hR0
 clear hR0
 go_enter Tryz.func17,Tryz.ntmps17
 by_cases hle:la.length=lb.length
 rotate_left
 · have HR:Hid (R=false):=Lib.hid (by rw[HI.out];simp;exact fun e=>hle (by rw[e]))
   have hle':((la.length:Int) != (lb.length:Int))=true:=by simp;omega
   go_wp2
   go_ret
   exact⟨by rw[HR.out];rfl,K.rf w⟩
 have hle':((la.length:Int) != (lb.length:Int))=false:=by simp;omega
 have HLE:=Lib.hid hle
 have kk:=K.rf w
 clear hle
 go_wp2_with fail
 go_loopw [5,6] (fun i _ wr=>∃ j:Nat,j<=la.length/\i=.int .i64 (j:Int)/\Hid (la.take j=lb.take j)/\K w wr) (fun i _ _=>la.length - (intOf i).toNat)
 case atStart=>exact⟨0,by omega,rfl,Lib.hid (by simp),kk⟩
 case round =>
  clear kk
  obtain⟨j,hj,rfl,HT,kr⟩:=hrel
  by_cases hlt:j<la.length
  · have hji:(j:Int)<(la.length:Int):=by omega
    have hlt2:j<lb.length:=by have:=HLE.out;omega
    have hlt2i:(j:Int)<(lb.length:Int):=by omega
    have HB:=Lib.hid (take_eq_succ' la lb j hlt hlt2 HT.out)
    have hsz:=HS.out _ (List.getElem_mem hlt)
    obtain⟨b1,o1,cs1,rfl,hcl1,hr1,d0,d⟩:=lsr_cells he1 j hlt (by decide)
    obtain⟨b2,o2,cs2,rfl,hcl2,hr2,f0,f⟩:=lsr_cells he2 j hlt2 (by decide)
    generalize la[j]=x at *
    generalize lb[j]=y at *
    obtain⟨vf1,ve1,rfl,hf1,hv1⟩:=hr1 w (K.rf w)
    obtain⟨vf2,ve2,rfl,hf2,hv2⟩:=hr2 w (K.rf w)
    have p10:∀ W,K wr W->W.cell? ⟨b1,o1+j * 8,none⟩=some (.int .i64 x.kind):=fun W kW=>d0 W (kr.tr kW)
    have p1:∀ W,K wr W->∀ i,i<8->W.cell? ⟨b1,o1+j * 8+i,none⟩=(entA x vf1 ve1)[i]?:=fun W kW i hi=>(d W (kr.tr kW) i hi).trans Array.getElem?_toList
    have p20:∀ W,K wr W->W.cell? ⟨b2,o2+j * 8,none⟩=some (.int .i64 y.kind):=fun W kW=>f0 W (kr.tr kW)
    have p2:∀ W,K wr W->∀ i,i<8->W.cell? ⟨b2,o2+j * 8+i,none⟩=(entA y vf2 ve2)[i]?:=fun W kW i hi=>(f W (kr.tr kW) i hi).trans Array.getElem?_toList
    have CS:=Lib.hid fun W (kW:K w W)=>ESame_calls x y (.agg (entA x vf1 ve1)) (.agg (entA y vf2 ve2)) W ⟨_,_,rfl,flt_st _ _ _ _ hf1 kW,lst_st hv1 kW⟩ ⟨_,_,rfl,flt_st _ _ _ _ hf2 kW,lst_st hv2 kW⟩ hsz
    clear hf1 hv1 hf2 hv2
    clear hcl1 hcl2 hr1 hr2 d0 d f0 f
    go_upto_region 6 with (fail)
    refine wp_region_K [isV (.slice (some ⟨b1,o1,none⟩) la.length d1),
     isV (.int .i64 ((j:Int))),
     isV (.pointer (some ⟨b1,o1+j * 8,none⟩)),
     isV (.agg (entA x vf1 ve1)),
     isV (.slice (some ⟨b2,o2,none⟩) lb.length d2),
     isV (.int .i64 ((j:Int))),
     isV (.pointer (some ⟨b2,o2+j * 8,none⟩)),
     isV (.agg (entA y vf2 ve2)),
     isV (.bool (decide (x=y))),
     isV (.bool (decide (x=y)))]
     [([],[]),([],[]),([0,1],[(18,0),(19,1)]),([2],[(20,2)]),([],[]),([],[]),([4,5],[(22,4),(23,5)]),([6],[(24,6)]),([3,7],[(21,3),(25,7)]),([8],[(26,8)])] 29 rfl (by kernel_rfl) (by kernel_rfl) (by kernel_rfl) ?st6 ?ow6 ?_
    case st6 =>
     simp only[List.forall_mem_cons]
     and_intros
     all_goals first|exact isV_st _|exact sl_st _|exact anyV_st|simp
    case ow6 =>
     simp only[OwedQ]
     and_intros
     all_goals try trivial
     all_goals
      intro V W kW hp
      try simp only[List.forall_mem_cons,tab_zero,tab_succ,isV] at hp
      try simp[wantsG,rhoP,List.lookup,hp,tab_zero,tab_succ,ResG,execOp,bareOp,isV,Below.refl,kW,p10,p1,p20,p2,hji,hlt2i,go_sem]
     refine (CS.out _ (kr.tr kW)).mono ?_
     rintro e w'' ⟨rfl,hb⟩
     exact⟨_,rfl,rfl,hb⟩
    intro V W kW hp
    have h9:=hp 9 (by simp)
    simp only[tab_zero,tab_succ,isV] at h9
    clear hp
    simp only[putAll,Act.put,List.setIfInBounds_toArray,List.set_cons_succ,List.set_cons_zero,h9]
    have krW:=kr.tr kW
    generalize hq:decide (x=y)=q at *
    have HQ:=Lib.hid hq
    clear hq h9 p10 p1 p20 p2
    cases q
    · have HR:Hid (R=false):=Lib.hid (by
       rw[HI.out]
       simp only[decide_eq_false_iff_not]
       rintro rfl
       exact of_decide_eq_false HQ.out (HB.out.1 rfl))
      go_wp2
      go_ret
      exact⟨by rw[HR.out];rfl,krW⟩
    · have HT2:Hid (la.take (j+1)=lb.take (j+1)):=Lib.hid (HB.out.2 (of_decide_eq_true HQ.out))
      go_wp2
      go_roundw
      case rel=>exact⟨j+1,by omega,by go_num,HT2,krW⟩
      case measure=>simp[intOf];omega
  · have hji:¬ (j:Int)<(la.length:Int):=by omega
    have HR:Hid (R=true):=Lib.hid (by
     have h1:=HT.out
     have h2:=HLE.out
     rw[List.take_of_length_le (by omega),List.take_of_length_le (by omega)] at h1
     rw[HI.out,h1];simp)
    go_wp2
    go_ret
    exact⟨by rw[HR.out];rfl,kr⟩
section
open Go Go.RowKit Go.ChangeShapes Go.WideShapes Go.ChangeAt
theorem KStage {X Z:Nat->Prop} {g gd:Nat} {B:Brk} {W:World} (h:LivX X Z g gd B W) :
 Calls Tryz.prog 19 #[.pointer (some ⟨g,0,none⟩)] W fun e w'=>∃ v',e=.returned v'/\lst txS B.txns v' w'/\K W w':=by
 obtain⟨hG,p,hb,hg,-⟩:=h
 obtain rfl:=kg hg
 refine (BStage_calls hb hG.toGoodB).mono ?_
 rintro e w' ⟨v',rfl,hO,k⟩
 exact⟨v',rfl,hO.lst,k⟩
theorem field_list (a b c d:Value) (W:World):(Instr.field 53 (.agg #[a,b,c,d]) 1).run Tryz.prog W=.ok b W:=by kernel_rfl
theorem few_len {e:List Att} (h:fewE e=true):e.length<=1000000:=by
 simp only[fewE,Bool.and_eq_true,decide_eq_true_eq] at h
 omega
theorem alive_solo (n:Nat) (l:List Txn):rootB (aB n l)=true/\kidsB (aB n l)=[]:=⟨rfl,by show kidsP [-1] 0=[];decide +kernel⟩
theorem BrokerAlone_walk (v0:Value) (w:World) (r0:repEvLists w v0) :
 Calls Tryz.prog 4 #[v0] w fun e w'=>e=.returned (.bool true)/\Below w.heap.size w w':=by
 obtain⟨l,hl0,hfit⟩:=r0
 have HF:=Lib.hid hfit
 obtain⟨Al,cl,rfl,hl,hcl⟩:=hl0
 have C1:=Lib.hid (Awake20_calls w)
 clear hfit
 go_enter Tryz.func4,Tryz.ntmps4
 go_wp2_with fail
 refine C1.out.mono ?_
 rintro e w1 ⟨rfl,k1⟩
 clear C1
 by_cases hp4:4<l.length
 · have hq:(4:Int)<(l.length:Int):=by omega
   clear hp4
   go_wp2
   go_ret
   exact⟨rfl,k1⟩
 have hq:¬ (4:Int)<(l.length:Int):=by omega
 have C2:=Lib.hid (DNew_ok 60000 w1 (by omega))
 go_wp2_with fail
 refine C2.out.mono ?_
 rintro e w2 ⟨rfl,hd,k2⟩
 have k02:=k1.tr k2
 obtain⟨gd,hgd⟩:∃ gd,gd=w1.heap.size:=⟨_,rfl⟩
 rw[<- hgd] at hd ⊢
 have HGD:=Lib.hid hgd
 have hzw:=k1.size
 clear hgd C2
 have kA:K w2 ((w2.alloc (.cells #[.int .i64 (-1)] 3)).alloc (.cells #[.int .i64 0] 3)):=((K.rf w2).al _).al _
 have hdx:=hd.lt
 have h1:Fx (DkX gd (.slice none 0 0)) (fun W=>lst inS [-1] (.slice (some ⟨w2.heap.size,0,none⟩) 1 1) W) ((w2.alloc (.cells #[.int .i64 (-1)] 3)).alloc (.cells #[.int .i64 0] 3)):=(ints_new [-1] 3 hdx).k ((K.rf _).al _)
 have hz1:(w2.alloc (.cells #[.int .i64 (-1)] 3)).heap.size=w2.heap.size+1:=by simp
 have h2:Fx (DkX gd (.slice none 0 0)) (fun W=>lst inS [0] (.slice (some ⟨w2.heap.size+1,0,none⟩) 1 1) W) ((w2.alloc (.cells #[.int .i64 (-1)] 3)).alloc (.cells #[.int .i64 0] 3)):=by
  have:=ints_new (w:=w2.alloc (.cells #[.int .i64 (-1)] 3)) [0] 3 (M:=DkX gd (.slice none 0 0)) fun k hk=>by rw[hz1];have:=hdx k hk;omega
  rw[hz1] at this
  exact this
 have C3:=Lib.hid (BOpen_calls gd (.slice none 0 0) ⟨[],60000⟩ st0 [-1] [0] 0 _ _ _ (hd.st kA) (DskG.new (by omega)) (by simp[st0]) h1 h2 (by decide) (by decide) (by decide))
 have hzd:∀ k,k<w.heap.size->¬ DkX gd (.slice none 0 0) k/\k<((w2.alloc (.cells #[.int .i64 (-1)] 3)).alloc (.cells #[.int .i64 0] 3)).heap.size:=fun k hk=>⟨fun h=>by
  rcases h with h|h
  · have:=HGD.out;omega
  · simp[Value.ownBlock] at h,by have:=k02.size;have:=kA.size;omega⟩
 have k0A:=k02.tr kA
 clear hd h1 h2 hz1 hdx
 go_wp2_with fail
 generalize World.alloc (World.alloc w2 _) _=w2b at *
 refine C3.out.mono ?_
 intro e w3 hp
 unfold OpPost at hp
 rw[if_pos homes_room] at hp
 obtain⟨q,hq3⟩:=hp
 have he:=hq3.ret
 subst he
 obtain⟨hL,u3⟩:=LivX.new (X:=fun k=>(Value.slice none 0 0).ownBlock=some k) (Z:=fun k=>k<w.heap.size) hq3 (GoodB.open_ (by decide) (by decide) (by decide) ((DskG.new (room:=60000) (by omega)).life homes_room)) (fun k hk=>by simp[Value.ownBlock] at hk) hzd
 have k03:K w w3:=u3.k k0A fun k hk=>by omega
 generalize q.g=g at *
 have hA0:AlW w g gd (fun _=>False) [] (.slice none 0 0) w3:=⟨hL.less (fun _ h=>h) (fun k hk=>hk.elim (fun h=>h.resolve_right id) fun h=>by simp[Value.ownBlock] at h),OwnY.nil _ _ _ _ _,fun _ h=>h.elim,k03⟩
 clear C3 hzd hq3 hL u3 kA k02 k0A k1 k2 k03 hzw
 go_wp2_with fail
 go_loopw [8,9,10,11,12,13,14] (fun vw i _ _ _ _ _ W=>∃ (E:Nat->Prop) (want:List Ent),want.length<=l.length/\i=.int .i64 (want.length:Int)/\AlI want/\AlW w g gd E want vw W) (fun _ i _ _ _ _ _ _=>l.length - (intOf i).toNat)
 case atStart=>exact⟨_,[],by simp,rfl,AlI.nil,hA0⟩
 case round =>
  clear hA0
  obtain⟨E,want,hj,rfl,hI,hA⟩:=hrel
  obtain⟨Aw,cw,hwe⟩:=hA.wnt.slice
  by_cases hlt:want.length<l.length
  rotate_left
  · have hji:¬ (want.length:Int)<(l.length:Int):=by omega
    have HT:=Lib.hid (alone_tick hI (by omega))
    have hso:=alive_solo want.length (want.map askd)
    have hsm:∀ s∈want,smallEn s:=fun s hs=>okEn_small (hI.ok s hs).1
    have C4:=Lib.hid (KTick hA.liv hso.1 hso.2)
    obtain⟨ht1,ht2⟩:=HT.out
    generalize workB (aB want.length (want.map askd))=B9 at *
    clear HT hso hji
    go_wp2_with fail
    refine C4.out.mono ?_
    rintro e w4 ⟨rfl,hL4,u4⟩
    have hw4:=hA.wnt.to u4 (Y':=fun k=>¬ (k<w.heap.size∨E k)) (fun k hk hx=>hk (.inl hx)) (fun k hk hn=>hn (.inr hk)) (fun k _ hk=>.inl hk)
    have k04:K w w4:=u4.k hA.k fun k hk=>Nat.le_of_not_lt fun hl=>hk (.inl (.inl hl))
    have C5:=Lib.hid (KState hL4)
    clear C4 hA u4
    go_wp2_with fail
    refine C5.out.mono ?_
    rintro e w5 ⟨vl,vp,va,rfl,hst,k5⟩
    obtain⟨hs1,hs2,hs3⟩:=hst.now
    rw[ht1] at hs1
    have C6:=Lib.hid (WSameEntries_calls want want vl _ w5 hs1 (lst_st hw4.lst k5) hsm (by omega))
    obtain⟨_,_,rfl⟩:=lst_slice hs2
    obtain⟨_,_,rfl⟩:=lst_slice hs3
    have hL5:=hL4.st k5
    have k05:=k04.tr k5
    obtain⟨Al5,cl5,rfl⟩:=lst_slice hs1
    have hfl:=field_list
    clear C5 hst hs1 hs2 hs3 hw4 hL4 k5
    simp only[stA]
    subst hwe
    go_wp2_with fail
    refine C6.out.mono ?_
    rintro e w6 ⟨rfl,k6⟩
    have hdd:decide (want=want)=true:=by simp
    have C7:=Lib.hid (KStage (hL5.st k6))
    rw[ht2] at C7
    have k06:=k05.tr k6
    clear C6 hL5
    go_wp2_with fail
    refine C7.out.mono ?_
    rintro e w7 ⟨v7,rfl,h7,k7⟩
    obtain⟨A7,c7,rfl⟩:=lst_slice h7
    have kF:=k06.tr k7
    clear C7 h7
    go_wp2
    go_ret
    exact⟨rfl,kF⟩
  have hji:(want.length:Int)<(l.length:Int):=by omega
  have hb:=alone_begin hI (by omega)
  obtain⟨n1,hn1⟩:∃ n1,n1=want.length+1:=⟨_,rfl⟩
  rw[<- hn1] at hb
  have HN1:=Lib.hid hn1
  clear hn1
  have C3:=Lib.hid (KBegin hA.liv 0 (by simp[i64ok]) (by show want.length+1<_;omega))
  rw[hb.1] at C3
  have HX0:=Lib.hid hb.2
  have HI:=Lib.hid hI
  obtain⟨b1,off,cs1,e1,hcl1,hr1,d0,-⟩:=lsr_cells hl want.length hlt (by decide)
  have hfe:=HF.out _ (List.getElem_mem hlt)
  generalize l[want.length]=es at *
  obtain⟨vs,rfl,hes0⟩:=hr1 w (K.rf w)
  have d0:∀ W,K w W->W.cell? ⟨b1,off+want.length,none⟩=some vs:=fun W k=>by simpa [elS] using d0 W k
  obtain⟨As,cs,rfl,hes,hcs⟩:=hes0
  subst e1
  have HFE:=Lib.hid hfe
  clear hcl1 hr1 hb hI hfe
  go_wp2_with fail
  refine C3.out.mono ?_
  rintro e w4 ⟨rfl,hL4,u4⟩
  clear C3
  have k04:K w w4:=u4.k hA.k fun k hk=>Nat.le_of_not_lt fun hl=>hk (.inl (.inl hl))
  have hi5:=Blk.new w4 35 (idA (0,1,n1))
  have kB:K w4 (w4.alloc (.cells (idA (0,1,n1)) 35)):=(K.rf w4).al _
  go_upto_region 15 with (fail)
  have k05:=k04.tr kB
  generalize w4.alloc _=w5 at *
  generalize hgi:w4.heap.size=gi at *
  have q5:=d0 w5 k05
  by_cases h8:8<es.length
  · have h8i:(8:Int)<(es.length:Int):=by omega
    clear hA hL4 u4 h8
    go_wp2
    go_ret
    exact⟨rfl,k05⟩
  have h8i:¬ (8:Int)<(es.length:Int):=by omega
  have qi5:=hi5.cell
  have hx6:=Blk.new w5 42 #[.int .i64 1,.int .i64 0,.int .u64 1,.int .u64 (n1:Int),.int .i64 0,.int .u64 0,.slice none 0 0,.slice none 0 0]
  have kC:K w5 (w5.alloc (.cells #[.int .i64 1,.int .i64 0,.int .u64 1,.int .u64 (n1:Int),.int .i64 0,.int .u64 0,.slice none 0 0,.slice none 0 0] 42)):=(K.rf w5).al _
  have hgx:gi<w5.heap.size:=hi5.lt
  have hV:=hA.begin (x:=pubE (0,1,n1) 0) hL4 u4 (kB.tr kC) (by rw[<- HN1.out];exact hi5.below kC hi5.lt) hx6 rfl (by omega) hgx
  clear hA hL4 u4 k04
  go_upto_region 18 with (fail)
  generalize w5.alloc _=w6 at *
  generalize w5.heap.size=gx at *
  clear hi5 hx6 kB kC q5 qi5 hgx hgi k05
  have HX:=HX0.out
  generalize pubE (0,1,n1) 0=x0 at *
  go_wp2_with fail
  go_loopw [13,14] (fun k _ W=>∃ (m:Nat) (x:Ent) (ve:Value),m<=es.length/\k=.int .i64 (m:Int)/\AlX want.length x/\AlV w g gd gi gx E want u8 (aB n1 (want.map askd++[⟨x,false⟩])) x ve W) (fun k _ _=>es.length - (intOf k).toNat)
  case atStart=>exact⟨0,x0,_,by omega,rfl,HX,hV⟩
  case round =>
   clear hV HX HX0
   obtain⟨m,x,ve,hm,rfl,hX,hV⟩:=hrel
   have q5:=fun W (k:K wr W)=>d0 W (hV.k.tr k)
   by_cases hlt2:m<es.length
   rotate_left
   · have hmi:¬ (m:Int)<(es.length:Int):=by omega
     have hTx:(aB n1 (want.map askd++[⟨x,false⟩])).txns=want.map askd++[⟨x,false⟩]:=rfl
     have hn1l:n1<1000:=by have:=HN1.out;omega
     have C8:=KCommit hV.liv (0,1,n1) ⟨by simp[i64ok],by simp,by show n1<_;omega⟩
     have hcm:=alone_commit HI.out hX
     rw[<- HN1.out] at hcm
     rw[hTx,hcm] at C8
     replace C8:=Lib.hid C8
     have hVid:Blk wr gi 35 (idA (0,1,n1)):=by rw[HN1.out];exact hV.id
     have qid:=hVid.cell
     have q5w:=q5 wr (K.rf _)
     clear hcm hTx hVid q5
     go_wp2_with fail
     refine C8.out.mono ?_
     rintro e' w8 ⟨rfl,hL8,u8⟩
     have hV8:=hV.call hL8 u8
     have hrow:=hV8.row hX.len.2
     have qb:=hV8.blk.cell
     have hxx:=hX.len
     clear C8 hL8 u8 hV qid q5w
     obtain⟨Av,cv,rfl⟩:=hV8.es.slice
     have hr:=rowY.new (S:=enS) (e:=42) (v:=.agg (entA x (.slice none 0 0) (.slice Av x.es.length cv))) hrow 0 (Nat.zero_le _)
     have kA:K w8 (w8.alloc (.cells (entA x (.slice none 0 0) (.slice Av x.es.length cv)) 42)):=(K.rf w8).al _
     have hV9:=hV8.st kA
     have hwb:=hV8.wnt.blk
     have hz9:=hV9.k.size
     have hwl:want.length<=4:=by omega
     have hnE:=hV8.nwe
     subst hwe
     go_wp2_with (at_builtin;refine wpList_push rfl _ _ 32 rfl _ 8 96 TEn rfl rfl (hV9.wnt.less (Y':=fun k=>¬ (k<w.heap.size∨E k∨(Value.slice Av x.es.length cv).ownBlock=some k)) fun k hk h=>hk (h.imp id .inl)) _ rfl x ?p1 ?p2 ?p3 ?_)
     case p1 =>
      exact hr.less fun k hk=>by
       rcases hk with hk|hk
       · exact hk
       · rintro (h|h|h)
         · have:=hwb k hk;omega
         · exact (hV8.nE k h).1 hk
         · exact hnE k hk h
     case p2=>omega
     case p3=>exact hz9
     intro v9 w9 hO9 hg9 hat9 hb9
     have hA9:=hV9.done (hO9.less fun k h=>⟨Nat.le_of_not_lt fun h1=>h (.inl h1),fun h1=>h (.inr (.inl h1)),fun h1=>h (.inr (.inr h1))⟩) hg9 (by simpa using hat9) (by simpa using hb9)
     have hIn:=HI.out.snoc hX
     have hln:(want++[x]).length=want.length+1:=by simp
     clear hr hV9 hO9 hg9 hat9 hb9 hrow hV8 qb
     go_wp2
     go_roundw
     case rel=>exact⟨_,want++[x],by omega,by rw[hln];go_num,hIn,hA9⟩
     case measure=>simp[intOf];omega
   have hmi:(m:Int)<(es.length:Int):=by omega
   obtain⟨b2,o2,cs2,e2,hcl2,hr2,d2,-⟩:=lsr_cells hes m hlt2 (by decide)
   subst e2
   have hfe:=HFE.out _ (List.getElem_mem hlt2)
   generalize es[m]=e at *
   obtain⟨va,rfl,hev⟩:=hr2 w (K.rf w)
   have q6':=fun W (k:K w W)=>(show W.cell? ⟨b2,o2+m,none⟩=some va by simpa [evS] using d2 W k)
   have q6:=fun W (k:K wr W)=>q6' W (hV.k.tr k)
   have hev':=fun W (k:K wr W)=>evt_st _ _ _ _ hev (hV.k.tr k)
   obtain⟨Ae,ce,rfl⟩:=evt_slice hev
   have C5:=Lib.hid (Few_evt (hev' wr (K.rf _)))
   clear hcl2 hr2 d2
   have q5w:=q5 wr (K.rf _)
   have q6w:=q6 wr (K.rf _)
   go_wp2_with fail
   refine C5.out.mono ?_
   rintro r w7 ⟨rfl,rfl⟩
   clear C5 q5w q6w
   cases hfw:fewE e
   · go_upto_region 22 with (fail)
     refine wp_region_auto 14 [([],[]),([0],[(80,0)]),([1],[]),([1],[]),([1],[]),([1],[]),([1,4,5],[(84,4),(85,5)]),([1,6],[(86,6)]),([1],[]),([1,7,8],[(87,7),(88,8)]),([1,9],[(89,9)]),([1,2,3,10],[(82,2),(83,3),(90,10)]),([1,11],[(91,11)]),([1,12],[(81,1),(92,12)])] 127 rfl (by kernel_rfl) (by kernel_rfl) (by kernel_rfl) (by kernel_rfl) (by decide) ?_
     simp only[List.take_succ_cons,List.take_zero,List.drop_succ_cons,List.drop_zero]
     iterate 11 (apply AutoQ.is;intro V W kW hp;(try simp only[List.forall_mem_cons,List.nil_append,List.cons_append,tab_zero,tab_succ,isV] at hp);simp[wantsG,rhoP,List.lookup,hp,ResG,execOp,bareOp,isV,Below.refl,kW,q5,q6,hlt,hlt2,go_sem];rfl)
     (apply AutoQ.is;intro V W kW hp;(try simp only[List.forall_mem_cons,List.nil_append,List.cons_append,tab_zero,tab_succ,isV] at hp);simp[wantsG,rhoP,List.lookup,hp,ResG,execOp,bareOp,isV,Below.refl,kW,q5,q6,hlt,hlt2,go_sem];rfl)
     iterate 2 (apply AutoQ.is;intro V W kW hp;(try simp only[List.forall_mem_cons,List.nil_append,List.cons_append,tab_zero,tab_succ,isV] at hp);simp[wantsG,rhoP,List.lookup,hp,ResG,execOp,bareOp,isV,Below.refl,kW,q5,q6,hlt,hlt2,go_sem];rfl)
     intro V W kW hA
     simp only[List.nil_append,List.cons_append,AllT,isV,Nat.reduceAdd] at hA
     refine TailQ.nil ?_
     simp only[putAll,Act.put,List.setIfInBounds_toArray,List.set_cons_succ,List.set_cons_zero,Nat.reduceAdd,hA]
     have hV8:=hV.st kW
     clear hA
     go_wp2
     go_roundw
     case rel=>exact⟨m+1,x,ve,by omega,by go_num,hX,hV8⟩
     case measure=>simp[intOf];omega
   have hfl:=few_len hfw
   have hVid:Blk wr gi 35 (idA (0,1,n1)):=by rw[HN1.out];exact hV.id
   have qid:=hVid.cells
   have hn1l:n1<1000:=by have:=HN1.out;omega
   have C6:=fun W (k:K wr W)=>KPublish (hV.liv.st k) (0,1,n1) ⟨by simp[i64ok],by simp,by show n1<_;omega⟩ e _ (hev' W k) hfl hfe
   have hTx:(aB n1 (want.map askd++[⟨x,false⟩])).txns=want.map askd++[⟨x,false⟩]:=rfl
   simp only[hTx] at C6
   have HP:=alone_publish HI.out hX e hfe
   rw[<- HN1.out] at HP
   generalize keepB (aB n1 (want.map askd++[⟨x,false⟩])) (publishT (want.map askd++[⟨x,false⟩]) (0,1,n1) e)=rr at C6 HP
   obtain⟨B',c⟩:=rr
   simp only at C6 HP
   replace C6:=Lib.hid C6
   replace HP:=Lib.hid HP
   clear hVid hfw hTx
   go_upto_region 22 with (fail)
   refine wp_region_auto 11 [([],[]),([0],[(80,0)]),([1],[]),([1],[]),([1],[]),([1],[]),([1,4,5],[(84,4),(85,5)]),([1,6],[(86,6)]),([1],[]),([1,7,8],[(87,7),(88,8)]),([1,9],[(89,9)]),([1,2,3,10],[(82,2),(83,3),(90,10)]),([1,11],[(91,11)]),([1,12],[(81,1),(92,12)])] 127 rfl (by kernel_rfl) (by kernel_rfl) (by kernel_rfl) (by kernel_rfl) (by decide) ?_
   simp only[List.take_succ_cons,List.take_zero,List.drop_succ_cons,List.drop_zero]
   iterate 11 (apply AutoQ.is;intro V W kW hp;(try simp only[List.forall_mem_cons,List.nil_append,List.cons_append,tab_zero,tab_succ,isV] at hp);simp[wantsG,rhoP,List.lookup,hp,ResG,execOp,bareOp,isV,Below.refl,kW,q5,q6,qid,hlt,hlt2,go_sem];rfl)
   intro V W kW hA
   simp only[List.nil_append,List.cons_append,AllT,isV,Nat.reduceAdd] at hA
   obtain⟨e0,e1,e2,e3,e4,e5,e6,e7,e8,e9,e10,-⟩:=hA
   refine TailQ.callG _ _ (by simp[wantsG,e1]) (by simp[rhoP,List.lookup,updV,e2,e3,e10,execOp,bareOp,go_sem];exact⟨rfl,rfl⟩) ?_
   refine (C6.out W kW).mono ?_
   rintro e' w8 ⟨rfl,hL8,u8⟩
   refine⟨_,rfl,?_⟩
   have hV8:=(hV.st kW).call hL8 u8
   refine TailQ.pureG (.bool (c==0)) (by simp[wantsG,updV,e1]) (by simp[rhoP,List.lookup,updV,execOp,bareOp,go_sem]) ?_
   refine TailQ.pure (.bool (c==0)) rfl (by simp[rhoP,List.lookup,updV,e1,execOp,bareOp,go_sem]) ?_
   refine TailQ.nil ?_
   simp only[putAll,Act.put,List.setIfInBounds_toArray,List.set_cons_succ,List.set_cons_zero,Nat.reduceAdd,updV,Nat.reduceEqDiff,reduceIte,e0,e1,e2,e3,e4,e5,e6,e7,e8,e9,e10]
   clear C6 e0 e1 e2 e3 e4 e5 e6 e7 e8 e9 e10 q5 q6 qid hL8 u8 hV kW
   rcases HP.out with ⟨hc,rfl⟩|⟨rfl,rfl,hX'⟩
   · have hcb:(c==0)=false:=by simpa using hc
     clear hc HP
     go_wp2
     go_roundw
     case rel=>exact⟨m+1,x,ve,by omega,by go_num,hX,hV8⟩
     case measure=>simp[intOf];omega
   clear HP
   have q5:=fun W (k:K w8 W)=>d0 W (hV8.k.tr k)
   have q6:=fun W (k:K w8 W)=>q6' W (hV8.k.tr k)
   obtain⟨Av,cv,rfl⟩:=hV8.es.slice
   have qb:=hV8.blk.cells
   have hxl:=hX.len.1
   have hrow:Fx (fun k=>¬ k<w.heap.size) (fun W=>evS.rel e [.slice Ae e.length ce] W) w8:=fun W' u=>⟨_,rfl,evt_st _ _ _ _ hev (u.k hV8.k fun k hk=>Nat.le_of_not_lt hk)⟩
   go_upto_region 23 with (fail)
   refine wp_region_auto 10 [([],[]),([0],[(94,0)]),([],[]),([],[]),([2,3],[(96,2),(97,3)]),([4],[(98,4)]),([],[]),([5,6],[(99,5),(100,6)]),([7],[(101,7)]),([8],[(102,8)]),([1,9],[(95,1),(103,9)]),([0,1,2,3,4,5,6,7,8,9,10],[]),([0,1,2,3,4,5,6,7,8,9,10,11],[(105,11),(104,10)])] 127 rfl (by kernel_rfl) (by kernel_rfl) (by kernel_rfl) (by kernel_rfl) (by decide) ?_
   simp only[List.take_succ_cons,List.take_zero,List.drop_succ_cons,List.drop_zero]
   iterate 9 (apply AutoQ.is;intro V W kW hp;(try simp only[List.forall_mem_cons,List.nil_append,List.cons_append,tab_zero,tab_succ,isV] at hp);simp[wantsG,rhoP,List.lookup,hp,ResG,execOp,bareOp,isV,Below.refl,kW,q5,q6,qb,hlt,hlt2,go_sem];rfl)
   refine AutoQ.row (N:=fun k=>¬ k<w.heap.size) (lo:=0) (S:=evS) 38 _ 1 24 TEv rfl (by decide) _ e rfl rfl (Nat.zero_le _) (fun V W kW hp=>?_) ?_
   · simp only[List.forall_mem_cons,List.nil_append,List.cons_append,tab_zero,tab_succ,isV] at hp
     obtain⟨e6,-⟩:=hp
     simp[rhoP,List.lookup,e6]
     exact⟨rfl,(hrow.less fun k hk=>Nat.not_lt.2 hk).k kW⟩
   intro V W kW hA
   simp only[List.nil_append,List.cons_append,AllT,isV,Nat.reduceAdd] at hA
   obtain⟨f0,f1,f2,f3,f4,f5,f6,f7,f8,f9,-⟩:=hA
   have hVW:=hV8.st kW
   have hbl:=hVW.es.blk
   refine TailQ.push _ _ 38 _ 1 24 TEv rfl rfl rfl _ x.es e (by simp[rhoP,List.lookup,f1]) hVW.es ?_ (by omega) hVW.k.size ?_
   · simp only[rhoP,List.lookup]
     exact f9.less fun k hk=>by
      rcases hk with hk|hk
      · exact hk
      · have:=hbl k hk;omega
   intro v9 w9 hO9 hg9 hat9 hb9
   have hV9:=hVW.push hO9 hg9 hat9 hb9
   have hbx:=hVW.blk.upn (UpN.of_mut (X:=fun k=>(Value.slice Av x.es.length cv).ownBlock=some k) hg9 fun k e=>e) hVW.ngx.2.1
   have qx:=hbx.cell
   have zx:=hbx.frozen
   apply TailQ.pure
   rfl
   simp[rhoP,List.lookup,updV,f0,execOp,bareOp,go_sem]
   rfl
   obtain⟨L9,HL9⟩:∃ L9,Hid (L9=x.es++[e]):=⟨_,Lib.hid rfl⟩
   rw[<- HL9.out] at hO9
   obtain⟨A9,c9,rfl⟩:=hO9.slice
   refine TailQ.skip (w9.setCell ⟨gx,7,none⟩ (.slice A9 L9.length c9)) rfl (by simp[rhoP,List.lookup,updV,execOp,bareOp,qx,zx,go_sem]) ?_
   refine TailQ.nil ?_
   simp only[putAll,Act.put,List.setIfInBounds_toArray,List.set_cons_succ,List.set_cons_zero,Nat.reduceAdd,updV,Nat.reduceEqDiff,reduceIte]
   clear hO9 hg9 hat9 hb9 hbx qx zx f0 f1 f2 f3 f4 f5 f6 f7 f8 f9 hbl hVW q5 q6 qb hrow hV8
   go_wp2
   go_roundw
   case rel=>exact⟨m+1,moreE x e,_,by omega,by go_num,hX',hV9⟩
   case measure=>simp[intOf];omega
end
