/-
  The walk of stage.Publish (layer 17). Conditions: lists of at most a million.
-/
import Derived.Test.YtagfakjifhdpgaaGreatMa22
set_option maxRecDepth 100000
set_option maxHeartbeats 16000000
set_option linter.unusedVariables false
set_option linter.unusedSimpArgs false
namespace Go.Proofs.YtagfakjifhdpgaaGreat
open Go Go.RowKit
theorem Publish_own (l:List Txn) (a:Idn) (ev:List Att) (v u:Value) (w:World) (h:lst txS l v w) (hu:evt ev u w) (hl:∀ s∈l,smallEn s.e) (hlf:∀ s∈l,fitEn s.e) (hev:ev.length<=1000000) (hevf:∀ x∈ev,fitA x) (hlen:l.length<=1000000) :
 Calls Tryz.prog 41 #[v,idv a,u] w fun e w'=>∃ v',e=.returned (.tuple #[v',.int .i64 (publishT l a ev).2])/\(∀ W,UpB w.heap.size none w' W->lst txS (publishT l a ev).1 v' W)/\K w w':=by
 have C1:=Lib.hid fun W (kW:K w W)=>SCopied_calls l v W (lst_st h kW) hl hlen
 have C2:=Lib.hid fun W (kW:K w W)=>Open_calls l a v W (lst_st h kW) hlen
 have C3:=Lib.hid fun W (kW:K w W)=>ECheck_evt (evt_st _ _ _ _ hu kW)
 obtain⟨A,d,rfl,hlr,-⟩:=h
 have HU:Hid (∀ W,K w W->evt ev u W):=Lib.hid fun W k=>evt_st _ _ _ _ hu k
 obtain⟨Ae,ce,rfl⟩:=evt_slice hu
 clear hu
 have hx:=Blk.new w 35 #[.int .i64 a.1,.int .u64 (a.2.1:Int),.int .u64 (a.2.2:Int)]
 have k1:K w (w.alloc (.cells #[.int .i64 a.1,.int .u64 (a.2.1:Int),.int .u64 (a.2.2:Int)] 35)):=(K.rf w).al _
 have HI:Hid (openI l a=match openT l a with|some k=>(k:Int)|none=>-1):=Lib.hid rfl
 have HC:Hid (publishT l a ev=match openT l a with|none=>(l,170)|some k=>match l[k]? with|none=>(l,170)|some t=>if okE ev=false then (l,40) else if 8<=t.e.es.length then (l,171) else if bigE (moreE t.e ev) then (l,172) else (l.set k ⟨moreE t.e ev,t.asked⟩,0)):=Lib.hid rfl
 have HO:=Lib.hid fun k h=>@openT_some l a k h
 have HEV:=Lib.hid hevf
 clear hevf
 generalize publishT l a ev=R at *
 have q:=hx.cells
 go_enter Tryz.func41,Tryz.ntmps41
 go_wp2
 go_step3
 go_wp2_with fail
 generalize w.alloc _=w1 at *
 refine (C1.out w1 k1).mono ?_
 rintro e w2 ⟨u8,rfl,hO,k2⟩
 have k02:=k1.tr k2
 generalize openI l a=I at *
 replace q:=hx.below k2 hx.lt
 replace q:=Blk.cell q
 go_wp2_with fail
 refine (C2.out w2 k02).mono ?_
 rintro e w3 ⟨rfl,k3⟩
 replace k02:=k02.tr k3
 replace hO:=hO.st k3
 have hzw:=k1.size
 have HUP:=Lib.hid fun (W W':World) (h:OwnL w1.heap.size w1.heap.size 121 txS l u8 W) (u:UpB w.heap.size none W W')=>(h.up (Nat.le_refl _) (u.more hzw (fun k _ h=>h))).lst
 clear C1 C2 k3 k2 hx q
 cases ho:openT l a with
 | none =>
   obtain rfl:I=-1:=by rw[HI.out,ho]
   have HQ:Hid (R=(l,170)):=Lib.hid (by rw[HC.out,ho])
   have HW:=Lib.hid fun W u=>HUP.out _ W hO u
   clear hO ho HI HC HO
   go_wp2
   go_step3
   go_wp2
   try rw[Exit.noGoto_ret]
   go_ret2
   exact⟨_,by rw[HQ.out];rfl,by rw[HQ.out];exact HW.out,k02⟩
 | some k =>
   obtain rfl:I=(k:Int):=by rw[HI.out,ho]
   obtain⟨t,h1,-⟩:=HO.out k ho
   have HR:Hid (R=if okE ev=false then (l,40) else if 8<=t.e.es.length then (l,171) else if bigE (moreE t.e ev) then (l,172) else (l.set k ⟨moreE t.e ev,t.asked⟩,0)):=Lib.hid (by rw[HC.out,ho];simp only[h1])
   obtain⟨hk,hkt⟩:=List.getElem?_eq_some_iff.1 h1
   have hki:(k:Int)<(l.length:Int):=by omega
   have hk0:¬ (k:Int)<0:=by omega
   have hk00:(0:Int)<=(k:Int):=by omega
   clear ho HI HC HO h1
   go_wp2
   go_step3
   go_wp2_with fail
   refine (C3.out w3 k02).mono ?_
   rintro e w4 ⟨rfl,k4⟩
   replace hO:=hO.st k4
   replace k02:=k02.tr k4
   cases hok:okE ev
   · have HQ:Hid (R=(l,40)):=Lib.hid (by rw[HR.out,if_pos hok])
     have HW:=Lib.hid fun W u=>HUP.out _ W hO u
     have hc40:chkE ev=40:=by unfold chkE;rw[hok];rfl
     rw[hc40]
     clear hO HR
     go_wp2
     try rw[Exit.noGoto_ret]
     go_ret2
     exact⟨_,by rw[HQ.out];rfl,by rw[HQ.out];exact HW.out,k02⟩
   have hc0:chkE ev=0:=by unfold chkE;rw[hok];rfl
   rw[hc0]
   have HR2:Hid (R=if 8<=t.e.es.length then (l,171) else if bigE (moreE t.e ev) then (l,172) else (l.set k ⟨moreE t.e ev,t.asked⟩,0)):=Lib.hid (by rw[HR.out,if_neg (by rw[hok];decide)])
   clear HR
   obtain⟨b1,off,cs,rfl,hcl,hrl,d0,d⟩:=lsr_cells hlr k hk (by decide)
   have hst:=hl _ (List.getElem_mem hk)
   have hft:=hlf _ (List.getElem_mem hk)
   rw[hkt] at hrl hst hft
   obtain⟨vf,ve,rfl,hf,he⟩:=hrl w (K.rf w)
   have HE:Hid (∀ W,K w W->ent t.e (.agg (entA t.e vf ve)) W):=Lib.hid fun W k=>⟨_,_,rfl,flt_st _ _ _ _ hf k,lst_st he k⟩
   have d0:∀ W,K w W->W.cell? ⟨b1,off+k * 9,none⟩=some (.int .i64 t.e.kind):=d0
   have d:∀ W,K w W->∀ i,i<9->W.cell? ⟨b1,off+k * 9+i,none⟩=(txA t vf ve)[i]?:=fun W kk i hi=>(d W kk i hi).trans Array.getElem?_toList
   clear hrl hcl hf he
   have q0:=d0 _ k02
   have q:=d _ k02
   have hqs:∀ i,i<9->i<txS.size:=fun i h=>h
   go_wp2_with fail
   refine (SWhole_calls t.e _ w4 (HE.out _ k02) hst).mono ?_
   rintro e w5 ⟨v5,rfl,ho5,k5⟩
   obtain⟨vf5,ve5,rfl,hoF,hoE⟩:=ho5
   obtain⟨A5,c5,rfl,-⟩:=hoF.slice
   obtain⟨D5,d5,rfl,-⟩:=hoE.slice
   have hx5:=Blk.new w5 42 (entA t.e (.slice A5 t.e.f.length c5) (.slice D5 t.e.es.length d5))
   have k6:K w5 (w5.alloc (.cells (entA t.e (.slice A5 t.e.f.length c5) (.slice D5 t.e.es.length d5)) 42)):=(K.rf w5).al _
   go_upto_region 8 with (fail)
   generalize w5.alloc _=w6 at *
   have k46:=k5.tr k6
   have k04:=k02
   replace k02:=k02.tr k46
   have q6:=hx5.cell
   clear q q0
   by_cases h8:8<=t.e.es.length
   · have h8':(8:Int)<=(t.e.es.length:Int):=by omega
     have HQ:Hid (R=(l,171)):=Lib.hid (by rw[HR2.out,if_pos h8])
     have HW:=Lib.hid fun W u=>HUP.out _ W (hO.st k46) u
     clear hO HR2 hoF hoE
     go_wp2
     try rw[Exit.noGoto_ret]
     go_ret2
     exact⟨_,by rw[HQ.out];rfl,by rw[HQ.out];exact HW.out,k02⟩
   have h8':¬ (8:Int)<=(t.e.es.length:Int):=by omega
   have HR3:Hid (R=if bigE (moreE t.e ev) then (l,172) else (l.set k ⟨moreE t.e ev,t.asked⟩,0)):=Lib.hid (by rw[HR2.out,if_neg h8])
   clear HR2
   go_upto_region 10 with (fail)
   obtain⟨css,hown,hcl5,hE5⟩:=hoE
   have hown6:=row_below hown k6
   have hsz5:=k5.size
   obtain⟨g5,hg5⟩:∃ g5,g5=w5.heap.size:=⟨_,rfl⟩
   rw[<- hg5] at hx5 q6 ⊢
   have hg56:=hx5.lt
   obtain⟨gb,hgb⟩:∃ gb,gb=w6.heap.size:=⟨_,rfl⟩
   have hrow5:∀ b,(Value.slice D5 t.e.es.length d5).ownBlock=some b->w4.heap.size<=b/\b<g5:=fun b hb=>by have:=hown.lt b hb;omega
   have hrow:∀ b,(Value.slice D5 t.e.es.length d5).ownBlock=some b->b<gb:=fun b hb=>by have:=hrow5 b hb;omega
   have hnF:∀ b,(Value.slice A5 t.e.f.length c5).ownBlock=some b->(Value.slice D5 t.e.es.length d5).ownBlock≠some b:=by
    intro b hb hb2
    obtain⟨cur,h1⟩:=row_blk hoF hb
    obtain⟨cur2,h2⟩:=row_blk hown hb2
    exact absurd (h1.unlike h2) (by decide)
   generalize hve:Value.slice D5 t.e.es.length d5=ve5 at *
   generalize hvf:Value.slice A5 t.e.f.length c5=vf5 at *
   have HX:Hid (∀ W' ,UpB w4.heap.size ve5.ownBlock w5 W'->flt t.e.f vf5 W'/\Each evS t.e.es css W'):=Lib.hid fun W' u=>⟨flt_own (row_keep hoF fun g h1 h2 h3=>u.block g h1 h2 (fun e=>hnF g h3 e.symm)),hE5 W' u⟩
   obtain⟨C,hC⟩:∃ C:World->Prop,C=fun W=>K w4 W/\gb<=W.heap.size/\Blk W g5 42 (entA t.e vf5 ve5)/\UpB 0 ve5.ownBlock w5 W:=⟨_,rfl⟩
   have hg:∀ W W',C W->Below W.heap.size W W'->C W':=by
    subst hC
    rintro W W' ⟨h1,h0,h2,h3⟩ hb
    exact⟨h1.tr hb,Nat.le_trans h0 hb.size,h2.below hb h2.lt,h3.tr (UpB.of_k hb _ _)⟩
   have hc0:C w6:=by rw[hC];exact⟨k46,by omega,hx5,UpB.of_k k6 _ _⟩
   have kw04:Hid (∀ W,K w4 W->K w W):=Lib.hid fun W k=>k04.tr k
   obtain⟨F,hF⟩:∃ F:World->Prop,F=fun W=>∃ D9 c9,K w4 W/\Blk W g5 42 (entA (moreE t.e ev) vf5 (.slice D9 (t.e.es.length+1) c9))/\∀ W',UpN (fun k=>k<w4.heap.size∨k=g5) W W'->flt t.e.f vf5 W'/\lst evS (t.e.es++[ev]) (.slice D9 (t.e.es.length+1) c9) W':=⟨_,rfl⟩
   refine wp_region_turn3 5 7 C (fun W=>W.ownsRow w4.heap.size 45 1 ve5 t.e.es.length css.flatten) (fun _=>True) (fun W W'=>W.grownBy W' ve5.ownBlock) F [isV (.pointer (some ⟨g5,7,none⟩)),
    isV ve5,
    isV (.slice Ae ev.length ce),
    evF gb ev,
    evR gb 45 ev,
    evQ gb w4.heap.size 45 t.e.es.length css.flatten ev,
    isV (.pointer (some ⟨g5,7,none⟩)),
    anyV]
    [([],[]),([0],[(34,0)]),([],[]),([2],[(36,2)]),([3],[(37,3)]),([1,4],[(35,1),(38,4)]),([5],[]),([6,5],[(40,6),(39,5)])] 50 rfl (by kernel_rfl) (by kernel_rfl) (by kernel_rfl) (by decide) (by decide) (by decide) (by kernel_rfl) hg (fun W W' h k=>row_below h k) (fun _ _ h _=>h) (by exact hg _ _ hc0 (Below.drew (Below.refl _ _))) (row_below hown6 (Below.drew (Below.refl _ _))) ?st ?st2 ?ow ?_
   case st =>
    simp only[List.forall_mem_cons]
    and_intros
    all_goals first|exact isV_st _|exact anyV_st|exact evF_st _ _|exact evR_st _ _ _|exact evQ_st _ _ _ _ _ _|simp
   case st2 =>
    simp only[List.zipIdx_cons,List.zipIdx_nil,List.forall_mem_cons,Nat.zero_add,Nat.reduceAdd]
    and_intros
    all_goals first|exact .inl rfl|exact .inr (fun _ _ _ h _=>h)|exact .inr (evF_row hrow)|exact .inr (evR_row hrow)|simp
   case ow =>
    simp only[OwedY,OwedT]
    and_intros
    all_goals try trivial
    all_goals
     simp only[Nat.reduceEqDiff,if_false,Nat.reduceAdd]
    all_goals
     first
     | (intro V w' hc hD hp
        have hD2:w'.ownsRow w4.heap.size 45 1 ve5 t.e.es.length css.flatten∨True:=by first|exact .inl hD|exact .inr trivial
        simp only[List.forall_mem_cons,tab_zero,tab_succ,isV] at hp
        rw[hC] at hc
        obtain⟨kw,hgw,hbx,hu⟩:=hc)
     | (intro V w' hc hp
        rw[hC] at hc
        obtain⟨kw,hgw,hbx,hu⟩:=hc
        have q:=hbx.cell
        try simp only[List.forall_mem_cons,tab_zero,tab_succ,isV] at hp
        try (simp[wantsG,rhoP,List.lookup,hp,tab_zero,tab_succ,ResG,execOp,bareOp,isV,undef,Below.refl,q,go_sem];done))
     | skip
    · obtain⟨h2,-⟩:=hp
      rw[if_pos (show wantsG V none=true from rfl)]
      obtain⟨Ae2,ce2,e2,hr2⟩:=HU.out w' (kw04.out _ kw)
      rw[e2] at h2
      obtain⟨v',w'',hrun,h1,h5,h3⟩:=exec_app2 (P:=Tryz.prog) (ρ:=rhoP [(36,2)] _ V) (.const (.slice none 0 0)) (.tmp 36) 45 45 90 w'.heap.size _ 4 48 TE (.slice none 0 0) 0 [] rfl (World.ownsRow_nil _ _ _ _) w'.heap.size Ae2 ev.length ce2 (ev.flatMap attc) h2 hr2 (atts_one ev) (by omega) (Nat.le_refl _)
      rw[hrun]
      have ho:OwnE w'' w'.heap.size v' ev:=by simpa using h1
      exact⟨fun W' u=>by
       obtain⟨v2,e3,h9⟩:=OwnE.rel ho W' (u.more hgw (fun _ _ _=>by simp))
       injection e3 with e3
       rw[e3];exact h9,h5⟩
    · obtain⟨h3,-⟩:=hp
      obtain⟨A3,c3,e3⟩:=evt_slice (h3 w' (UpB.rf _ _ _))
      simp[wantsG,rhoP,List.lookup,e3,tab_zero,tab_succ,ResG,execOp,bareOp,undef,go_sem]
      exact⟨⟨w'.heap.size,_,rfl,hgw,Blk.new _ _ _,fun W' u=>by rw[<- e3];exact h3 W' ((UpB.of_k ((K.rf w').al _) _ _).tr u)⟩,(K.rf w').al _⟩
    · obtain⟨h1,⟨g',u,h4,hg',hb,hF'⟩,-⟩:=hp
      have hR:Reads w' w'.heap.size 1 (some ⟨g',0,none⟩) 1 [u]:=⟨rfl,fun _=>⟨g',0,rfl,hb.lt,fun j u' hu'=>by
       rw[Nat.zero_add,hb.cell j];simpa using hu'⟩⟩
      have h1u:∀ x∈[u],x.oneCell'=true:=by
       obtain⟨A3,c3,e3⟩:=evt_slice (hF' w' (UpB.rf _ _ _))
       intro x hx
       simp at hx
       subst hx
       rw[e3]
       rfl
      obtain⟨v',w'',hrun,h7,h5,h3⟩:=exec_app2 (P:=Tryz.prog) (ρ:=rhoP [(35,1),(38,4)] _ V) (.tmp 35) (.tmp 38) 38 38 45 w4.heap.size _ 1 24 TEv ve5 t.e.es.length css.flatten h1 hD w'.heap.size (some ⟨g',0,none⟩) 1 1 [u] h4 hR h1u (by omega) (by omega)
      rw[hrun]
      refine⟨⟨u,h7,fun W' up=>hF' W' ((UpB.row h3 hrow).tr up)⟩,?_,trivial,h3⟩
      rw[hC]
      exact⟨kw.trans h5,by have:=h3.size;omega,hbx.grown h3 (fun e=>by have:=hrow5 g5 e.symm;omega),hu.tr (UpB.of_mut h3 0)⟩
    · obtain⟨h6,⟨u,hown9,hF'⟩,-⟩:=hp
      have hgt:∀ b,(V 5).ownBlock=some b->b≠g5:=by
       intro b hb e
       subst e
       obtain⟨cur,h1⟩:=row_blk hown9 hb
       exact absurd (h1.unlike hbx) (by decide)
      have hbase:∀ b,(V 5).ownBlock=some b->w4.heap.size<=b:=fun b hb=>(hown9.lt b hb).1
      have hown9':=hown9
      rcases hown9.2 with ⟨-,h0⟩|⟨g9,c9,cur9,e9,-⟩
      · omega
      have z:=hbx.frozen
      have q:=hbx.cell
      generalize hA:rhoP [(40,6),(39,5)] _ V=ρ9
      have es4:ρ9 (.tmp 40)=.pointer (some ⟨g5,7,none⟩):=by rw[<- hA];exact h6
      have ex4:ρ9 (.tmp 39)=.slice (some ⟨g9,0,none⟩) (t.e.es.length+1) c9:=by rw[<- hA];exact e9
      have hs7:(execOp ρ9 (bareOp (.store 38 (.tmp 40) (.tmp 39)) 0)).run Tryz.prog w'=.ok .skip (w'.setCell ⟨g5,7,none⟩ (.slice (some ⟨g9,0,none⟩) (t.e.es.length+1) c9)):=by
       simp[es4,ex4,execOp,bareOp,q,z,go_sem]
      rw[hs7]
      have hb9:=hbx.set_ 7 (.slice (some ⟨g9,0,none⟩) (t.e.es.length+1) c9)
      have us:UpN (fun k=>k=g5) w' (w'.setCell ⟨g5,7,none⟩ (.slice (some ⟨g9,0,none⟩) (t.e.es.length+1) c9)):=UpN.sets (X:=fun k=>k=g5) (g:=g5) rfl [_] 7 w'
      generalize w'.setCell _ _=w'' at *
      show F w''
      rw[hF]
      refine⟨some ⟨g9,0,none⟩,c9,?_,hb9,fun W' up=>?_⟩
      · exact UpB.k (us.upB (lo:=0) (row:=some g5) (fun k _ _ h e=>h (by rw[e]))) kw (by rintro b e;cases e;omega)
      · have key:∀ k,w4.heap.size<=k->k<w'.heap.size->k≠g5->W'.heap[k]?=w'.heap[k]?:=fun k h1 h2 h3=>(up.block k (Nat.lt_of_lt_of_le h2 us.size) (by omega)).trans (us.block k h2 h3)
        have u5:UpB w4.heap.size ve5.ownBlock w5 W':=⟨(up.os.trans us.os).trans hu.os,(up.tape.trans us.tape).trans hu.tape,(up.output.trans us.output).trans hu.output,Nat.le_trans hu.size (Nat.le_trans us.size up.size),fun k h1 h2 h3=>(key k h1 (Nat.lt_of_lt_of_le h2 hu.size) (by omega)).trans (hu.block k (Nat.zero_le _) h2 h3)⟩
        have ub:UpB gb none w' W':=⟨up.os.trans us.os,up.tape.trans us.tape,up.output.trans us.output,Nat.le_trans us.size up.size,fun k h1 h2 _=>key k (by omega) h2 (by omega)⟩
        obtain⟨hf9,he9⟩:=HX.out W' u5
        refine⟨hf9,?_⟩
        have hrow9:=row_keep (w':=W') hown9' (fun g h1 h2 h3=>key g h1 h2 (hgt g h3))
        rw[e9] at hrow9
        have hev9:evS.rel ev [u] W':=⟨u,rfl,hF' W' ub⟩
        have:=he9.snoc hev9
        have hl:(t.e.es++[ev]).length=t.e.es.length+1:=by simp
        rw[<- hl] at hrow9 ⊢
        exact lst_of_own (S:=evS) (css:=css++[[u]]) (by have h0:=hrow9;simp only[List.length_append,List.length_cons,List.length_nil,Nat.zero_add,List.flatten_append,List.flatten_cons,List.flatten_nil,List.append_nil] at h0 ⊢;exact h0) this
   intro V W hFW
   rw[hF] at hFW
   obtain⟨D9,c9,kW4,hb9,hN⟩:=hFW
   have kW:=kw04.out _ kW4
   have q:=hb9.cell
   have hmf:fitEn (moreE t.e ev):=⟨hft.1,hft.2.1,hft.2.2.1,hft.2.2.2.1,hft.2.2.2.2.1,hft.2.2.2.2.2.1,hft.2.2.2.2.2.2.1,fun e he=>by
    rcases List.mem_append.1 he with h1|h1
    · exact hft.2.2.2.2.2.2.2 e h1
    · simp at h1;subst h1;exact HEV.out⟩
   have C4:=Lib.hid (Big_calls (moreE t.e ev) (.agg (entA (moreE t.e ev) vf5 (.slice D9 (t.e.es.length+1) c9))) W ⟨_,_,rfl,(hN W (UpN.rf _ _)).1,(hN W (UpN.rf _ _)).2⟩ hmf)
   have HN:=Lib.hid hN
   have HOW:=Lib.hid (hO.st kW4)
   have hgo4':=Lib.hid fun g h=>(hO.blk g h).2
   have hw4:=Lib.hid (show w.heap.size<=w4.heap.size from k04.size)
   clear hF hC hg hc0 HX hnF hrow hrow5 hown hown6 hE5 hcl5 hO hN hoF hft hst hmf hg5 hgb
   simp only[putAll,Act.put,List.setIfInBounds_toArray,List.set_cons_succ,List.set_cons_zero]
   subst hvf
   go_wp2_with fail
   refine C4.out.mono ?_
   rintro e w8 ⟨rfl,k8⟩
   have HO8:=Lib.hid (HOW.out.st k8)
   have kw8:=kW.tr k8
   have hb8:=hb9.below k8 hb9.lt
   clear q hb9
   cases hbig:bigE (moreE t.e ev)
   rotate_left
   · have HQ:Hid (R=(l,172)):=Lib.hid (by rw[HR3.out,hbig];rfl)
     have HW:=Lib.hid fun W u=>HUP.out _ W HO8.out u
     clear hbig HR3 HO8 HOW
     go_wp2
     try rw[Exit.noGoto_ret]
     go_ret2
     exact⟨_,by rw[HQ.out];rfl,by rw[HQ.out];exact HW.out,kw8⟩
   have HQ:Hid (R=(l.set k ⟨moreE t.e ev,t.asked⟩,0)):=Lib.hid (by rw[HR3.out,hbig];rfl)
   have hO:=HO8.out
   have hkb:=hO.blk
   obtain⟨cssO,hownO,hclO,hEO⟩:=hO
   have heO:=hEO w8 (UpB.rf _ _ _)
   have hlens:=heO.lens
   have hkc:k<cssO.length:=by omega
   have hfl:=heO.flen
   obtain⟨vfo,veo,hcs,-,-⟩:=heO.2 k hk hkc
   rw[hkt] at hcs
   rcases hownO.2 with ⟨h0,h00⟩|⟨go,cap,cur,rfl,-⟩
   · omega
   have hgo:=(hkb go rfl).1
   have hgo4:go<w4.heap.size:=hgo4'.out go rfl
   have hqO:k * 9+9<=cssO.flatten.length:=by rw[hfl];show k * 9+9<=l.length * 9;omega
   obtain⟨hcell,hfz⟩:=own_cells hownO
   have dO:∀ i,i<9->w8.cell? ⟨go,k * 9+i,none⟩=(txA t vfo veo)[i]?:=fun i hi=>by
    rw[hcell _ (by omega),show k * 9+i=k * txS.size+i from rfl,flatten_at txS.size cssO hlens k i hkc hi,List.getElem?_eq_getElem hkc,Option.getD_some,hcs]
    exact Array.getElem?_toList
   have dO0:w8.cell? ⟨go,k * 9,none⟩=some (.int .i64 t.e.kind):=dO 0 (by omega)
   have zO:=fun i=>hfz (k * 9+i)
   have zO0:=hfz (k * 9)
   have q:=hb8.cell
   obtain⟨vals,hvals⟩:∃ vals:List Value,vals=(entA (moreE t.e ev) (.slice A5 t.e.f.length c5) (.slice D9 (t.e.es.length+1) c9)).toList:=⟨_,rfl⟩
   have hvl:vals.length=8:=by rw[hvals];rfl
   have hown9:=own_sets vals _ (k * 9) w8 hownO (by rw[hvl];omega)
   have e9:=flatten_sets txS.size vals cssO hlens k 0 hkc (by rw[hvl];decide)
   rw[show k * txS.size+0=k * 9 from rfl] at e9
   rw[e9,hcs] at hown9
   have e10:setsL (txA t vfo veo).toList 0 vals=(txA ⟨moreE t.e ev,t.asked⟩ (.slice A5 t.e.f.length c5) (.slice D9 (t.e.es.length+1) c9)).toList:=by rw[hvals];rfl
   rw[e10] at hown9
   have uG:UpN (fun k=>k=go) w8 (setsW w8 go (k * 9) vals):=UpN.sets (X:=fun k=>k=go) (g:=go) rfl vals (k * 9) w8
   have uX:UpN (fun k=>k<w4.heap.size∨k=g5) w8 (setsW w8 go (k * 9) vals):=UpN.sets (X:=fun k=>k<w4.heap.size∨k=g5) (g:=go) (.inl hgo4) vals (k * 9) w8
   have HK:Hid (K w (setsW w8 go (k * 9) vals)):=Lib.hid (UpB.k (uG.upB (lo:=0) (row:=some go) (fun k _ _ h e=>h (by rw[e]))) kw8 (by rintro b e;cases e;omega))
   have hz4:=hw4.out
   have HW:Hid (∀ W',UpB w.heap.size none (setsW w8 go (k * 9) vals) W'->lst txS (l.set k ⟨moreE t.e ev,t.asked⟩) (.slice (some ⟨go,0,none⟩) l.length cap) W'):=Lib.hid fun W' u=>by
    have h9:=HN.out _ (((UpN.of_k k8 _).tr uX).tr (UpB.upN u (fun k hk=>by rcases hk with hk|hk;exact .inl (by omega);cases hk)))
    have hE9:=(hEO _ ((uG.upB (fun k _ _ h e=>h (by rw[e];rfl))).tr (u.more hzw (fun k _ _=>by simp)))).set k (x:=⟨moreE t.e ev,t.asked⟩) (cs:=(txA ⟨moreE t.e ev,t.asked⟩ (.slice A5 t.e.f.length c5) (.slice D9 (t.e.es.length+1) c9)).toList) ⟨_,_,rfl,h9.1,h9.2⟩
    exact lst_of_own (S:=txS) (row_keep (by rw[List.length_set];exact hown9) fun g h1 h2 _=>u.block g (by omega) h2 (by simp)) hE9
   rw[hvals] at HW HK
   clear hcell hfz hownO hown9 hEO hlens hfl hkb HN uG uX e9 e10 hvl hvals heO hcs hclO hqO HO8 HOW HR3 hbig hkt HU
   go_wp2
   try rw[Exit.noGoto_ret]
   go_ret2
   exact⟨_,by rw[HQ.out];rfl,by rw[HQ.out];exact HW.out,HK.out⟩
theorem TailQ.call {P:Program} {a0:Act} {E:(Nat->Value)->World->Prop} {k:Nat} {o:Oper} {r:List Oper} {x:List Nat×List (Nat×Nat)} {xs:List (List Nat×List (Nat×Nat))} {V:Nat->Value} {w:World}
 (f:FuncId) (args:Array Value) (hg:o.guard=none) (hx:(execOp (rhoP x.2 a0 V) (bareOp o.op o.type)).run P w=.ok (.enter f args) w) (h:Calls P f args w fun e w''=>∃ v,e=.returned v/\TailQ P a0 E (k+1) r xs (updV V k v) w''):TailQ P a0 E k (o :: r) (x :: xs) V w:=by
 unfold TailQ
 rw[hg,if_pos (show wantsG V none=true from rfl),hx]
 exact h
theorem OkT.len6 {l:List Txn} (h:OkT l):l.length<=1000000:=by have:=h.len;omega
theorem BCommit_calls {M:Nat->Prop} {p:BrW} {B:Brk} {w:World} (h:BrV M p B w) (hG:GoodB B) (a:Idn) :
 Calls Tryz.prog 15 #[.pointer (some ⟨p.g,0,none⟩),idv a] w fun e w'=>e=.returned (.int .i64 (keepB B (commitT B.txns a)).2)/\BrN M p (keepB B (commitT B.txns a)).1 w w':=by
 have C1:=Lib.hid fun W (k:K w W)=>Commit_own B.txns a p.vt W (h.dat.at k).txns hG.tx.small hG.tx.len6
 have H:=Lib.hid h
 have hz:=fun k hk=>h.low k hk
 have HX:=Lib.hid fun k hk=>h.low k (h.sub k hk)
 have C2:=Lib.hid fun W (k:K w W) v hv=>BKeep_calls (h.st k) (l:=(commitT B.txns a).1) (v:=v) (commitT B.txns a).2 hv
 have q:=h.q
 have k1:K w (w.alloc (.cells #[.int .i64 a.1,.int .u64 (a.2.1:Int),.int .u64 (a.2.2:Int)] 35)):=(K.rf w).al _
 have hb:=Blk.new w 35 #[.int .i64 a.1,.int .u64 (a.2.1:Int),.int .u64 (a.2.2:Int)]
 have hs1:=lst_slice h.dat.now.txns
 obtain⟨g,gl,gd,gr,gt,vd,vr,vp,vh,vl,vq,va,vt,vf,vw,kr⟩:=p
 simp only at q C1 hs1
 obtain⟨At,ct,rfl⟩:=hs1
 generalize hR:commitT B.txns a=R at *
 obtain⟨rl,rc⟩:=R
 have HZ:=Lib.hid hz
 clear h hG hR hz
 go_enter Tryz.func15,Tryz.ntmps15
 go_upto_region 1 with (fail)
 generalize w.alloc _=w1 at *
 generalize w.heap.size=ga at hb ⊢
 have qa:=hb.cells
 have q1:=fun W (k:K w1 W)=>q W (k1.tr k)
 clear q hb
 go_upto_region 3 with (fail)
 refine wp_region_auto 9 [([],[]),([],[]),([1],[(8,1)]),([2],[(9,2)]),([3],[(10,3)]),([],[]),([4,5],[(11,4),(12,5)]),([6],[(13,6)]),([6],[(13,6)]),([0,6,7,8],[(7,0),(14,7),(15,8)]),([0,1,2,3,4,5,6,7,8,9],[(16,9)])] 17 rfl (by kernel_rfl) (by kernel_rfl) (by kernel_rfl) (by kernel_rfl) (by decide) ?_
 simp only[List.take_succ_cons,List.take_zero,List.drop_succ_cons,List.drop_zero]
 iterate 6 (apply AutoQ.is;intro V W kW hp;(try simp only[List.forall_mem_cons,List.nil_append,List.cons_append,tab_zero,tab_succ,isV] at hp);simp[wantsG,rhoP,List.lookup,hp,ResG,execOp,bareOp,isV,Below.refl,kW,q1,qa,go_sem];rfl)
 refine AutoQ.op (fun v W=>∃ v',v=.tuple #[v',.int .i64 rc]/\OwnL w1.heap.size w1.heap.size 121 txS rl v' W) (fun _ _ _ ⟨v',e,h⟩ k=>⟨v',e,h.st k⟩) (fun V W kW hp=>?_) ?_
 · (try simp only[List.forall_mem_cons,List.nil_append,List.cons_append,tab_zero,tab_succ,isV] at hp)
   simp[wantsG,rhoP,List.lookup,hp,ResG,execOp,bareOp,q1,qa,go_sem]
   refine (C1.out W (k1.tr kW)).mono ?_
   rintro e w4 ⟨v4,rfl,hO,k4⟩
   exact⟨_,rfl,⟨_,rfl,OwnL.low (OwnL.floor hO kW.size) kW.size⟩,k4⟩
 refine AutoQ.op (fun v W=>OwnL w1.heap.size w1.heap.size 121 txS rl v W) (fun _ _ _ h k=>h.st k) (fun V W kW hp=>?_) ?_
 · simp only[List.forall_mem_cons,List.nil_append,List.cons_append,tab_zero,tab_succ,isV] at hp
   obtain⟨⟨v',e,hO⟩,-⟩:=hp
   simp[wantsG,rhoP,List.lookup,e,ResG,execOp,bareOp,Below.refl,go_sem]
   exact hO
 refine AutoQ.is (.int .i64 rc) (fun V W kW hp=>?_) ?_
 · simp only[List.forall_mem_cons,List.nil_append,List.cons_append,tab_zero,tab_succ,isV] at hp
   obtain⟨⟨v',e,hO⟩,-⟩:=hp
   simp[wantsG,rhoP,List.lookup,e,ResG,execOp,bareOp,isV,Below.refl,go_sem]
 intro V W kW hA
 simp only[List.nil_append,List.cons_append,AllT,isV,Nat.reduceAdd] at hA
 obtain⟨e0,e1,e2,e3,e4,e5,⟨v',e6,hO1⟩,hO,e8,-⟩:=hA
 have kF:=k1.tr kW
 have hfx:Fx M (fun W=>lst txS rl (V 7) W) W:=(OwnL.toY hO).fx (fun _ h=>h) |>.less fun k hk=>Nat.lt_of_lt_of_le (HZ.out k hk) k1.size
 refine TailQ.call _ _ rfl (by simp[rhoP,List.lookup,updV,e0,e8,execOp,bareOp,go_sem];exact⟨rfl,rfl⟩) ?_
 refine (C2.out W kF (V 7) hfx).mono ?_
 rintro e w5 ⟨rfl,hN⟩
 refine⟨_,rfl,?_⟩
 have hNN:=Lib.hid (hN.ofk kF HX.out)
 apply TailQ.pure
 rfl
 simp[rhoP,List.lookup,updV,execOp,bareOp,go_sem]
 rfl
 refine TailQ.nil ?_
 simp only[putAll,Act.put,List.setIfInBounds_toArray,List.set_cons_succ,List.set_cons_zero,Nat.reduceAdd,updV]
 clear hO hO1 hfx hN C1 C2
 go_wp2
 go_ret
 exact⟨by first|rfl|(simp[updV];done),hNN.out⟩
def LsB (lo:Nat) {α:Type} (S:Shp α) (l:List α) (v:Value) (w:World):Prop:=∀ W,UpB lo none w W->lst S l v W
theorem LsB.st {lo:Nat} {α:Type} {S:Shp α} {l:List α} {v:Value} {w w':World} (h:LsB lo S l v w) (k:K w w'):LsB lo S l v w':=fun W u=>h W ((UpB.of_k k _ _).tr u)
theorem LsB.low {lo lo':Nat} {α:Type} {S:Shp α} {l:List α} {v:Value} {w:World} (h:LsB lo S l v w) (k:lo'<=lo):LsB lo' S l v w:=fun W u=>h W (u.more k fun _ _ h=>h)
theorem LsB.fx {lo:Nat} {α:Type} {S:Shp α} {l:List α} {v:Value} {w:World} {M:Nat->Prop} (h:LsB lo S l v w) (hM:∀ k,M k->k<lo):Fx M (fun W=>lst S l v W) w:=Fx.fresh h hM
theorem BPublish_calls {M:Nat->Prop} {p:BrW} {B:Brk} {w:World} (h:BrV M p B w) (hG:GoodB B) (a:Idn) (ev:List Att) (u:Value) (hu:evt ev u w) (hev:ev.length<=1000000) (hevf:∀ x∈ev,fitA x) :
 Calls Tryz.prog 14 #[.pointer (some ⟨p.g,0,none⟩),idv a,u] w fun e w'=>e=.returned (.int .i64 (keepB B (publishT B.txns a ev)).2)/\BrN M p (keepB B (publishT B.txns a ev)).1 w w':=by
 have C1:=Lib.hid fun W (k:K w W)=>Publish_own B.txns a ev p.vt u W (h.dat.at k).txns (evt_st _ _ _ _ hu k) hG.tx.small (fun s hs=>(hG.tx.each s hs).2.1) hev hevf hG.tx.len6
 have H:=Lib.hid h
 have hz:=fun k hk=>h.low k hk
 have HX:=Lib.hid fun k hk=>h.low k (h.sub k hk)
 have C2:=Lib.hid fun W (k:K w W) v hv=>BKeep_calls (h.st k) (l:=(publishT B.txns a ev).1) (v:=v) (publishT B.txns a ev).2 hv
 have q:=h.q
 have k1:K w (w.alloc (.cells #[.int .i64 a.1,.int .u64 (a.2.1:Int),.int .u64 (a.2.2:Int)] 35)):=(K.rf w).al _
 have hb:=Blk.new w 35 #[.int .i64 a.1,.int .u64 (a.2.1:Int),.int .u64 (a.2.2:Int)]
 have hs1:=lst_slice h.dat.now.txns
 obtain⟨g,gl,gd,gr,gt,vd,vr,vp,vh,vl,vq,va,vt,vf,vw,kr⟩:=p
 simp only at q C1 hs1
 obtain⟨At,ct,rfl⟩:=hs1
 obtain⟨Au,cu,rfl⟩:=evt_slice hu
 generalize hR:publishT B.txns a ev=R at *
 obtain⟨rl,rc⟩:=R
 have HZ:=Lib.hid hz
 clear h hG hR hz hu hevf
 go_enter Tryz.func14,Tryz.ntmps14
 go_upto_region 1 with (fail)
 generalize w.alloc _=w1 at *
 generalize w.heap.size=ga at hb ⊢
 have qa:=hb.cells
 have q1:=fun W (k:K w1 W)=>q W (k1.tr k)
 clear q hb
 go_upto_region 3 with (fail)
 refine wp_region_auto 10 [([],[]),([],[]),([1],[(10,1)]),([2],[(11,2)]),([3],[(12,3)]),([],[]),([],[]),([4,5,6],[(13,4),(14,5),(15,6)]),([7],[(16,7)]),([7],[(16,7)]),([0,7,8,9],[(9,0),(17,8),(18,9)]),([0,1,2,3,4,5,6,7,8,9,10],[(19,10)])] 20 rfl (by kernel_rfl) (by kernel_rfl) (by kernel_rfl) (by kernel_rfl) (by decide) ?_
 simp only[List.take_succ_cons,List.take_zero,List.drop_succ_cons,List.drop_zero]
 iterate 7 (apply AutoQ.is;intro V W kW hp;(try simp only[List.forall_mem_cons,List.nil_append,List.cons_append,tab_zero,tab_succ,isV] at hp);simp[wantsG,rhoP,List.lookup,hp,ResG,execOp,bareOp,isV,Below.refl,kW,q1,qa,go_sem];rfl)
 refine AutoQ.op (fun v W=>∃ v',v=.tuple #[v',.int .i64 rc]/\LsB w1.heap.size txS rl v' W) (fun _ _ _ ⟨v',e,h⟩ k=>⟨v',e,h.st k⟩) (fun V W kW hp=>?_) ?_
 · (try simp only[List.forall_mem_cons,List.nil_append,List.cons_append,tab_zero,tab_succ,isV] at hp)
   simp[wantsG,rhoP,List.lookup,hp,ResG,execOp,bareOp,q1,qa,go_sem]
   refine (C1.out W (k1.tr kW)).mono ?_
   rintro e w4 ⟨v4,rfl,hO,k4⟩
   exact⟨_,rfl,⟨_,rfl,LsB.low hO kW.size⟩,k4⟩
 refine AutoQ.op (fun v W=>LsB w1.heap.size txS rl v W) (fun _ _ _ h k=>h.st k) (fun V W kW hp=>?_) ?_
 · simp only[List.forall_mem_cons,List.nil_append,List.cons_append,tab_zero,tab_succ,isV] at hp
   obtain⟨⟨v',e,hO⟩,-⟩:=hp
   simp[wantsG,rhoP,List.lookup,e,ResG,execOp,bareOp,Below.refl,go_sem]
   exact hO
 refine AutoQ.is (.int .i64 rc) (fun V W kW hp=>?_) ?_
 · simp only[List.forall_mem_cons,List.nil_append,List.cons_append,tab_zero,tab_succ,isV] at hp
   obtain⟨⟨v',e,hO⟩,-⟩:=hp
   simp[wantsG,rhoP,List.lookup,e,ResG,execOp,bareOp,isV,Below.refl,go_sem]
 intro V W kW hA
 simp only[List.nil_append,List.cons_append,AllT,isV,Nat.reduceAdd] at hA
 obtain⟨e0,e1,e2,e3,e4,e5,e6,⟨v',e7,hO1⟩,hO,e9,-⟩:=hA
 have kF:=k1.tr kW
 have hfx:Fx M (fun W=>lst txS rl (V 8) W) W:=LsB.fx hO fun k hk=>Nat.lt_of_lt_of_le (HZ.out k hk) k1.size
 refine TailQ.call _ _ rfl (by simp[rhoP,List.lookup,updV,e0,e9,execOp,bareOp,go_sem];exact⟨rfl,rfl⟩) ?_
 refine (C2.out W kF (V 8) hfx).mono ?_
 rintro e w5 ⟨rfl,hN⟩
 refine⟨_,rfl,?_⟩
 have hNN:=Lib.hid (hN.ofk kF HX.out)
 apply TailQ.pure
 rfl
 simp[rhoP,List.lookup,updV,execOp,bareOp,go_sem]
 rfl
 refine TailQ.nil ?_
 simp only[putAll,Act.put,List.setIfInBounds_toArray,List.set_cons_succ,List.set_cons_zero,Nat.reduceAdd,updV]
 clear hO hO1 hfx hN C1 C2
 go_wp2
 go_ret
 exact⟨by first|rfl|(simp[updV];done),hNN.out⟩
theorem GoodB.new {B:Brk} (hG:GoodB B):fitI (newB B):=by
 have h1:=hG.me
 have h2:=hG.calls
 have h3:=hG.dk.inv.life
 have h4:=okTr_par hG.tr
 simp only[inR,Bool.and_eq_true,decide_eq_true_eq] at h1
 refine⟨?_,h3,?_⟩
 · simp only[newB,i64ok];omega
 · simp only[newB];omega
theorem BBegin1_calls {M:Nat->Prop} {p:BrW} {B:Brk} {w:World} (h:BrV M p B w) (hG:GoodB B) (c:Int) (hc:i64ok c) (gb gc:Nat) (hgb:Blk w gb 28 #[.pointer (some ⟨p.g,0,none⟩)]) (hgc:Blk w gc 3 #[.int .i64 c]) :
 Calls Tryz.prog 38 #[idv (newB B),.pointer (some ⟨gb,0,none⟩),.pointer (some ⟨gc,0,none⟩)] w fun e w'=>∃ v',e=.returned (.tuple #[v',.int .i64 (beginT B.txns (newB B) c).2])/\OwnL w.heap.size w.heap.size 121 txS (beginT B.txns (newB B) c).1 v' w'/\K w w':=by
 have C1:=Lib.hid fun W (k:K w W)=>Begin_calls B.txns (newB B) c p.vt W (h.dat.at k).txns hG.new hc hG.tx.small hG.tx.len6
 have q:=h.q
 have qb:=hgb.cells
 have qc:=hgc.cells
 have hs1:=lst_slice h.dat.now.txns
 generalize newB B=a at *
 have k1:K w (w.alloc (.cells #[.int .i64 a.1,.int .u64 (a.2.1:Int),.int .u64 (a.2.2:Int)] 35)):=(K.rf w).al _
 have hb:=Blk.new w 35 #[.int .i64 a.1,.int .u64 (a.2.1:Int),.int .u64 (a.2.2:Int)]
 obtain⟨g,gl,gd,gr,gt,vd,vr,vp,vh,vl,vq,va,vt,vf,vw,kr⟩:=p
 simp only at q C1 hs1 qb
 obtain⟨At,ct,rfl⟩:=hs1
 generalize beginT B.txns a c=R at *
 obtain⟨rl,rc⟩:=R
 clear h hG hgb hgc
 go_enter Tryz.func38,Tryz.ntmps38
 go_upto_region 1 with (fail)
 generalize w.alloc _=w1 at *
 obtain⟨lo,hlo⟩:∃ lo,Hid (lo=w.heap.size):=⟨_,Lib.hid rfl⟩
 generalize w.heap.size=ga at hb ⊢
 have qa:=hb.cells
 have q1:=fun W (k:K w1 W)=>q W (k1.tr k)
 have qb1:=fun W (k:K w1 W)=>qb W (k1.tr k)
 have qc1:=fun W (k:K w1 W)=>qc W (k1.tr k)
 clear q qb qc hb
 refine wp_region_auto 9 [([],[]),([0],[(6,0)]),([1],[(7,1)]),([2],[(8,2)]),([],[]),([],[]),([3,4,5],[(9,3),(10,4),(11,5)]),([6],[(12,6)]),([6],[(12,6)]),([0,1,2,3,4,5,6,7,8],[(13,7)]),([0,1,2,3,4,5,6,7,8,9],[(14,8)])] 15 rfl (by kernel_rfl) (by kernel_rfl) (by kernel_rfl) (by kernel_rfl) (by decide) ?_
 simp only[List.take_succ_cons,List.take_zero,List.drop_succ_cons,List.drop_zero]
 iterate 6 (apply AutoQ.is;intro V W kW hp;(try simp only[List.forall_mem_cons,List.nil_append,List.cons_append,tab_zero,tab_succ,isV] at hp);simp[wantsG,rhoP,List.lookup,hp,ResG,execOp,bareOp,isV,Below.refl,kW,q1,qa,qb1,qc1,go_sem];rfl)
 refine AutoQ.op (fun v W=>∃ v',v=.tuple #[v',.int .i64 rc]/\OwnL lo lo 121 txS rl v' W) (fun _ _ _ ⟨v',e,h⟩ k=>⟨v',e,h.st k⟩) (fun V W kW hp=>?_) ?_
 · (try simp only[List.forall_mem_cons,List.nil_append,List.cons_append,tab_zero,tab_succ,isV] at hp)
   simp[wantsG,rhoP,List.lookup,hp,ResG,execOp,bareOp,q1,qa,qb1,qc1,go_sem]
   refine (C1.out W (k1.tr kW)).mono ?_
   rintro e w4 ⟨v4,rfl,hO,k4⟩
   exact⟨_,rfl,⟨_,rfl,OwnL.low (OwnL.floor hO (by rw[hlo.out];exact (k1.tr kW).size)) (by rw[hlo.out];exact (k1.tr kW).size)⟩,k4⟩
 refine AutoQ.op (fun v W=>OwnL lo lo 121 txS rl v W) (fun _ _ _ h k=>h.st k) (fun V W kW hp=>?_) ?_
 · simp only[List.forall_mem_cons,List.nil_append,List.cons_append,tab_zero,tab_succ,isV] at hp
   obtain⟨⟨v',e,hO⟩,-⟩:=hp
   simp[wantsG,rhoP,List.lookup,e,ResG,execOp,bareOp,Below.refl,go_sem]
   exact hO
 refine AutoQ.is (.int .i64 rc) (fun V W kW hp=>?_) ?_
 · simp only[List.forall_mem_cons,List.nil_append,List.cons_append,tab_zero,tab_succ,isV] at hp
   obtain⟨⟨v',e,hO⟩,-⟩:=hp
   simp[wantsG,rhoP,List.lookup,e,ResG,execOp,bareOp,isV,Below.refl,go_sem]
 intro V W kW hA
 simp only[List.nil_append,List.cons_append,AllT,isV,Nat.reduceAdd] at hA
 obtain⟨e0,e1,e2,e3,e4,e5,⟨v',e6,hO1⟩,hO,e8,-⟩:=hA
 have kF:=k1.tr kW
 generalize hv7:V 7=v7 at *
 have hsl:=lst_slice hO.lst
 obtain⟨A7,c7,rfl⟩:=hsl
 apply TailQ.pure
 rfl
 simp[rhoP,List.lookup,updV,hv7,execOp,bareOp,go_sem]
 rfl
 apply TailQ.pure
 rfl
 simp[rhoP,List.lookup,updV,e8,execOp,bareOp,go_sem]
 rfl
 refine TailQ.nil ?_
 simp only[putAll,Act.put,List.setIfInBounds_toArray,List.set_cons_succ,List.set_cons_zero,Nat.reduceAdd,updV]
 have HO:=Lib.hid hO
 clear hO hO1 C1 q1 qa qb1 qc1 hv7 e0 e1 e2 e3 e4 e5 e6 e8
 go_wp2
 go_ret2
 exact⟨_,rfl,by rw[<- hlo.out];exact HO.out,kF⟩
theorem BSub1_calls {M:Nat->Prop} {p:BrW} {B:Brk} {w:World} (h:BrV M p B w) (hG:GoodB B) (c:Int) (hc:i64ok c) (n:Nat) (hn:n<18446744073709551616) (f:List Tst) (vf0:Value) (hf:flt f vf0 w) (hfit0:∀ t∈f,fitT t) (hfl:f.length<=1000000) (gb gc gn gf:Nat) (hgb:Blk w gb 28 #[.pointer (some ⟨p.g,0,none⟩)]) (hgc:Blk w gc 3 #[.int .i64 c]) (hgn:Blk w gn 33 #[.int .u64 (n:Int)]) (hgf:Blk w gf 40 #[vf0]) :
 Calls Tryz.prog 59 #[idv (newB B),.pointer (some ⟨gb,0,none⟩),.pointer (some ⟨gc,0,none⟩),.pointer (some ⟨gn,0,none⟩),.pointer (some ⟨gf,0,none⟩)] w fun e w'=>∃ v',e=.returned (.tuple #[v',.int .i64 (askT B.txns (subE B 2 c n f)).2])/\OwnL w.heap.size w.heap.size 121 txS (askT B.txns (subE B 2 c n f)).1 v' w'/\K w w':=by
 have hnew:=hG.new
 have hfit:fitEn (subE B 2 c n f):=⟨by simp[subE,i64ok],hnew.1,hc,hnew.2.1,hnew.2.2,hn,hfit0,by simp[subE]⟩
 have C1:=Lib.hid fun W (k:K w W)=>Ask_calls B.txns (subE B 2 c n f) p.vt (.agg (entA (subE B 2 c n f) vf0 (.slice none 0 0))) W (h.dat.at k).txns ⟨_,_,rfl,flt_st _ _ _ _ hf k,lst_nil _ _⟩ hfit (by simp[smallEn,subE];exact hfl) hG.tx.small hG.tx.len6
 have q:=h.q
 have qb:=hgb.cells
 have qc:=hgc.cells
 have qn:=hgn.cells
 have qf:=hgf.cells
 obtain⟨Af,cf,rfl⟩:=flt_slice hf
 have hs1:=lst_slice h.dat.now.txns
 simp only[subE] at C1
 have HN:Hid (newB B=(B.me,B.st.life,B.calls+1)):=Lib.hid rfl
 obtain⟨n1,hn1⟩:∃ n,n=B.calls+1:=⟨_,rfl⟩
 rw[<- hn1] at C1 HN
 rw[HN.out]
 generalize hR:askT B.txns (subE B 2 c n f)=R at *
 simp only[subE] at hR
 rw[<- hn1] at hR
 rw[hR] at C1
 clear hn1 hR HN
 have k1:K w (w.alloc (.cells #[.int .i64 B.me,.int .u64 (B.st.life:Int),.int .u64 (n1:Int)] 35)):=(K.rf w).al _
 have hb:=Blk.new w 35 #[.int .i64 B.me,.int .u64 (B.st.life:Int),.int .u64 (n1:Int)]
 obtain⟨g,gl,gd,gr,gt,vd,vr,vp,vh,vl,vq,va,vt,vf,vw,kr⟩:=p
 simp only at q C1 hs1 qb
 obtain⟨At,ct,rfl⟩:=hs1
 obtain⟨rl,rc⟩:=R
 clear h hG hgb hgc hgn hfit hgf hf hfit0
 go_enter Tryz.func59,Tryz.ntmps59
 go_upto_region 1 with (fail)
 generalize w.alloc _=w1 at *
 obtain⟨lo,hlo⟩:∃ lo,Hid (lo=w.heap.size):=⟨_,Lib.hid rfl⟩
 generalize w.heap.size=ga at hb ⊢
 have qa:=hb.cells
 have q1:=fun W (k:K w1 W)=>q W (k1.tr k)
 have qb1:=fun W (k:K w1 W)=>qb W (k1.tr k)
 have qc1:=fun W (k:K w1 W)=>qc W (k1.tr k)
 have qn1:=fun W (k:K w1 W)=>qn W (k1.tr k)
 have qf1:=fun W (k:K w1 W)=>qf W (k1.tr k)
 clear qf
 clear q qb qc qn hb
 refine wp_region_auto 12 [([],[]),([0],[(8,0)]),([1],[(9,1)]),([2],[(10,2)]),([],[]),([],[]),([],[]),([],[]),([4,5,6,7],[(12,4),(13,5),(14,6),(15,7)]),([3,8],[(11,3),(16,8)]),([9],[(17,9)]),([9],[(17,9)]),([0,1,2,3,4,5,6,7,8,9,10,11],[(18,10)]),([0,1,2,3,4,5,6,7,8,9,10,11,12],[(19,11)])] 20 rfl (by kernel_rfl) (by kernel_rfl) (by kernel_rfl) (by kernel_rfl) (by decide) ?_
 simp only[List.take_succ_cons,List.take_zero,List.drop_succ_cons,List.drop_zero]
 iterate 9 (apply AutoQ.is;intro V W kW hp;(try simp only[List.forall_mem_cons,List.nil_append,List.cons_append,tab_zero,tab_succ,isV] at hp);simp[wantsG,rhoP,List.lookup,hp,ResG,execOp,bareOp,isV,Below.refl,kW,q1,qa,qb1,qc1,qn1,qf1,go_sem];rfl)
 refine AutoQ.op (fun v W=>∃ v',v=.tuple #[v',.int .i64 rc]/\OwnL lo lo 121 txS rl v' W) (fun _ _ _ ⟨v',e,h⟩ k=>⟨v',e,h.st k⟩) (fun V W kW hp=>?_) ?_
 · (try simp only[List.forall_mem_cons,List.nil_append,List.cons_append,tab_zero,tab_succ,isV] at hp)
   simp[wantsG,rhoP,List.lookup,hp,ResG,execOp,bareOp,q1,qa,qb1,qc1,qn1,qf1,go_sem]
   refine (C1.out W (k1.tr kW)).mono ?_
   rintro e w4 ⟨v4,rfl,hO,k4⟩
   exact⟨_,rfl,⟨_,rfl,OwnL.low (OwnL.floor hO (by rw[hlo.out];exact (k1.tr kW).size)) (by rw[hlo.out];exact (k1.tr kW).size)⟩,k4⟩
 refine AutoQ.op (fun v W=>OwnL lo lo 121 txS rl v W) (fun _ _ _ h k=>h.st k) (fun V W kW hp=>?_) ?_
 · simp only[List.forall_mem_cons,List.nil_append,List.cons_append,tab_zero,tab_succ,isV] at hp
   obtain⟨⟨v',e,hO⟩,-⟩:=hp
   simp[wantsG,rhoP,List.lookup,e,ResG,execOp,bareOp,Below.refl,go_sem]
   exact hO
 refine AutoQ.is (.int .i64 rc) (fun V W kW hp=>?_) ?_
 · simp only[List.forall_mem_cons,List.nil_append,List.cons_append,tab_zero,tab_succ,isV] at hp
   obtain⟨⟨v',e,hO⟩,-⟩:=hp
   simp[wantsG,rhoP,List.lookup,e,ResG,execOp,bareOp,isV,Below.refl,go_sem]
 intro V W kW hA
 simp only[List.nil_append,List.cons_append,AllT,isV,Nat.reduceAdd] at hA
 obtain⟨e0,e1,e2,e3,e4,e5,e6,e7,e8,⟨v',ev,hO1⟩,hO,ec,-⟩:=hA
 have kF:=k1.tr kW
 generalize hv7:V 10=v7 at *
 have hsl:=lst_slice hO.lst
 obtain⟨A7,c7,rfl⟩:=hsl
 apply TailQ.pure
 rfl
 simp[rhoP,List.lookup,updV,hv7,execOp,bareOp,go_sem]
 rfl
 apply TailQ.pure
 rfl
 simp[rhoP,List.lookup,updV,ec,execOp,bareOp,go_sem]
 rfl
 refine TailQ.nil ?_
 simp only[putAll,Act.put,List.setIfInBounds_toArray,List.set_cons_succ,List.set_cons_zero,Nat.reduceAdd,updV]
 have HO:=Lib.hid hO
 clear hO hO1 C1 q1 qa qb1 qc1 qn1 qf1 hv7 e0 e1 e2 e3 e4 e5 e6 e7 e8 ev ec
 go_wp2
 go_ret2
 exact⟨_,rfl,by rw[<- hlo.out];exact HO.out,kF⟩
section
variable {M:Nat->Prop} {p:BrW} {B B':Brk} {w w1 w2 w3:World} {g9:Nat}
theorem BrV.scr (h:BrV M p B w) (k:K w w1) (h1:w.heap.size<=g9) (h2:g9<w1.heap.size):BrV (fun k=>M k∨k=g9) p B w1 :=
 h.far (X:=fun _=>False) (UpN.of_k k _) (fun _ h=>h.elim) (fun _ h=>h.elim) (fun k hk hx=>hx.resolve_right (by omega)) (fun k hk=>.inl (h.sub k hk)) fun b hb=>hb.elim (fun h3=>Nat.lt_of_lt_of_le (h.low b h3) k.size) fun e=>e ▸ h2
theorem BrN.scratch (h:BrN (fun k=>M k∨k=g9) p B' w1 w2) (u:UpN (fun k=>k=g9) w2 w3) (k:K w w1) (h1:w.heap.size<=g9) (h2:g9<w1.heap.size) (hX:∀ k,BrX p k->k<w.heap.size) (hM:∀ k,M k->k<w.heap.size):BrN M p B' w w3:=by
 obtain⟨p',hB,hu,hg,hn⟩:=h
 have hno:¬ BrX p' g9:=fun hx=>(hn g9 hx).elim (fun h=>by have:=hX g9 h;omega) fun h=>by omega
 have hz1:=k.size
 have hz2:=hu.size
 have hz3:=u.size
 refine⟨p',hB.far u (fun k hk=>.inl (.inr hk)) (fun k hk hx=>hno (hk ▸ hx)) (fun k _ hx=>hx.imp .inl id) (fun k hk=>.inr hk) (fun k hk=>hk.elim (fun h=>by have:=hM k h;omega) fun h=>Nat.lt_of_lt_of_le (hB.low k (.inr h)) hz3),((UpN.of_k k _).tr hu).tr2 u fun k hk e=>by omega,hg,fun k hk=>(hn k hk).imp id fun h=>by omega⟩
theorem BrN.keeps {t:TypeId} {cs:Array Value} (h:BrN M p B' w1 w2) (hb:Blk w1 g9 t cs) (hg:¬ BrX p g9):Blk w2 g9 t cs:=by
 obtain⟨p',hB,hu,-⟩:=h
 exact hb.upn hu hg
end
theorem BBegin_calls {M:Nat->Prop} {p:BrW} {B:Brk} {w:World} (h:BrV M p B w) (hG:GoodB B) (c:Int) (hc:i64ok c) :
 Calls Tryz.prog 12 #[.pointer (some ⟨p.g,0,none⟩),.int .i64 c] w fun e w'=>e=.returned (.tuple #[idv (beginB B c).2.1,.int .i64 (beginB B c).2.2])/\BrN M p (beginB B c).1 w w':=by
 have HX:=Lib.hid fun k hk=>h.low k (h.sub k hk)
 have HM:=Lib.hid h.low
 have hb1:=((Blk.new w 28 #[.pointer (some ⟨p.g,0,none⟩)]).alloc (.cells #[.int .i64 c] 3)).alloc (.cells #[.int .i64 0,.int .u64 0,.int .u64 0] 35)
 have hb2:=(Blk.new (w.alloc (.cells #[.pointer (some ⟨p.g,0,none⟩)] 28)) 3 #[.int .i64 c]).alloc (.cells #[.int .i64 0,.int .u64 0,.int .u64 0] 35)
 have hr:=Blk.new ((w.alloc (.cells #[.pointer (some ⟨p.g,0,none⟩)] 28)).alloc (.cells #[.int .i64 c] 3)) 35 #[.int .i64 0,.int .u64 0,.int .u64 0]
 have k1:K w (((w.alloc (.cells #[.pointer (some ⟨p.g,0,none⟩)] 28)).alloc (.cells #[.int .i64 c] 3)).alloc (.cells #[.int .i64 0,.int .u64 0,.int .u64 0] 35)):=(((K.rf w).al _).al _).al _
 simp only[World.size_alloc] at hb2 hr
 generalize hg9:w.heap.size+1+1=g9 at hr
 have h9:w.heap.size<=g9:=by omega
 have H9:=h.scr k1 h9 hr.lt
 have C1:=Lib.hid (BCall_calls H9 hG c 38 #[.pointer (some ⟨w.heap.size,0,none⟩),.pointer (some ⟨w.heap.size+1,0,none⟩)] (beginT B.txns (newB B) c) (fun args W=>by rfl) (fun W kW=>BBegin1_calls (H9.st kW) hG c hc _ _ (hb1.below kW hb1.lt) (hb2.below kW hb2.lt)))
 have HMD:Hid (beginB B c=callB B c (beginT B.txns (newB B) c)):=Lib.hid rfl
 generalize beginB B c=R at *
 generalize callB B c (beginT B.txns (newB B) c)=RR at *
 obtain⟨B',nid,ec⟩:=RR
 have HS:=Lib.hid fun w2 w3 (hN:BrN (fun k=>M k∨k=g9) p B' _ w2) (u:UpN (fun k=>k=g9) w2 w3)=>hN.scratch u k1 h9 hr.lt HX.out HM.out
 have HR:=Lib.hid fun w2 (hN:BrN (fun k=>M k∨k=g9) p B' _ w2)=>hN.keeps hr fun hx=>by have:=HX.out _ hx;omega
 have q1:=hb1.cell
 have q2:=hb2.cell
 have HG9:=Lib.hid hg9
 clear h hG hr H9 hc h9 hb1 hb2
 go_enter Tryz.func12,Tryz.ntmps12
 go_upto_region 1 with (fail)
 generalize World.alloc (World.alloc (World.alloc w _) _) _=w1 at *
 clear hg9
 go_wp2_with fail
 refine C1.out.mono ?_
 rintro e w2 ⟨rfl,hN⟩
 have hr2:=HR.out _ hN
 have HS2:=Lib.hid (HS.out _ · hN)
 have qr:=hr2.cell
 have zr:=hr2.frozen
 clear C1 HS HR hN q1 q2
 go_wp2
 have hr91:Blk (World.setCell (World.setCell (World.setCell w2 _ _) _ _) _ _) g9 35 #[.int .i64 nid.1,.int .u64 (nid.2.1:Int),.int .u64 (nid.2.2:Int)]:=((hr2.set_ 0 (.int .i64 nid.1)).set_ 1 (.int .u64 (nid.2.1:Int))).set_ 2 (.int .u64 (nid.2.2:Int))
 have HF:=Lib.hid (HS2.out _ (((UpN.set1 (X:=fun k=>k=g9) rfl 0 (.int .i64 nid.1)).tr (UpN.set1 (X:=fun k=>k=g9) rfl 1 (.int .u64 (nid.2.1:Int)))).tr (UpN.set1 (X:=fun k=>k=g9) rfl 2 (.int .u64 (nid.2.2:Int)))))
 clear qr zr hr2 HS2
 generalize World.setCell (World.setCell (World.setCell w2 _ _) _ _) _ _=W9 at *
 have e9:=hr91.cell
 try rw[Exit.noGoto_ret]
 refine bodyPost_ret (v:=.tuple #[idv nid,.int .i64 ec]) (by simp[results,Tryz.results12,go_sem,e9]) rfl ?_
 exact⟨by rw[HMD.out],by rw[HMD.out];exact HF.out⟩
theorem BSub_calls {M:Nat->Prop} {p:BrW} {B:Brk} {w:World} (h:BrV M p B w) (hG:GoodB B) (c:Int) (hc:i64ok c) (n:Nat) (hn:n<18446744073709551616) (f:List Tst) (vf0:Value) (hf:flt f vf0 w) (hfit0:∀ t∈f,fitT t) (hfl:f.length<=1000000) :
 Calls Tryz.prog 23 #[.pointer (some ⟨p.g,0,none⟩),.int .i64 c,.int .u64 (n:Int),vf0] w fun e w'=>e=.returned (.tuple #[idv (subB B c n f).2.1,.int .i64 (subB B c n f).2.2])/\BrN M p (subB B c n f).1 w w':=by
 obtain⟨Af,cf,e0⟩:=flt_slice hf
 subst e0
 have HX:=Lib.hid fun k hk=>h.low k (h.sub k hk)
 have HM:=Lib.hid h.low
 have hb1:=(((((Blk.new w 28 #[.pointer (some ⟨p.g,0,none⟩)]).alloc (.cells #[.int .i64 c] 3)).alloc (.cells #[.int .u64 (n:Int)] 33)).alloc (.cells #[(Value.slice Af f.length cf)] 40)).alloc (.cells #[.int .i64 0,.int .u64 0,.int .u64 0] 35))
 have hb2:=((((Blk.new (w.alloc (.cells #[.pointer (some ⟨p.g,0,none⟩)] 28)) 3 #[.int .i64 c]).alloc (.cells #[.int .u64 (n:Int)] 33)).alloc (.cells #[(Value.slice Af f.length cf)] 40)).alloc (.cells #[.int .i64 0,.int .u64 0,.int .u64 0] 35))
 have hb3:=(((Blk.new ((w.alloc (.cells #[.pointer (some ⟨p.g,0,none⟩)] 28)).alloc (.cells #[.int .i64 c] 3)) 33 #[.int .u64 (n:Int)]).alloc (.cells #[(Value.slice Af f.length cf)] 40)).alloc (.cells #[.int .i64 0,.int .u64 0,.int .u64 0] 35))
 have hb4:=((Blk.new (((w.alloc (.cells #[.pointer (some ⟨p.g,0,none⟩)] 28)).alloc (.cells #[.int .i64 c] 3)).alloc (.cells #[.int .u64 (n:Int)] 33)) 40 #[(Value.slice Af f.length cf)]).alloc (.cells #[.int .i64 0,.int .u64 0,.int .u64 0] 35))
 have hr:=Blk.new ((((w.alloc (.cells #[.pointer (some ⟨p.g,0,none⟩)] 28)).alloc (.cells #[.int .i64 c] 3)).alloc (.cells #[.int .u64 (n:Int)] 33)).alloc (.cells #[(Value.slice Af f.length cf)] 40)) 35 #[.int .i64 0,.int .u64 0,.int .u64 0]
 have k1:K w (((((w.alloc (.cells #[.pointer (some ⟨p.g,0,none⟩)] 28)).alloc (.cells #[.int .i64 c] 3)).alloc (.cells #[.int .u64 (n:Int)] 33)).alloc (.cells #[(Value.slice Af f.length cf)] 40)).alloc (.cells #[.int .i64 0,.int .u64 0,.int .u64 0] 35)):=((((((K.rf w).al _).al _).al _).al _).al _)
 simp only[World.size_alloc] at hb2 hb3 hb4 hr
 generalize hg9:w.heap.size+1+1+1+1=g9 at hr
 have h9:w.heap.size<=g9:=by omega
 have H9:=h.scr k1 h9 hr.lt
 have C1:=Lib.hid (BCall_calls H9 hG c 59 #[.pointer (some ⟨w.heap.size,0,none⟩),.pointer (some ⟨w.heap.size+1,0,none⟩),.pointer (some ⟨w.heap.size+1+1,0,none⟩),.pointer (some ⟨w.heap.size+1+1+1,0,none⟩)] (askT B.txns (subE B 2 c n f)) (fun args W=>by rfl) (fun W kW=>BSub1_calls (H9.st kW) hG c hc n hn f (Value.slice Af f.length cf) (flt_st _ _ _ _ hf (k1.tr kW)) hfit0 hfl _ _ _ _ (hb1.below kW hb1.lt) (hb2.below kW hb2.lt) (hb3.below kW hb3.lt) (hb4.below kW hb4.lt)))
 have HMD:Hid (subB B c n f=callB B c (askT B.txns (subE B 2 c n f))):=Lib.hid rfl
 generalize subB B c n f=R at *
 generalize callB B c (askT B.txns (subE B 2 c n f))=RR at *
 obtain⟨B',nid,ec⟩:=RR
 have HS:=Lib.hid fun w2 w3 (hN:BrN (fun k=>M k∨k=g9) p B' _ w2) (u:UpN (fun k=>k=g9) w2 w3)=>hN.scratch u k1 h9 hr.lt HX.out HM.out
 have HR:=Lib.hid fun w2 (hN:BrN (fun k=>M k∨k=g9) p B' _ w2)=>hN.keeps hr fun hx=>by have:=HX.out _ hx;omega
 have q1:=hb1.cell
 have q2:=hb2.cell
 have q3:=hb3.cell
 have q4:=hb4.cell
 have HG9:=Lib.hid hg9
 clear h hG hr H9 hc h9 hf hfit0 hb1 hb2 hb3 hb4
 go_enter Tryz.func23,Tryz.ntmps23
 go_upto_region 1 with (fail)
 generalize World.alloc (World.alloc (World.alloc (World.alloc (World.alloc w _) _) _) _) _=w1 at *
 clear hg9
 go_wp2_with fail
 refine C1.out.mono ?_
 rintro e w2 ⟨rfl,hN⟩
 have hr2:=HR.out _ hN
 have HS2:=Lib.hid (HS.out _ · hN)
 have qr:=hr2.cell
 have zr:=hr2.frozen
 clear C1 HS HR hN q1 q2 q3 q4
 go_wp2
 have hr91:Blk (World.setCell (World.setCell (World.setCell w2 _ _) _ _) _ _) g9 35 #[.int .i64 nid.1,.int .u64 (nid.2.1:Int),.int .u64 (nid.2.2:Int)]:=((hr2.set_ 0 (.int .i64 nid.1)).set_ 1 (.int .u64 (nid.2.1:Int))).set_ 2 (.int .u64 (nid.2.2:Int))
 have HF:=Lib.hid (HS2.out _ (((UpN.set1 (X:=fun k=>k=g9) rfl 0 (.int .i64 nid.1)).tr (UpN.set1 (X:=fun k=>k=g9) rfl 1 (.int .u64 (nid.2.1:Int)))).tr (UpN.set1 (X:=fun k=>k=g9) rfl 2 (.int .u64 (nid.2.2:Int)))))
 clear qr zr hr2 HS2
 generalize World.setCell (World.setCell (World.setCell w2 _ _) _ _) _ _=W9 at *
 have e9:=hr91.cell
 try rw[Exit.noGoto_ret]
 refine bodyPost_ret (v:=.tuple #[idv nid,.int .i64 ec]) (by simp[results,Tryz.results23,go_sem,e9]) rfl ?_
 exact⟨by rw[HMD.out],by rw[HMD.out];exact HF.out⟩
