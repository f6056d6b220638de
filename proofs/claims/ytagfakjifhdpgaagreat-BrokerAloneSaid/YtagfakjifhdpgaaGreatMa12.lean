/-
  The walk of the closure of fold.on that lays a promise (layer 16). Conditions: lists of at most a million.
-/
import Derived.Test.YtagfakjifhdpgaaGreatMa11
import Derived.Maps.OwnSet
import Derived.Carry
set_option maxRecDepth 100000
set_option maxHeartbeats 16000000
set_option linter.unusedVariables false
set_option linter.unusedSimpArgs false
namespace Go.Proofs.YtagfakjifhdpgaaGreat
open Go Go.RowKit
theorem On3_calls {base g gs gr:Nat} {s:Stt} {r:Rec} {vl vp va vf ve:Value} {c1 c2:List (List Value)} (w:World) (h:OnV base g gs gr s r vl vp va vf ve c1 c2 w) :
 Calls Tryz.prog 222 #[.pointer (some ⟨gr,0,none⟩),.pointer (some ⟨gs,0,none⟩)] w fun e w'=>OnPost base g s (on3 s r) w e w':=by
 have HR:Hid (on3 s r=if hasE s.list (idE r.e) then none else if hasE s.prom (idE r.e) then none else if hasI s.ab (idE r.e) then none else some ⟨s.life,s.list,s.prom++[r.e],s.ab⟩):=Lib.hid rfl
 generalize on3 s r=R at *
 have H:=Lib.hid h
 have hns:=h.ns.2.1
 have hnr:=h.ns.2.2.2.2.1
 have hsz:=h.sz
 have hsm:=h.sm
 have C1:=Lib.hid fun W (kW:K w W)=>Has_calls s (idE r.e) _ W (H.out.st.st kW).stv (by omega)
 have C2:=Lib.hid fun W (kW:K w W)=>Promised_calls s (idE r.e) _ W (H.out.st.st kW).stv (by omega)
 have C3:=Lib.hid fun W (kW:K w W)=>Aborted_calls s (idE r.e) _ W (H.out.st.st kW).stv (by omega)
 generalize hasE s.list (idE r.e)=B1 at *
 generalize hasE s.prom (idE r.e)=B2 at *
 generalize hasI s.ab (idE r.e)=B3 at *
 have hx0:=Blk.new w 35 #[.int .i64 r.e.br,.int .u64 (r.e.life:Int),.int .u64 (r.e.ser:Int)]
 have k1:K w (w.alloc (.cells #[.int .i64 r.e.br,.int .u64 (r.e.life:Int),.int .u64 (r.e.ser:Int)] 35)):=(K.rf w).al _
 have q2:=h.br.cell
 clear h
 go_enter Tryz.func222,Tryz.ntmps222
 go_upto_region 2 with (fail)
 generalize w.alloc _=w1 at *
 generalize hgi:w.heap.size=gi at hx0 ⊢
 have qx:=hx0.cells
 have hs1:=H.out.st.st k1
 have bs0:=H.out.bs.below k1 H.out.bs.lt
 have br0:=H.out.br.below k1 H.out.br.lt
 have qg:=hs1.blk.cells
 have qs:=bs0.cells
 have qr:=br0.cells
 have kk:=K.rf w1
 clear q2
 refine wp_region_K [isV (.pointer (some ⟨g,0,none⟩)),
  isV (.pointer (some ⟨g,0,none⟩)),
  isV (.agg (stA s vl vp va)),
  isV (idv (idE r.e)),
  isV (.bool B1),
  isV (.bool B1),
  isV (cond (!B1) (.pointer (some ⟨g,0,none⟩)) undef),
  isV (cond (!B1) (.pointer (some ⟨g,0,none⟩)) undef),
  isV (cond (!B1) (.agg (stA s vl vp va)) undef),
  isV (cond (!B1) (idv (idE r.e)) undef),
  isV (cond (!B1) (.bool B2) undef),
  isV (.bool (B1||B2)),
  isV (.bool (B1||B2)),
  isV (cond (!(B1||B2)) (.pointer (some ⟨g,0,none⟩)) undef),
  isV (cond (!(B1||B2)) (.pointer (some ⟨g,0,none⟩)) undef),
  isV (cond (!(B1||B2)) (.agg (stA s vl vp va)) undef),
  isV (cond (!(B1||B2)) (idv (idE r.e)) undef),
  isV (cond (!(B1||B2)) (.bool B3) undef),
  isV (.bool ((B1||B2)||B3))]
  [([],[]),([0],[(7,0)]),([1],[(8,1)]),([],[]),([2,3],[(9,2),(10,3)]),([4],[(11,4)]),([5],[]),([6,5],[(13,6)]),([7,5],[(14,7)]),([5],[]),([8,9,5],[(15,8),(16,9)]),([5,10],[(12,5),(17,10)]),([11],[(18,11)]),([12],[]),([13,12],[(20,13)]),([14,12],[(21,14)]),([12],[]),([15,16,12],[(22,15),(23,16)]),([12,17],[(19,12),(24,17)])] 38 rfl (by kernel_rfl) (by kernel_rfl) (by kernel_rfl) ?st2 ?ow2 ?_
 case st2 =>
  simp only[List.forall_mem_cons]
  and_intros
  all_goals first|exact isV_st _|exact sl_st _|exact anyV_st|simp
 case ow2 =>
  simp only[OwedQ]
  and_intros
  all_goals try trivial
  all_goals
   intro V W kW hp
   have kwW:=k1.tr kW
   cases B1 <;> cases B2
   all_goals
    try simp only[List.forall_mem_cons,tab_zero,tab_succ,isV] at hp
    try simp[wantsG,rhoP,List.lookup,hp,tab_zero,tab_succ,ResG,execOp,bareOp,isV,Below.refl,kW,qg,qs,qx,go_sem]
  all_goals first|exact⟨rfl,rfl,rfl⟩|(refine (C1.out W kwW).mono ?_;rintro e w2 ⟨rfl,k⟩;exact⟨_,rfl,rfl,k⟩)|(refine (C2.out W kwW).mono ?_;rintro e w2 ⟨rfl,k⟩;exact⟨_,rfl,rfl,k⟩)|(refine (C3.out W kwW).mono ?_;rintro e w2 ⟨rfl,k⟩;exact⟨_,rfl,rfl,k⟩)
 intro V W kW hp
 have h9:=hp 18 (by simp)
 simp only[tab_zero,tab_succ,isV] at h9
 clear hp
 simp only[putAll,Act.put,List.setIfInBounds_toArray,List.set_cons_succ,List.set_cons_zero,h9]
 have kwW:=k1.tr kW
 have H1:=Lib.hid (H.out.st.st kwW)
 have kb:Below base w W:=kwW.mono H.out.low
 have bs1:=bs0.below kW bs0.lt
 have br1:=br0.below kW br0.lt
 have hx1:=hx0.below kW hx0.lt
 have hlow:base<=W.heap.size:=Nat.le_trans H.out.low kwW.size
 have HE1:=Lib.hid fun W' (u:UpN (fun k=>k=g∨vl.ownBlock=some k∨vp.ownBlock=some k∨va.ownBlock=some k) W W')=>H.out.en W' ((UpN.of_k kwW _).tr u)
 have hgi1:gi<W.heap.size:=Nat.lt_of_lt_of_le hx0.lt kW.size
 clear qg qs qr qx h9 C1 C2 C3 hs1 bs0 br0 hx0
 by_cases hany:((B1||B2)||B3)=true
 · rw[hany]
   have HQ:Hid (R=none):=Lib.hid (by rw[HR.out];revert hany;cases B1 <;> cases B2 <;> cases B3 <;> simp)
   clear hany
   go_wp2
   go_ret
   exact⟨by rw[HQ.out];rfl,by rw[HQ.out];exact⟨_,_,_,_,_,H1.out⟩,kb⟩
 have hany2:((B1||B2)||B3)=false:=by simpa using hany
 rw[hany2]
 have hall:B1=false/\B2=false/\B3=false:=by revert hany2;cases B1 <;> cases B2 <;> cases B3 <;> simp
 clear hany hany2
 obtain⟨rfl,rfl,rfl⟩:=hall
 have HQ:Hid (R=some ⟨s.life,s.list,s.prom++[r.e],s.ab⟩):=Lib.hid (by rw[HR.out];rfl)
 generalize W=w1 at *
 have q1:=bs1.cell
 have q2:=br1.cell
 have q3:=H1.out.blk.cell
 go_upto_region 4 with (fail)
 clear q1 q2 q3
 obtain⟨C,hC⟩:∃ C:World->Prop,C=fun W=>UpB 0 vp.ownBlock w1 W:=⟨_,rfl⟩
 have hg:∀ W W',C W->Below W.heap.size W W'->C W':=by
  subst hC
  intro W W' h hb
  exact h.tr (UpB.of_k hb _ _)
 have hc0:C w1:=by rw[hC];exact UpB.rf _ _ _
 obtain⟨F,hF⟩:∃ F:World->Prop,F=fun W=>Sto base g ⟨s.life,s.list,s.prom++[r.e],s.ab⟩ W/\Below base w1 W/\UpN (fun k=>vp.ownBlock=some k∨k=g) w1 W:=⟨_,rfl⟩
 have hrow:∀ b,vp.ownBlock=some b->b<w1.heap.size:=fun b hb=>(H1.out.rowp hb).2.1
 refine wp_region_turn3 9 12 C (fun W=>W.ownsRow base 42 8 vp s.prom.length c2.flatten) (fun _=>True) (fun W W'=>W.grownBy W' vp.ownBlock) F [isV (.pointer (some ⟨g,0,none⟩)),
  isV (.pointer (some ⟨g,0,none⟩)),
  isV (.pointer (some ⟨g,0,none⟩)),
  isV (.pointer (some ⟨g,2,none⟩)),
  isV (vp),
  isV (.pointer (some ⟨gr,2,none⟩)),
  isV (.agg (entA r.e vf ve)),
  elF enS w1.heap.size r.e,
  rowS enS w1.heap.size 42 r.e,
  appS enS base w1.heap.size 42 vp.ownBlock s.prom.length c2.flatten r.e,
  isV (.pointer (some ⟨g,0,none⟩)),
  isV (.pointer (some ⟨g,2,none⟩)),
  anyV]
  [([],[]),([],[]),([1],[(27,1)]),([2],[(28,2)]),([3],[(29,3)]),([],[]),([5],[(31,5)]),([6],[(32,6)]),([7],[(33,7)]),([4,8],[(30,4),(34,8)]),([0],[(26,0)]),([10],[(36,10)]),([11,9],[(37,11),(35,9)])] 38 rfl (by kernel_rfl) (by kernel_rfl) (by kernel_rfl) (by decide) (by decide) (by decide) (by kernel_rfl) hg (fun W W' h k=>row_below h k) (fun _ _ h _=>h) (by exact hg _ _ hc0 (Below.drew (Below.refl _ _))) (row_below H1.out.p (Below.drew (Below.refl _ _))) ?st4 ?stt4 ?ow4 ?_
 case st4 =>
  simp only[List.forall_mem_cons]
  and_intros
  all_goals first|exact isV_st _|exact anyV_st|exact elF_st _ _|exact rowS_st _ _ _|exact appS_st _ _ _ _ _ _ _|simp
 case stt4 =>
  simp only[List.zipIdx_cons,List.zipIdx_nil,List.forall_mem_cons,Nat.zero_add,Nat.reduceAdd]
  and_intros
  all_goals first|exact .inl rfl|exact .inr (fun _ _ _ h _=>h)|exact .inr (elF_row hrow)|exact .inr (rowS_row hrow)|simp
 case ow4 =>
  simp only[OwedY,OwedT]
  and_intros
  all_goals try trivial
  all_goals
   simp only[Nat.reduceEqDiff,if_false,Nat.reduceAdd]
  all_goals
   first
   | (intro V w' hc hD hp
      simp only[List.forall_mem_cons,tab_zero,tab_succ,isV] at hp
      rw[hC] at hc)
   | (intro V w' hc hp
      rw[hC] at hc
      have qg:=(H1.out.blk.upB hc (fun e=>(H1.out.rowp e).2.2.1 rfl)).cell
      have qs:=(bs1.upB hc (fun e=>hns e)).cell
      have qr:=(br1.upB hc (fun e=>hnr e)).cell
      try simp only[List.forall_mem_cons,tab_zero,tab_succ,isV] at hp
      try (simp[wantsG,rhoP,List.lookup,hp,tab_zero,tab_succ,ResG,execOp,bareOp,isV,undef,Below.refl,qg,qs,qr,go_sem];done))
   | skip
  · simp only[if_pos (show wantsG V none=true from rfl)]
    simp[rhoP,List.lookup,hp,tab_zero,tab_succ,ResG,execOp,bareOp,go_sem]
    refine (Whole_calls r.e _ w' (HE1.out w' (hc.upN (fun k hk=>hk.elim (fun h=>by omega) (fun h=>.inr (.inr (.inl h.symm)))))) hsm).mono ?_
    rintro e w2 ⟨v,rfl,ho,hb⟩
    exact⟨v,rfl,elF_of_entO (by have:=hc.size;omega) ho,hb⟩
  · obtain⟨hp7,-⟩:=hp
    obtain⟨vf7,ve7,e7⟩:=elF_agg hp7
    have hF7:=hp7.2.2
    rw[e7] at hF7
    simp[e7,wantsG,rhoP,List.lookup,tab_zero,tab_succ,ResG,execOp,bareOp,undef,go_sem]
    exact⟨⟨w'.heap.size,_,rfl,by have:=hc.size;omega,Blk.new _ _ _,rfl,fun W' u=>hF7 W' ((UpB.of_k ((K.rf w').al _) _ _).tr u)⟩,(K.rf w').al _⟩
  · obtain⟨h1,h4,-⟩:=hp
    obtain⟨v',w'',hrun,h7,h5,h3⟩:=exec_appS (P:=Tryz.prog) (S:=enS) (ρ:=rhoP [(30,4),(34,8)] _ V) (.tmp 30) (.tmp 34) 32 32 42 base _ 96 s.prom.length c2.flatten TEn vp h1 hD w1.heap.size (by first|exact H1.out.2|omega) hrow (by have:=hc.size;omega) r.e _ rfl h4 (by omega)
    rw[hrun]
    refine⟨h7,?_,trivial,h3⟩
    rw[hC]
    exact hc.tr (UpB.of_mut h3 0)
  · obtain⟨h6,h9,-⟩:=hp
    have hb9:=H1.out.blk.upB hc (fun e=>(H1.out.rowp e).2.2.1 rfl)
    have z:=hb9.frozen
    have q:=hb9.cell
    have hpu:=H1.out.pushP (by omega) hc h9
    obtain⟨A9,n9,c9,e9⟩:=appS_slice h9
    generalize hA:rhoP [(37,11),(35,9)] _ V=ρ9
    have es4:ρ9 (.tmp 37)=.pointer (some ⟨g,2,none⟩):=by rw[<- hA];exact h6
    have ex4:ρ9 (.tmp 35)=V 9:=by rw[<- hA];rfl
    rw[e9] at ex4 hpu
    have hs7:(execOp ρ9 (bareOp (.store 32 (.tmp 37) (.tmp 35)) 0)).run Tryz.prog w'=.ok .skip (w'.setCell ⟨g,2,none⟩ (.slice A9 n9 c9)):=by
     simp[es4,ex4,execOp,bareOp,q,z,go_sem]
    rw[hs7]
    show F _
    rw[hF]
    exact⟨hpu,(below_upB hc (by omega) (fun b hb=>(H1.out.rowp hb).1)).setCell H1.out.low _,grow_upn hc (UpN.rf (fun _=>False) _) (fun k _ e=>e.elim (fun e=>.inr e) (fun e=>e.elim (fun e=>.inl e.symm) False.elim))⟩
 intro V W hFW
 rw[hF] at hFW
 obtain⟨HSF,kbF,unF⟩:=hFW
 have HSF:=Lib.hid HSF
 clear hC hg hc0 hF hrow
 simp only[putAll,Act.put,List.setIfInBounds_toArray,List.set_cons_succ,List.set_cons_zero]
 go_wp2
 go_ret
 exact⟨by rw[HQ.out];rfl,by rw[HQ.out];exact HSF.out,kb.trans kbF⟩
theorem On2_calls {base g gs gr:Nat} {s:Stt} {r:Rec} {vl vp va vf ve:Value} {c1 c2:List (List Value)} (w:World) (h:OnV base g gs gr s r vl vp va vf ve c1 c2 w) :
 Calls Tryz.prog 219 #[.pointer (some ⟨gr,0,none⟩),.pointer (some ⟨gs,0,none⟩)] w fun e w'=>OnPost base g s (on2 s r) w e w':=by
 obtain⟨Al,cl,rfl⟩:=lst_slice (lst_of_own (S:=enS) h.st.l (h.st.el w (UpN.rf _ _)).1)
 have HR:Hid (on2 s r=if ¬ r.n=s.list.length then none else if hasE s.list (idE r.e) then none else if hasI s.ab (idE r.e) then none else some ⟨s.life,s.list++[r.e],dropE s.prom (idE r.e),s.ab⟩):=Lib.hid rfl
 generalize on2 s r=R at *
 have H:=Lib.hid h
 have hns:=h.ns.1
 have hnr:=h.ns.2.2.2.1
 have hsz:=h.sz
 have hsm:=h.sm
 have C1:=Lib.hid fun W (kW:K w W)=>Has_calls s (idE r.e) _ W (H.out.st.st kW).stv (by omega)
 have C3:=Lib.hid fun W (kW:K w W)=>Aborted_calls s (idE r.e) _ W (H.out.st.st kW).stv (by omega)
 generalize hasE s.list (idE r.e)=B1 at *
 generalize hasI s.ab (idE r.e)=B3 at *
 have hwr:IntKind.u64.wrap (s.list.length:Int)=(s.list.length:Int):=by simp only[IntKind.wrap,show (2:Int) ^ IntKind.u64.bits=18446744073709551616 from rfl];rw[Int.emod_eq_of_lt (by omega) (by omega)];simp[show IntKind.u64.signed=false from rfl]
 obtain⟨B0,hB0⟩:∃ b,decide (¬ r.n=s.list.length)=b:=⟨_,rfl⟩
 have HR:=Lib.hid (show R=if B0=true then none else if B1=true then none else if B3=true then none else some ⟨s.life,s.list++[r.e],dropE s.prom (idE r.e),s.ab⟩ by rw[HR.out,<- hB0];simp)
 have hx0:=Blk.new w 35 #[.int .i64 r.e.br,.int .u64 (r.e.life:Int),.int .u64 (r.e.ser:Int)]
 have k1:K w (w.alloc (.cells #[.int .i64 r.e.br,.int .u64 (r.e.life:Int),.int .u64 (r.e.ser:Int)] 35)):=(K.rf w).al _
 have q2:=h.br.cell
 clear h
 go_enter Tryz.func219,Tryz.ntmps219
 go_upto_region 2 with (fail)
 generalize w.alloc _=w1 at *
 generalize hgi:w.heap.size=gi at hx0 ⊢
 have qx:=hx0.cells
 have hs1:=H.out.st.st k1
 have bs0:=H.out.bs.below k1 H.out.bs.lt
 have br0:=H.out.br.below k1 H.out.br.lt
 have qg:=hs1.blk.cells
 have qs:=bs0.cells
 have qr:=br0.cells
 have kk:=K.rf w1
 clear q2
 refine wp_region_K [isV (.pointer (some ⟨gr,1,none⟩)),
  isV (.int .u64 (r.n:Int)),
  isV (.pointer (some ⟨g,0,none⟩)),
  isV (.pointer (some ⟨g,0,none⟩)),
  isV (.pointer (some ⟨g,1,none⟩)),
  isV (.slice Al s.list.length cl),
  isV (.int .i64 ((s.list.length:Int))),
  isV (.int .u64 (s.list.length:Int)),
  isV (.bool B0),
  isV (.bool B0),
  isV (cond (!B0) (.pointer (some ⟨g,0,none⟩)) undef),
  isV (cond (!B0) (.pointer (some ⟨g,0,none⟩)) undef),
  isV (cond (!B0) (.agg (stA s (.slice Al s.list.length cl) vp va)) undef),
  isV (cond (!B0) (idv (idE r.e)) undef),
  isV (cond (!B0) (.bool B1) undef),
  isV (.bool (B0||B1)),
  isV (.bool (B0||B1)),
  isV (cond (!(B0||B1)) (.pointer (some ⟨g,0,none⟩)) undef),
  isV (cond (!(B0||B1)) (.pointer (some ⟨g,0,none⟩)) undef),
  isV (cond (!(B0||B1)) (.agg (stA s (.slice Al s.list.length cl) vp va)) undef),
  isV (cond (!(B0||B1)) (idv (idE r.e)) undef),
  isV (cond (!(B0||B1)) (.bool B3) undef),
  isV (.bool ((B0||B1)||B3))]
  [([],[]),([0],[(7,0)]),([],[]),([2],[(9,2)]),([3],[(10,3)]),([4],[(11,4)]),([5],[(12,5)]),([6],[(13,6)]),([1,7],[(8,1),(14,7)]),([8],[(15,8)]),([9],[]),([10,9],[(17,10)]),([11,9],[(18,11)]),([9],[]),([12,13,9],[(19,12),(20,13)]),([9,14],[(16,9),(21,14)]),([15],[(22,15)]),([16],[]),([17,16],[(24,17)]),([18,16],[(25,18)]),([16],[]),([19,20,16],[(26,19),(27,20)]),([16,21],[(23,16),(28,21)])] 45 rfl (by kernel_rfl) (by kernel_rfl) (by kernel_rfl) ?st2 ?ow2 ?_
 case st2 =>
  simp only[List.forall_mem_cons]
  and_intros
  all_goals first|exact isV_st _|exact sl_st _|exact anyV_st|simp
 case ow2 =>
  simp only[OwedQ]
  and_intros
  all_goals try trivial
  all_goals
   intro V W kW hp
   have kwW:=k1.tr kW
   cases B0 <;> cases B1
   all_goals
    try simp only[List.forall_mem_cons,tab_zero,tab_succ,isV] at hp
    try simp[wantsG,rhoP,List.lookup,hp,tab_zero,tab_succ,ResG,execOp,bareOp,isV,Below.refl,kW,qg,qs,qr,qx,hwr,go_sem]
  all_goals first|exact⟨rfl,rfl,rfl⟩|(simp only[decide_eq_true_eq,decide_eq_false_iff_not] at hB0;omega)|(refine (C1.out W kwW).mono ?_;rintro e w2 ⟨rfl,k⟩;exact⟨_,rfl,rfl,k⟩)|(refine (C3.out W kwW).mono ?_;rintro e w2 ⟨rfl,k⟩;exact⟨_,rfl,rfl,k⟩)
 intro V W kW hp
 have h9:=hp 22 (by simp)
 simp only[tab_zero,tab_succ,isV] at h9
 clear hp
 simp only[putAll,Act.put,List.setIfInBounds_toArray,List.set_cons_succ,List.set_cons_zero,h9]
 have kwW:=k1.tr kW
 have H1:=Lib.hid (H.out.st.st kwW)
 have kb:Below base w W:=kwW.mono H.out.low
 have bs1:=bs0.below kW bs0.lt
 have br1:=br0.below kW br0.lt
 have hx1:=hx0.below kW hx0.lt
 have hlow:base<=W.heap.size:=Nat.le_trans H.out.low kwW.size
 have HE1:=Lib.hid fun W' (u:UpN (fun k=>k=g∨(Value.slice Al s.list.length cl).ownBlock=some k∨vp.ownBlock=some k∨va.ownBlock=some k) W W')=>H.out.en W' ((UpN.of_k kwW _).tr u)
 have hgi1:gi<W.heap.size:=Nat.lt_of_lt_of_le hx0.lt kW.size
 clear qg qs qr qx h9 C1  C3 hs1 bs0 br0 hx0
 by_cases hany:((B0||B1)||B3)=true
 · rw[hany]
   have HQ:Hid (R=none):=Lib.hid (by rw[HR.out];revert hany;cases B0 <;> cases B1 <;> cases B3 <;> simp)
   clear hany hB0
   go_wp2
   go_ret
   exact⟨by rw[HQ.out];rfl,by rw[HQ.out];exact⟨_,_,_,_,_,H1.out⟩,kb⟩
 have hany2:((B0||B1)||B3)=false:=by simpa using hany
 rw[hany2]
 have hall:B0=false/\B1=false/\B3=false:=by revert hany2;cases B0 <;> cases B1 <;> cases B3 <;> simp
 clear hany hany2 hB0
 obtain⟨rfl,rfl,rfl⟩:=hall
 have HQ:Hid (R=some ⟨s.life,s.list++[r.e],dropE s.prom (idE r.e),s.ab⟩):=Lib.hid (by rw[HR.out];rfl)
 generalize W=w1 at *
 have q1:=bs1.cell
 have q2:=br1.cell
 have q3:=H1.out.blk.cell
 go_upto_region 4 with (fail)
 clear q1 q2 q3
 obtain⟨C,hC⟩:∃ C:World->Prop,C=fun W=>UpB 0 (Value.slice Al s.list.length cl).ownBlock w1 W:=⟨_,rfl⟩
 have hg:∀ W W',C W->Below W.heap.size W W'->C W':=by
  subst hC
  intro W W' h hb
  exact h.tr (UpB.of_k hb _ _)
 have hc0:C w1:=by rw[hC];exact UpB.rf _ _ _
 obtain⟨F,hF⟩:∃ F:World->Prop,F=fun W=>Sto base g ⟨s.life,s.list++[r.e],s.prom,s.ab⟩ W/\Below base w1 W/\UpN (fun k=>(Value.slice Al s.list.length cl).ownBlock=some k∨k=g) w1 W:=⟨_,rfl⟩
 have hrow:∀ b,(Value.slice Al s.list.length cl).ownBlock=some b->b<w1.heap.size:=fun b hb=>(H1.out.rowl hb).2.1
 refine wp_region_turn3 9 12 C (fun W=>W.ownsRow base 42 8 (.slice Al s.list.length cl) s.list.length c1.flatten) (fun _=>True) (fun W W'=>W.grownBy W' (Value.slice Al s.list.length cl).ownBlock) F [isV (.pointer (some ⟨g,0,none⟩)),
  isV (.pointer (some ⟨g,0,none⟩)),
  isV (.pointer (some ⟨g,0,none⟩)),
  isV (.pointer (some ⟨g,1,none⟩)),
  isV (.slice Al s.list.length cl),
  isV (.pointer (some ⟨gr,2,none⟩)),
  isV (.agg (entA r.e vf ve)),
  elF enS w1.heap.size r.e,
  rowS enS w1.heap.size 42 r.e,
  appS enS base w1.heap.size 42 (Value.slice Al s.list.length cl).ownBlock s.list.length c1.flatten r.e,
  isV (.pointer (some ⟨g,0,none⟩)),
  isV (.pointer (some ⟨g,1,none⟩)),
  anyV]
  [([],[]),([],[]),([1],[(31,1)]),([2],[(32,2)]),([3],[(33,3)]),([],[]),([5],[(35,5)]),([6],[(36,6)]),([7],[(37,7)]),([4,8],[(34,4),(38,8)]),([0],[(30,0)]),([10],[(40,10)]),([11,9],[(41,11),(39,9)])] 45 rfl (by kernel_rfl) (by kernel_rfl) (by kernel_rfl) (by decide) (by decide) (by decide) (by kernel_rfl) hg (fun W W' h k=>row_below h k) (fun _ _ h _=>h) (by exact hg _ _ hc0 (Below.drew (Below.refl _ _))) (row_below H1.out.l (Below.drew (Below.refl _ _))) ?st4 ?stt4 ?ow4 ?_
 case st4 =>
  simp only[List.forall_mem_cons]
  and_intros
  all_goals first|exact isV_st _|exact anyV_st|exact elF_st _ _|exact rowS_st _ _ _|exact appS_st _ _ _ _ _ _ _|simp
 case stt4 =>
  simp only[List.zipIdx_cons,List.zipIdx_nil,List.forall_mem_cons,Nat.zero_add,Nat.reduceAdd]
  and_intros
  all_goals first|exact .inl rfl|exact .inr (fun _ _ _ h _=>h)|exact .inr (elF_row hrow)|exact .inr (rowS_row hrow)|simp
 case ow4 =>
  simp only[OwedY,OwedT]
  and_intros
  all_goals try trivial
  all_goals
   simp only[Nat.reduceEqDiff,if_false,Nat.reduceAdd]
  all_goals
   first
   | (intro V w' hc hD hp
      simp only[List.forall_mem_cons,tab_zero,tab_succ,isV] at hp
      rw[hC] at hc)
   | (intro V w' hc hp
      rw[hC] at hc
      have qg:=(H1.out.blk.upB hc (fun e=>(H1.out.rowl e).2.2.1 rfl)).cell
      have qs:=(bs1.upB hc (fun e=>hns e)).cell
      have qr:=(br1.upB hc (fun e=>hnr e)).cell
      try simp only[List.forall_mem_cons,tab_zero,tab_succ,isV] at hp
      try (simp[wantsG,rhoP,List.lookup,hp,tab_zero,tab_succ,ResG,execOp,bareOp,isV,undef,Below.refl,qg,qs,qr,go_sem];done))
   | skip
  · simp only[if_pos (show wantsG V none=true from rfl)]
    simp[rhoP,List.lookup,hp,tab_zero,tab_succ,ResG,execOp,bareOp,go_sem]
    refine (Whole_calls r.e _ w' (HE1.out w' (hc.upN (fun k hk=>hk.elim (fun h=>by omega) (fun h=>.inr (.inl h.symm))))) hsm).mono ?_
    rintro e w2 ⟨v,rfl,ho,hb⟩
    exact⟨v,rfl,elF_of_entO (by have:=hc.size;omega) ho,hb⟩
  · obtain⟨hp7,-⟩:=hp
    obtain⟨vf7,ve7,e7⟩:=elF_agg hp7
    have hF7:=hp7.2.2
    rw[e7] at hF7
    simp[e7,wantsG,rhoP,List.lookup,tab_zero,tab_succ,ResG,execOp,bareOp,undef,go_sem]
    exact⟨⟨w'.heap.size,_,rfl,by have:=hc.size;omega,Blk.new _ _ _,rfl,fun W' u=>hF7 W' ((UpB.of_k ((K.rf w').al _) _ _).tr u)⟩,(K.rf w').al _⟩
  · obtain⟨h1,h4,-⟩:=hp
    obtain⟨v',w'',hrun,h7,h5,h3⟩:=exec_appS (P:=Tryz.prog) (S:=enS) (ρ:=rhoP [(34,4),(38,8)] _ V) (.tmp 34) (.tmp 38) 32 32 42 base _ 96 s.list.length c1.flatten TEn (.slice Al s.list.length cl) h1 hD w1.heap.size (by first|exact H1.out.2|omega) hrow (by have:=hc.size;omega) r.e _ rfl h4 (by omega)
    rw[hrun]
    refine⟨h7,?_,trivial,h3⟩
    rw[hC]
    exact hc.tr (UpB.of_mut h3 0)
  · obtain⟨h6,h9,-⟩:=hp
    have hb9:=H1.out.blk.upB hc (fun e=>(H1.out.rowl e).2.2.1 rfl)
    have z:=hb9.frozen
    have q:=hb9.cell
    have hpu:=H1.out.pushL (by omega) hc h9
    obtain⟨A9,n9,c9,e9⟩:=appS_slice h9
    generalize hA:rhoP [(41,11),(39,9)] _ V=ρ9
    have es4:ρ9 (.tmp 41)=.pointer (some ⟨g,1,none⟩):=by rw[<- hA];exact h6
    have ex4:ρ9 (.tmp 39)=V 9:=by rw[<- hA];rfl
    rw[e9] at ex4 hpu
    have hs7:(execOp ρ9 (bareOp (.store 32 (.tmp 41) (.tmp 39)) 0)).run Tryz.prog w'=.ok .skip (w'.setCell ⟨g,1,none⟩ (.slice A9 n9 c9)):=by
     simp[es4,ex4,execOp,bareOp,q,z,go_sem]
    rw[hs7]
    show F _
    rw[hF]
    exact⟨hpu,(below_upB hc (by omega) (fun b hb=>(H1.out.rowl hb).1)).setCell H1.out.low _,grow_upn hc (UpN.rf (fun _=>False) _) (fun k _ e=>e.elim (fun e=>.inr e) (fun e=>e.elim (fun e=>.inl e.symm) False.elim))⟩
 intro V W hFW
 rw[hF] at hFW
 obtain⟨HSF,kbF,unF⟩:=hFW
 have HSF:=Lib.hid HSF
 clear hC hg hc0 hF hrow
 simp only[putAll,Act.put,List.setIfInBounds_toArray,List.set_cons_succ,List.set_cons_zero]
 have hlp:s.prom.length<=1000000:=by omega
 have hzz:=Nat.le_trans hlow kbF.size
 have C3:=Lib.hid (Forget_calls ⟨s.life,s.list++[r.e],s.prom,s.ab⟩ (idE r.e) base g W HSF.out hlp hzz)
 have hgs:gs≠g:=by rintro rfl;exact absurd (bs1.unlike H1.out.blk) (by decide)
 have hgg:gi≠g:=by rintro rfl;exact absurd (hx1.unlike H1.out.blk) (by decide)
 have hgv:(Value.slice Al s.list.length cl).ownBlock≠some gi:=fun e=>by obtain⟨cur,h1⟩:=row_blk H1.out.l e;exact absurd (h1.unlike hx1) (by decide)
 have qs2:=(show Blk W gs _ _ from (unF.block gs bs1.lt (fun e=>e.elim hns hgs)).trans bs1).cell
 have qx2:=(show Blk W gi _ _ from (unF.block gi hx1.lt (fun e=>e.elim hgv hgg)).trans hx1).cell
 clear unF HSF bs1 br1 hx1 H1 HE1 hns hnr
 go_wp2_with fail
 refine C3.out.mono ?_
 rintro e w3 ⟨rfl,hs,hb⟩
 have HS:=Lib.hid hs
 clear hs
 go_wp2
 go_ret
 exact⟨by rw[HQ.out];rfl,by rw[HQ.out];exact HS.out,(kb.trans kbF).trans hb⟩
section
open Go Go.RowKit Go.ChangeMaps
def lookI (kvs:List (Int×Value)) (k:Int):Option Value:=(kvs.find? fun p=>p.1==k).map (·.2)
def MapI (w:World) (b:Nat) (kvs:List (Int×Value)):Prop :=
 ∃ (es:Array MapEntry) (c:Nat),w.heap[b]?=some (.map es c)/\es.toList.map (fun e=>(e.key,e.val))=kvs.map fun p=>(Value.int .i64 p.1,p.2)
theorem MapI.new (w:World):MapI (w.alloc (.map #[] 0)) w.heap.size []:=⟨#[],0,heap_alloc_new w _,rfl⟩
theorem findNow_i (k:Int):∀ (es:List MapEntry) (kvs:List (Int×Value)) (i:Nat),es.map (fun e=>(e.key,e.val))=kvs.map (fun p=>(Value.int .i64 p.1,p.2)) ->
 ∃ r,Instr.findNow (.int .i64) (.int .i64 k) es i=some r/\r.map (·.2)=lookI kvs k
 | [],[],i,_=>⟨none,rfl,rfl⟩
 | [],_ :: _,i,h=>by simp at h
 | _ :: _,[],i,h=>by simp at h
 | e :: es,p :: kvs,i,h=>by
   simp only[List.map_cons,List.cons.injEq,Prod.mk.injEq] at h
   obtain⟨⟨h1,h2⟩,h3⟩:=h
   obtain⟨r,h4,h5⟩:=findNow_i k es kvs (i+1) h3
   unfold Instr.findNow
   rw[h1]
   by_cases hk:p.1=k
   · subst hk
     exact⟨some (i,e.val),by simp[Instr.sameNow],by simp[lookI,h2]⟩
   · refine⟨r,?_,?_⟩
     · have:(k==p.1)=false:=by simp;exact fun e=>hk e.symm
       simp[Instr.sameNow,this,h4]
     · rw[h5]
       unfold lookI
       rw[List.find?_cons_of_neg (by simpa using hk)]
section
variable {P:Program}
theorem run_checkKey_n {K:TypeId} (hK:P.underlying K=some (.int .i64)) (k:Int) (em:Bool) (n:Nat) (w:World):(Instr.checkKey em (n+1) K (.int .i64 k)).run P w=.ok () w:=by
 simp[Instr.checkKey,run_underlying hK]
theorem run_checkKey_i {K:TypeId} (hK:P.underlying K=some (.int .i64)) (k:Int) (em:Bool) (w:World):(Instr.checkKey em 10000 K (.int .i64 k)).run P w=.ok () w:=run_checkKey_n hK k em 9999 w
theorem run_insert {t K E:TypeId} (hT:P.underlying t=some (.map K E)) (hK:P.underlying K=some (.int .i64)) {w:World} {b:Nat} {kvs:List (Int×Value)} (h:MapI w b kvs) (k:Int) (v:Value) (hn:lookI kvs k=none) :
 ∃ w',(Instr.mapUpdate t (.map (some b)) (.int .i64 k) v).run P w=.ok () w'/\MapI w' b (kvs++[(k,v)])/\w.grownBy w' (some b):=by
 obtain⟨es,c,h1,h2⟩:=h
 obtain⟨r,h3,h4⟩:=findNow_i k es.toList kvs 0 h2
 have hr:r=none:=by
  cases r with
  | none=>rfl
  | some x=>rw[hn] at h4;cases h4
 subst hr
 refine⟨setBlock w b (.map (es.push ⟨.int .i64 k,v,c⟩) (c+1)),?_,⟨_,_,heap_setBlock_same h1 _,?_⟩,⟨rfl,rfl,rfl,by simp[setBlock],fun i _ hi=>heap_setBlock_other h1 _ (fun e=>hi (by rw[e]))⟩⟩
 · simp[Instr.mapUpdate,run_underlying hT,MapKept.run_getObj_map h1,run_checkKey_i hK,Instr.findKey,run_underlying hK,h3,MapKept.run_setObj_map _ h1,Result.andThen,setBlock]
 · simp[h2]
theorem run_look2 {t K E:TypeId} (hT:P.underlying t=some (.map K E)) (hK:P.underlying K=some (.int .i64)) {w:World} {z:Value} (hz:(zeroValue E).run P w=.ok z w) {b:Nat} {kvs:List (Int×Value)} (h:MapI w b kvs) (k:Int) :
 (Instr.lookup t (.map (some b)) (.int .i64 k) true).run P w=.ok (.tuple #[(lookI kvs k).getD z,.bool (lookI kvs k).isSome]) w:=by
 obtain⟨es,c,h1,h2⟩:=h
 obtain⟨r,h3,h4⟩:=findNow_i k es.toList kvs 0 h2
 rw[<- h4]
 cases r with
 | none=>simp[Instr.lookup,run_underlying hT,MapKept.run_getObj_map h1,run_checkKey_i hK,Instr.findKey,run_underlying hK,h3,hz,Result.andThen]
 | some x=>simp[Instr.lookup,run_underlying hT,MapKept.run_getObj_map h1,run_checkKey_i hK,Instr.findKey,run_underlying hK,h3,Result.andThen]
theorem wpList_insert (w:World) {ops:Array Oper} {rest:List Oper} {o:Oper} {a:Act} {Q:Exit->Act->World->Prop}
 (hg:o.guard=none) (m x v:Operand) (t:TypeId) (hop:o.op=Op.insert t m x v) (K E:TypeId) (hT:P.underlying t=some (.map K E)) (hK:P.underlying K=some (.int .i64))
 (b:Nat) (kvs:List (Int×Value)) (hm:a.eval m=.map (some b)) (hown:MapI w b kvs) (k:Int) (hx:a.eval x=.int .i64 k) (val:Value) (hv:a.eval v=val) (hn:lookI kvs k=none)
 (hK':∀ w',MapI w' b (kvs++[(k,val)])->w.grownBy w' (some b)->wpList P ops Q rest (a.put o.dst undef) w'):wpList P ops Q (o :: rest) a w:=by
 refine wpList_plain hg fun K'' hK''=>?_
 obtain⟨w',hrun,r1,r2⟩:=run_insert hT hK hown k val hn
 unfold Oper.wp
 simp[execOp,hop,hm,hx,hv,hrun,Result.andThen]
 exact hK'' _ _ (hK' w' r1 r2)
end
end
theorem stepS_bad {s:Stt} {r:Rec} (h:okRec r=false):stepS s r=(s,110):=by simp[stepS,h]
def resS (s:Stt):Option Stt->Stt×Int
 | none=>(s,160)
 | some t=>(t,0)
theorem stepS_ok {s:Stt} {r:Rec} {o:Option Stt} (h:okRec r=true) (e:onS s r=o):stepS s r=resS s o:=by subst e;simp only[stepS,h,if_true];cases onS s r <;> rfl
theorem onS_1 {s:Stt} {r:Rec} (h:r.kind=1):onS s r=on1 s r:=by simp[onS,h]
theorem onS_2 {s:Stt} {r:Rec} (h:r.kind=2):onS s r=on2 s r:=by simp[onS,h]
theorem onS_3 {s:Stt} {r:Rec} (h:r.kind=3):onS s r=on3 s r:=by simp[onS,h]
theorem onS_4 {s:Stt} {r:Rec} (h:r.kind=4):onS s r=on4 s r:=by simp[onS,h]
theorem onS_5 {s:Stt} {r:Rec} (h:r.kind=5):onS s r=on5 s r:=by simp[onS,h]
theorem okRec_15 {r:Rec} (h:okRec r=true):r.kind=1∨r.kind=2∨r.kind=3∨r.kind=4∨r.kind=5:=by
 rcases okRec_kind h with ⟨g,_⟩|⟨g,_⟩|⟨g,_⟩ <;> omega
structure OnH (base g:Nat) (s:Stt) (r:Rec) (vl vp va v:Value) (c1 c2:List (List Value)) (w:World):Prop where
 st:StoV base g s vl vp va c1 c2 w
 rc:∀ W,UpN (fun k=>k=g∨vl.ownBlock=some k∨vp.ownBlock=some k∨va.ownBlock=some k) w W->rcd r v W
 low:base<=w.heap.size
 sz:s.list.length<=900000/\s.prom.length<=900000/\s.ab.length<=900000
 sm:smallEn r.e
 fit:fitRec r
theorem OnH.onV {base g gs gr:Nat} {s:Stt} {r:Rec} {vl vp va vf ve:Value} {c1 c2:List (List Value)} {w:World} (h:OnH base g s r vl vp va (.agg (recA r vf ve)) c1 c2 w) {W:World} (k:K w W) (b1:Blk W gs 231 #[.pointer (some ⟨g,0,none⟩)]) (b2:Blk W gr 219 (recA r vf ve)) :
 OnV base g gs gr s r vl vp va vf ve c1 c2 W:=by
 refine⟨h.st.st k,b1,b2,fun W' u=>?_,Nat.le_trans h.low k.size,h.sz,h.sm⟩
 obtain⟨vf',ve',e,hf,he⟩:=h.rc W' ((UpN.of_k k _).tr u)
 injection e with e
 have e:=congrArg Array.toList e
 simp at e
 obtain⟨rfl,rfl⟩:=e
 exact⟨_,_,rfl,hf,he⟩
theorem On_calls {base g:Nat} {s:Stt} {r:Rec} {vl vp va v:Value} {c1 c2:List (List Value)} (w:World) (h:OnH base g s r vl vp va v c1 c2 w) :
 Calls Tryz.prog 164 #[.pointer (some ⟨g,0,none⟩),v] w fun e w'=>e=.returned (.int .i64 (stepS s r).2)/\Sto base g (stepS s r).1 w'/\Below base w w':=by
 obtain⟨vf,ve,rfl,-,-⟩:=h.rc w (UpN.rf _ _)
 have H:=Lib.hid h
 have C1:=Lib.hid fun W (k:K w W)=>Pack_calls r (.agg (recA r vf ve)) W (h.rc W (UpN.of_k k _)) h.fit
 have hs0:=(Blk.new w 231 #[.pointer (some ⟨g,0,none⟩)]).alloc (.cells (recA r vf ve) 219)
 have hr0:=Blk.new (w.alloc (.cells #[.pointer (some ⟨g,0,none⟩)] 231)) 219 (recA r vf ve)
 have k1:K w ((w.alloc (.cells #[.pointer (some ⟨g,0,none⟩)] 231)).alloc (.cells (recA r vf ve) 219)):=((K.rf w).al _).al _
 rw[World.size_alloc] at hr0
 have hmm:=@run_makeMap Tryz.prog
 have hzero:∀ W:World,(zeroValue 22).run Tryz.prog W=.ok .nilFunc W:=fun W=>by kernel_rfl
 clear h
 go_enter Tryz.func164,Tryz.ntmps164
 go_wp2_with fail
 generalize World.alloc (World.alloc w _) _=w1 at *
 generalize hgs:w.heap.size=gs at *
 refine (C1.out w1 k1).mono ?_
 rintro e w2 ⟨vb,rfl,-,k2⟩
 have kw2:=k1.tr k2
 have hs2:=hs0.below k2 hs0.lt
 have hr2:=hr0.below k2 hr0.lt
 clear hs0 hr0 k1 k2 C1
 cases hok:okRec r
 · have HQ:=Lib.hid (stepS_bad (s:=s) hok)
   have hc:chkRec r=110:=by simp[chkRec,hok]
   rw[hc]
   have HS:=Lib.hid (H.out.st.st kw2)
   have kb:Below base w w2:=kw2.mono H.out.low
   clear hok hc
   go_wp2
   go_ret
   exact⟨by rw[HQ.out];rfl,by rw[HQ.out];exact⟨_,_,_,_,_,HS.out⟩,kb⟩
 have hc:chkRec r=0:=by simp[chkRec,hok]
 rw[hc]
 have HOK:=Lib.hid hok
 clear hok hc
 have ho0:=MapI.new w2
 have hs3:=hs2.alloc (.map #[] 0)
 have hr3:=hr2.alloc (.map #[] 0)
 have kw3:=kw2.al (.map #[] 0)
 have hgm:gs+1<w2.heap.size:=hr2.lt
 clear hs2 hr2
 go_wp2_with (with_reducible refine wpList_insert _ rfl (.tmp 17) (.const (.int .i64 1)) (.tmp 18) 285 rfl 3 22 Tryz.underlying285 Tryz.underlying3 w2.heap.size _ rfl ho0 1 rfl _ rfl rfl ?_)
 intro w4 ho1 hg4
 have kw4:K w w4:=kw3.trans (below_of_mut hg4 (by omega) kw3.size)
 have hs4:=hs3.grown hg4 (by simp;omega)
 have hr4:=hr3.grown hg4 (by simp;omega)
 clear ho0 hg4 kw3 hs3 hr3
 go_wp2_with (with_reducible refine wpList_insert _ rfl (.tmp 17) (.const (.int .i64 2)) (.tmp 19) 285 rfl 3 22 Tryz.underlying285 Tryz.underlying3 w2.heap.size _ rfl ho1 2 rfl _ rfl rfl ?_)
 intro w5 ho2 hg5
 have kw5:K w w5:=kw4.trans (below_of_mut hg5 (by omega) kw4.size)
 have hs5:=hs4.grown hg5 (by simp;omega)
 have hr5:=hr4.grown hg5 (by simp;omega)
 clear ho1 hg5 kw4 hs4 hr4
 go_wp2_with (with_reducible refine wpList_insert _ rfl (.tmp 17) (.const (.int .i64 3)) (.tmp 20) 285 rfl 3 22 Tryz.underlying285 Tryz.underlying3 w2.heap.size _ rfl ho2 3 rfl _ rfl rfl ?_)
 intro w6 ho3 hg6
 have kw6:K w w6:=kw5.trans (below_of_mut hg6 (by omega) kw5.size)
 have hs6:=hs5.grown hg6 (by simp;omega)
 have hr6:=hr5.grown hg6 (by simp;omega)
 clear ho2 hg6 kw5 hs5 hr5
 go_wp2_with (with_reducible refine wpList_insert _ rfl (.tmp 17) (.const (.int .i64 4)) (.tmp 21) 285 rfl 3 22 Tryz.underlying285 Tryz.underlying3 w2.heap.size _ rfl ho3 4 rfl _ rfl rfl ?_)
 intro w7 ho4 hg7
 have kw7:K w w7:=kw6.trans (below_of_mut hg7 (by omega) kw6.size)
 have hs7:=hs6.grown hg7 (by simp;omega)
 have hr7:=hr6.grown hg7 (by simp;omega)
 clear ho3 hg7 kw6 hs6 hr6
 go_wp2_with (with_reducible refine wpList_insert _ rfl (.tmp 17) (.const (.int .i64 5)) (.tmp 22) 285 rfl 3 22 Tryz.underlying285 Tryz.underlying3 w2.heap.size _ rfl ho4 5 rfl _ rfl rfl ?_)
 intro w8 ho5 hg8
 have kw8:K w w8:=kw7.trans (below_of_mut hg8 (by omega) kw7.size)
 have hs8:=hs7.grown hg8 (by simp;omega)
 have hr8:=hr7.grown hg8 (by simp;omega)
 clear ho4 hg8 kw7 hs7 hr7
 have q0:w8.cell? ⟨gs+1,0,none⟩=some (.int .i64 r.kind):=hr8.cell 0
 have hzero:=hzero w8
 have HV:=Lib.hid (H.out.onV kw8 hs8 hr8)
 have kb:Below base w w8:=kw8.mono H.out.low
 clear hs8 hr8
 rcases okRec_15 HOK.out with hk|hk|hk|hk|hk
 · have hlk:(Instr.lookup 285 (.map (some w2.heap.size)) (.int .i64 1) true).run Tryz.prog w8=.ok (.tuple #[Value.func (Fn.func 218) #[] #[Value.pointer (some ⟨gs+1,0,none⟩),Value.pointer (some ⟨gs,0,none⟩)],.bool true]) w8 :=
    run_look2 Tryz.underlying285 Tryz.underlying3 hzero ho5 1
   have HQ:=Lib.hid (stepS_ok (s:=s) HOK.out (onS_1 hk))
   rw[hk] at q0
   have C2:=Lib.hid (On1_calls w8 HV.out)
   clear hk
   go_wp2_with fail
   refine C2.out.mono ?_
   rintro e w9 ⟨rfl,hS,hb⟩
   have HS:=Lib.hid hS
   clear hS
   generalize on1 s r=o at *
   have hbb:=kb.trans hb
   clear C2 q0 hlk
   cases o
   · go_wp2
     go_ret
     exact⟨by rw[HQ.out];rfl,by rw[HQ.out];exact HS.out,hbb⟩
   · go_wp2
     go_ret
     exact⟨by rw[HQ.out];rfl,by rw[HQ.out];exact HS.out,hbb⟩
 · have hlk:(Instr.lookup 285 (.map (some w2.heap.size)) (.int .i64 2) true).run Tryz.prog w8=.ok (.tuple #[Value.func (Fn.func 219) #[] #[Value.pointer (some ⟨gs+1,0,none⟩),Value.pointer (some ⟨gs,0,none⟩)],.bool true]) w8 :=
    run_look2 Tryz.underlying285 Tryz.underlying3 hzero ho5 2
   have HQ:=Lib.hid (stepS_ok (s:=s) HOK.out (onS_2 hk))
   rw[hk] at q0
   have C2:=Lib.hid (On2_calls w8 HV.out)
   clear hk
   go_wp2_with fail
   refine C2.out.mono ?_
   rintro e w9 ⟨rfl,hS,hb⟩
   have HS:=Lib.hid hS
   clear hS
   generalize on2 s r=o at *
   have hbb:=kb.trans hb
   clear C2 q0 hlk
   cases o
   · go_wp2
     go_ret
     exact⟨by rw[HQ.out];rfl,by rw[HQ.out];exact HS.out,hbb⟩
   · go_wp2
     go_ret
     exact⟨by rw[HQ.out];rfl,by rw[HQ.out];exact HS.out,hbb⟩
 · have hlk:(Instr.lookup 285 (.map (some w2.heap.size)) (.int .i64 3) true).run Tryz.prog w8=.ok (.tuple #[Value.func (Fn.func 222) #[] #[Value.pointer (some ⟨gs+1,0,none⟩),Value.pointer (some ⟨gs,0,none⟩)],.bool true]) w8 :=
    run_look2 Tryz.underlying285 Tryz.underlying3 hzero ho5 3
   have HQ:=Lib.hid (stepS_ok (s:=s) HOK.out (onS_3 hk))
   rw[hk] at q0
   have C2:=Lib.hid (On3_calls w8 HV.out)
   clear hk
   go_wp2_with fail
   refine C2.out.mono ?_
   rintro e w9 ⟨rfl,hS,hb⟩
   have HS:=Lib.hid hS
   clear hS
   generalize on3 s r=o at *
   have hbb:=kb.trans hb
   clear C2 q0 hlk
   cases o
   · go_wp2
     go_ret
     exact⟨by rw[HQ.out];rfl,by rw[HQ.out];exact HS.out,hbb⟩
   · go_wp2
     go_ret
     exact⟨by rw[HQ.out];rfl,by rw[HQ.out];exact HS.out,hbb⟩
 · have hlk:(Instr.lookup 285 (.map (some w2.heap.size)) (.int .i64 4) true).run Tryz.prog w8=.ok (.tuple #[Value.func (Fn.func 223) #[] #[Value.pointer (some ⟨gs,0,none⟩),Value.pointer (some ⟨gs+1,0,none⟩)],.bool true]) w8 :=
    run_look2 Tryz.underlying285 Tryz.underlying3 hzero ho5 4
   have HQ:=Lib.hid (stepS_ok (s:=s) HOK.out (onS_4 hk))
   rw[hk] at q0
   have C2:=Lib.hid (On4_calls w8 HV.out)
   clear hk
   go_wp2_with fail
   refine C2.out.mono ?_
   rintro e w9 ⟨rfl,hS,hb⟩
   have HS:=Lib.hid hS
   clear hS
   generalize on4 s r=o at *
   have hbb:=kb.trans hb
   clear C2 q0 hlk
   cases o
   · go_wp2
     go_ret
     exact⟨by rw[HQ.out];rfl,by rw[HQ.out];exact HS.out,hbb⟩
   · go_wp2
     go_ret
     exact⟨by rw[HQ.out];rfl,by rw[HQ.out];exact HS.out,hbb⟩
 · have hlk:(Instr.lookup 285 (.map (some w2.heap.size)) (.int .i64 5) true).run Tryz.prog w8=.ok (.tuple #[Value.func (Fn.func 224) #[] #[Value.pointer (some ⟨gs,0,none⟩),Value.pointer (some ⟨gs+1,0,none⟩)],.bool true]) w8 :=
    run_look2 Tryz.underlying285 Tryz.underlying3 hzero ho5 5
   have HQ:=Lib.hid (stepS_ok (s:=s) HOK.out (onS_5 hk))
   rw[hk] at q0
   have C2:=Lib.hid (On5_calls w8 HV.out)
   clear hk
   go_wp2_with fail
   refine C2.out.mono ?_
   rintro e w9 ⟨rfl,hS,hb⟩
   have HS:=Lib.hid hS
   clear hS
   generalize on5 s r=o at *
   have hbb:=kb.trans hb
   clear C2 q0 hlk
   cases o
   · go_wp2
     go_ret
     exact⟨by rw[HQ.out];rfl,by rw[HQ.out];exact HS.out,hbb⟩
   · go_wp2
     go_ret
     exact⟨by rw[HQ.out];rfl,by rw[HQ.out];exact HS.out,hbb⟩
section
variable {P:Program} {Q:Exit->Act->World->Prop}
def OwedW (P:Program) (a0:Act) (C D1:World->Prop) (F:(Nat->Bool)->(Nat->Value)->World->Prop) (φ:Nat->Value->World->Prop) (k:Nat) (op:Op) (ty:TypeId) (gd:Option (Nat×Bool)) (al:List Nat) (rd:List (Nat×Nat)):Prop :=
 gd=none/\∀ (L:Nat->Bool) (V:Nat->Value) (w:World),(∀ j∈al,L j=true)->C w->D1 w->(∀ j,L j=true->φ j (V j) w)->Res P (fun v w'=>F (upd L k) (updV V k v) w') ((execOp (rhoP rd a0 V) (bareOp op ty)).run P w)
def OwedV (P:Program) (a0:Act) (F:(Nat->Bool)->(Nat->Value)->World->Prop) (k:Nat) (op:Op) (ty:TypeId) (gd:Option (Nat×Bool)) (al:List Nat) (rd:List (Nat×Nat)):Prop :=
 gd=none/\∀ (L:Nat->Bool) (V:Nat->Value) (w:World),L k=false->(∀ j∈al,L j=true)->F L V w->Res P (fun v w'=>F (upd L k) (updV V k v) w') ((execOp (rhoP rd a0 V) (bareOp op ty)).run P w)
def OwedU (P:Program) (a0:Act) (C D0 D1:World->Prop) (Le:World->World->Prop) (F:(Nat->Bool)->(Nat->Value)->World->Prop) (φ:Nat->Value->World->Prop) (z y:Nat) (bef aft:List Nat):Nat->List Oper->List (List Nat×List (Nat×Nat))->Prop
 | _,[],_=>True
 | _,_ :: _,[]=>False
 | k,o :: r,x :: xs=>(if k=y then OwedW P a0 C D1 F φ k o.op o.type o.guard x.1 x.2 else (if bef.contains k=true then True else OwedV P a0 F k o.op o.type o.guard x.1 x.2)/\(if aft.contains k=true then True else OwedT P a0 C D0 D1 Le φ z k [o] [x]))/\OwedU P a0 C D0 D1 Le F φ z y bef aft (k+1) r xs
def TurnU (C D0 D1:World->Prop) (t:List (Value->World->Prop)) (z y:Nat) (F:(Nat->Bool)->(Nat->Value)->World->Prop) (L:Nat->Bool) (V:Nat->Value) (w:World):Prop:=if L y=true then F L V w else TurnI C D0 D1 t z L V w
theorem OwedU.toP {ops:Array Oper} {a0:Act} {C D0 D1:World->Prop} {Le:World->World->Prop} {F:(Nat->Bool)->(Nat->Value)->World->Prop} {t:List (Value->World->Prop)} {z y:Nat} {bef aft:List Nat} (ql:List (List Nat×List (Nat×Nat))) (hpl:planOk ops ql=true)
 (hb:∀ k∈bef,fore ql k ql.length y=true) (ha:∀ k∈aft,fore ql y ql.length k=true) (hz:z∈bef) (hzy:z≠y)
 (hg:∀ W W',C W->Below W.heap.size W W'->C W') (hg0:∀ W W',D0 W->Below W.heap.size W W'->D0 W') (hg1:∀ W W',D1 W->Below W.heap.size W W'->D1 W')
 (st:∀ f∈t,∀ v w w',f v w->Below w.heap.size w w'->f v w') (st2:∀ j,j≠z->fore ql z ql.length j=false->∀ v w w',tab t j v w->Le w w'->tab t j v w') :
 ∀ (l:List Oper) (k:Nat) (pl:List (List Nat×List (Nat×Nat))),(∀ i,ops[k+i]?=l[i]?)->(∀ i,ql[k+i]?=pl[i]?) ->
   OwedU P a0 C D0 D1 Le F (tab t) z y bef aft k l pl->OwedP P ops a0 (TurnU C D0 D1 t z y F) k l pl:=by
 intro l
 induction l with
 | nil=>intro k pl _ _ _;exact trivial
 | cons o r ih =>
   intro k pl ho hq h
   cases pl with
   | nil=>exact False.elim h
   | cons x xs =>
     have hxk:ql[k]?=some x:=hq 0
     refine⟨?_,ih _ _ (fun i=>by have:=ho (i+1);simpa [Nat.add_assoc,Nat.add_comm 1 i] using this) (fun i=>by have:=hq (i+1);simpa [Nat.add_assoc,Nat.add_comm 1 i] using this) h.2⟩
     have before:∀ {L:Nat->Bool} {j:Nat},Closed ops L->(∀ i∈x.1,L i=true)->fore ql j ql.length k=true->L j=true:=by
      intro L j hcl hal hf
      cases hn:ql.length with
      | zero=>rw[hn] at hf;cases hf
      | succ n =>
        rw[hn] at hf
        unfold fore at hf
        rw[hxk] at hf
        simp only[Bool.or_eq_true,List.contains_iff_mem,List.any_eq_true] at hf
        rcases hf with hf|⟨i,hi,hf⟩
        · exact hal j hf
        · exact fore_done hpl hcl _ _ hf (hal i hi)
     intro L V w hLk hcl hal hI
     by_cases hky:k=y
     · subst hky
       have ob:=h.1
       rw[if_pos rfl] at ob
       obtain⟨hgd,ob⟩:=ob
       unfold TurnU at hI
       rw[hLk] at hI
       simp only[Bool.false_eq_true,if_false] at hI
       obtain⟨hc,hd,hp⟩:=hI
       have hLz:L z=true:=before hcl hal (hb z hz)
       rw[if_pos hLz] at hd
       have ob:=ob L V w hal hc hd hp
       rw[hgd,if_pos (show wantsG V none=true from rfl)]
       have hkk:upd L k k=true:=by simp[upd]
       refine Res.imp ?_ ob
       intro v w' h9
       unfold TurnU
       rw[if_pos hkk]
       exact h9
     · have ob:=h.1
       rw[if_neg hky] at ob
       obtain⟨ob1,ob2⟩:=ob
       cases hLy:L y with
       | true =>
         have hnb:bef.contains k=false:=by
          cases hc:bef.contains k with
          | false=>rfl
          | true =>
            have:=fore_done hpl hcl _ _ (hb k (by simpa using hc)) hLy
            rw[hLk] at this;cases this
         rw[hnb] at ob1
         simp only[Bool.false_eq_true,if_false] at ob1
         obtain⟨hgd,ob⟩:=ob1
         unfold TurnU at hI
         rw[if_pos hLy] at hI
         have ob:=ob L V w hLk hal hI
         rw[hgd,if_pos (show wantsG V none=true from rfl)]
         have hup:upd L k y=true:=by simp[upd,hLy]
         refine Res.imp ?_ ob
         intro v w' h9
         unfold TurnU
         rw[if_pos hup]
         exact h9
       | false =>
         have hna:aft.contains k=false:=by
          cases hc:aft.contains k with
          | false=>rfl
          | true =>
            have:=before hcl hal (ha k (by simpa using hc))
            rw[hLy] at this;cases this
         rw[hna] at ob2
         simp only[Bool.false_eq_true,if_false] at ob2
         have e:=(OwedT.toP2 ql hpl hg hg0 hg1 st st2 [o] k [x] ob2).1
         unfold TurnU at hI
         rw[hLy] at hI
         simp only[Bool.false_eq_true,if_false] at hI
         have e:=e L V w hLk hcl hal hI
         have hup:upd L k y=false:=by simp[upd,Ne.symm hky,hLy]
         have key:∀ v w',TurnI C D0 D1 t z (upd L k) (updV V k v) w'->TurnU C D0 D1 t z y F (upd L k) (updV V k v) w':=by
          intro v w' h9
          unfold TurnU
          rw[hup]
          simpa using h9
         by_cases hw:wantsG V o.guard=true
         · rw[if_pos hw] at e ⊢
           exact Res.imp key e
         · rw[if_neg hw] at e ⊢
           exact key _ _ e
theorem wp_region_turn4 {id:Nat} {ops:Array Oper} {a0:Act} {w:World} (z y:Nat) (bef aft:List Nat) (C D0 D1:World->Prop) (Le:World->World->Prop) (F:(Nat->Bool)->(Nat->Value)->World->Prop) (l:List (Value->World->Prop)) (pl:List (List Nat×List (Nat×Nat)))
 (n:Nat) (hn:a0.tmps.size=n) (hm:P.follows .mixedOrders=true) (hok:regionOk ops n=true) (hpl:planOk ops pl=true) (hzb:bef.contains z=true) (hzy:z≠y) (hy:y<ops.size)
 (hbef:bef.all (fun k=>fore pl k pl.length y)=true) (haft:aft.all (fun k=>fore pl y pl.length k)=true)
 (hg:∀ W W',C W->Below W.heap.size W W'->C W') (hg0:∀ W W',D0 W->Below W.heap.size W W'->D0 W') (hg1:∀ W W',D1 W->Below W.heap.size W W'->D1 W') (hC:C w.drew) (hD:D0 w.drew)
 (st:∀ f∈l,∀ v w w',f v w->Below w.heap.size w w'->f v w') (st2:∀ x∈l.zipIdx,(x.2==z||fore pl z pl.length x.2)=true∨∀ v w w',x.1 v w->Le w w'->x.1 v w')
 (owed:OwedU P a0 C D0 D1 Le F (tab l) z y bef aft 0 ops.toList pl)
 (fin:∀ (V:Nat->Value) (w:World),F (fun j=>decide (j<ops.size)) V w->Q .normal (putAll V ops.toList 0 a0) w) :
 (Code.region id ops true).wp P Q a0 w:=by
 have st2':∀ j,j≠z->fore pl z pl.length j=false->∀ v w w',tab l j v w->Le w w'->tab l j v w':=by
  intro j hjz hf v w w' ht hm
  unfold tab at *
  cases hj:l[j]? with
  | none=>simp[List.getD_eq_getElem?_getD,hj]
  | some f =>
    simp only[List.getD_eq_getElem?_getD,hj,Option.getD_some] at ht ⊢
    rcases st2 (f,j) (List.mem_zipIdx_iff_getElem?.2 hj) with h1|h1
    · simp only[Bool.or_eq_true,beq_iff_eq] at h1
      rcases h1 with h2|h2
      · exact absurd h2 hjz
      · rw[h2] at hf;cases hf
    · exact h1 v w w' ht hm
 refine wp_region_inv (TurnU C D0 D1 l z y F) n hn hm hok ?_ (owed_plan pl hpl (OwedU.toP pl hpl (fun k hk=>List.all_eq_true.1 hbef k hk) (fun k hk=>List.all_eq_true.1 haft k hk) (by simpa using hzb) hzy hg hg0 hg1 st st2' _ _ _ (fun i=>by simp) (fun i=>by simp) owed)) fun V w h=>fin V w ?_
 · unfold TurnU;simp only[Bool.false_eq_true,if_false];exact⟨hC,by simpa using hD,fun _ h=>by cases h⟩
 · unfold TurnU at h;simpa [hy] using h
end
