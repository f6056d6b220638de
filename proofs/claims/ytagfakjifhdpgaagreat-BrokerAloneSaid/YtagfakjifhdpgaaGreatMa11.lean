/-
  The walk of slices.DeleteFunc on entries of the call's own (layer 16). Conditions: lists of at most a million.
-/
import Derived.Test.YtagfakjifhdpgaaGreatMa10
set_option maxRecDepth 100000
set_option maxHeartbeats 16000000
set_option linter.unusedVariables false
set_option linter.unusedSimpArgs false
namespace Go.Proofs.YtagfakjifhdpgaaGreat
open Go Go.RowKit
theorem list8 {α:Type} (l:List α) (h:l.length=8):∃ c0 c1 c2 c3 c4 c5 c6 c7,l=[c0,c1,c2,c3,c4,c5,c6,c7]:=by
 match l,h with
 | [c0,c1,c2,c3,c4,c5,c6,c7],_=>exact⟨_,_,_,_,_,_,_,_,rfl⟩
structure DelAt (l:List Ent) (css:List (List Value)) (a:Idn) (j i:Nat) (cur:List (List Value)):Prop where
 len:cur.length=l.length
 lens:∀ cs∈cur,cs.length=8
 pre:cur.take i=(keepZ a ((l.zip css).take j)).map (·.2)
 post:cur.drop j=css.drop j
 lt:i<j
theorem DelAt.cut {l:List Ent} {css cur:List (List Value)} {a:Idn} {j i:Nat} (hcl:css.length=l.length) (h:DelAt l css a j i cur) (hj:j<l.length) (hx:isIdE a l[j]=true):DelAt l css a (j+1) i cur:=by
 refine⟨h.len,h.lens,?_,?_,by have:=h.lt;omega⟩
 · rw[h.pre,List.take_succ_eq_append_getElem (by rw[List.length_zip];omega)]
   simp[keepZ,hx]
 · have:=congrArg (List.drop 1) h.post
   simpa [List.drop_drop] using this
theorem DelAt.at {l:List Ent} {css cur:List (List Value)} {a:Idn} {j i:Nat} (_:css.length=l.length) (h:DelAt l css a j i cur) (_:j<l.length) (h1:j<cur.length) (h2:j<css.length):cur[j]=css[j]:=by
 have:=congrArg (fun x=>x[0]?) h.post
 simp only[List.getElem?_drop,Nat.add_zero,List.getElem?_eq_getElem h1,List.getElem?_eq_getElem h2] at this
 injection this
theorem DelAt.keep {l:List Ent} {css cur:List (List Value)} {a:Idn} {j i:Nat} (hcl:css.length=l.length) (h:DelAt l css a j i cur) (hj:j<l.length) (hx:isIdE a l[j]=false) (c8:(css[j]'(by omega)).length=8):DelAt l css a (j+1) (i+1) (cur.set i (css[j]'(by omega))):=by
 have hl:=h.len
 have hij:=h.lt
 refine⟨by simp[hl],fun cs hcs=>?_,?_,?_,by omega⟩
 · rcases List.mem_or_eq_of_mem_set hcs with h1|rfl
   · exact h.lens _ h1
   · exact c8
 · rw[List.take_succ_eq_append_getElem (by simp;omega),List.take_set_of_le (Nat.le_refl _),h.pre,List.take_succ_eq_append_getElem (by rw[List.length_zip];omega)]
   simp[keepZ,hx]
 · rw[List.drop_set_of_lt (by omega)]
   have:=congrArg (List.drop 1) h.post
   simpa [List.drop_drop] using this
theorem EDeleteFunc_calls (l:List Ent) (a:Idn) (g0 base:Nat) (v:Value) (css:List (List Value)) (w:World) (hown:w.ownsRow base 42 8 v l.length css.flatten) (hcl:css.length=l.length)
 (hE:∀ W,UpN (fun k=>v.ownBlock=some k) w W->Each enS l css W) (hg:Blk w g0 35 #[.int .i64 a.1,.int .u64 (a.2.1:Int),.int .u64 (a.2.2:Int)]) (hlen:l.length<=1000000) :
 Calls Tryz.prog 250 #[v,.func (Fn.func 251) #[] #[.pointer (some ⟨g0,0,none⟩)]] w fun e w'=>∃ v' css',e=.returned v'/\w'.ownsRow base 42 8 v' (dropE l a).length css'.flatten/\css'.length=(dropE l a).length/\v'.ownBlock=v.ownBlock/\w.grownBy w' v.ownBlock/\∀ W,Each enS l css W->Each enS (dropE l a) css' W:=by
 have hE0:=hE w (UpN.rf _ _)
 have hlst:=lst_of_own (S:=enS) hown hE0
 obtain⟨A,c,rfl,hl,hc⟩:=hlst
 have C1:=Lib.hid (EIndexFunc_calls A c l a g0 w hl hlen hg)
 have HN:Hid ((∀ x∈l,isIdE a x=false)->dropE l a=l):=Lib.hid fun h=>by
  unfold dropE
  rw[List.filter_eq_self]
  intro x hx
  have:=h x hx
  simpa [isIdE] using this
 have HO:=Lib.hid hown
 have HC:=Lib.hid hE
 have c8:=Lib.hid hE0.lens
 clear hown hE hE0 hl
 go_enter Tryz.func250,Tryz.ntmps250
 go_wp2_with fail
 refine C1.out.mono ?_
 rintro e w2 ⟨i0,rfl,k2,hi⟩
 rcases hi with ⟨rfl,hall⟩|⟨k,hk,rfl,hall,hit⟩
 · have HD:=Lib.hid (HN.out hall)
   clear hall
   go_wp2
   go_ret
   refine⟨_,css,rfl,by rw[HD.out];exact row_below HO.out k2,by rw[HD.out];exact hcl,rfl,mut_of_below k2 _,fun W h=>by rw[HD.out];exact h⟩
 have HD0:Hid (DelAt l css a (k+1) k css):=Lib.hid (by
  refine⟨hcl,c8.out,?_,rfl,by omega⟩
  rw[List.take_succ_eq_append_getElem (by rw[List.length_zip];omega)]
  have h1:isIdE a l[k]=true:=hit _ (List.getElem?_eq_getElem hk)
  have h2:keepZ a ((l.zip css).take k)=(l.zip css).take k:=by
   unfold keepZ
   rw[List.filter_eq_self]
   intro p hp
   have this:p.1∈((l.zip css).take k).map (·.1):=List.mem_map_of_mem hp
   rw[List.map_take,zip_fst l css hcl] at this
   simp[hall p.1 this]
  unfold keepZ at h2 ⊢
  rw[List.filter_append,h2]
  simp[h1]
  rw[zip_snd l css hcl])
 clear hall hit HN
 rcases HO.out.2 with ⟨h0,h00⟩|⟨g,cap,cur,e0,g1,g2,g3,g4,g5,g6⟩
 · omega
 obtain⟨rfl,e3⟩:A=some ⟨g,0,none⟩/\cap=c:=by injection e0 with e1 _ e3;exact⟨e1,e3.symm⟩
 subst e3
 have hg0:w.grownBy w2 (some g):=mut_of_below k2 _
 have hr2:=Lib.hid (row_below HO.out k2)
 have hgg:g0≠g:=by
  rintro rfl
  exact absurd ((show Blk w g0 _ cur from g2).unlike hg) (by decide)
 have HG:=Lib.hid hg
 have hcm:cap<=9223372036854775807:=g4
 have hkl:(k:Int)+1<=(l.length:Int):=by omega
 clear HO k2 g5 g6 g2 hg g4 C1
 go_wp2_with fail
 go_loopw [5,6,7] (fun i j _ W=>∃ (j' i':Nat) (cu:List (List Value)),j=.int .i64 (j':Int)/\i=.int .i64 (i':Int)/\j'<=l.length/\i'<j'/\Hid (DelAt l css a j' i' cu)/\Hid (W.ownsRow base 42 8 (.slice (some ⟨g,0,none⟩) l.length cap) l.length cu.flatten)/\w.grownBy W (some g)) (fun _ j _ _=>l.length - (intOf j).toNat)
 case atStart=>exact⟨k+1,k,css,by go_num,rfl,by omega,by omega,HD0,hr2,hg0⟩
 case round =>
  clear HD0 hr2 hg0
  obtain⟨j,i,cu,rfl,rfl,hj,hij,HD,HR,kr⟩:=hrel
  by_cases hlt:j<l.length
  · have hji:(j:Int)<(l.length:Int):=by omega
    have hii:(i:Int)<(l.length:Int):=by omega
    have hrel:=(HC.out wr (UpN.of_mut kr (fun _ h=>h))).2 j hlt (by omega)
    have c8j:=c8.out _ (List.getElem_mem (show j<css.length by omega))
    have hD:=HD.out
    have HK:=Lib.hid (hD.keep hcl hlt)
    have HX:=Lib.hid (hD.cut hcl hlt)
    have hat:=hD.at hcl hlt (by rw[hD.len];exact hlt) (by omega)
    obtain⟨hcell,hfz⟩:=own_cells HR.out
    have hfl:cu.flatten.length=l.length * 8:=HR.out.1
    have hclu:=hD.len
    have hlensu:=hD.lens
    generalize hx:l[j]=x at *
    obtain⟨vf,ve,hcs,hf,he⟩:=hrel
    have d:∀ i,i<8->wr.cell? ⟨g,j * 8+i,none⟩=(entA x vf ve)[i]?:=fun i hi=>by
     rw[hcell _ (by omega),flatten_at 8 cu hlensu j i (by omega) hi,List.getElem?_eq_getElem (show j<cu.length by omega),Option.getD_some,hat,hcs]
     exact Array.getElem?_toList
    have d0:wr.cell? ⟨g,j * 8,none⟩=some (.int .i64 x.kind):=d 0 (by omega)
    have hEv:Hid (∀ W,K wr W->ent x (.agg (entA x vf ve)) W):=Lib.hid fun W k=>⟨_,_,rfl,flt_st _ _ _ _ hf k,lst_st he k⟩
    have hgr:=HG.out.grown kr (fun e=>hgg (by injection e))
    obtain⟨Af,cf,rfl⟩:=flt_slice hf
    obtain⟨Ae,ce,rfl⟩:=lst_slice he
    have k5:K wr (wr.alloc (.cells (entA x (.slice Af x.f.length cf) (.slice Ae x.es.length ce)) 42)):=(K.rf wr).al _
    have hx5:=Blk.new wr 42 (entA x (.slice Af x.f.length cf) (.slice Ae x.es.length ce))
    clear hcell hf he hat hD
    go_upto_region 8 with (fail)
    have HG5:=hgr.below k5 hgr.lt
    have kr5:=mut_trans kr (mut_of_below k5 (some g))
    have hr5:=row_below HR.out k5
    have hE5:=hEv.out _ k5
    have hgz:g<wr.heap.size:=(HR.out.lt g rfl).2
    clear d d0
    generalize wr.alloc _=w5 at *
    generalize wr.heap.size=g5 at *
    have q5:=hx5.cell
    go_wp2_with fail
    refine (ForgetC_calls x a _ g0 w5 hE5 HG5).mono ?_
    rintro e w6 ⟨rfl,k6⟩
    have hr6:=row_below hr5 k6
    have kr6:=mut_trans kr5 (mut_of_below k6 (some g))
    have q6:=(hx5.below k6 hx5.lt).cell
    clear q5 hr5
    cases hq:isIdE a x
    · have HK2:=HK.out hq c8j
      have hown9:=own_sets (entA x (.slice Af x.f.length cf) (.slice Ae x.es.length ce)).toList _ (i * 8) w6 hr6 (by rw[hfl];show i * 8+8<=_;omega)
      have e9:=flatten_sets 8 (entA x (.slice Af x.f.length cf) (.slice Ae x.es.length ce)).toList cu hlensu i 0 (by omega) (by exact Nat.le_refl 8)
      rw[Nat.add_zero] at e9
      rw[e9,setsL_eq _ _ _ (by rw[hlensu _ (List.getElem_mem _)];exact Nat.le_refl 8)] at hown9
      have e10:(cu[i]'(by omega)).take 0++(entA x (.slice Af x.f.length cf) (.slice Ae x.es.length ce)).toList++(cu[i]'(by omega)).drop (0+(entA x (.slice Af x.f.length cf) (.slice Ae x.es.length ce)).toList.length)=css[j]'(by omega):=by
       rw[hcs,List.take_zero,List.nil_append,List.drop_of_length_le (by rw[hlensu _ (List.getElem_mem _)];exact Nat.le_refl 8),List.append_nil]
      rw[e10] at hown9
      have uG:UpN (fun k=>k=g) w6 (setsW w6 g (i * 8) (entA x (.slice Af x.f.length cf) (.slice Ae x.es.length ce)).toList):=UpN.sets (X:=fun k=>k=g) (g:=g) rfl _ _ _
      have kr9:w.grownBy (setsW w6 g (i * 8) (entA x (.slice Af x.f.length cf) (.slice Ae x.es.length ce)).toList) (some g):=mut_trans kr6 ⟨uG.os,uG.tape,uG.output,uG.size,fun k hk hne=>uG.block k hk (by rintro rfl;exact hne rfl)⟩
      obtain⟨hcell,hfz⟩:=own_cells hr6
      obtain⟨c0,c1,c2,c3,c4,c5,c6,c7,hci⟩:=list8 (cu[i]'(by omega)) (hlensu _ (List.getElem_mem _))
      have d6:∀ t,t<8->w6.cell? ⟨g,i * 8+t,none⟩=#[c0,c1,c2,c3,c4,c5,c6,c7][t]?:=fun t ht=>by
       rw[hcell _ (by omega),flatten_at 8 cu hlensu i t (by omega) ht,List.getElem?_eq_getElem (show i<cu.length by omega),Option.getD_some,hci]
       exact Array.getElem?_toList
      have d60:w6.cell? ⟨g,i * 8,none⟩=some c0:=d6 0 (by omega)
      have z6:=fun t=>hfz (i * 8+t)
      have z60:=hfz (i * 8)
      have HK3:=Lib.hid HK2
      have HR9:=Lib.hid hown9
      clear hown9 uG hcell hfz e9 e10 hci HK HX HK2 hcs hr6
      go_wp2
      go_roundw
      case rel =>
       (repeat apply Exists.intro)
       refine⟨?_,rfl⟩
       exact⟨j+1,i+1,_,by go_num,by go_num,by omega,by omega,HK3,HR9,kr9⟩
      case measure=>simp[intOf];omega
    · have HX3:=Lib.hid (HX.out hq)
      have HR9:=Lib.hid hr6
      clear HK HX hcs hr6
      go_wp2
      go_roundw
      case rel =>
       (repeat apply Exists.intro)
       refine⟨?_,rfl⟩
       exact⟨j+1,i,_,by go_num,rfl,by omega,by omega,HX3,HR9,kr6⟩
      case measure=>simp[intOf];omega
  · have hji:¬ (j:Int)<(l.length:Int):=by omega
    obtain rfl:j=l.length:=by omega
    have hD:=HD.out
    have hfl:cu.flatten.length=l.length * 8:=HR.out.1
    rcases HR.out.2 with ⟨h0,h00⟩|⟨g',cap',cur,e0,r1,r2,r3,r4,r5,r6⟩
    · cases h0
    injection e0 with e1 _ e3
    injection e1 with e1
    injection e1 with e1
    subst e1 e3
    have hcz:(Value.agg zEnt).cells.size=8:=rfl
    obtain⟨W2,cur2,hclr,hb2,hs2,ht2,hg2⟩:=run_clear_end (P:=Tryz.prog) (w:=wr) (t:=32) (e:=42) Tryz.underlying32 zeroEn g (i * 8) (l.length - i) r2 (by rw[hcz,show cur.size=cap * 8 from r5];omega) (by omega) (by decide) (by decide)
    have kr9:=mut_trans kr hg2
    have hpre:=hD.pre
    rw[List.take_of_length_le (l:=l.zip css) (by rw[List.length_zip];omega)] at hpre
    have hkl:(dropE l a).length=i:=by
     rw[<- keep_map hcl a,List.length_map,<- List.length_map (f:=fun x:Ent×List Value=>x.2),<- hpre,List.length_take,hD.len];omega
    have HF:Hid (∃ css',W2.ownsRow base 42 8 (.slice (some ⟨g,0,none⟩) i cap) i css'.flatten/\css'.length=i/\∀ W,Each enS l css W->Each enS (dropE l a) css' W):=Lib.hid (by
     refine⟨cu.take i,?_,by rw[List.length_take,hD.len];omega,fun W hW=>?_⟩
     · refine⟨?_,.inr ⟨g,cap,cur2,rfl,r1,hb2,by omega,r4,by rw[hs2];exact r5,?_⟩⟩
       · rw[flatten_len 8 _ (fun cs h=>hD.lens cs (List.mem_of_mem_take h)),List.length_take,hD.len];rw[Nat.min_eq_left (by omega)]
       · rw[ht2]
         have e1:cur.toList.take (l.length * 8)=cu.flatten:=r6
         have e2:(cu.take i).flatten=cu.flatten.take (i * 8):=flatten_take_n8 cu hD.lens i
         rw[e2,<- e1,List.take_take,Nat.min_eq_left (by omega)]
     · rw[hpre,<- keep_map hcl a]
       exact each_zip _ fun p hp=>each_of_zip hW p (List.mem_filter.1 hp).1)
    have hil:i<=l.length:=by omega
    have hii:(i:Int)<=(l.length:Int):=by omega
    have hic:i<=cap:=by omega
    have hnc:¬ cap=i:=by omega
    have hicc:(i:Int)<=(cap:Int):=by omega
    clear hD hpre r5 r6 r2 HD HR hfl hb2 ht2 HC
    go_wp2
    go_ret
    obtain⟨css',f1,f2,f3⟩:=HF.out
    exact⟨_,rfl,css',f1,f2,rfl,kr9,f3⟩
theorem StoV.dropP {base g:Nat} {s:Stt} {vl vp va:Value} {c1 c2:List (List Value)} {W W':World} (h:StoV base g s vl vp va c1 c2 W) (u:W.grownBy W' vp.ownBlock) {l:List Ent} {css:List (List Value)} {v':Value} (ho:W'.ownsRow base 42 8 v' l.length css.flatten) (hcl:css.length=l.length) (hv:v'.ownBlock=vp.ownBlock) (hE:∀ W,Each enS s.prom c2 W->Each enS l css W) :
 StoV base g ⟨s.life,s.list,l,s.ab⟩ vl v' va c1 css (W'.setCell ⟨g,2,none⟩ v'):=by
 have u0:UpB 0 vp.ownBlock W W':=UpB.of_mut u 0
 have hg:=h.blk.lt
 have hvg:v'.ownBlock≠some g:=fun e=>(h.rowp (by rw[<- hv];exact e)).2.2.1 rfl
 have u1:UpN (fun k=>vp.ownBlock=some k) W W':=u0.upN (fun k hk=>hk.elim (fun h=>by omega) (fun h=>h.symm))
 have us:UpN (fun k=>k=g) W' (W'.setCell ⟨g,2,none⟩ v'):=UpN.setF (X:=fun k=>k=g) rfl _ _
 have hbl:Blk W' g 53 (stA s vl vp va):=(u1.block g h.blk.lt (fun e=>(h.rowp e).2.2.1 rfl)).trans h.blk
 refine⟨hbl.set_ 2 _,h.low,?_,?_,?_,?_,h.len1,hcl,fun W'' u'=>?_⟩
 · exact row_upn (row_upn h.l u1 fun b hb e=>h.ne b hb e) us fun b hb=>(h.rowl hb).2.2.1
 · exact row_upn ho us (fun b hb e=>hvg (by rw[hb,e]))
 · exact row_upn (row_upn h.a u1 fun b hb=>(h.rowa hb).2.2.2.2) us fun b hb=>(h.rowa hb).2.2.1
 · intro b hb
   rw[hv]
   exact h.ne b hb
 · have uW:UpN (StoX base g vl vp va) W W'':=grow_upn u0 u' fun k hk e=>by
    rcases e with e|e|e|e|e|e|e
    · exact .inr (.inl e)
    · exact .inr (.inr (.inr (.inl e.symm)))
    · exact .inl e
    · exact .inr (.inl e)
    · exact .inr (.inr (.inl e))
    · exact .inr (.inr (.inr (.inl (by rw[<- hv];exact e))))
    · exact .inr (.inr (.inr (.inr e)))
   obtain⟨e1,e2⟩:=h.el W'' uW
   exact⟨e1,hE _ e2⟩
theorem Forget_calls (s:Stt) (a:Idn) (base g:Nat) (w:World) (h:Sto base g s w) (hlen:s.prom.length<=1000000) (hb0:base<=w.heap.size) :
 Calls Tryz.prog 221 #[.pointer (some ⟨g,0,none⟩),idv a] w fun e w'=>e=.returned (.tuple #[])/\Sto base g ⟨s.life,s.list,dropE s.prom a,s.ab⟩ w'/\Below base w w':=by
 obtain⟨vl,vp,va,c1,c2,h⟩:=h
 have hx:=Blk.new w 35 #[.int .i64 a.1,.int .u64 (a.2.1:Int),.int .u64 (a.2.2:Int)]
 have k1:K w (w.alloc (.cells #[.int .i64 a.1,.int .u64 (a.2.1:Int),.int .u64 (a.2.2:Int)] 35)):=(K.rf w).al _
 go_enter Tryz.func221,Tryz.ntmps221
 go_upto_region 1 with (fail)
 have h1:=h.st k1
 generalize w.alloc _=w1 at *
 generalize w.heap.size=g0 at hx ⊢
 have q:=h1.blk.cell
 have z:=h1.blk.frozen
 have C1:=Lib.hid (EDeleteFunc_calls s.prom a g0 base vp c2 w1 h1.p h1.len2 (fun W u=>(h1.el W (u.more fun k e=>.inr (.inr (.inr (.inl e))))).2) hx hlen)
 have H1:=Lib.hid h1
 have hgb:=h1.low
 clear h h1 hx
 go_wp2_with fail
 refine C1.out.mono ?_
 rintro e w2 ⟨v',css',rfl,ho,hcl,hv,hg2,hE⟩
 have h2:=StoV.dropP H1.out hg2 ho hcl hv hE
 have hrp:=fun b hb=>(H1.out.rowp (b:=b) hb)
 have hq2:Blk w2 g 53 (stA s vl vp va):=H1.out.blk.grown hg2 (fun e=>(hrp g e.symm).2.2.1 rfl)
 have hbz:base<=w1.heap.size:=Nat.le_trans hb0 k1.size
 have kb:Below base w (w2.setCell ⟨g,2,none⟩ v'):=by
  have e1:Below base w w1:=k1.mono hb0
  have e2:Below base w1 w2:=(Below.refl _ _).grown hg2 hbz fun k hk=>(hrp k hk).1
  exact (e1.trans e2).setCell hgb _
 clear q z
 have q:=hq2.cell
 have z:=hq2.frozen
 have HH:=Lib.hid h2
 clear h2 ho hcl hg2 hE hq2 hrp
 obtain⟨A',n',c',rfl⟩:∃ A n c,v'=.slice A n c:=by
  rcases HH.out.p.2 with ⟨h,_⟩|⟨g,cap,cur,h,_⟩
  · exact⟨_,_,_,h⟩
  · exact⟨_,_,_,h⟩
 go_wp2
 go_end0
 exact⟨rfl,⟨_,_,_,_,_,HH.out⟩,kb⟩
structure OnV (base g gs gr:Nat) (s:Stt) (r:Rec) (vl vp va vf ve:Value) (c1 c2:List (List Value)) (w:World):Prop where
 st:StoV base g s vl vp va c1 c2 w
 bs:Blk w gs 231 #[.pointer (some ⟨g,0,none⟩)]
 br:Blk w gr 219 (recA r vf ve)
 en:∀ W,UpN (fun k=>k=g∨vl.ownBlock=some k∨vp.ownBlock=some k∨va.ownBlock=some k) w W->ent r.e (.agg (entA r.e vf ve)) W
 low:base<=w.heap.size
 sz:s.list.length<=900000/\s.prom.length<=900000/\s.ab.length<=900000
 sm:smallEn r.e
def OnPost (base g:Nat) (s:Stt) (o:Option Stt) (w:World) (e:Ending) (w':World):Prop:=e=.returned (.bool o.isSome)/\Sto base g (o.getD s) w'/\Below base w w'
theorem On1_calls {base g gs gr:Nat} {s:Stt} {r:Rec} {vl vp va vf ve:Value} {c1 c2:List (List Value)} (w:World) (h:OnV base g gs gr s r vl vp va vf ve c1 c2 w) :
 Calls Tryz.prog 218 #[.pointer (some ⟨gr,0,none⟩),.pointer (some ⟨gs,0,none⟩)] w fun e w'=>OnPost base g s (on1 s r) w e w':=by
 have HR:Hid (on1 s r=if r.n<=s.life then none else some ⟨r.n,s.list,s.prom,s.ab⟩):=Lib.hid rfl
 generalize on1 s r=R at *
 have qg:=h.st.blk.cells
 have qs:=h.bs.cells
 have qr:=h.br.cells
 have H:=Lib.hid h
 have hgb:=h.st.low
 clear h
 have k0:=K.rf w
 go_enter Tryz.func218,Tryz.ntmps218
 go_upto_region 1 with (fail)
 refine wp_region_K [isV (.pointer (some ⟨gr,1,none⟩)),
  isV (.int .u64 (r.n:Int)),
  isV (.pointer (some ⟨g,0,none⟩)),
  isV (.pointer (some ⟨g,0,none⟩)),
  isV (.pointer (some ⟨g,0,none⟩)),
  isV (.int .u64 (s.life:Int)),
  isV (.bool (decide ((r.n:Int)<=(s.life:Int))))]
  [([],[]),([0],[(3,0)]),([],[]),([2],[(5,2)]),([3],[(6,3)]),([4],[(7,4)]),([1,5],[(4,1),(8,5)])] 15 rfl (by kernel_rfl) (by kernel_rfl) (by kernel_rfl) ?st1 ?ow1 ?_
 case st1 =>
  simp only[List.forall_mem_cons]
  and_intros
  all_goals first|exact isV_st _|exact sl_st _|exact anyV_st|simp
 case ow1 =>
  simp only[OwedQ]
  and_intros
  all_goals try trivial
  all_goals
   intro V W kW hp
   try simp only[List.forall_mem_cons,tab_zero,tab_succ,isV] at hp
   try simp[wantsG,rhoP,List.lookup,hp,tab_zero,tab_succ,ResG,execOp,bareOp,isV,Below.refl,kW,qg,qs,qr,go_sem]
 intro V W kW hp
 have h9:=hp 6 (by simp)
 simp only[tab_zero,tab_succ,isV] at h9
 clear hp
 simp only[putAll,Act.put,List.setIfInBounds_toArray,List.set_cons_succ,List.set_cons_zero,h9]
 have HW:=Lib.hid (H.out.st.st kW)
 have kb:Below base w W:=kW.mono H.out.low
 have qg2:=HW.out.blk.cell
 have zg2:=HW.out.blk.frozen
 have qs2:=(H.out.bs.below kW H.out.bs.lt).cell
 have qr2:=(H.out.br.below kW H.out.br.lt).cell
 clear qg qs qr h9
 by_cases hle:r.n<=s.life
 · have hle':decide ((r.n:Int)<=(s.life:Int))=true:=decide_eq_true (by omega)
   have HQ:Hid (R=none):=Lib.hid (by rw[HR.out,if_pos hle])
   rw[hle']
   go_wp2
   go_ret
   exact⟨by rw[HQ.out];rfl,by rw[HQ.out];exact⟨_,_,_,_,_,HW.out⟩,kb⟩
 · have hle':decide ((r.n:Int)<=(s.life:Int))=false:=decide_eq_false (by omega)
   have HQ:Hid (R=some ⟨r.n,s.list,s.prom,s.ab⟩):=Lib.hid (by rw[HR.out,if_neg hle])
   rw[hle']
   go_wp2
   go_ret
   exact⟨by rw[HQ.out];rfl,by rw[HQ.out];exact⟨_,_,_,_,_,HW.out.setLife r.n⟩,kb.setCell hgb _⟩
theorem On5_calls {base g gs gr:Nat} {s:Stt} {r:Rec} {vl vp va vf ve:Value} {c1 c2:List (List Value)} (w:World) (h:OnV base g gs gr s r vl vp va vf ve c1 c2 w) :
 Calls Tryz.prog 224 #[.pointer (some ⟨gs,0,none⟩),.pointer (some ⟨gr,0,none⟩)] w fun e w'=>OnPost base g s (on5 s r) w e w':=by
 have HR:Hid (on5 s r=if hasE s.prom (idR r) then some ⟨s.life,s.list,dropE s.prom (idR r),s.ab⟩ else none):=Lib.hid rfl
 generalize on5 s r=R at *
 have qg:=h.st.blk.cells
 have qs:=h.bs.cells
 have qr:=h.br.cells
 have H:=Lib.hid h
 have C1:=Lib.hid fun W (kW:K w W)=>Promised_calls s (idR r) _ W (h.st.st kW).stv (by have:=h.sz;omega)
 clear h
 have k0:=K.rf w
 go_enter Tryz.func224,Tryz.ntmps224
 go_upto_region 1 with (fail)
 refine wp_region_K [isV (.pointer (some ⟨g,0,none⟩)),
  isV (.pointer (some ⟨g,0,none⟩)),
  isV (.agg (stA s vl vp va)),
  isV (.pointer (some ⟨gr,10,none⟩)),
  isV (idv (idR r)),
  isV (.bool (hasE s.prom (idR r))),
  isV (.bool (!hasE s.prom (idR r)))]
  [([],[]),([0],[(3,0)]),([1],[(4,1)]),([],[]),([3],[(6,3)]),([2,4],[(5,2),(7,4)]),([5],[(8,5)])] 14 rfl (by kernel_rfl) (by kernel_rfl) (by kernel_rfl) ?st1 ?ow1 ?_
 case st1 =>
  simp only[List.forall_mem_cons]
  and_intros
  all_goals first|exact isV_st _|exact sl_st _|exact anyV_st|simp
 case ow1 =>
  simp only[OwedQ]
  and_intros
  all_goals try trivial
  all_goals
   intro V W kW hp
   try simp only[List.forall_mem_cons,tab_zero,tab_succ,isV] at hp
   try simp[wantsG,rhoP,List.lookup,hp,tab_zero,tab_succ,ResG,execOp,bareOp,isV,Below.refl,kW,qg,qs,qr,idR,go_sem]
  refine (C1.out W kW).mono ?_
  rintro e w2 ⟨rfl,k⟩
  exact⟨_,rfl,rfl,k⟩
 intro V W kW hp
 have h9:=hp 6 (by simp)
 simp only[tab_zero,tab_succ,isV] at h9
 clear hp
 simp only[putAll,Act.put,List.setIfInBounds_toArray,List.set_cons_succ,List.set_cons_zero,h9]
 have HW:=Lib.hid (H.out.st.st kW)
 have kb:Below base w W:=kW.mono H.out.low
 have C2:=Lib.hid (Forget_calls s (idR r) base g W ⟨_,_,_,_,_,HW.out⟩ (by have:=H.out.sz;omega) (by have:=H.out.low;have:=kW.size;omega))
 have qs2:=(H.out.bs.below kW H.out.bs.lt).cell
 have qr2:=(H.out.br.below kW H.out.br.lt).cell
 clear qg qs qr h9 C1
 generalize hh:hasE s.prom (idR r)=B at *
 cases B
 · have HQ:Hid (R=none):=Lib.hid (by rw[HR.out];rfl)
   go_wp2
   go_ret
   exact⟨by rw[HQ.out];rfl,by rw[HQ.out];exact⟨_,_,_,_,_,HW.out⟩,kb⟩
 · have HQ:Hid (R=some ⟨s.life,s.list,dropE s.prom (idR r),s.ab⟩):=Lib.hid (by rw[HR.out];rfl)
   go_wp2_with fail
   refine C2.out.mono ?_
   rintro e w3 ⟨rfl,hs,hb⟩
   have HS:=Lib.hid hs
   clear hs
   go_wp2
   go_ret
   exact⟨by rw[HQ.out];rfl,by rw[HQ.out];exact HS.out,kb.trans hb⟩
section
variable {P:Program} {Q:Exit->Act->World->Prop}
def fore (pl:List (List Nat×List (Nat×Nat))) (z:Nat):Nat->Nat->Bool
 | 0,_=>false
 | f+1,j=>match pl[j]? with
   | none=>false
   | some y=>y.1.contains z||y.1.any (fore pl z f)
theorem fore_done {ops:Array Oper} {pl:List (List Nat×List (Nat×Nat))} (hpl:planOk ops pl=true) {L:Nat->Bool} (hcl:Closed ops L) {z:Nat}:∀ (f j:Nat),fore pl z f j=true->L j=true->L z=true:=by
 intro f
 induction f with
 | zero=>intro j h _;cases h
 | succ f ih =>
   intro j h hL
   unfold fore at h
   cases hy:pl[j]? with
   | none=>rw[hy] at h;cases h
   | some y =>
     rw[hy] at h
     simp only[Bool.or_eq_true,List.contains_iff_mem,List.any_eq_true] at h
     have hlt:=hcl.2 j hL
     have ho:ops[j]?=some ops[j]:=by simp[hlt]
     have h2:=List.all_eq_true.1 hpl (ops[j],j) (List.mem_zipIdx_iff_getElem?.2 (by rw[Array.getElem?_toList];exact ho))
     simp only[hy,Bool.and_eq_true] at h2
     have hal:∀ i∈y.1,L i=true:=fun i hi=>hcl.1 j _ ho hL i (by simpa using List.all_eq_true.1 h2.1.1 i hi)
     rcases h with h|⟨i,hi,h⟩
     · exact hal z h
     · exact ih i h (hal i hi)
theorem exec_app2 {ρ:Operand->Value} {w:World} (s x:Operand) (t ty e:TypeId) (base:Nat) (z:Value) (size bytes:Nat) (T:SliceT P t e z size bytes) (v:Value) (n:Nat) (xs:List Value) (hs:ρ s=v) (hown:w.ownsRow base e size v n xs)
 (B:Nat) (A:Option Addr) (m c:Nat) (news:List Value) (hx:ρ x=.slice A m c) (hr:Reads w B size A m news) (h1:∀ u∈news,u.oneCell'=true)
 (hbytes:(n+m) * (bytes+1)<=140737488355328) (hbase:base<=w.heap.size) :
 ∃ v' w',(execOp ρ (bareOp (.call { callee:=.builtin .append,args:=#[s,x],argTypes:=#[t,t] }) ty)).run P w=.ok (.value v') w'/\w'.ownsRow base e size v' (n+m) (xs++news)/\Below base w w'/\w.grownBy w' v.ownBlock:=by
 obtain⟨v',w',hrun,h2,h3,h4,h5⟩:=run_app w base t ty e z size bytes T v n xs hown B A m c news hr h1 hbytes hbase
 refine⟨v',w',?_,h2,h5,h3⟩
 simp only[execOp,bareOp,resolve,invoke,builtin,Sem.run_bind,Sem.run_pure,Result.andThen_ok,List.map_toArray,List.map_cons,List.map_nil,hs,hx,hrun]
end
section
variable {P:Program} {Q:Exit->Act->World->Prop}
theorem OwedT.toP2 {ops:Array Oper} {a0:Act} {C D0 D1:World->Prop} {Le:World->World->Prop} {t:List (Value->World->Prop)} {z:Nat} (ql:List (List Nat×List (Nat×Nat))) (hpl:planOk ops ql=true)
 (hg:∀ W W',C W->Below W.heap.size W W'->C W') (hg0:∀ W W',D0 W->Below W.heap.size W W'->D0 W') (hg1:∀ W W',D1 W->Below W.heap.size W W'->D1 W')
 (st:∀ f∈t,∀ v w w',f v w->Below w.heap.size w w'->f v w') (st2:∀ j,j≠z->fore ql z ql.length j=false->∀ v w w',tab t j v w->Le w w'->tab t j v w') :
 ∀ (l:List Oper) (k:Nat) (pl:List (List Nat×List (Nat×Nat))),OwedT P a0 C D0 D1 Le (tab t) z k l pl->OwedP P ops a0 (TurnI C D0 D1 t z) k l pl:=by
 intro l
 induction l with
 | nil=>intro k pl _;exact trivial
 | cons o r ih =>
   intro k pl h
   cases pl with
   | nil=>exact False.elim h
   | cons x xs =>
     refine⟨?_,ih _ _ h.2⟩
     intro L V w hLk hcl hal ⟨hc,hd,hp⟩
     by_cases hkz:k=z
     · subst hkz
       have ob:=h.1
       rw[if_pos rfl] at ob
       obtain⟨hgd,ob⟩:=ob
       rw[hLk] at hd
       simp only[Bool.false_eq_true,if_false] at hd
       have ob:=ob V w hc hd fun j hj=>hp j (hal j hj)
       have next:∀ v w',tab t k v w'->C w'->D1 w'->Le w w'->TurnI C D0 D1 t k (upd L k) (updV V k v) w':=by
        intro v w' hv hc' hd' hb
        have hkk:upd L k k=true:=by simp[upd]
        refine⟨hc',by rw[if_pos hkk];exact hd',fun j hj=>?_⟩
        unfold updV
        by_cases hjk:j=k
        · subst hjk;simpa using hv
        · rw[if_neg hjk]
          have hLj:=(upd_true hj).resolve_left hjk
          refine st2 j hjk ?_ _ _ _ (hp j hLj) hb
          cases hf:fore ql k ql.length j with
          | false=>rfl
          | true=>rw[fore_done hpl hcl _ _ hf hLj] at hLk;cases hLk
       rw[hgd,if_pos (show wantsG V none=true from rfl)]
       generalize (execOp (rhoP x.2 a0 V) (bareOp o.op o.type)).run P w=q at *
       cases q with
       | ok n w' =>
         cases n <;> simp only[ResT] at ob <;> simp only[Res]
         case value v=>exact next _ _ ob.1 ob.2.1 ob.2.2.1 ob.2.2.2
         case skip=>exact next _ _ ob.1 ob.2.1 ob.2.2.1 ob.2.2.2
         case enter f args =>
          refine ob.mono ?_
          rintro e w'' ⟨v,rfl,hv,hc',hd',hb⟩
          exact⟨v,rfl,next _ _ hv hc' hd' hb⟩
       | halt x w'=>simp only[ResT] at ob
     · have ob:=h.1
       rw[if_neg hkz] at ob
       have ob:=ob V w hc fun j hj=>hp j (hal j hj)
       have next:∀ v w',tab t k v w'->Below w.heap.size w w'->TurnI C D0 D1 t z (upd L k) (updV V k v) w':=by
        intro v w' hv hb
        have hzz:upd L k z=L z:=by simp[upd,Ne.symm hkz]
        refine⟨hg _ _ hc hb,?_,fun j hj=>?_⟩
        · rw[hzz]
          by_cases hz:L z=true
          · rw[if_pos hz] at hd ⊢;exact hg1 _ _ hd hb
          · rw[if_neg hz] at hd ⊢;exact hg0 _ _ hd hb
        · unfold updV
          by_cases hjk:j=k
          · subst hjk;simpa using hv
          · rw[if_neg hjk];exact tab_stable (Le:=fun w w'=>Below w.heap.size w w') st _ _ _ _ (hp j ((upd_true hj).resolve_left hjk)) hb
       by_cases hw:wantsG V o.guard=true
       · rw[if_pos hw] at ob ⊢
         generalize (execOp (rhoP x.2 a0 V) (bareOp o.op o.type)).run P w=q at *
         cases q with
         | ok n w' =>
           cases n <;> simp only[ResG] at ob <;> simp only[Res]
           case value v=>exact next _ _ ob.1 ob.2
           case skip=>exact next _ _ ob.1 ob.2
           case enter f args =>
            refine ob.mono ?_
            rintro e w'' ⟨v,rfl,hv,hb⟩
            exact⟨v,rfl,next _ _ hv hb⟩
         | halt x w'=>simp only[ResG] at ob
       · rw[if_neg hw] at ob ⊢
         exact next _ _ ob (Below.refl _ _)
theorem wp_region_turn2 {id:Nat} {ops:Array Oper} {a0:Act} {w:World} (z:Nat) (C D0 D1:World->Prop) (Le:World->World->Prop) (l:List (Value->World->Prop)) (pl:List (List Nat×List (Nat×Nat)))
 (n:Nat) (hn:a0.tmps.size=n) (hm:P.follows .mixedOrders=true) (hok:regionOk ops n=true) (hpl:planOk ops pl=true) (hz:z<ops.size)
 (hg:∀ W W',C W->Below W.heap.size W W'->C W') (hg0:∀ W W',D0 W->Below W.heap.size W W'->D0 W') (hg1:∀ W W',D1 W->Below W.heap.size W W'->D1 W') (hC:C w.drew) (hD:D0 w.drew)
 (st:∀ f∈l,∀ v w w',f v w->Below w.heap.size w w'->f v w') (st2:∀ x∈l.zipIdx,(x.2==z||fore pl z pl.length x.2)=true∨∀ v w w',x.1 v w->Le w w'->x.1 v w')
 (owed:OwedT P a0 C D0 D1 Le (tab l) z 0 ops.toList pl)
 (fin:∀ (V:Nat->Value) (w:World),C w->D1 w->(∀ j,j<ops.size->tab l j (V j) w)->Q .normal (putAll V ops.toList 0 a0) w) :
 (Code.region id ops true).wp P Q a0 w:=by
 have st2':∀ j,j≠z->fore pl z pl.length j=false->∀ v w w',tab l j v w->Le w w'->tab l j v w':=by
  intro j hjz hf v w w' ht hm
  unfold tab at *
  cases hj:l[j]? with
  | none=>simp[List.getD_eq_getElem?_getD,hj]
  | some f =>
    simp only[List.getD_eq_getElem?_getD,hj,Option.getD_some] at ht ⊢
    rcases st2 (f,j) (List.mem_zipIdx_iff_getElem?.2 hj) with h1|h1
    · simp only[Bool.or_eq_true,beq_iff_eq] at h1
      rcases h1 with h2|h2
      · exact absurd h2 hjz
      · rw[h2] at hf;cases hf
    · exact h1 v w w' ht hm
 exact wp_region_inv (TurnI C D0 D1 l z) n hn hm hok ⟨hC,by simpa using hD,fun _ h=>by cases h⟩ (owed_plan pl hpl (OwedT.toP2 pl hpl hg hg0 hg1 st st2' _ _ _ owed)) fun V w h=>fin V w h.1 (by have:=h.2.1;simpa [hz] using this) fun j hj=>h.2.2 j (by simpa using hj)
end
section
variable {P:Program} {Q:Exit->Act->World->Prop}
def ResF (F:World->Prop):Result Next->Prop
 | .ok (.value _) w'=>F w'
 | .ok .skip w'=>F w'
 | _=>False
def OwedF (P:Program) (a0:Act) (C D1 F:World->Prop) (φ:Nat->Value->World->Prop) (op:Op) (ty:TypeId) (gd:Option (Nat×Bool)) (al:List Nat) (rd:List (Nat×Nat)):Prop :=
 gd=none/\∀ (V:Nat->Value) (w:World),C w->D1 w->(∀ j∈al,φ j (V j) w)->ResF F ((execOp (rhoP rd a0 V) (bareOp op ty)).run P w)
def OwedY (P:Program) (a0:Act) (C D0 D1:World->Prop) (Le:World->World->Prop) (F:World->Prop) (φ:Nat->Value->World->Prop) (z y:Nat):Nat->List Oper->List (List Nat×List (Nat×Nat))->Prop
 | _,[],_=>True
 | _,_ :: _,[]=>False
 | k,o :: r,x :: xs=>(if k=y then OwedF P a0 C D1 F φ o.op o.type o.guard x.1 x.2 else OwedT P a0 C D0 D1 Le φ z k [o] [x])/\OwedY P a0 C D0 D1 Le F φ z y (k+1) r xs
def TurnY (C D0 D1:World->Prop) (t:List (Value->World->Prop)) (z y:Nat) (F:World->Prop) (L:Nat->Bool) (V:Nat->Value) (w:World):Prop:=if L y=true then F w else TurnI C D0 D1 t z L V w
theorem Res.imp {R R':Value->World->Prop} (h:∀ v w,R v w->R' v w) {q:Result Next} (hq:Res P R q):Res P R' q:=by
 cases q with
 | ok n w' =>
   cases n <;> simp only[Res] at hq ⊢
   case value v=>exact h _ _ hq
   case skip=>exact h _ _ hq
   case enter f args =>
    refine hq.mono ?_
    rintro e w'' ⟨v,rfl,hv⟩
    exact⟨v,rfl,h _ _ hv⟩
 | halt x w'=>simp only[Res] at hq
theorem OwedY.toP {ops:Array Oper} {a0:Act} {C D0 D1:World->Prop} {Le:World->World->Prop} {F:World->Prop} {t:List (Value->World->Prop)} {z y:Nat} (ql:List (List Nat×List (Nat×Nat))) (hpl:planOk ops ql=true)
 (hy:∀ k,k<ops.size->k≠y->fore ql k ql.length y=true) (hzy:z≠y) (hz:z<ops.size)
 (hg:∀ W W',C W->Below W.heap.size W W'->C W') (hg0:∀ W W',D0 W->Below W.heap.size W W'->D0 W') (hg1:∀ W W',D1 W->Below W.heap.size W W'->D1 W')
 (st:∀ f∈t,∀ v w w',f v w->Below w.heap.size w w'->f v w') (st2:∀ j,j≠z->fore ql z ql.length j=false->∀ v w w',tab t j v w->Le w w'->tab t j v w') :
 ∀ (l:List Oper) (k:Nat) (pl:List (List Nat×List (Nat×Nat))),(∀ i,ops[k+i]?=l[i]?)->(∀ i,ql[k+i]?=pl[i]?) ->
   OwedY P a0 C D0 D1 Le F (tab t) z y k l pl->OwedP P ops a0 (TurnY C D0 D1 t z y F) k l pl:=by
 intro l
 induction l with
 | nil=>intro k pl _ _ _;exact trivial
 | cons o r ih =>
   intro k pl ho hq h
   cases pl with
   | nil=>exact False.elim h
   | cons x xs =>
     have hko:ops[k]?=some o:=ho 0
     have hks:k<ops.size:=(Array.getElem?_eq_some_iff.1 hko).1
     refine⟨?_,ih _ _ (fun i=>by have:=ho (i+1);simpa [Nat.add_assoc,Nat.add_comm 1 i] using this) (fun i=>by have:=hq (i+1);simpa [Nat.add_assoc,Nat.add_comm 1 i] using this) h.2⟩
     intro L V w hLk hcl hal hI
     by_cases hky:k=y
     · subst hky
       have ob:=h.1
       rw[if_pos rfl] at ob
       obtain⟨hgd,ob⟩:=ob
       unfold TurnY at hI
       rw[hLk] at hI
       simp only[Bool.false_eq_true,if_false] at hI
       obtain⟨hc,hd,hp⟩:=hI
       by_cases hLz:L z=true
       · rw[if_pos hLz] at hd
         have ob:=ob V w hc hd fun j hj=>hp j (hal j hj)
         rw[hgd,if_pos (show wantsG V none=true from rfl)]
         have hkk:upd L k k=true:=by simp[upd]
         generalize (execOp (rhoP x.2 a0 V) (bareOp o.op o.type)).run P w=q at *
         cases q with
         | ok n w' =>
           cases n <;> simp only[ResF] at ob <;> simp only[Res]
           case value v=>unfold TurnY;rw[if_pos hkk];exact ob
           case skip=>unfold TurnY;rw[if_pos hkk];exact ob
         | halt x w'=>simp only[ResF] at ob
       · exfalso
         have hf:=hy z hz hzy
         have hxk:ql[k]?=some x:=hq 0
         cases hn:ql.length with
         | zero=>rw[hn] at hf;cases hf
         | succ n =>
           rw[hn] at hf
           unfold fore at hf
           rw[hxk] at hf
           simp only[Bool.or_eq_true,List.contains_iff_mem,List.any_eq_true] at hf
           rcases hf with hf|⟨i,hi,hf⟩
           · exact hLz (hal z hf)
           · exact hLz (fore_done hpl hcl _ _ hf (hal i hi))
     · have hLy:L y=false:=by
        cases hLy:L y with
        | false=>rfl
        | true=>rw[fore_done hpl hcl _ _ (hy k hks hky) hLy] at hLk;cases hLk
       have ob:=h.1
       rw[if_neg hky] at ob
       have e:=(OwedT.toP2 ql hpl hg hg0 hg1 st st2 [o] k [x] ob).1
       unfold TurnY at hI
       rw[hLy] at hI
       simp only[Bool.false_eq_true,if_false] at hI
       have e:=e L V w hLk hcl hal hI
       have hup:upd L k y=false:=by simp[upd,Ne.symm hky,hLy]
       have key:∀ v w',TurnI C D0 D1 t z (upd L k) (updV V k v) w'->TurnY C D0 D1 t z y F (upd L k) (updV V k v) w':=by
        intro v w' h9
        unfold TurnY
        rw[hup]
        simpa using h9
       by_cases hw:wantsG V o.guard=true
       · rw[if_pos hw] at e ⊢
         exact Res.imp key e
       · rw[if_neg hw] at e ⊢
         exact key _ _ e
theorem wp_region_turn3 {id:Nat} {ops:Array Oper} {a0:Act} {w:World} (z y:Nat) (C D0 D1:World->Prop) (Le:World->World->Prop) (F:World->Prop) (l:List (Value->World->Prop)) (pl:List (List Nat×List (Nat×Nat)))
 (n:Nat) (hn:a0.tmps.size=n) (hm:P.follows .mixedOrders=true) (hok:regionOk ops n=true) (hpl:planOk ops pl=true) (hz:z<ops.size) (hy:y<ops.size) (hzy:z≠y)
 (hlast:(List.range ops.size).all (fun k=>k==y||fore pl k pl.length y)=true)
 (hg:∀ W W',C W->Below W.heap.size W W'->C W') (hg0:∀ W W',D0 W->Below W.heap.size W W'->D0 W') (hg1:∀ W W',D1 W->Below W.heap.size W W'->D1 W') (hC:C w.drew) (hD:D0 w.drew)
 (st:∀ f∈l,∀ v w w',f v w->Below w.heap.size w w'->f v w') (st2:∀ x∈l.zipIdx,(x.2==z||fore pl z pl.length x.2)=true∨∀ v w w',x.1 v w->Le w w'->x.1 v w')
 (owed:OwedY P a0 C D0 D1 Le F (tab l) z y 0 ops.toList pl)
 (fin:∀ (V:Nat->Value) (w:World),F w->Q .normal (putAll V ops.toList 0 a0) w) :
 (Code.region id ops true).wp P Q a0 w:=by
 have st2':∀ j,j≠z->fore pl z pl.length j=false->∀ v w w',tab l j v w->Le w w'->tab l j v w':=by
  intro j hjz hf v w w' ht hm
  unfold tab at *
  cases hj:l[j]? with
  | none=>simp[List.getD_eq_getElem?_getD,hj]
  | some f =>
    simp only[List.getD_eq_getElem?_getD,hj,Option.getD_some] at ht ⊢
    rcases st2 (f,j) (List.mem_zipIdx_iff_getElem?.2 hj) with h1|h1
    · simp only[Bool.or_eq_true,beq_iff_eq] at h1
      rcases h1 with h2|h2
      · exact absurd h2 hjz
      · rw[h2] at hf;cases hf
    · exact h1 v w w' ht hm
 have hy':∀ k,k<ops.size->k≠y->fore pl k pl.length y=true:=by
  intro k hk hne
  have:=List.all_eq_true.1 hlast k (List.mem_range.2 hk)
  simp only[Bool.or_eq_true,beq_iff_eq] at this
  exact this.resolve_left hne
 refine wp_region_inv (TurnY C D0 D1 l z y F) n hn hm hok ?_ (owed_plan pl hpl (OwedY.toP pl hpl hy' hzy hz hg hg0 hg1 st st2' _ _ _ (fun i=>by simp) (fun i=>by simp) owed)) fun V w h=>fin V w ?_
 · unfold TurnY;simp only[Bool.false_eq_true,if_false];exact⟨hC,by simpa using hD,fun _ h=>by cases h⟩
 · unfold TurnY at h;simpa [hy] using h
end
theorem Blk.upB {w w':World} {b:Nat} {t:TypeId} {cs:Array Value} {row:Option Nat} (h:Blk w b t cs) (u:UpB 0 row w w') (hr:row≠some b):Blk w' b t cs:=(u.block b (Nat.zero_le _) h.lt (fun e=>hr e.symm)).trans h
theorem below_upB {base:Nat} {w w':World} {row:Option Nat} (u:UpB 0 row w w') (hb:base<=w.heap.size) (hr:∀ b,row=some b->base<=b):Below base w w':=by
 refine⟨u.os,u.tape,u.output,u.size,fun i hi=>u.block i (Nat.zero_le _) (by omega) ?_⟩
 intro e
 have:=hr i e.symm
 omega
theorem appS_slice {α:Type} {S:Shp α} {base gb:Nat} {T:TypeId} {row:Option Nat} {n:Nat} {xs:List Value} {x:α} {v:Value} {W:World} (h:appS S base gb T row n xs x v W):∃ A m c,v=.slice A m c:=by
 obtain⟨cs,h1,-⟩:=h
 rcases h1.2 with ⟨h,_⟩|⟨g,cap,cur,h,_⟩
 · exact⟨_,_,_,h⟩
 · exact⟨_,_,_,h⟩
theorem elF_of_entO {gb B:Nat} (hB:gb<=B) {x:Ent} {v:Value} {w:World} (h:entO B x v w):elF enS gb x v w:=by
 obtain⟨vf,ve,rfl,h1,h2⟩:=h
 exact⟨⟨_,rfl⟩,rfl,fun W' u=>⟨vf,ve,rfl,flt_own (h1.up (u.more hB (fun _ _ _=>by simp))),(h2.up (Nat.le_refl _) (u.more hB (fun _ _ _=>by simp))).lst⟩⟩
theorem elF_agg {gb:Nat} {x:Ent} {v:Value} {w:World} (h:elF enS gb x v w):∃ vf ve,v=.agg (entA x vf ve):=by
 obtain⟨⟨arr,rfl⟩,-,h⟩:=h
 obtain⟨vf,ve,h1,-⟩:=h w (UpB.rf _ _ _)
 refine⟨vf,ve,?_⟩
 have h2:arr.toList=entc x vf ve:=h1
 congr 1
 exact Array.toList_inj.1 h2
theorem OnV.ns {base g gs gr:Nat} {s:Stt} {r:Rec} {vl vp va vf ve:Value} {c1 c2:List (List Value)} {w:World} (h:OnV base g gs gr s r vl vp va vf ve c1 c2 w):vl.ownBlock≠some gs/\vp.ownBlock≠some gs/\va.ownBlock≠some gs/\vl.ownBlock≠some gr/\vp.ownBlock≠some gr/\va.ownBlock≠some gr:=by
 refine⟨fun e=>?_,fun e=>?_,fun e=>?_,fun e=>?_,fun e=>?_,fun e=>?_⟩
 · obtain⟨cur,h1⟩:=row_blk h.st.l e;exact absurd (h1.unlike h.bs) (by decide)
 · obtain⟨cur,h1⟩:=row_blk h.st.p e;exact absurd (h1.unlike h.bs) (by decide)
 · obtain⟨cur,h1⟩:=row_blk h.st.a e;exact absurd (h1.unlike h.bs) (by decide)
 · obtain⟨cur,h1⟩:=row_blk h.st.l e;exact absurd (h1.unlike h.br) (by decide)
 · obtain⟨cur,h1⟩:=row_blk h.st.p e;exact absurd (h1.unlike h.br) (by decide)
 · obtain⟨cur,h1⟩:=row_blk h.st.a e;exact absurd (h1.unlike h.br) (by decide)
theorem On4_calls {base g gs gr:Nat} {s:Stt} {r:Rec} {vl vp va vf ve:Value} {c1 c2:List (List Value)} (w:World) (h:OnV base g gs gr s r vl vp va vf ve c1 c2 w) :
 Calls Tryz.prog 223 #[.pointer (some ⟨gs,0,none⟩),.pointer (some ⟨gr,0,none⟩)] w fun e w'=>OnPost base g s (on4 s r) w e w':=by
 have HR:Hid (on4 s r=if hasE s.list (idR r) then none else if hasI s.ab (idR r) then none else some ⟨s.life,s.list,dropE s.prom (idR r),s.ab++[idR r]⟩):=Lib.hid rfl
 generalize on4 s r=R at *
 have qg:=h.st.blk.cells
 have qs:=h.bs.cells
 have qr:=h.br.cells
 have H:=Lib.hid h
 obtain⟨-,-,hns,-,-,hnr⟩:=h.ns
 have hsz:=h.sz
 have C1:=Lib.hid fun W (kW:K w W)=>Has_calls s (idR r) _ W (h.st.st kW).stv (by omega)
 have C2:=Lib.hid fun W (kW:K w W)=>Aborted_calls s (idR r) _ W (h.st.st kW).stv (by omega)
 generalize hasE s.list (idR r)=B1 at *
 generalize hasI s.ab (idR r)=B2 at *
 clear h
 have k0:=K.rf w
 go_enter Tryz.func223,Tryz.ntmps223
 go_upto_region 1 with (fail)
 refine wp_region_K [isV (.pointer (some ⟨g,0,none⟩)),
  isV (.pointer (some ⟨g,0,none⟩)),
  isV (.agg (stA s vl vp va)),
  isV (.pointer (some ⟨gr,10,none⟩)),
  isV (idv (idR r)),
  isV (.bool B1),
  isV (.bool B1),
  isV (cond (!B1) (.pointer (some ⟨g,0,none⟩)) undef),
  isV (cond (!B1) (.pointer (some ⟨g,0,none⟩)) undef),
  isV (cond (!B1) (.agg (stA s vl vp va)) undef),
  isV (cond (!B1) (.pointer (some ⟨gr,10,none⟩)) undef),
  isV (cond (!B1) (idv (idR r)) undef),
  isV (cond (!B1) (.bool B2) undef),
  isV (.bool (B1||B2))]
  [([],[]),([0],[(3,0)]),([1],[(4,1)]),([],[]),([3],[(6,3)]),([2,4],[(5,2),(7,4)]),([5],[(8,5)]),([6],[]),([7,6],[(10,7)]),([8,6],[(11,8)]),([6],[]),([10,6],[(13,10)]),([9,11,6],[(12,9),(14,11)]),([6,12],[(9,6),(15,12)])] 32 rfl (by kernel_rfl) (by kernel_rfl) (by kernel_rfl) ?st1 ?ow1 ?_
 case st1 =>
  simp only[List.forall_mem_cons]
  and_intros
  all_goals first|exact isV_st _|exact sl_st _|exact anyV_st|simp
 case ow1 =>
  simp only[OwedQ]
  and_intros
  all_goals try trivial
  all_goals
   intro V W kW hp
   cases B1
   all_goals
    try simp only[List.forall_mem_cons,tab_zero,tab_succ,isV] at hp
    try simp[wantsG,rhoP,List.lookup,hp,tab_zero,tab_succ,ResG,execOp,bareOp,isV,Below.refl,kW,qg,qs,qr,go_sem]
   all_goals first|exact⟨rfl,rfl,rfl⟩|(refine (C1.out W kW).mono ?_;rintro e w2 ⟨rfl,k⟩;exact⟨_,rfl,rfl,k⟩)|(refine (C2.out W kW).mono ?_;rintro e w2 ⟨rfl,k⟩;exact⟨_,rfl,rfl,k⟩)
 intro V W kW hp
 have h9:=hp 13 (by simp)
 simp only[tab_zero,tab_succ,isV] at h9
 clear hp
 simp only[putAll,Act.put,List.setIfInBounds_toArray,List.set_cons_succ,List.set_cons_zero,h9]
 have H1:=Lib.hid (H.out.st.st kW)
 have kb:Below base w W:=kW.mono H.out.low
 have bs1:=H.out.bs.below kW H.out.bs.lt
 have br1:=H.out.br.below kW H.out.br.lt
 have hlow:base<=W.heap.size:=Nat.le_trans H.out.low kW.size
 clear qg qs qr h9 C1 C2
 cases B1
 · cases B2
   · have HQ:Hid (R=some ⟨s.life,s.list,dropE s.prom (idR r),s.ab++[idR r]⟩):=Lib.hid (by rw[HR.out];rfl)
     generalize W=w1 at *
     have q1:=bs1.cell
     have q2:=br1.cell
     have q3:=H1.out.blk.cell
     go_upto_region 3 with (fail)
     clear q1 q2 q3
     obtain⟨C,hC⟩:∃ C:World->Prop,C=fun W=>UpB 0 va.ownBlock w1 W:=⟨_,rfl⟩
     have hg:∀ W W',C W->Below W.heap.size W W'->C W':=by
      subst hC
      intro W W' h hb
      exact h.tr (UpB.of_k hb _ _)
     have hc0:C w1:=by rw[hC];exact UpB.rf _ _ _
     obtain⟨F,hF⟩:∃ F:World->Prop,F=fun W=>Sto base g ⟨s.life,s.list,s.prom,s.ab++[idR r]⟩ W/\Below base w1 W/\UpN (fun k=>va.ownBlock=some k∨k=g) w1 W:=⟨_,rfl⟩
     have hrow:∀ b,va.ownBlock=some b->b<w1.heap.size:=fun b hb=>(H1.out.rowa hb).2.1
     refine wp_region_turn3 8 11 C (fun W=>W.ownsRow base 35 3 va s.ab.length (s.ab.flatMap idc)) (fun _=>True) (fun W W'=>W.grownBy W' va.ownBlock) F [isV (.pointer (some ⟨g,0,none⟩)),
      isV (.pointer (some ⟨g,0,none⟩)),
      isV (.pointer (some ⟨g,0,none⟩)),
      isV (.pointer (some ⟨g,3,none⟩)),
      isV (va),
      isV (.pointer (some ⟨gr,10,none⟩)),
      isV (idv (idR r)),
      rowS idS w1.heap.size 35 (idR r),
      appS idS base w1.heap.size 35 va.ownBlock s.ab.length (s.ab.flatMap idc) (idR r),
      isV (.pointer (some ⟨g,0,none⟩)),
      isV (.pointer (some ⟨g,3,none⟩)),
      anyV]
      [([],[]),([],[]),([1],[(18,1)]),([2],[(19,2)]),([3],[(20,3)]),([],[]),([5],[(22,5)]),([6],[(23,6)]),([4,7],[(21,4),(24,7)]),([0],[(17,0)]),([9],[(26,9)]),([10,8],[(27,10),(25,8)])] 32 rfl (by kernel_rfl) (by kernel_rfl) (by kernel_rfl) (by decide) (by decide) (by decide) (by kernel_rfl) hg (fun W W' h k=>row_below h k) (fun _ _ h _=>h) (by exact hg _ _ hc0 (Below.drew (Below.refl _ _))) (row_below H1.out.a (Below.drew (Below.refl _ _))) ?st3 ?stt3 ?ow3 ?_
     case st3 =>
      simp only[List.forall_mem_cons]
      and_intros
      all_goals first|exact isV_st _|exact anyV_st|exact elF_st _ _|exact rowS_st _ _ _|exact appS_st _ _ _ _ _ _ _|simp
     case stt3 =>
      simp only[List.zipIdx_cons,List.zipIdx_nil,List.forall_mem_cons,Nat.zero_add,Nat.reduceAdd]
      and_intros
      all_goals first|exact .inl rfl|exact .inr (fun _ _ _ h _=>h)|exact .inr (elF_row hrow)|exact .inr (rowS_row hrow)|simp
     case ow3 =>
      simp only[OwedY,OwedT]
      and_intros
      all_goals try trivial
      all_goals
       simp only[Nat.reduceEqDiff,if_false,Nat.reduceAdd]
      all_goals
       first
       | (intro V w' hc hD hp
          simp only[List.forall_mem_cons,tab_zero,tab_succ,isV] at hp
          rw[hC] at hc)
       | (intro V w' hc hp
          rw[hC] at hc
          have qg:=(H1.out.blk.upB hc (fun e=>(H1.out.rowa e).2.2.1 rfl)).cell
          have qs:=(bs1.upB hc (fun e=>hns e)).cell
          have qr:=(br1.upB hc (fun e=>hnr e)).cell
          try simp only[List.forall_mem_cons,tab_zero,tab_succ,isV] at hp
          try (simp[wantsG,rhoP,List.lookup,hp,tab_zero,tab_succ,ResG,execOp,bareOp,isV,undef,Below.refl,qg,qs,qr,idR,go_sem];done))
       | skip
      · obtain⟨h7,-⟩:=hp
        simp[h7,wantsG,rhoP,List.lookup,tab_zero,tab_succ,ResG,execOp,bareOp,undef,go_sem]
        exact⟨⟨w'.heap.size,_,rfl,by have:=hc.size;omega,Blk.new _ _ _,rfl,fun W' u=>rfl⟩,(K.rf w').al _⟩
      · obtain⟨h1,h4,-⟩:=hp
        obtain⟨v',w'',hrun,h7,h5,h3⟩:=exec_appS (P:=Tryz.prog) (S:=idS) (ρ:=rhoP [(21,4),(24,7)] _ V) (.tmp 21) (.tmp 24) 51 51 35 base _ 24 s.ab.length (s.ab.flatMap idc) TId va h1 hD w1.heap.size (by first|exact H1.out.2|omega) hrow (by have:=hc.size;omega) (idR r) _ rfl h4 (by omega)
        rw[hrun]
        refine⟨h7,?_,trivial,h3⟩
        rw[hC]
        exact hc.tr (UpB.of_mut h3 0)
      · obtain⟨h6,h9,-⟩:=hp
        have hb9:=H1.out.blk.upB hc (fun e=>(H1.out.rowa e).2.2.1 rfl)
        have z:=hb9.frozen
        have q:=hb9.cell
        have hpu:=H1.out.pushA (by omega) hc h9
        obtain⟨A9,n9,c9,e9⟩:=appS_slice h9
        generalize hA:rhoP [(27,10),(25,8)] _ V=ρ9
        have es4:ρ9 (.tmp 27)=.pointer (some ⟨g,3,none⟩):=by rw[<- hA];exact h6
        have ex4:ρ9 (.tmp 25)=V 8:=by rw[<- hA];rfl
        rw[e9] at ex4 hpu
        have hs7:(execOp ρ9 (bareOp (.store 51 (.tmp 27) (.tmp 25)) 0)).run Tryz.prog w'=.ok .skip (w'.setCell ⟨g,3,none⟩ (.slice A9 n9 c9)):=by
         simp[es4,ex4,execOp,bareOp,q,z,go_sem]
        rw[hs7]
        show F _
        rw[hF]
        exact⟨hpu,(below_upB hc (by omega) (fun b hb=>(H1.out.rowa hb).1)).setCell H1.out.low _,grow_upn hc (UpN.rf (fun _=>False) _) (fun k _ e=>e.elim (fun e=>.inr e) (fun e=>e.elim (fun e=>.inl e.symm) False.elim))⟩
     intro V W hFW
     rw[hF] at hFW
     obtain⟨HSF,kbF,unF⟩:=hFW
     have HSF:=Lib.hid HSF
     clear hC hg hc0 hF hrow
     simp only[putAll,Act.put,List.setIfInBounds_toArray,List.set_cons_succ,List.set_cons_zero]
     have hlp:s.prom.length<=1000000:=by have:=H.out.sz;omega
     have hzz:=Nat.le_trans hlow kbF.size
     have C3:=Lib.hid (Forget_calls ⟨s.life,s.list,s.prom,s.ab++[idR r]⟩ (idR r) base g W HSF.out hlp hzz)
     have hgs:gs≠g:=by rintro rfl;exact absurd (bs1.unlike H1.out.blk) (by decide)
     have hgr:gr≠g:=by rintro rfl;exact absurd (br1.unlike H1.out.blk) (by decide)
     have qs2:=(show Blk W gs _ _ from (unF.block gs bs1.lt (fun e=>e.elim hns hgs)).trans bs1).cell
     have qr2:=(show Blk W gr _ _ from (unF.block gr br1.lt (fun e=>e.elim hnr hgr)).trans br1).cell
     clear unF HSF bs1 br1 H1 hns hnr
     go_wp2_with fail
     refine C3.out.mono ?_
     rintro e w3 ⟨rfl,hs,hb⟩
     have HS:=Lib.hid hs
     clear hs
     go_wp2
     go_ret
     exact⟨by rw[HQ.out];rfl,by rw[HQ.out];exact HS.out,(kb.trans kbF).trans hb⟩
   · have HQ:Hid (R=none):=Lib.hid (by rw[HR.out];rfl)
     go_wp2
     go_ret
     exact⟨by rw[HQ.out];rfl,by rw[HQ.out];exact⟨_,_,_,_,_,H1.out⟩,kb⟩
 · have HQ:Hid (R=none):=Lib.hid (by rw[HR.out];rfl)
   rw[show (true||B2)=true from rfl]
   go_wp2
   go_ret
   exact⟨by rw[HQ.out];rfl,by rw[HQ.out];exact⟨_,_,_,_,_,H1.out⟩,kb⟩
