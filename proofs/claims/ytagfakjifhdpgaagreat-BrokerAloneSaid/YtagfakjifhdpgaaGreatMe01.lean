/-
  The walk of the statements' Few of events (layer 4). Conditions: none.
-/
import Derived.Test.YtagfakjifhdpgaaGreatMe00
set_option maxRecDepth 100000
set_option maxHeartbeats 16000000
set_option linter.unusedVariables false
set_option linter.unusedSimpArgs false
namespace Go.Proofs.YtagfakjifhdpgaaGreat
open Go Go.RowKit
def fewE (l:List Att):Bool:=decide (l.length<=20)&&l.all fun x=>decide (x.1.size<=100)&&decide (x.2.2.2.size<=100)
theorem few_bad (l:List Att) (k:Nat) (h:k<l.length) (hb:¬ (l[k].1.size<=100/\l[k].2.2.2.size<=100)):fewE l=false:=by
 simp only[fewE,Bool.and_eq_false_iff]
 right
 rw[List.all_eq_false]
 exact⟨l[k],List.getElem_mem h,by simpa using hb⟩
theorem few_good (l:List Att) (h20:l.length<=20) (h:∀ k (hk:k<l.length),l[k].1.size<=100/\l[k].2.2.2.size<=100):fewE l=true:=by
 simp only[fewE,Bool.and_eq_true,decide_eq_true_eq,h20,true_and,List.all_eq_true]
 intro x hx
 obtain⟨k,hk,rfl⟩:=List.getElem_of_mem hx
 exact h k hk
theorem Few_calls (A:Option Addr) (c:Nat) (l:List Att) (w:World) (B:Nat) (hR:Reads w B 4 A l.length (l.flatMap attc)) (_hB:B<=w.heap.size) :
 Calls Tryz.prog 13 #[.slice A l.length c] w fun e w'=>e=.returned (.bool (fewE l))/\w=w':=by
 have HA:=Lib.hid hR
 clear hR
 by_cases hl:l.length<=20
 rotate_left
 · have hb1:(20:Int)<(l.length:Int):=by omega
   have HE:Hid (fewE l=false):=Lib.hid (by simp[fewE];omega)
   clear hl
   go_enter Tryz.func13,Tryz.ntmps13
   go_wp2
   go_ret
   exact⟨by rw[HE.out];rfl,rfl⟩
 have hb1:¬ (20:Int)<(l.length:Int):=by omega
 go_enter Tryz.func13,Tryz.ntmps13
 go_wp2_with fail
 go_loop [3] (fun i=>∃ k:Nat,k<=l.length/\i=.int .i64 (k:Int)/\Hid (∀ j (hj:j<l.length),j<k->l[j].1.size<=100/\l[j].2.2.2.size<=100)) (fun i=>l.length - (intOf i).toNat)
 case atStart=>exact⟨0,by omega,rfl,Lib.hid (fun j _ h=>absurd h (by omega))⟩
 case round =>
  obtain⟨k,hk,rfl,hall⟩:=hrel
  by_cases hlt:k<l.length
  · have hki:(k:Int)<(l.length:Int):=by omega
    obtain⟨b,off,rfl,hbB,hcell⟩:=HA.out.atts (by omega)
    obtain⟨d0,d1,d2,d3⟩:=hcell k hlt
    clear hcell d1 d2
    have HF:=Lib.hid (few_bad l k hlt)
    have HT:Hid (l[k].1.size<=100/\l[k].2.2.2.size<=100->∀ j (hj:j<l.length),j<k+1->l[j].1.size<=100/\l[j].2.2.2.size<=100):=by
     refine Lib.hid fun h j hj hjk=>?_
     by_cases e:j=k
     · subst e;exact h
     · exact hall.out j hj (by omega)
    generalize l[k]=x at *
    obtain⟨xs,xk,xn,xt⟩:=x
    simp only at d0 d3 HF HT
    by_cases h1:xs.size<=100
    · have h1':¬ (100:Int)<(xs.size:Int):=by omega
      by_cases h2:xt.size<=100
      · have h2':¬ (100:Int)<(xt.size:Int):=by omega
        have hr:=Lib.hid (HT.out ⟨h1,h2⟩)
        go_wp2
        go_round
        case rel=>exact⟨k+1,by omega,by go_num,hr⟩
        case measure=>simp[intOf];omega
      · have h2':(100:Int)<(xt.size:Int):=by omega
        have HE:Hid (fewE l=false):=Lib.hid (HF.out (by omega))
        go_wp2
        go_ret
        exact⟨by rw[HE.out];rfl,rfl⟩
    · have h1':(100:Int)<(xs.size:Int):=by omega
      have HE:Hid (fewE l=false):=Lib.hid (HF.out (by omega))
      go_wp2
      go_ret
      exact⟨by rw[HE.out];rfl,rfl⟩
  · have hki:¬ (k:Int)<(l.length:Int):=by omega
    have HE:Hid (fewE l=true):=Lib.hid (few_good l hl fun j hj=>hall.out j hj (by omega))
    go_wp2
    go_ret
    exact⟨by rw[HE.out];rfl,rfl⟩
section
variable {l la lb:List Att} {b:List UInt8} {v va vb:Value} {w:World}
theorem Few_evt (h:evt l v w):Calls Tryz.prog 13 #[v] w fun e w'=>e=.returned (.bool (fewE l))/\w=w':=by
 obtain⟨A,c,rfl,hR⟩:=h
 exact Few_calls A c l w _ hR (Nat.le_refl _)
end
theorem sameEn_iff (x y:Ent):decide (x=y)=(decide (x.f=y.f)&&decide (x.es=y.es)&&(decide (x.kind=y.kind)&&(decide (x.br=y.br)&&decide (x.life=y.life)&&decide (x.ser=y.ser))&&decide (x.cl=y.cl)&&decide (x.sub=y.sub))):=by
 obtain⟨k,b,l,s,c,u,f,es⟩:=x
 obtain⟨k',b',l',s',c',u',f',es'⟩:=y
 simp only[Ent.mk.injEq]
 rw[Bool.eq_iff_iff]
 simp only[decide_eq_true_eq,Bool.and_eq_true]
 constructor
 · rintro ⟨rfl,rfl,rfl,rfl,rfl,rfl,rfl,rfl⟩;simp
 · rintro ⟨⟨rfl,rfl⟩,⟨⟨rfl,⟨rfl,rfl⟩,rfl⟩,rfl⟩,rfl⟩;simp
theorem ESame_calls (x y:Ent) (v u:Value) (w:World) (h:ent x v w) (k:ent y u w) (hs:smallEn x) :
 Calls Tryz.prog 51 #[v,u] w fun e w'=>e=.returned (.bool (decide (x=y)))/\K w w':=by
 obtain⟨vf1,ve1,rfl,hf1,he1⟩:=h
 obtain⟨vf2,ve2,rfl,hf2,he2⟩:=k
 obtain⟨A1,c1,rfl⟩:=flt_slice hf1
 obtain⟨A2,c2,rfl⟩:=flt_slice hf2
 obtain⟨D1,d1,e1,he1,hd1⟩:=he1
 obtain rfl:=e1
 obtain⟨D2,d2,e2,he2,hd2⟩:=he2
 obtain rfl:=e2
 obtain⟨hs1,hs2,hs3⟩:=hs
 have HI:=Lib.hid (sameEn_iff x y)
 have HS3:=Lib.hid hs3
 clear hs3
 have hx:=(Blk.new w 42 (entA x (.slice A1 x.f.length c1) (.slice D1 x.es.length d1))).alloc (.cells (entA y (.slice A2 y.f.length c2) (.slice D2 y.es.length d2)) 42)
 have hy:=Blk.new (w.alloc (.cells (entA x (.slice A1 x.f.length c1) (.slice D1 x.es.length d1)) 42)) 42 (entA y (.slice A2 y.f.length c2) (.slice D2 y.es.length d2))
 have k2:K w ((w.alloc (.cells (entA x (.slice A1 x.f.length c1) (.slice D1 x.es.length d1)) 42)).alloc (.cells (entA y (.slice A2 y.f.length c2) (.slice D2 y.es.length d2)) 42)):=((K.rf w).al _).al _
 have hz:(w.alloc (.cells (entA x (.slice A1 x.f.length c1) (.slice D1 x.es.length d1)) 42)).heap.size=w.heap.size+1:=by simp
 rw[hz] at hy
 clear hz
 obtain⟨kx,bx,lx,sx,cx,ux,fx,es1⟩:=x
 obtain⟨ky,by_,ly,sy,cy,uy,fy,es2⟩:=y
 simp only at hf1 hf2 he1 he2 hs1 hs2 HI HS3 ⊢
 generalize decide (Ent.mk kx bx lx sx cx ux fx es1=Ent.mk ky by_ ly sy cy uy fy es2)=R at *
 go_enter Tryz.func51,Tryz.ntmps51
 go_wp2_with fail
 generalize World.alloc (World.alloc w _) _=w2 at *
 generalize hg2:w.heap.size+1=g2 at hy ⊢
 generalize w.heap.size=g1 at hx hg2 ⊢
 clear hg2
 have qx:=hx.cells
 have qy:=hy.cells
 refine (FSame_flt (flt_st _ _ _ _ hf1 k2) (flt_st _ _ _ _ hf2 k2) hs1).mono ?_
 rintro e w3 ⟨rfl,k3⟩
 have k03:=k2.tr k3
 cases hfe:decide (fx=fy)
 · have HR:Hid (R=false):=Lib.hid (by rw[HI.out,hfe];rfl)
   clear HI
   go_wp2
   go_ret
   exact⟨by rw[HR.out];rfl,k03⟩
 by_cases hle:es1.length=es2.length
 rotate_left
 · have HR:Hid (R=false):=Lib.hid (by rw[HI.out,show decide (es1=es2)=false from by simp;exact fun e=>hle (by rw[e])];simp)
   have hle':((es1.length:Int) != (es2.length:Int))=true:=by simp;omega
   clear HI
   go_wp2
   go_ret
   exact⟨by rw[HR.out];rfl,k03⟩
 have hle':((es1.length:Int) != (es2.length:Int))=false:=by simp;omega
 have HLE:=Lib.hid hle
 clear hle
 have he1:=lsr_st he1 k2
 have he2:=lsr_st he2 k2
 clear hf1 hf2
 go_wp2_with fail
 go_loopw [6,7] (fun i _ wr=>∃ j:Nat,j<=es1.length/\i=.int .i64 (j:Int)/\Hid (es1.take j=es2.take j)/\K w2 wr) (fun i _ _=>es1.length - (intOf i).toNat)
 case atStart=>exact⟨0,by omega,rfl,Lib.hid (by simp),k3⟩
 case round =>
  obtain⟨j,hj,rfl,HT,kr⟩:=hrel
  by_cases hlt:j<es1.length
  · have hji:(j:Int)<(es1.length:Int):=by omega
    have hlt2:j<es2.length:=by have:=HLE.out;omega
    obtain⟨b1,o1,cs1,rfl,hb1,hcl1,⟨v1,rfl,hev1⟩,hc1⟩:=lsr_at he1 j hlt (by decide)
    obtain⟨b2,o2,cs2,rfl,hb2,hcl2,⟨v2,rfl,hev2⟩,hc2⟩:=lsr_at he2 j hlt2 (by decide)
    have p1:∀ W,K wr W->W.cell? ⟨b1,o1+j,none⟩=some v1:=by
     intro W kW
     have:=hc1 0 (by decide)
     rw[(kr.tr kW).cell (by simpa using hb1)]
     simpa [evS] using this
    have p2:∀ W,K wr W->W.cell? ⟨b2,o2+j,none⟩=some v2:=by
     intro W kW
     have:=hc2 0 (by decide)
     rw[(kr.tr kW).cell (by simpa using hb2)]
     simpa [evS] using this
    have rx:=fun W (kW:K wr W)=>qx W (kr.tr kW)
    have ry:=fun W (kW:K wr W)=>qy W (kr.tr kW)
    have kk:=K.rf wr
    have hsz:=HS3.out _ (List.getElem_mem hlt)
    have HB:=Lib.hid (take_eq_succ' es1 es2 j hlt hlt2 HT.out)
    have hlt2i:(j:Int)<(es2.length:Int):=by omega
    clear hc1 hc2 hcl1 hcl2
    go_upto_region 7 with (fail)
    refine wp_region_K [isV (.pointer (some ⟨g1,7,none⟩)),
     isV (.slice (some ⟨b1,o1,none⟩) es1.length d1),
     isV (.int .i64 ((j:Int))),
     isV (.pointer (some ⟨b1,o1+j,none⟩)),
     isV (v1),
     isV (.pointer (some ⟨g2,7,none⟩)),
     isV (.slice (some ⟨b2,o2,none⟩) es2.length d2),
     isV (.int .i64 ((j:Int))),
     isV (.pointer (some ⟨b2,o2+j,none⟩)),
     isV (v2),
     isV (.bool (decide (es1[j]=es2[j]))),
     isV (.bool (decide (es1[j]=es2[j])))]
     [([],[]),([0],[(31,0)]),([],[]),([1,2],[(32,1),(33,2)]),([3],[(34,3)]),([],[]),([5],[(36,5)]),([],[]),([6,7],[(37,6),(38,7)]),([8],[(39,8)]),([4,9],[(35,4),(40,9)]),([10],[(41,10)])] 70 rfl (by kernel_rfl) (by kernel_rfl) (by kernel_rfl) ?st7 ?ow7 ?_
    case st7 =>
     simp only[List.forall_mem_cons]
     and_intros
     all_goals first|exact isV_st _|exact sl_st _|exact anyV_st|simp
    case ow7 =>
     simp only[OwedQ]
     and_intros
     all_goals try trivial
     all_goals
      intro V W kW hp
      try simp only[List.forall_mem_cons,tab_zero,tab_succ,isV] at hp
      try simp[wantsG,rhoP,List.lookup,hp,tab_zero,tab_succ,ResG,execOp,bareOp,isV,Below.refl,kW,rx,ry,p1,p2,hji,hlt2i,go_sem]
     · refine (Same_evt (evt_st _ _ _ _ hev1 (kr.tr kW)) (evt_st _ _ _ _ hev2 (kr.tr kW)) hsz).mono ?_
       rintro e w'' ⟨rfl,hb⟩
       exact⟨_,rfl,rfl,hb⟩
    intro V W kW hp
    have h11:=hp 11 (by simp)
    simp only[tab_zero,tab_succ,isV] at h11
    clear hp
    simp only[putAll,Act.put,List.setIfInBounds_toArray,List.set_cons_succ,List.set_cons_zero,h11]
    have krW:=kr.tr kW
    clear rx ry p1 p2 hev1 hev2 kk
    generalize hq:decide (es1[j]=es2[j])=q at *
    have HQ:=Lib.hid hq
    clear hq
    cases q
    · have HR:Hid (R=false):=Lib.hid (by
       rw[HI.out,show decide (es1=es2)=false from ?_]
       · simp
       · simp only[decide_eq_false_iff_not]
         rintro rfl
         have:=HQ.out
         simp at this)
      go_wp2
      go_ret
      exact⟨by rw[HR.out];rfl,k2.tr krW⟩
    · have HT2:Hid (es1.take (j+1)=es2.take (j+1)):=Lib.hid (HB.out.2 (of_decide_eq_true HQ.out))
      go_wp2
      go_roundw
      case rel=>exact⟨j+1,by omega,by go_num,HT2,krW⟩
      case measure=>simp[intOf];omega
  · have hji:¬ (j:Int)<(es1.length:Int):=by omega
    have HR:Hid (R=(decide (kx=ky)&&(decide (bx=by_)&&decide (lx=ly)&&decide (sx=sy))&&decide (cx=cy)&&decide (ux=uy))):=Lib.hid (by
     have h1:=HT.out
     have h2:=HLE.out
     rw[List.take_of_length_le (by omega),List.take_of_length_le (by omega)] at h1
     rw[HI.out,hfe,h1];simp)
    have kW:=k2.tr kr
    clear HI HT HLE HS3 he1 he2 hle'
    go_wp2
    all_goals
     go_ret
     refine⟨?_,kW⟩
     rw[HR.out]
     show Ending.returned (.bool _)=Ending.returned (.bool _)
     clear qx qy
     first|(simp_all;done)|(simp_all;omega)|(congr 2;rw[Bool.eq_iff_iff];simp_all;omega)
section
open Go Go.RowKit Go.Shelf
attribute [local go_sem] Oper.semAt_some
end
section
open Go Go.RowKit Go.Shelf
attribute [local go_sem] Oper.semAt_some
end
def txN (lo:Nat) (t:Txn) (v:Value) (W:World):Prop:=∃ vf ve,v=.agg (txA t vf ve)/\Fx (fun k=>k<lo) (fun W=>txS.rel t (txA t vf ve).toList W) W
theorem txN_st (lo:Nat) (x:Txn):∀ v w w',txN lo x v w->Below w.heap.size w w'->txN lo x v w':=by
 rintro v w w' ⟨vf,ve,e,h⟩ k
 exact⟨vf,ve,e,h.k k⟩
theorem BStage_calls {M:Nat->Prop} {p:BrW} {B:Brk} {w:World} (h:BrV M p B w) (hG:GoodB B) :
 Calls Tryz.prog 19 #[.pointer (some ⟨p.g,0,none⟩)] w fun e w'=>∃ v',e=.returned v'/\OwnY (fun k=>k<w.heap.size) w.heap.size 121 txS B.txns v' w'/\K w w':=by
 have HS:=Lib.hid hG.tx.small
 have hn:=hG.tx.len6
 have q:=h.blk.cell
 have hl:=h.dat.now.txns
 obtain⟨g,gl,gd,gr,gt,vd,vr,vp,vh,vl,vq,va,vt,vf,vw,kr⟩:=p
 simp only at q hl
 clear h hG
 obtain⟨A,c,rfl,hl,hc⟩:=hl
 generalize B.txns=l at *
 have kk:=K.rf w
 have hO:=OwnY.nil (fun k=>k<w.heap.size) w.heap.size 121 txS w
 go_enter Tryz.func19,Tryz.ntmps19
 go_upto_block 0 with (fail)
 clear q
 go_wp2_with fail
 go_loopw [3,5,13] (fun o _ i W=>∃ j:Nat,j<=l.length/\i=.int .i64 (j:Int)/\OwnY (fun k=>k<w.heap.size) w.heap.size 121 txS (l.take j) o W/\K w W) (fun _ _ i _=>l.length - (intOf i).toNat)
 case atStart=>exact⟨0,by omega,rfl,by simpa using hO,kk⟩
 case round =>
  clear hO kk
  obtain⟨j,hj,rfl,hO,kr⟩:=hrel
  by_cases hlt:j<l.length
  · have hji:(j:Int)<(l.length:Int):=by omega
    obtain⟨b1,off,cs,rfl,hcl,hrl,d0,d⟩:=lsr_cells hl j hlt (by decide)
    have HT:Hid (l.take (j+1)=l.take j++[l[j]]):=Lib.hid (by rw[List.take_succ_eq_append_getElem hlt])
    have hsx:=HS.out _ (List.getElem_mem hlt)
    generalize l[j]=x at *
    obtain⟨vf,ve,rfl,hf,he⟩:=hrl w (K.rf w)
    have HE:Hid (∀ W,K w W->ent x.e (.agg (entA x.e vf ve)) W):=Lib.hid fun W k=>⟨_,_,rfl,flt_st _ _ _ _ hf k,lst_st he k⟩
    have q:∀ i,i<9->wr.cell? ⟨b1,off+j * 9+i,none⟩=(txA x vf ve)[i]?:=fun i hi=>(d wr kr i hi).trans Array.getElem?_toList
    have q0:wr.cell? ⟨b1,off+j * 9,none⟩=some (.int .i64 x.e.kind):=d0 wr kr
    have hx:=Blk.new wr 121 (txA x vf ve)
    have k1:K wr (wr.alloc (.cells (txA x vf ve) 121)):=(K.rf wr).al _
    obtain⟨Af,cf,rfl⟩:=flt_slice hf
    obtain⟨Ae,ce,rfl⟩:=lst_slice he
    clear d d0 hf he hrl hcl
    go_upto_region 7 with (fail)
    generalize wr.alloc _=w1 at *
    generalize wr.heap.size=g5 at hx ⊢
    replace hO:=hO.st k1
    have kr1:=kr.tr k1
    clear q q0
    have q:=hx.cells
    have hbl:=hO.blk
    obtain⟨Ao,co,rfl⟩:=hO.slice
    have hlen:(l.take j).length<=1000000:=by simp;omega
    generalize l.take j=lj at *
    refine wp_region_auto 8 [([],[]),([],[]),([1],[(18,1)]),([2],[(19,2)]),([],[]),([4],[(21,4)]),([3,5],[(20,3),(22,5)]),([6],[(23,6)]),([0,3,7],[(17,0),(24,7)]),([0,1,2,3,4,5,6,7,8],[(25,8)])] 28 rfl (by kernel_rfl) (by kernel_rfl) (by kernel_rfl) (by kernel_rfl) (by decide) ?_
    simp only[List.take_succ_cons,List.take_zero,List.drop_succ_cons,List.drop_zero]
    iterate 3 (apply AutoQ.is;intro V W kW hp;(try simp only[List.forall_mem_cons,List.nil_append,List.cons_append,tab_zero,tab_succ,isV] at hp);simp[wantsG,rhoP,List.lookup,hp,ResG,execOp,bareOp,isV,Below.refl,kW,q,go_sem];rfl)
    refine AutoQ.op (entN w1.heap.size x.e) (entN_st _ _) (fun V W kW hp=>?_) ?_
    · (try simp only[List.forall_mem_cons,List.nil_append,List.cons_append,tab_zero,tab_succ,isV] at hp)
      simp[wantsG,rhoP,List.lookup,hp,ResG,execOp,bareOp,q,go_sem]
      refine (BWhole_calls x.e _ W (HE.out _ (kr1.tr kW)) hsx).mono ?_
      rintro e w4 ⟨v2,rfl,ho,k4⟩
      exact⟨_,rfl,by obtain⟨vf2,ve2,e,hF⟩:=entO_fx ho;exact⟨vf2,ve2,e,hF.less fun k hk=>Nat.lt_of_lt_of_le hk kW.size⟩,k4⟩
    iterate 2 (apply AutoQ.is;intro V W kW hp;(try simp only[List.forall_mem_cons,List.nil_append,List.cons_append,tab_zero,tab_succ,isV] at hp);simp[wantsG,rhoP,List.lookup,hp,ResG,execOp,bareOp,isV,Below.refl,kW,q,go_sem];rfl)
    refine AutoQ.op (txN w1.heap.size x) (txN_st _ _) (fun V W kW hp=>?_) ?_
    · simp only[List.forall_mem_cons,List.nil_append,List.cons_append,tab_zero,tab_succ,isV] at hp
      obtain⟨⟨vf2,ve2,e3,hF⟩,e5,-⟩:=hp
      simp[wantsG,rhoP,List.lookup,e3,e5,ResG,execOp,bareOp,Below.refl,go_sem]
      exact⟨vf2,ve2,rfl,hF.mono fun W h=>by
       obtain⟨vf',ve',e,h1,h2⟩:=h
       simp at e
       obtain⟨rfl,rfl⟩:=e
       exact⟨_,_,rfl,h1,h2⟩⟩
    refine AutoQ.row (N:=fun k=>k<w1.heap.size) (lo:=0) (S:=txS) 55 _ 9 104 TTx rfl (by decide) _ x rfl rfl (Nat.zero_le _) (fun V W kW hp=>?_) ?_
    · simp only[List.forall_mem_cons,List.nil_append,List.cons_append,tab_zero,tab_succ,isV] at hp
      obtain⟨⟨vf2,ve2,e6,hF⟩,-⟩:=hp
      simp[rhoP,List.lookup,e6]
      exact⟨rfl,hF⟩
    intro V W kW hA
    simp only[List.nil_append,List.cons_append,AllT,isV,Nat.reduceAdd] at hA
    obtain⟨e0,e1,e2,h3,e4,e5,h6,h7,-⟩:=hA
    have hOW:=hO.st kW
    refine TailQ.push _ _ 55 _ 9 104 TTx rfl rfl rfl _ lj x (by simp[rhoP,List.lookup,e0]) hOW ?_ (by omega) (Nat.le_trans kr1.size kW.size) ?_
    · simp only[rhoP,List.lookup]
      exact h7.less fun k hk=>by
       rcases hk with hk|hk
       · have:=kr1.size;omega
       · have:=hbl k hk;omega
    intro v9 w9 hO9 hg9 _ hb9
    rw[<- HT.out] at hO9
    have kr9:=(kr1.tr kW).trans hb9
    obtain⟨A9,c9,rfl⟩:=hO9.slice
    apply TailQ.pure
    rfl
    simp[rhoP,List.lookup,updV,execOp,bareOp,go_sem]
    rfl
    refine TailQ.nil ?_
    simp only[putAll,Act.put,List.setIfInBounds_toArray,List.set_cons_succ,List.set_cons_zero,Nat.reduceAdd,updV]
    clear hOW hO h3 h6 h7 e0 e1 e2 e4 e5 q hbl
    go_wp2
    go_roundw
    case rel=>exact⟨j+1,by omega,by go_num,by simpa only[List.length_take] using hO9,kr9⟩
    case measure=>simp[intOf];omega
  · have hji:¬ (j:Int)<(l.length:Int):=by omega
    obtain rfl:j=l.length:=by omega
    rw[List.take_length] at hO
    go_wp2
    go_ret
    exact⟨_,rfl,hO,kr⟩
section
variable {X X' Z Z':Nat->Prop} {g gd:Nat} {B B':Brk} {W W':World}
theorem LivX.less (h:LivX X Z g gd B W) (hX:∀ k,X' k->X k) (hZ:∀ k,Z' k->Z k):LivX X' Z' g gd B W:=h.more (K.rf W) (fun k hk=>.inl (hX k hk)) fun k hk=>.inl (hZ k hk)
theorem LivX.far (h:LivX X Z g gd B W) (u:UpN X W W') (hX:∀ k,X k->Z k):LivX X Z g gd B W':=by
 obtain⟨hG,p,hb,hg,hz⟩:=h
 exact⟨hG,p,hb.far u (fun _ h=>.inl h) (fun k hk=>(hz k (hX k hk)).1) (fun _ _ h=>h) (fun _ h=>.inr h) (fun k hk=>Nat.lt_of_lt_of_le (hb.low k hk) u.size),hg,fun k hk=>⟨(hz k hk).1,Nat.lt_of_lt_of_le (hz k hk).2 u.size⟩⟩
end
def hA1 (m c:Int):List Txn×Int:=beginT [] (m,1,1) c
def hA2 (m c:Int):List Txn×Int:=askT (hA1 m c).1 ⟨2,m,1,2,c,1,[],[]⟩
def hA3 (m c:Int):List Txn×Int:=askT (hA2 m c).1 ⟨3,m,1,3,c,1,[],[]⟩
theorem homes_room:dkLen (recsS (lifeS st0))<=60000:=by decide +kernel
def bH0 (m:Int) (p hom:List Int):Brk:=openB m p hom ⟨recsS (lifeS st0),60000⟩ (lifeS st0)
