/-
  The walk of the closure of broker's asks (layer 20). Conditions: lists of at most a million.
-/
import Derived.Test.YtagfakjifhdpgaaGreatMa29
set_option maxRecDepth 100000
set_option maxHeartbeats 16000000
set_option linter.unusedVariables false
set_option linter.unusedSimpArgs false
namespace Go.Proofs.YtagfakjifhdpgaaGreat
open Go Go.RowKit
theorem askB1_len (B:Brk) (o:List Ent) (x:Ent) (h:o.length<=16):(askB1 B o x).length<=16:=by
 unfold askB1
 split
 · exact h
 · rename_i hc
   simp only[Bool.or_eq_true,decide_eq_true_eq,not_or] at hc
   simp;omega
theorem asksF_len (B:Brk):∀ (l o:List Ent),o.length<=16->(l.foldl (askB1 B) o).length<=16:=by
 intro l
 induction l with
 | nil=>intro o h;exact h
 | cons x l ih=>intro o h;exact ih _ (askB1_len B o x h)
theorem enS_nb (x:Ent) (cs:List Value) (W:World) (h:enS.rel x cs W):cs[0]?≠some (.bool true):=by
 obtain⟨vf,ve,rfl,-⟩:=h
 simp
theorem AskAdd_calls {MB Y:Nat->Prop} {p:BrW} {B:Brk} {w:World} (h:BrV MB p B w) (hG:GoodB B) (base ob tb:Nat) (o l:List Ent) (vo vl9:Value)
 (hb:Blk w ob 32 #[vo]) (ht:Blk w tb 28 #[.pointer (some ⟨p.g,0,none⟩)]) (hO:OwnY Y base 42 enS o vo w) (hl:LsF (fun k=>Y k∨vo.ownBlock=some k) enS l vl9 w)
 (hYb:∀ k,Y k->k<base) (hYo:Y ob) (hMo:MB ob) (hMv:∀ k,vo.ownBlock=some k->MB k) (hXo:¬ BrX p ob) (hXb:∀ k,BrX p k->k<base) (htb:tb<base) (hto:tb≠ob) (hbase:base<=w.heap.size) (hlo:o.length<=16) (hll:l.length<=1000000) :
 Calls Tryz.prog 101 #[vl9,.pointer (some ⟨ob,0,none⟩),.pointer (some ⟨tb,0,none⟩)] w fun e w'=>e=.returned (.tuple #[])/\BoxP Y base 32 42 enS (l.foldl (askB1 B) o) vo ob w w':=by
 have H:=Lib.hid h
 have HG:=Lib.hid hG
 have HL:=Lib.hid hl
 have HX:=Lib.hid hMv
 have HXb:=Lib.hid hXb
 have hbl:=hO.blk
 have hYo':=hYb ob hYo
 obtain⟨A9,c9,rfl⟩:=hl.slice
 obtain⟨R,HR⟩:∃ R,Hid (R=l.foldl (askB1 B) o):=⟨_,Lib.hid rfl⟩
 rw[<- HR.out]
 have HJ:=Lib.hid fun (j:Nat) (hj:j<l.length)=>fold_succ (askB1 B) l o j hj
 have HN:=Lib.hid fun (j:Nat)=>asksF_len B (l.take j) o hlo
 have HT:=Lib.hid ht
 have uu:UpN (fun k=>k=ob∨vo.ownBlock=some k) w w:=UpN.rf _ _
 clear h hG hl hMv ht hXb
 go_enter Tryz.func101,Tryz.ntmps101
 go_wp2_with fail
 go_loopw [5,6,9] (fun _ _ i W=>∃ (j:Nat) (v':Value),j<=l.length/\i=.int .i64 (j:Int)/\Blk W ob 32 #[v']/\OwnY Y base 42 enS ((l.take j).foldl (askB1 B) o) v' W/\(∀ k,v'.ownBlock=some k->vo.ownBlock=some k∨w.heap.size<=k)/\UpN (fun k=>k=ob∨vo.ownBlock=some k) w W) (fun _ _ i _=>l.length - (intOf i).toNat)
 case atStart=>exact⟨0,vo,by omega,rfl,hb,by simpa using hO,fun k hk=>.inl hk,uu⟩
 case round =>
  clear hb hO uu
  obtain⟨j,v',hj,rfl,hb,hO,hat,u⟩:=hrel
  have hzw:=u.size
  by_cases hlt:j<l.length
  · have hji:(j:Int)<(l.length:Int):=by omega
    obtain⟨b1,o1,c1,cs1,e9,hn1,hcl,hF,hcell⟩:=HL.out.at j hlt (by decide)
    injection e9 with e9 _ e10
    subst e9 e10
    have HF:=Lib.hid (HJ.out j hlt)
    have hon:=HN.out j
    generalize l[j]=x at *
    generalize (l.take j).foldl (askB1 B) o=oj at *
    obtain⟨P',HP'⟩:∃ P',Hid (P'=(l.take (j+1)).foldl (askB1 B) o):=⟨_,Lib.hid rfl⟩
    replace HF:Hid (P'=askB1 B oj x):=Lib.hid (HP'.out.trans HF.out)
    have hcl2:cs1.length=8:=hcl
    have HFr:Hid (Fx (fun k=>Y k∨v'.ownBlock=some k) (fun W=>enS.rel x cs1 W) wr):=Lib.hid (hF.to u (fun k hk=>hk.elim (fun e=>e ▸ .inl hYo) .inr) fun k hk hx=>by
     rcases hx with hx|hx
     · exact .inl hx
     · rcases hat k hx with h|h
       · exact .inr h
       · omega)
    have hc9:=hcell wr (u.more fun k hk=>hk.elim (fun e=>e ▸ .inl hYo) .inr)
    obtain⟨vf,ve,rfl,hf,he⟩:=hF.now
    have q9:∀ i,i<8->wr.cell? ⟨b1,o1+j * 8+i,none⟩=(entA x vf ve)[i]?:=fun i hi=>(hc9 i hi).trans Array.getElem?_toList
    have q0:wr.cell? ⟨b1,o1+j * 8,none⟩=some (.int .i64 x.kind):=q9 0 (by decide)
    have hx:=Blk.new wr 42 (entA x vf ve)
    have k3:K wr (wr.alloc (.cells (entA x vf ve) 42)):=(K.rf wr).al _
    obtain⟨Af,cf,rfl⟩:=flt_slice hf
    obtain⟨Ae,ce,rfl⟩:=lst_slice he
    obtain⟨Av,cv,rfl⟩:=hO.slice
    have hBr:BrV MB p B wr:=H.out.far u (fun k hk=>hk.elim (fun e=>e ▸ hMo) (HX.out k)) (fun k hk hx=>by
     rcases hk with rfl|hk
     · exact hXo hx
     · have:=HXb.out k hx;have:=(hbl k hk).1;omega) (fun k _ hk=>hk) H.out.sub (fun k hk=>Nat.lt_of_lt_of_le (H.out.low k hk) hzw)
    have htr:=HT.out.upn u (by
     rintro (rfl|hk)
     · exact hto rfl
     · have:=(hbl _ hk).1;omega)
    have HB:=Lib.hid hBr
    clear hf he hF hcell hc9 hcl hcl2 hn1 hBr
    go_upto_region 3 with (fail)
    generalize wr.alloc _=w3 at *
    obtain⟨ga,HGA⟩:∃ ga,Hid (ga=wr.heap.size):=⟨_,Lib.hid rfl⟩
    rw[<- HGA.out] at hx ⊢
    clear q9 q0
    have hb3:=hb.below k3 hb.lt
    have ht3:=htr.below k3 htr.lt
    have hO3:=hO.st k3
    have C1:=Lib.hid (ContE_calls oj _ (isIdE (idE x)) 102 #[.pointer (some ⟨ga,0,none⟩)] w3 hO3.lst (by omega) (fun _ _=>by rfl) (fun W k y _ u hu=>AskC_calls y x u _ _ ga W hu (hx.below k hx.lt)))
    have HA1:Hid (oj.any (isIdE (idE x))=hasE oj (idE x)):=Lib.hid rfl
    rw[HA1.out] at C1
    have q1:=hb3.cell
    go_wp2_with fail
    refine C1.out.mono ?_
    rintro e w4 ⟨rfl,k4⟩
    have k34:=k3.tr k4
    have hb4:=hb3.below k4 hb3.lt
    have ht4:=ht3.below k4 ht3.lt
    have hx4:=hx.below k4 hx.lt
    have hO4:=hO3.st k4
    have HB4:=Lib.hid (HB.out.st k34)
    have HF4:=Lib.hid (HFr.out.k k34)
    clear C1 HA1 q1 hb3 ht3 hx hO3 HB HFr hb hO htr
    have C2:=Lib.hid fun W (k:K w4 W)=>Has_calls B.st (idE x) (.agg (stA B.st p.vl p.vq p.va)) W ⟨_,_,_,rfl,(HB4.out.dat.at k).list,(HB4.out.dat.at k).prom,(HB4.out.dat.at k).ab⟩ (by have:=HG.out.dk.len;omega)
    have C3:=Lib.hid fun W (k:K w4 W)=>BAborted_calls (HB4.out.st k) HG.out (idE x)
    have HP:Hid (P'=if hasE oj (idE x)||hasE B.st.list (idE x)||abortedB B (idE x)||decide (16<=oj.length) then oj else oj++[x]):=Lib.hid HF.out
    generalize hasE oj (idE x)=c1 at *
    generalize hasE B.st.list (idE x)=c2 at *
    generalize abortedB B (idE x)=c3 at *
    have hs1:=lst_slice HB4.out.dat.now.list
    have hs2:=lst_slice HB4.out.dat.now.prom
    have hs3:=lst_slice HB4.out.dat.now.ab
    have q:=HB4.out.q
    have qo:=hb4.cells
    have qt:=ht4.cells
    have qx:=hx4.cells
    obtain⟨g,gl,gd,gr,gt,vd,vr,vp,vh,vl,vq,va,vt,vf',vw,kr⟩:=p
    simp only at q C2 C3 hs1 hs2 hs3 qt
    obtain⟨Al,cl,rfl⟩:=hs1
    obtain⟨Aq,cq,rfl⟩:=hs2
    obtain⟨Aa,ca,rfl⟩:=hs3
    clear HF
    cases c1
    rotate_left
    · skip
      have HQ:Hid (P'=oj):=Lib.hid (by rw[HP.out];simp)
      go_upto_region 4 with (fail)
      refine wp_region_auto 21 [([],[]),([0],[(16,0)]),([1],[]),([1,2],[(18,2)]),([1,3],[(19,3)]),([1,4],[(20,4)]),([1],[]),([1,6],[(22,6)]),([1,5,7],[(21,5),(23,7)]),([1,8],[(17,1),(24,8)]),([9],[(25,9)]),([10],[]),([10],[]),([10,12],[(28,12)]),([10,11,13],[(27,11),(29,13)]),([10,14],[(26,10),(30,14)]),([15],[(31,15)]),([16],[]),([16,17],[(33,17)]),([16,18],[(34,18)]),([16,19],[(32,16),(35,19)])] 42 rfl (by kernel_rfl) (by kernel_rfl) (by kernel_rfl) (by kernel_rfl) (by decide) ?_
      simp only[List.take_succ_cons,List.take_zero,List.drop_succ_cons,List.drop_zero]
      iterate 8 (apply AutoQ.is;intro V W kW hp;(try simp only[List.forall_mem_cons,List.nil_append,List.cons_append,tab_zero,tab_succ,isV] at hp);simp[wantsG,rhoP,List.lookup,hp,ResG,execOp,bareOp,isV,Below.refl,kW,q,qo,qt,qx,go_sem];rfl)
      (apply AutoQ.is;intro V W kW hp;(try simp only[List.forall_mem_cons,List.nil_append,List.cons_append,tab_zero,tab_succ,isV] at hp);simp[wantsG,rhoP,List.lookup,hp,ResG,execOp,bareOp,isV,Below.refl,kW,q,qo,qt,qx,go_sem];rfl)
      iterate 5 (apply AutoQ.is;intro V W kW hp;(try simp only[List.forall_mem_cons,List.nil_append,List.cons_append,tab_zero,tab_succ,isV] at hp);simp[wantsG,rhoP,List.lookup,hp,ResG,execOp,bareOp,isV,Below.refl,kW,q,qo,qt,qx,go_sem];rfl)
      (apply AutoQ.is;intro V W kW hp;(try simp only[List.forall_mem_cons,List.nil_append,List.cons_append,tab_zero,tab_succ,isV] at hp);simp[wantsG,rhoP,List.lookup,hp,ResG,execOp,bareOp,isV,Below.refl,kW,q,qo,qt,qx,go_sem];rfl)
      iterate 6 (apply AutoQ.is;intro V W kW hp;(try simp only[List.forall_mem_cons,List.nil_append,List.cons_append,tab_zero,tab_succ,isV] at hp);simp[wantsG,rhoP,List.lookup,hp,ResG,execOp,bareOp,isV,Below.refl,kW,q,qo,qt,qx,go_sem];rfl)
      intro V W kW
      conv=>lhs;simp only[List.nil_append,List.cons_append,AllT,isV,Nat.reduceAdd]
      intro hA
      refine TailQ.nil ?_
      simp only[putAll,Act.put,List.setIfInBounds_toArray,List.set_cons_succ,List.set_cons_zero,Nat.reduceAdd,hA]
      have hbW:=hb4.below kW hb4.lt
      have hOW:=hO4.st kW
      have uW:=u.tr (UpN.of_k (k34.tr kW) _)
      clear hA q qo qt qx hb4 hO4 C2 C3
      go_wp2
      go_roundw
      case rel=>exact⟨j+1,_,by omega,by go_num,hbW,by rw[<- HP'.out,HQ.out];exact hOW,hat,uW⟩
      case measure=>simp[intOf];omega
    cases c2
    rotate_left
    · skip
      have HQ:Hid (P'=oj):=Lib.hid (by rw[HP.out];simp)
      go_upto_region 4 with (fail)
      refine wp_region_auto 21 [([],[]),([0],[(16,0)]),([1],[]),([1,2],[(18,2)]),([1,3],[(19,3)]),([1,4],[(20,4)]),([1],[]),([1,6],[(22,6)]),([1,5,7],[(21,5),(23,7)]),([1,8],[(17,1),(24,8)]),([9],[(25,9)]),([10],[]),([10],[]),([10,12],[(28,12)]),([10,11,13],[(27,11),(29,13)]),([10,14],[(26,10),(30,14)]),([15],[(31,15)]),([16],[]),([16,17],[(33,17)]),([16,18],[(34,18)]),([16,19],[(32,16),(35,19)])] 42 rfl (by kernel_rfl) (by kernel_rfl) (by kernel_rfl) (by kernel_rfl) (by decide) ?_
      simp only[List.take_succ_cons,List.take_zero,List.drop_succ_cons,List.drop_zero]
      iterate 8 (apply AutoQ.is;intro V W kW hp;(try simp only[List.forall_mem_cons,List.nil_append,List.cons_append,tab_zero,tab_succ,isV] at hp);simp[wantsG,rhoP,List.lookup,hp,ResG,execOp,bareOp,isV,Below.refl,kW,q,qo,qt,qx,go_sem];rfl)
      refine AutoQ.is (.bool true) (fun V W kW hp=>?_) ?_
      · (try simp only[List.forall_mem_cons,List.nil_append,List.cons_append,tab_zero,tab_succ,isV] at hp)
        simp[wantsG,rhoP,List.lookup,hp,ResG,execOp,bareOp,isV,q,qo,qt,qx,go_sem]
        refine (C2.out W kW).mono ?_
        rintro e w4 ⟨rfl,k4⟩
        exact⟨_,rfl,rfl,k4⟩
      iterate 5 (apply AutoQ.is;intro V W kW hp;(try simp only[List.forall_mem_cons,List.nil_append,List.cons_append,tab_zero,tab_succ,isV] at hp);simp[wantsG,rhoP,List.lookup,hp,ResG,execOp,bareOp,isV,Below.refl,kW,q,qo,qt,qx,go_sem];rfl)
      (apply AutoQ.is;intro V W kW hp;(try simp only[List.forall_mem_cons,List.nil_append,List.cons_append,tab_zero,tab_succ,isV] at hp);simp[wantsG,rhoP,List.lookup,hp,ResG,execOp,bareOp,isV,Below.refl,kW,q,qo,qt,qx,go_sem];rfl)
      iterate 6 (apply AutoQ.is;intro V W kW hp;(try simp only[List.forall_mem_cons,List.nil_append,List.cons_append,tab_zero,tab_succ,isV] at hp);simp[wantsG,rhoP,List.lookup,hp,ResG,execOp,bareOp,isV,Below.refl,kW,q,qo,qt,qx,go_sem];rfl)
      intro V W kW
      conv=>lhs;simp only[List.nil_append,List.cons_append,AllT,isV,Nat.reduceAdd]
      intro hA
      refine TailQ.nil ?_
      simp only[putAll,Act.put,List.setIfInBounds_toArray,List.set_cons_succ,List.set_cons_zero,Nat.reduceAdd,hA]
      have hbW:=hb4.below kW hb4.lt
      have hOW:=hO4.st kW
      have uW:=u.tr (UpN.of_k (k34.tr kW) _)
      clear hA q qo qt qx hb4 hO4 C2 C3
      go_wp2
      go_roundw
      case rel=>exact⟨j+1,_,by omega,by go_num,hbW,by rw[<- HP'.out,HQ.out];exact hOW,hat,uW⟩
      case measure=>simp[intOf];omega
    cases c3
    rotate_left
    · skip
      have HQ:Hid (P'=oj):=Lib.hid (by rw[HP.out];simp)
      go_upto_region 4 with (fail)
      refine wp_region_auto 21 [([],[]),([0],[(16,0)]),([1],[]),([1,2],[(18,2)]),([1,3],[(19,3)]),([1,4],[(20,4)]),([1],[]),([1,6],[(22,6)]),([1,5,7],[(21,5),(23,7)]),([1,8],[(17,1),(24,8)]),([9],[(25,9)]),([10],[]),([10],[]),([10,12],[(28,12)]),([10,11,13],[(27,11),(29,13)]),([10,14],[(26,10),(30,14)]),([15],[(31,15)]),([16],[]),([16,17],[(33,17)]),([16,18],[(34,18)]),([16,19],[(32,16),(35,19)])] 42 rfl (by kernel_rfl) (by kernel_rfl) (by kernel_rfl) (by kernel_rfl) (by decide) ?_
      simp only[List.take_succ_cons,List.take_zero,List.drop_succ_cons,List.drop_zero]
      iterate 8 (apply AutoQ.is;intro V W kW hp;(try simp only[List.forall_mem_cons,List.nil_append,List.cons_append,tab_zero,tab_succ,isV] at hp);simp[wantsG,rhoP,List.lookup,hp,ResG,execOp,bareOp,isV,Below.refl,kW,q,qo,qt,qx,go_sem];rfl)
      refine AutoQ.is (.bool false) (fun V W kW hp=>?_) ?_
      · (try simp only[List.forall_mem_cons,List.nil_append,List.cons_append,tab_zero,tab_succ,isV] at hp)
        simp[wantsG,rhoP,List.lookup,hp,ResG,execOp,bareOp,isV,q,qo,qt,qx,go_sem]
        refine (C2.out W kW).mono ?_
        rintro e w4 ⟨rfl,k4⟩
        exact⟨_,rfl,rfl,k4⟩
      iterate 5 (apply AutoQ.is;intro V W kW hp;(try simp only[List.forall_mem_cons,List.nil_append,List.cons_append,tab_zero,tab_succ,isV] at hp);simp[wantsG,rhoP,List.lookup,hp,ResG,execOp,bareOp,isV,Below.refl,kW,q,qo,qt,qx,go_sem];rfl)
      refine AutoQ.is (.bool true) (fun V W kW hp=>?_) ?_
      · (try simp only[List.forall_mem_cons,List.nil_append,List.cons_append,tab_zero,tab_succ,isV] at hp)
        simp[wantsG,rhoP,List.lookup,hp,ResG,execOp,bareOp,isV,q,qo,qt,qx,go_sem]
        refine (C3.out W kW).mono ?_
        rintro e w4 ⟨rfl,k4⟩
        exact⟨_,rfl,rfl,k4⟩
      iterate 6 (apply AutoQ.is;intro V W kW hp;(try simp only[List.forall_mem_cons,List.nil_append,List.cons_append,tab_zero,tab_succ,isV] at hp);simp[wantsG,rhoP,List.lookup,hp,ResG,execOp,bareOp,isV,Below.refl,kW,q,qo,qt,qx,go_sem];rfl)
      intro V W kW
      conv=>lhs;simp only[List.nil_append,List.cons_append,AllT,isV,Nat.reduceAdd]
      intro hA
      refine TailQ.nil ?_
      simp only[putAll,Act.put,List.setIfInBounds_toArray,List.set_cons_succ,List.set_cons_zero,Nat.reduceAdd,hA]
      have hbW:=hb4.below kW hb4.lt
      have hOW:=hO4.st kW
      have uW:=u.tr (UpN.of_k (k34.tr kW) _)
      clear hA q qo qt qx hb4 hO4 C2 C3
      go_wp2
      go_roundw
      case rel=>exact⟨j+1,_,by omega,by go_num,hbW,by rw[<- HP'.out,HQ.out];exact hOW,hat,uW⟩
      case measure=>simp[intOf];omega
    by_cases hl16:16<=oj.length
    · have hl17:(16:Int)<=(oj.length:Int):=by omega
      have HQ:Hid (P'=oj):=Lib.hid (by rw[HP.out];simp[hl16])
      go_upto_region 4 with (fail)
      refine wp_region_auto 21 [([],[]),([0],[(16,0)]),([1],[]),([1,2],[(18,2)]),([1,3],[(19,3)]),([1,4],[(20,4)]),([1],[]),([1,6],[(22,6)]),([1,5,7],[(21,5),(23,7)]),([1,8],[(17,1),(24,8)]),([9],[(25,9)]),([10],[]),([10],[]),([10,12],[(28,12)]),([10,11,13],[(27,11),(29,13)]),([10,14],[(26,10),(30,14)]),([15],[(31,15)]),([16],[]),([16,17],[(33,17)]),([16,18],[(34,18)]),([16,19],[(32,16),(35,19)])] 42 rfl (by kernel_rfl) (by kernel_rfl) (by kernel_rfl) (by kernel_rfl) (by decide) ?_
      simp only[List.take_succ_cons,List.take_zero,List.drop_succ_cons,List.drop_zero]
      iterate 8 (apply AutoQ.is;intro V W kW hp;(try simp only[List.forall_mem_cons,List.nil_append,List.cons_append,tab_zero,tab_succ,isV] at hp);simp[wantsG,rhoP,List.lookup,hp,ResG,execOp,bareOp,isV,Below.refl,kW,q,qo,qt,qx,hl17,go_sem];rfl)
      refine AutoQ.is (.bool false) (fun V W kW hp=>?_) ?_
      · (try simp only[List.forall_mem_cons,List.nil_append,List.cons_append,tab_zero,tab_succ,isV] at hp)
        simp[wantsG,rhoP,List.lookup,hp,ResG,execOp,bareOp,isV,q,qo,qt,qx,hl17,go_sem]
        refine (C2.out W kW).mono ?_
        rintro e w4 ⟨rfl,k4⟩
        exact⟨_,rfl,rfl,k4⟩
      iterate 5 (apply AutoQ.is;intro V W kW hp;(try simp only[List.forall_mem_cons,List.nil_append,List.cons_append,tab_zero,tab_succ,isV] at hp);simp[wantsG,rhoP,List.lookup,hp,ResG,execOp,bareOp,isV,Below.refl,kW,q,qo,qt,qx,hl17,go_sem];rfl)
      refine AutoQ.is (.bool false) (fun V W kW hp=>?_) ?_
      · (try simp only[List.forall_mem_cons,List.nil_append,List.cons_append,tab_zero,tab_succ,isV] at hp)
        simp[wantsG,rhoP,List.lookup,hp,ResG,execOp,bareOp,isV,q,qo,qt,qx,hl17,go_sem]
        refine (C3.out W kW).mono ?_
        rintro e w4 ⟨rfl,k4⟩
        exact⟨_,rfl,rfl,k4⟩
      iterate 6 (apply AutoQ.is;intro V W kW hp;(try simp only[List.forall_mem_cons,List.nil_append,List.cons_append,tab_zero,tab_succ,isV] at hp);simp[wantsG,rhoP,List.lookup,hp,ResG,execOp,bareOp,isV,Below.refl,kW,q,qo,qt,qx,hl17,go_sem];rfl)
      intro V W kW
      conv=>lhs;simp only[List.nil_append,List.cons_append,AllT,isV,Nat.reduceAdd]
      intro hA
      refine TailQ.nil ?_
      simp only[putAll,Act.put,List.setIfInBounds_toArray,List.set_cons_succ,List.set_cons_zero,Nat.reduceAdd,hA]
      have hbW:=hb4.below kW hb4.lt
      have hOW:=hO4.st kW
      have uW:=u.tr (UpN.of_k (k34.tr kW) _)
      clear hA q qo qt qx hb4 hO4 C2 C3
      go_wp2
      go_roundw
      case rel=>exact⟨j+1,_,by omega,by go_num,hbW,by rw[<- HP'.out,HQ.out];exact hOW,hat,uW⟩
      case measure=>simp[intOf];omega
    have hl17:¬ (16:Int)<=(oj.length:Int):=by omega
    have HQ:Hid (P'=oj++[x]):=Lib.hid (by rw[HP.out];simp[hl16])
    go_upto_region 4 with (fail)
    refine wp_region_auto 21 [([],[]),([0],[(16,0)]),([1],[]),([1,2],[(18,2)]),([1,3],[(19,3)]),([1,4],[(20,4)]),([1],[]),([1,6],[(22,6)]),([1,5,7],[(21,5),(23,7)]),([1,8],[(17,1),(24,8)]),([9],[(25,9)]),([10],[]),([10],[]),([10,12],[(28,12)]),([10,11,13],[(27,11),(29,13)]),([10,14],[(26,10),(30,14)]),([15],[(31,15)]),([16],[]),([16,17],[(33,17)]),([16,18],[(34,18)]),([16,19],[(32,16),(35,19)])] 42 rfl (by kernel_rfl) (by kernel_rfl) (by kernel_rfl) (by kernel_rfl) (by decide) ?_
    simp only[List.take_succ_cons,List.take_zero,List.drop_succ_cons,List.drop_zero]
    iterate 8 (apply AutoQ.is;intro V W kW hp;(try simp only[List.forall_mem_cons,List.nil_append,List.cons_append,tab_zero,tab_succ,isV] at hp);simp[wantsG,rhoP,List.lookup,hp,ResG,execOp,bareOp,isV,Below.refl,kW,q,qo,qt,qx,hl17,go_sem];rfl)
    refine AutoQ.is (.bool false) (fun V W kW hp=>?_) ?_
    · (try simp only[List.forall_mem_cons,List.nil_append,List.cons_append,tab_zero,tab_succ,isV] at hp)
      simp[wantsG,rhoP,List.lookup,hp,ResG,execOp,bareOp,isV,q,qo,qt,qx,hl17,go_sem]
      refine (C2.out W kW).mono ?_
      rintro e w4 ⟨rfl,k4⟩
      exact⟨_,rfl,rfl,k4⟩
    iterate 5 (apply AutoQ.is;intro V W kW hp;(try simp only[List.forall_mem_cons,List.nil_append,List.cons_append,tab_zero,tab_succ,isV] at hp);simp[wantsG,rhoP,List.lookup,hp,ResG,execOp,bareOp,isV,Below.refl,kW,q,qo,qt,qx,hl17,go_sem];rfl)
    refine AutoQ.is (.bool false) (fun V W kW hp=>?_) ?_
    · (try simp only[List.forall_mem_cons,List.nil_append,List.cons_append,tab_zero,tab_succ,isV] at hp)
      simp[wantsG,rhoP,List.lookup,hp,ResG,execOp,bareOp,isV,q,qo,qt,qx,hl17,go_sem]
      refine (C3.out W kW).mono ?_
      rintro e w4 ⟨rfl,k4⟩
      exact⟨_,rfl,rfl,k4⟩
    iterate 6 (apply AutoQ.is;intro V W kW hp;(try simp only[List.forall_mem_cons,List.nil_append,List.cons_append,tab_zero,tab_succ,isV] at hp);simp[wantsG,rhoP,List.lookup,hp,ResG,execOp,bareOp,isV,Below.refl,kW,q,qo,qt,qx,hl17,go_sem];rfl)
    intro V W kW
    conv=>lhs;simp only[List.nil_append,List.cons_append,AllT,isV,Nat.reduceAdd]
    intro hA
    refine TailQ.nil ?_
    simp only[putAll,Act.put,List.setIfInBounds_toArray,List.set_cons_succ,List.set_cons_zero,Nat.reduceAdd,hA]
    have hbW:=hb4.below kW hb4.lt
    have hxW:=hx4.below kW hx4.lt
    have hOW:=hO4.st kW
    have HFW:=HF4.out.k kW
    have k3W:=k34.tr kW
    have uW:=u.tr (UpN.of_k k3W _)
    clear hA q qo qt qx hb4 hO4 C2 C3 hx4
    have q1:=hbW.cell
    have q2:=hxW.cell
    have hblW:=hOW.blk
    have kA:K W (W.alloc (.cells (entA x (.slice Af x.f.length cf) (.slice Ae x.es.length ce)) 42)):=(K.rf W).al _
    have hOA:=hOW.st kA
    have hbA:=hbW.below kA hbW.lt
    have hr:=rowY.new (S:=enS) (e:=42) (v:=.agg (entA x (.slice Af x.f.length cf) (.slice Ae x.es.length ce))) HFW 0 (Nat.zero_le _)
    go_wp2_with (at_builtin;refine wpList_push rfl _ _ 32 rfl _ 8 96 TEn rfl rfl hOA _ rfl x ?p1 ?p2 ?p3 ?_)
    case p1=>exact hr.less fun k hk=>hk
    case p2=>omega
    case p3=>exact Nat.le_trans hbase (Nat.le_trans uW.size kA.size)
    intro v9 w9 hO9 hg9 hat9 hb9
    rw[<- HQ.out] at hO9
    have hb9':=hbA.grown hg9 (by intro e;have:=(hblW ob e.symm).1;omega)
    have q9:=hb9'.cell
    have z9:=hb9'.frozen
    have HU:Hid (UpN (fun k=>k=ob∨vo.ownBlock=some k) w (w9.setCell ⟨ob,0,none⟩ v9)):=Lib.hid ((uW.tr (UpN.of_k kA _)).tr2 (X:=fun k=>k=ob∨vo.ownBlock=some k) (Y:=fun k=>k=ob∨(Value.slice Av oj.length cv).ownBlock=some k) ((UpN.of_mut (X:=fun k=>k=ob∨(Value.slice Av oj.length cv).ownBlock=some k) hg9 fun k e=>.inr e).tr (UpN.set1 (X:=fun k=>k=ob∨(Value.slice Av oj.length cv).ownBlock=some k) (.inl rfl) 0 v9)) fun k hk h=>by
     rcases h with h|h
     · exact .inl h
     · rcases hat k h with h|h
       · exact .inr h
       · omega)
    have HBB:Hid (Blk (w9.setCell ⟨ob,0,none⟩ v9) ob 32 #[v9]):=Lib.hid (hb9'.set_ 0 v9)
    have HOF:Hid (OwnY Y base 42 enS P' v9 (w9.setCell ⟨ob,0,none⟩ v9)):=Lib.hid (hO9.to (X:=fun k=>k=ob) (UpN.set1 (X:=fun k=>k=ob) rfl 0 v9) (fun k hk=>by rw[hk];exact hYo) (fun k hk e=>by subst e;have:=(hO9.blk _ hk).1;omega) fun k _ hk=>.inl hk)
    have HAT:Hid (∀ k,v9.ownBlock=some k->vo.ownBlock=some k∨w.heap.size<=k):=Lib.hid fun k hk=>by
     rcases hat9 with h|h
     · exact hat k (h ▸ hk)
     · rw[h] at hk;injection hk with hk;have:=uW.size;exact .inr (by omega)
    obtain⟨A9',c9',rfl⟩:=hO9.slice
    clear hO9 hg9 hat9 hb9 hb9' hbA hOA hr q1 q2 hbW hOW hxW
    go_wp2
    go_roundw
    case rel=>exact⟨j+1,_,by omega,by go_num,HBB.out,by rw[<- HP'.out];exact HOF.out,HAT.out,HU.out⟩
    case measure=>simp[intOf];omega
  · have hji:¬ (j:Int)<(l.length:Int):=by omega
    obtain rfl:j=l.length:=by omega
    rw[List.take_length,<- HR.out] at hO
    go_wp2
    go_end0
    exact⟨rfl,v',hb,hO,hat,u⟩
theorem askB1_mem {B:Brk} {o:List Ent} {x y:Ent} (h:y∈askB1 B o x):y∈o∨y=x:=by
 unfold askB1 at h
 split at h
 · exact .inl h
 · simpa using h
theorem asksF_mem {B:Brk} {y:Ent}:∀ {l o:List Ent},y∈l.foldl (askB1 B) o->y∈o∨y∈l:=by
 intro l
 induction l with
 | nil=>intro o h;exact .inl h
 | cons x l ih =>
   intro o h
   rcases ih h with h|h
   · rcases askB1_mem h with h|h
     · exact .inl h
     · exact .inr (by simp[h])
   · exact .inr (by simp[h])
theorem asksK_mem {B:Brk} {y:Ent}:∀ {l:List Msg} {o:List Ent},y∈l.foldl (fun o k=>k.asks.foldl (askB1 B) o) o->y∈o∨∃ m∈l,y∈m.asks:=by
 intro l
 induction l with
 | nil=>intro o h;exact .inl h
 | cons x l ih =>
   intro o h
   rcases ih h with h|⟨m,hm,h⟩
   · rcases asksF_mem h with h|h
     · exact .inl h
     · exact .inr ⟨x,by simp,h⟩
   · exact .inr ⟨m,by simp[hm],h⟩
theorem asksK_len (B:Brk):∀ (l:List Msg) (o:List Ent),o.length<=16->(l.foldl (fun o k=>k.asks.foldl (askB1 B) o) o).length<=16:=by
 intro l
 induction l with
 | nil=>intro o h;exact h
 | cons x l ih=>intro o h;exact ih _ (asksF_len B _ _ h)
theorem asksB_len (B:Brk):(asksB B).length<=16:=asksK_len B _ _ (asksF_len B _ _ (by simp))
theorem GoodB.rep {B:Brk} (hG:GoodB B) (k:Int):repB B k=msg0∨okM (repB B k)=true/\fitM (repB B k):=by
 unfold repB
 cases h:B.reps.find? fun p=>decide (p.1=k) with
 | none=>exact .inl rfl
 | some x=>exact .inr (hG.reps x (List.mem_of_find?_eq_some h))
theorem okLs_mem {α:Type} {f:α->Bool} {l:List α} (h:okLs f l=true):l.length<=16/\∀ x∈l,f x=true:=by
 unfold okLs at h
 simp only[Bool.and_eq_true,decide_eq_true_eq,List.all_eq_true] at h
 exact h
theorem GoodB.last {B:Brk} (hG:GoodB B) {m:Msg} (h:m∈lastB B):(∀ x∈m.asks,okEn x=true/\fitEn x)/\m.votes.length<=16/\m.asks.length<=16:=by
 obtain⟨k,-,rfl⟩:=List.mem_map.1 h
 rcases hG.rep k with e|⟨h1,h2⟩
 · rw[e];simp[msg0]
 · have h3:=h1
   unfold okM at h3
   simp only[Bool.and_eq_true] at h3
   obtain⟨⟨⟨⟨⟨⟨-,hv⟩,ha⟩,-⟩,-⟩,-⟩,-⟩:=h3
   exact⟨fun x hx=>⟨(okLs_mem ha).2 x hx,h2.2.2.2.1 x hx⟩,(okLs_mem hv).1,(okLs_mem ha).1⟩
theorem GoodB.asks {B:Brk} (hG:GoodB B) {x:Ent} (h:x∈asksB B):okEn x=true/\fitEn x:=by
 rcases asksK_mem h with h|⟨m,hm,h⟩
 · rcases asksF_mem h with h|h
   · simp at h
   · obtain⟨t,ht,rfl⟩:=List.mem_map.1 (List.mem_of_mem_take h)
     have:=hG.tx.each t (List.mem_filter.1 ht).1
     exact⟨this.1,this.2.1⟩
 · exact (hG.last hm).1 x h
theorem lastB_len {B:Brk} (hG:GoodB B):(lastB B).length<=16:=by
 unfold lastB
 rw[List.length_map]
 exact Nat.le_trans (kidsP_len _ _) (okTr_par hG.tr).2
theorem msS_nb (x:Msg) (cs:List Value) (W:World) (h:msS.rel x cs W):cs[0]?≠some (.bool true):=by
 obtain⟨v1,v2,v3,v4,v5,v6,rfl,-⟩:=h
 simp
theorem BAsks_calls {M:Nat->Prop} {p:BrW} {B:Brk} {w:World} (h:BrV M p B w) (hG:GoodB B) :
 Calls Tryz.prog 48 #[.pointer (some ⟨p.g,0,none⟩)] w fun e w'=>∃ v',e=.returned v'/\Fx M (fun W=>lst enS (asksB B) v' W) w'/\K w w':=by
 have H:=Lib.hid h
 have HG:=Lib.hid hG
 have HM:=Lib.hid h.low
 have HXX:=Lib.hid h.sub
 have HAB:Hid (asksB B=(lastB B).foldl (fun o k=>k.asks.foldl (askB1 B) o) ((asksT B.txns).foldl (askB1 B) [])):=Lib.hid rfl
 have HJ:=Lib.hid fun (j:Nat) (hj:j<(lastB B).length)=>fold_succ (fun o (k:Msg)=>k.asks.foldl (askB1 B) o) (lastB B) ((asksT B.txns).foldl (askB1 B) []) j hj
 have HN:=Lib.hid fun (j:Nat)=>asksK_len B ((lastB B).take j) _ (asksF_len B (asksT B.txns) [] (by simp))
 have HLM:=Lib.hid fun m hm=>hG.last (m:=m) hm
 have hll:=lastB_len hG
 have hal:(asksT B.txns).length<=4:=by unfold asksT;simp;omega
 have C1:=Lib.hid fun W (k:K w W)=>Asks_calls B.txns p.vt W (h.dat.at k).txns hG.tx.small (by have:=hG.tx.len6;omega)
 have hs4:=lst_slice h.dat.now.txns
 have q:=h.q
 have hz1:(w.alloc (.cells #[.pointer (some ⟨p.g,0,none⟩)] 28)).heap.size=w.heap.size+1:=by simp
 have k1:K w ((w.alloc (.cells #[.pointer (some ⟨p.g,0,none⟩)] 28)).alloc (.cells #[.slice none 0 0] 32)):=((K.rf w).al _).al _
 have htb:=(Blk.new w 28 #[.pointer (some ⟨p.g,0,none⟩)]).alloc (.cells #[.slice none 0 0] 32)
 have hob:=Blk.new (w.alloc (.cells #[.pointer (some ⟨p.g,0,none⟩)] 28)) 32 #[.slice none 0 0]
 rw[hz1] at hob
 have HPG:Hid (p.g=p.g):=Lib.hid rfl
 clear h hG hz1
 go_enter Tryz.func48,Tryz.ntmps48
 go_upto_region 2 with (fail)
 generalize World.alloc (World.alloc w _) _=w1 at *
 obtain⟨g,hg⟩:∃ g,g=w.heap.size:=⟨_,rfl⟩
 rw[<- hg] at htb hob ⊢
 have HGG:=Lib.hid hg
 clear hg
 have hg1:g+1<w1.heap.size:=hob.lt
 have q1:=q w1 k1
 have qt:=htb.cell
 obtain⟨At,ct,hAt⟩:=hs4
 simp only[hAt] at C1
 have HAt:=Lib.hid hAt
 clear hAt
 have q1t:w1.cell? ⟨p.g,8,none⟩=some (.slice At B.txns.length ct):=by rw[q1 8,<- HAt.out];rfl
 clear q1 q HPG
 go_wp2_with fail
 refine (C1.out w1 k1).mono ?_
 rintro e w2 ⟨v2,rfl,hO2,k2⟩
 have k02:=k1.tr k2
 have hz2:=k2.size
 have htb2:=htb.below k2 htb.lt
 have hob2:=hob.below k2 hob.lt
 have hgw:=HGG.out
 have hbx:∀ k,BrX p k->k<w.heap.size:=fun k hk=>HM.out k (HXX.out k hk)
 have hB2:BrV (fun k=>M k∨k=g+1) p B w2:=H.out.far (X:=fun _=>False) (UpN.of_k k02 _) (fun _ h=>h.elim) (fun _ h=>h.elim) (fun k hk hx=>hx.resolve_right (by omega)) (fun k hk=>.inl (HXX.out k hk)) (fun k hk=>hk.elim (fun h=>by have:=HM.out k h;omega) (fun h=>by omega))
 have hbl2:=hO2.toY.blk
 have hl2:LsF (fun k=>(M k∨k=g+1)∨(Value.slice none 0 0).ownBlock=some k) enS (asksT B.txns) v2 w2:=hO2.toY.lsf (fun k hk=>.inl (by
  rcases hk with (hk|hk)|hk
  · have:=HM.out k hk;omega
  · omega
  · simp[Value.ownBlock] at hk)) (fun k hk hx=>by
   have:=(hbl2 k hk).1
   rcases hx with (hx|hx)|hx
   · have:=HM.out k hx;omega
   · omega
   · simp[Value.ownBlock] at hx)
 have C2:=Lib.hid (AskAdd_calls hB2 HG.out w2.heap.size (g+1) g [] (asksT B.txns) (.slice none 0 0) v2 hob2 htb2 (OwnY.nil _ _ _ _ _) hl2 (fun k hk=>hk.elim (fun h=>by have:=HM.out k h;omega) (fun h=>by omega)) (.inr rfl) (.inr rfl) (fun k hk=>(by simp[Value.ownBlock] at hk)) (fun hx=>by have:=hbx _ hx;omega) (fun k hk=>by have:=hbx k hk;omega) (by omega) (by omega) (Nat.le_refl _) (by simp) (by omega))
 have HB2:=Lib.hid hB2
 have HBX:=Lib.hid hbx
 obtain⟨A2,c2,rfl⟩:=hl2.slice
 clear hB2 hbl2 hl2 hO2 C1 q1t qt hbx hgw
 go_wp2_with fail
 refine C2.out.mono ?_
 rintro e w3 ⟨rfl,v3,hob3,hO3,hat3,u3⟩
 replace hat3:∀ k,v3.ownBlock=some k->w2.heap.size<=k:=fun k hk=>by
  rcases hat3 k hk with h|h
  · simp[Value.ownBlock] at h
  · exact h
 replace u3:UpN (fun k=>k=g+1) w2 w3:=u3.more fun k hk=>hk.elim id fun h=>(by simp[Value.ownBlock] at h)
 have hz3:=u3.size
 have hlo3:=HM.out
 have hB3:BrV (fun k=>M k∨k=g+1∨(w2.heap.size<=k/\k<w3.heap.size)) p B w3:=HB2.out.far u3 (fun k hk=>.inr hk) (fun k hk hx=>by have:=HBX.out k hx;have:=HGG.out;omega) (fun k hk hx=>by
  rcases hx with h|h|h
  · exact .inl h
  · exact .inr h
  · omega) (fun k hk=>.inl (HXX.out k hk)) (fun k hk=>by
   rcases hk with h|h|h
   · have:=hlo3 k h;have:=k02.size;omega
   · omega
   · omega)
 have htb3:=htb2.upn u3 (by omega)
 have C3:=Lib.hid (BLast_calls hB3 HG.out)
 have q3:=htb3.cell
 clear C2 hB3 hlo3
 go_wp2_with fail
 refine C3.out.mono ?_
 rintro e w4 ⟨v4,rfl,hF4,k4⟩
 have hl4:=Fx.fix hF4 (by decide) msS_nb
 have HL4:=Lib.hid hl4
 obtain⟨A4,c4,rfl⟩:=hl4.slice
 have hob4:=hob3.below k4 hob3.lt
 have hO4:=hO3.st k4
 have u4:=u3.tr (UpN.of_k k4 (fun k=>k=g+1))
 have hbl3:=hO3.blk
 have hz4:=k4.size
 have HZ:=Lib.hid (And.intro hz3 hz4)
 clear C3 q3 hl4 hF4 htb3 hob3 hO3
 go_wp2_with fail
 have hat4:∀ k,v3.ownBlock=some k->(w2.heap.size<=k/\k<w3.heap.size)∨w4.heap.size<=k:=fun k hk=>.inl (hbl3 k hk)
 have uu:UpN (fun k=>k=g+1∨(w2.heap.size<=k/\k<w3.heap.size)) w4 w4:=UpN.rf _ _
 clear hbl3 hat3
 go_loopw [6,18] (fun _ i W=>∃ (j:Nat) (v':Value),j<=(lastB B).length/\i=.int .i64 (j:Int)/\Blk W (g+1) 32 #[v']/\OwnY (fun k=>M k∨k=g+1) w2.heap.size 42 enS (((lastB B).take j).foldl (fun o (k:Msg)=>k.asks.foldl (askB1 B) o) ((asksT B.txns).foldl (askB1 B) [])) v' W/\(∀ k,v'.ownBlock=some k->(w2.heap.size<=k/\k<w3.heap.size)∨w4.heap.size<=k)/\UpN (fun k=>k=g+1∨(w2.heap.size<=k/\k<w3.heap.size)) w4 W/\UpN (fun k=>k=g+1) w2 W) (fun _ i _=>(lastB B).length - (intOf i).toNat)
 case atStart=>exact⟨0,v3,by omega,rfl,hob4,by simpa using hO4,hat4,uu,u4⟩
 case round =>
  clear hob4 hO4 hat4 uu u4
  obtain⟨j,v',hj,rfl,hb,hO,hat,u,u2⟩:=hrel
  by_cases hlt:j<(lastB B).length
  · have hji:(j:Int)<((lastB B).length:Int):=by omega
    obtain⟨b1,o1,c1,cs1,e9,hn1,hcl,hF,hcell⟩:=HL4.out.at j hlt (by decide)
    injection e9 with e9 _ e10
    subst e9 e10
    have HF:=Lib.hid (HJ.out j hlt)
    have hon:=HN.out j
    have hmm:=HLM.out _ (List.getElem_mem hlt)
    generalize (lastB B)[j]=m at *
    generalize ((lastB B).take j).foldl (fun o (k:Msg)=>k.asks.foldl (askB1 B) o) ((asksT B.txns).foldl (askB1 B) [])=oj at *
    obtain⟨P',HP'⟩:∃ P',Hid (P'=((lastB B).take (j+1)).foldl (fun o (k:Msg)=>k.asks.foldl (askB1 B) o) ((asksT B.txns).foldl (askB1 B) [])):=⟨_,Lib.hid rfl⟩
    replace HF:Hid (P'=m.asks.foldl (askB1 B) oj):=Lib.hid (HP'.out.trans HF.out)
    have hc9:=hcell wr (u.more fun k hk=>by
     rcases hk with h|h
     · exact .inr (.inl h)
     · exact .inr (.inr h))
    obtain⟨v1,v2,v3',v4',v5,v6,rfl,g1,g2,g3,g4,g5,g6⟩:=hF.now
    have hF2:Fx (fun k=>M k∨k=g+1∨(w2.heap.size<=k/\k<w3.heap.size)) (fun W=>lst enS m.asks v2 W) w4:=hF.mono fun W h=>by
     obtain⟨x1,x2,x3,x4,x5,x6,e,h1,h2,-⟩:=h
     simp at e
     obtain⟨-,rfl,-⟩:=e
     exact h2
    have hL2:=Fx.fix hF2 (by decide) enS_nb
    have hHZ:=HZ.out
    have hzu:=u.size
    have HL2:Hid (LsF (fun k=>(M k∨k=g+1)∨v'.ownBlock=some k) enS m.asks v2 wr):=Lib.hid (hL2.to u (fun k hk=>by
     rcases hk with h|h
     · exact .inr (.inl h)
     · exact .inr (.inr h)) (fun k hk hx=>by
      rcases hx with (h|h)|h
      · exact .inl h
      · exact .inr (.inl h)
      · rcases hat k h with h|h
        · exact .inr (.inr h)
        · omega) (by decide))
    have q9:∀ i,i<8->wr.cell? ⟨b1,o1+j * 8+i,none⟩=(msA m v1 v2 v3' v4' v5 v6)[i]?:=fun i hi=>(hc9 i hi).trans Array.getElem?_toList
    have q0:wr.cell? ⟨b1,o1+j * 8,none⟩=some (.int .i64 m.kind):=q9 0 (by decide)
    obtain⟨A1,c1,rfl⟩:=lst_slice g1
    obtain⟨A2',c2',rfl⟩:=lst_slice g2
    obtain⟨A3,c3,rfl⟩:=lst_slice g3
    obtain⟨A4,c4,rfl⟩:=lst_slice g4
    obtain⟨A5,c5,rfl⟩:=lst_slice g5
    obtain⟨A6,c6,rfl⟩:=lst_slice g6
    have k3:K wr (wr.alloc (.cells (msA m (.slice A1 m.votes.length c1) (.slice A2' m.asks.length c2') (.slice A3 m.entries.length c3) (.slice A4 m.prepares.length c4) (.slice A5 m.aborts.length c5) (.slice A6 m.ends.length c6)) 61)):=(K.rf wr).al _
    have hx:=Blk.new wr 61 (msA m (.slice A1 m.votes.length c1) (.slice A2' m.asks.length c2') (.slice A3 m.entries.length c3) (.slice A4 m.prepares.length c4) (.slice A5 m.aborts.length c5) (.slice A6 m.ends.length c6))
    clear hcell hc9 hF hF2 hL2 hcl hn1 g1 g2 g3 g4 g5 g6
    go_upto_region 7 with (fail)
    generalize wr.alloc _=w5 at *
    clear q9 q0
    have q8:=hx.cell
    have hgw:=HGG.out
    have hz12:=k02.size
    have hzk:=k3.size
    have u25:=u2.tr (UpN.of_k k3 (fun k=>k=g+1))
    have hO5:=hO.st k3
    have hb5:=hb.below k3 hb.lt
    have ht5:=htb2.upn u25 (by omega)
    have hblo:=hO5.blk
    have hB5:BrV (fun k=>M k∨k=g+1∨v'.ownBlock=some k) p B w5:=HB2.out.far u25 (fun k hk=>.inr hk) (fun k hk hx=>by have:=HBX.out k hx;omega) (fun k hk hx=>by
     rcases hx with h|h|h
     · exact .inl h
     · exact .inr h
     · have:=(hblo k h).1;omega) (fun k hk=>.inl (HXX.out k hk)) (fun k hk=>by
      rcases hk with h|h|h
      · have:=HM.out k h;have:=u25.size;omega
      · have:=u25.size;omega
      · exact (hblo k h).2)
    have C5:=Lib.hid (AskAdd_calls hB5 HG.out w2.heap.size (g+1) g oj m.asks v' _ hb5 ht5 hO5 (HL2.out.st k3) (fun k hk=>hk.elim (fun h=>by have:=HM.out k h;omega) (fun h=>by omega)) (.inr rfl) (.inr (.inl rfl)) (fun k hk=>.inr (.inr hk)) (fun hx=>by have:=HBX.out _ hx;omega) (fun k hk=>by have:=HBX.out k hk;omega) (by omega) (by omega) (by have:=u25.size;omega) hon (by have:=hmm.2.2;omega))
    rw[<- HF.out] at C5
    clear hB5 hgw hz12 hzk hHZ hzu hb hO hO5 hb5 ht5
    go_wp2_with fail
    refine C5.out.mono ?_
    rintro e w6 ⟨rfl,v6',hb6,hO6,hat6,u6⟩
    have hHZ:=HZ.out
    have hzu:=u.size
    have hzk:=k3.size
    have hat7:∀ k,v6'.ownBlock=some k->(w2.heap.size<=k/\k<w3.heap.size)∨w4.heap.size<=k:=fun k hk=>by
     rcases hat6 k hk with h|h
     · exact hat k h
     · exact .inr (by omega)
    have u7:UpN (fun k=>k=g+1∨(w2.heap.size<=k/\k<w3.heap.size)) w4 w6:=(u.tr (UpN.of_k k3 _)).tr2 u6 fun k hk h=>by
     rcases h with h|h
     · exact .inl h
     · rcases hat k h with h|h
       · exact .inr h
       · omega
    have u8:UpN (fun k=>k=g+1) w2 w6:=u25.tr2 u6 fun k hk h=>by
     rcases h with h|h
     · exact h
     · have:=(hblo k h).1;omega
    clear C5 q8 hat6 u6 hHZ hzu hzk hblo hx
    go_wp2
    go_roundw
    case rel=>exact⟨j+1,v6',by omega,by go_num,hb6,by rw[<- HP'.out];exact hO6,hat7,u7,u8⟩
    case measure=>simp[intOf];omega
  · have hji:¬ (j:Int)<((lastB B).length:Int):=by omega
    obtain rfl:j=(lastB B).length:=by omega
    rw[List.take_length,<- HAB.out] at hO
    have HF:Hid (Fx M (fun W=>lst enS (asksB B) v' W) wr):=Lib.hid ((hO.less (Y':=M) fun k hk=>.inl hk).fx fun k hk=>by have:=HM.out k hk;have:=k02.size;omega)
    have kF:K w wr:=u2.k k02 fun k hk=>by have:=HGG.out;omega
    have q9:=hb.cell
    obtain⟨A9,c9,rfl⟩:=hO.slice
    clear hO hat u u2 hb
    go_wp2
    go_ret
    exact⟨_,rfl,HF.out,kF⟩
theorem OkT.settle {l:List Txn} (h:OkT l) (a:Idn):OkT (settleT l a):=by
 unfold settleT
 split
 · exact h
 · exact h.erase _
structure SameB (B B':Brk):Prop where
 me:B'.me=B.me
 par:B'.par=B.par
 hom:B'.hom=B.hom
 calls:B'.calls=B.calls
 reps:B'.reps=B.reps
 refused:B'.refused=B.refused
 told:B'.told=B.told
 waits:B'.waits=B.waits
 life:B'.st.life=B.st.life
theorem SameB.rf (B:Brk):SameB B B:=⟨rfl,rfl,rfl,rfl,rfl,rfl,rfl,rfl,rfl⟩
theorem SameB.tr {A B C:Brk} (h:SameB A B) (k:SameB B C):SameB A C:=⟨k.me.trans h.me,k.par.trans h.par,k.hom.trans h.hom,k.calls.trans h.calls,k.reps.trans h.reps,k.refused.trans h.refused,k.told.trans h.told,k.waits.trans h.waits,k.life.trans h.life⟩
theorem on_life {s t:Stt} {r:Rec} (hk:r.kind≠1) (e:onS s r=some t):t.life=s.life:=by
 unfold onS on1 on2 on3 on4 on5 at e
 repeat' split at e
 all_goals first|(cases e;done)|(injection e with e;subst e)
 all_goals first|rfl|omega
theorem noteB_same {B:Brk} {r:Rec} (hk:r.kind≠1):SameB B (noteB B r).1:=by
 unfold noteB
 split
 · split
   · exact SameB.rf B
   · rename_i t ht
     exact⟨rfl,rfl,rfl,rfl,rfl,rfl,rfl,rfl,on_life hk ht⟩
 · exact SameB.rf B
theorem noteB_good {B:Brk} (hG:GoodB B) {r:Rec} (hf:fitRec r):GoodB (noteB B r).1:=by
 unfold noteB
 split
 · rename_i hc
   simp only[Bool.and_eq_true] at hc
   split
   · exact hG
   · rename_i t ht
     have hd:=hG.dk.next hc.1 hf hc.2 ht
     exact⟨hG.tr,hG.me,hG.hm,hd,by
      show OkT (if r.kind=2 then settleT B.txns (idE r.e) else B.txns)
      split
      · exact hG.tx.settle _
      · exact hG.tx,hG.calls,hG.reps,hG.told,hG.refd,hG.waits,hG.wlen⟩
 · exact hG
theorem recE_fit {n:Nat} {x:Ent} (hn:n<18446744073709551616) (hx:fitEn x):fitRec (recE n x):=⟨by simp[recE,i64ok],hn,hx,by simp[recE,i64ok],by simp[recE],by simp[recE]⟩
theorem recI_fit {k:Int} {a:Idn} (hk:i64ok k) (ha:fitI a):fitRec (recI k a):=⟨hk,by simp[recI],fit_ent0,ha.1,ha.2.1,ha.2.2⟩
theorem listB_good {B:Brk} (hG:GoodB B) {x:Ent} (hx:fitEn x):GoodB (listB B x).1:=noteB_good hG (recE_fit (by have:=hG.dk.len;omega) hx)
theorem listB_same (B:Brk) (x:Ent):SameB B (listB B x).1:=noteB_same (by simp[recE])
theorem abortB_good {B:Brk} (hG:GoodB B) {a:Idn} (ha:fitI a):GoodB (abortB B a).1:=by
 have h:=noteB_good hG (recI_fit (k:=4) (by simp[i64ok]) ha)
 unfold abortB
 split
 · exact⟨h.tr,h.me,h.hm,h.dk,h.tx.settle _,h.calls,h.reps,h.told,h.refd,h.waits,h.wlen⟩
 · exact hG
theorem abortB_same (B:Brk) (a:Idn):SameB B (abortB B a).1:=by
 have h:=noteB_same (B:=B) (r:=recI 4 a) (by simp[recI])
 unfold abortB
 split
 · exact⟨h.me,h.par,h.hom,h.calls,h.reps,h.refused,h.told,h.waits,h.life⟩
 · exact SameB.rf B
