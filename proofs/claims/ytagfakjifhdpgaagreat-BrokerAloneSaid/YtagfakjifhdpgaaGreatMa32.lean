/-
  The walk of broker's work (layer 20). Conditions: none.
-/
import Derived.Test.YtagfakjifhdpgaaGreatMa30
import Derived.Test.YtagfakjifhdpgaaGreatMa31
set_option maxRecDepth 100000
set_option maxHeartbeats 16000000
set_option linter.unusedVariables false
set_option linter.unusedSimpArgs false
namespace Go.Proofs.YtagfakjifhdpgaaGreat
open Go Go.RowKit
theorem admit_mem {s:Stt} {y:Ent}:∀ {l:List Ent} {p:List Ent×List Ent},(y∈(l.foldl (admit1 s) p).1->y∈p.1∨y∈l)/\(y∈(l.foldl (admit1 s) p).2->y∈p.2∨y∈l):=by
 intro l
 induction l with
 | nil=>intro p;exact⟨.inl,.inl⟩
 | cons x l ih =>
   intro p
   have h1:(y∈(admit1 s p x).1->y∈p.1∨y=x)/\(y∈(admit1 s p x).2->y∈p.2∨y=x):=by
    unfold admit1
    split
    · exact⟨.inl,.inl⟩
    · split
      · exact⟨.inl,fun h=>by simpa using h⟩
      · split
        · exact⟨fun h=>by simpa using h,.inl⟩
        · exact⟨.inl,.inl⟩
   refine⟨fun h=>?_,fun h=>?_⟩
   · rcases (ih (p:=admit1 s p x)).1 h with h|h
     · rcases h1.1 h with h|h
       · exact .inl h
       · exact .inr (by simp[h])
     · exact .inr (by simp[h])
   · rcases (ih (p:=admit1 s p x)).2 h with h|h
     · rcases h1.2 h with h|h
       · exact .inl h
       · exact .inr (by simp[h])
     · exact .inr (by simp[h])
theorem GoodB.open' {B:Brk} (hG:GoodB B):(∀ x∈(admitO B.st B.waits (asksB B)).1,okEn x=true/\fitEn x)/\(∀ x∈(admitO B.st B.waits (asksB B)).2,okEn x=true/\fitEn x)/\(admitO B.st B.waits (asksB B)).1.length<=1000000/\(admitO B.st B.waits (asksB B)).2.length<=16:=by
 have h:=admit_len B.st (asksB B) (B.waits,[])
 have:=hG.wlen
 have:=asksB_len B
 refine⟨fun x hx=>?_,fun x hx=>?_,?_,?_⟩
 · rcases admit_mem.1 hx with h|h
   · exact hG.waits x h
   · exact hG.asks h
 · rcases admit_mem.2 hx with h|h
   · simp at h
   · exact hG.asks h
 · simp only[admitO];simp at h;omega
 · simp only[admitO];simp at h;omega
theorem lists_good {l:List Ent}:∀ {B:Brk},GoodB B->(∀ x∈l,fitEn x)->GoodB (l.foldl (fun b x=>(listB b x).1) B)/\SameB B (l.foldl (fun b x=>(listB b x).1) B):=by
 induction l with
 | nil=>intro B h _;exact⟨h,SameB.rf B⟩
 | cons x l ih =>
   intro B h hl
   have h1:=ih (listB_good h (hl x (by simp))) fun y hy=>hl y (by simp[hy])
   exact⟨h1.1,(listB_same B x).tr h1.2⟩
theorem work1_good {kids:List Msg} {p:Brk×List Ent} {x:Ent} (h:GoodB p.1) (hx:fitEn x):GoodB (work1 kids p x).1/\SameB p.1 (work1 kids p x).1/\(∀ y∈(work1 kids p x).2,y∈p.2∨y=x)/\(work1 kids p x).2.length<=p.2.length+1:=by
 have hi:fitI (idE x):=⟨hx.2.1,hx.2.2.2.1,hx.2.2.2.2.1⟩
 have he:∀ y∈p.2++[x],y∈p.2∨y=x:=fun y hy=>by simpa using hy
 unfold work1
 split
 · split
   · exact⟨listB_good h hx,listB_same _ _,fun y hy=>.inl hy,by simp⟩
   · exact⟨h,SameB.rf _,he,by simp⟩
 · split
   · split
     · exact⟨abortB_good h hi,abortB_same _ _,fun y hy=>.inl hy,by simp⟩
     · exact⟨h,SameB.rf _,he,by simp⟩
   · exact⟨h,SameB.rf _,he,by simp⟩
theorem works_good {kids:List Msg} {l:List Ent}:∀ {p:Brk×List Ent},GoodB p.1->(∀ x∈l,fitEn x)->GoodB (l.foldl (work1 kids) p).1/\SameB p.1 (l.foldl (work1 kids) p).1/\(∀ y∈(l.foldl (work1 kids) p).2,y∈p.2∨y∈l)/\(l.foldl (work1 kids) p).2.length<=p.2.length+l.length:=by
 induction l with
 | nil=>intro p h _;exact⟨h,SameB.rf _,fun y hy=>.inl hy,by simp⟩
 | cons x l ih =>
   intro p h hl
   have h1:=work1_good (kids:=kids) (x:=x) h (hl x (by simp))
   have h2:=ih (p:=work1 kids p x) h1.1 fun y hy=>hl y (by simp[hy])
   refine⟨h2.1,h1.2.1.tr h2.2.1,fun y hy=>?_,?_⟩
   · rcases h2.2.2.1 y hy with h3|h3
     · rcases h1.2.2.1 y h3 with h4|h4
       · exact .inl h4
       · exact .inr (by simp[h4])
     · exact .inr (by simp[h3])
   · have h5:=h2.2.2.2
     have h6:=h1.2.2.2
     simp only[List.foldl_cons,List.length_cons]
     omega
theorem workB_good {B:Brk} (hG:GoodB B):GoodB (workB B):=by
 have ho:=hG.open'
 unfold workB
 split
 · have h1:=lists_good hG fun x hx=>(ho.2.1 x hx).2
   have h2:=works_good (kids:=lastB B) (p:=(workL B,[])) h1.1 fun x hx=>(ho.1 x hx).2
   exact⟨h2.1.tr,h2.1.me,h2.1.hm,h2.1.dk,h2.1.tx,h2.1.calls,h2.1.reps,h2.1.told,h2.1.refd,fun x hx=>by
    rcases h2.2.2.1 x hx with h|h
    · simp at h
    · exact ho.1 x h,by
    exact Nat.le_trans (show (workD B).2.length<=0+(admitO B.st B.waits (asksB B)).1.length from h2.2.2.2) (by have:=ho.2.2.1;omega)⟩
 · exact hG
theorem lastB_same {B B':Brk} (h:SameB B B'):lastB B'=lastB B:=by
 unfold lastB kidsB repB
 rw[h.me,h.par,h.reps]
theorem yes_has {op:List Ent} {kids:List Msg} {x:Ent} (hx:x∈op):hasE (yesO op kids) (idE x)=decide (saysV kids (idE x)=1):=by
 unfold hasE yesO
 rw[Bool.eq_iff_iff,List.any_eq_true]
 simp only[List.mem_filter,decide_eq_true_eq]
 constructor
 · rintro ⟨y,⟨-,h1⟩,h2⟩
   rw[<- h2];exact h1
 · intro h
   exact⟨x,⟨hx,h⟩,rfl⟩
theorem no_has {op:List Ent} {kids:List Msg} {x:Ent} (hx:x∈op):hasI (noO op kids) (idE x)=decide (saysV kids (idE x)=2):=by
 unfold hasI noO
 rw[Bool.eq_iff_iff,List.any_eq_true]
 simp only[List.mem_map,List.mem_filter,decide_eq_true_eq]
 constructor
 · rintro ⟨a,⟨y,⟨-,h1⟩,rfl⟩,h2⟩
   rw[<- h2];exact h1
 · intro h
   exact⟨_,⟨x,⟨hx,h⟩,rfl⟩,rfl⟩
def AdmP (M:Nat->Prop) (op li:List Ent) (v:Value) (W:World):Prop:=∃ v1 v2,v=.tuple #[v1,v2]/\Fx M (fun W=>lst enS op v1 W) W/\Fx M (fun W=>lst enS li v2 W) W
theorem AdmP_st (M:Nat->Prop) (op li:List Ent):∀ v w w',AdmP M op li v w->Below w.heap.size w w'->AdmP M op li v w':=by
 rintro v w w' ⟨v1,v2,e,h1,h2⟩ k
 exact⟨v1,v2,e,h1.k k,h2.k k⟩
def LsP (M:Nat->Prop) (l:List Ent) (v:Value) (W:World):Prop:=Fx M (fun W=>lst enS l v W) W
theorem LsP_st (M:Nat->Prop) (l:List Ent):∀ v w w',LsP M l v w->Below w.heap.size w w'->LsP M l v w':=fun _ _ _ h k=>Fx.k h k
theorem BWork_calls {M:Nat->Prop} {p:BrW} {B:Brk} {w:World} (h:BrV M p B w) (hG:GoodB B) :
 Calls Tryz.prog 43 #[.pointer (some ⟨p.g,0,none⟩)] w fun e w'=>e=.returned (.tuple #[])/\BrN M p (workB B) w w':=by
 have HR:Hid (workB B=if rootB B then { (workD B).1 with waits:=(workD B).2 } else B):=Lib.hid rfl
 have HWL:Hid (workL B=(admitO B.st B.waits (asksB B)).2.foldl (fun b x=>(listB b x).1) B):=Lib.hid rfl
 have HWD:Hid (workD B=(admitO B.st B.waits (asksB B)).1.foldl (work1 (lastB B)) (workL B,[])):=Lib.hid rfl
 have HO:=Lib.hid hG.open'
 have H:=Lib.hid h
 have HG:=Lib.hid hG
 have hsm:=hG.smallL
 have C0:=Lib.hid (BRoot_calls h)
 have C1:=Lib.hid fun W (k:K w W)=>BAsks_calls (h.st k) hG
 have C2:=Lib.hid fun W (k:K w W) va (ha:lst enS (asksB B) va W)=>Admit_calls B.st B.waits (asksB B) p.vl p.vq p.va p.vw va W ⟨_,_,_,rfl,(h.dat.at k).list,(h.dat.at k).prom,(h.dat.at k).ab⟩ (h.dat.at k).waits ha hsm.2.2 (fun x hx=>okEn_small (hG.asks hx).1) ⟨by have:=hG.dk.len;omega,by have:=hG.dk.len;omega⟩ hG.wlen (by have:=asksB_len B;omega)
 have HM:=Lib.hid h.low
 have hs1:=lst_slice h.dat.now.list
 have hs2:=lst_slice h.dat.now.prom
 have hs3:=lst_slice h.dat.now.ab
 have hs4:=lst_slice h.dat.now.waits
 have q:=h.q
 obtain⟨op,hop⟩:∃ op,op=(admitO B.st B.waits (asksB B)).1:=⟨_,rfl⟩
 obtain⟨li,hli⟩:∃ li,li=(admitO B.st B.waits (asksB B)).2:=⟨_,rfl⟩
 simp only[<- hop,<- hli] at C2 HO HWL HWD
 clear hop hli hsm h hG
 generalize hwb:workB B=WB at *
 clear hwb
 obtain⟨g,gl,gd,gr,gt,vd,vr,vp,vh,vl,vq,va,vt,vf',vw,kr⟩:=p
 simp only at q C1 C2 hs1 hs2 hs3 hs4
 obtain⟨Al,cl,rfl⟩:=hs1
 obtain⟨Aq,cq,rfl⟩:=hs2
 obtain⟨Aa,ca,rfl⟩:=hs3
 obtain⟨Aw,cw,rfl⟩:=hs4
 go_enter Tryz.func43,Tryz.ntmps43
 go_wp2
 go_step3
 go_wp2_with fail
 refine C0.out.mono ?_
 rintro e w1 ⟨rfl,k1⟩
 clear C0
 cases hroot:rootB B
 · have HF:Hid (WB=B):=Lib.hid (by rw[HR.out,hroot];rfl)
   have HN:=Lib.hid (H.out.n k1)
   clear HR
   go_wp2
   rw[Exit.noGoto_ret]
   refine bodyPost_ret (results_none rfl _ _ _) rfl ?_
   exact⟨rfl,by rw[HF.out];exact HN.out⟩
 have HRW:Hid (WB={ (workD B).1 with waits:=(workD B).2 }):=Lib.hid (by rw[HR.out,hroot];rfl)
 have q1:=fun W (k:K w1 W)=>q W (k1.tr k)
 clear HR q hroot
 go_upto_region 2 with (fail)
 refine wp_region_auto 16 [([],[]),([0],[(23,0)]),([1],[(24,1)]),([2],[(25,2)]),([],[]),([4],[(27,4)]),([5],[(28,5)]),([6],[(29,6)]),([],[]),([8],[(31,8)]),([3,7,9],[(26,3),(30,7),(32,9)]),([10],[(33,10)]),([11],[(22,11)]),([11],[(22,11)]),([12],[(34,12)]),([13],[(35,13)])] 94 rfl (by kernel_rfl) (by kernel_rfl) (by kernel_rfl) (by kernel_rfl) (by decide) ?_
 simp only[List.take_succ_cons,List.take_zero,List.drop_succ_cons,List.drop_zero]
 iterate 9 (apply AutoQ.is;intro V W kW hp;(try simp only[List.forall_mem_cons,List.nil_append,List.cons_append,tab_zero,tab_succ,isV] at hp);simp[wantsG,rhoP,List.lookup,hp,ResG,execOp,bareOp,isV,Below.refl,kW,q1,go_sem];rfl)
 refine AutoQ.op (LsP M (asksB B)) (LsP_st _ _) (fun V W kW hp=>?_) ?_
 · (try simp only[List.forall_mem_cons,List.nil_append,List.cons_append,tab_zero,tab_succ,isV] at hp)
   simp[wantsG,rhoP,List.lookup,hp,ResG,execOp,bareOp,q1,go_sem]
   refine (C1.out W (k1.tr kW)).mono ?_
   rintro e w4 ⟨v4,rfl,hF,k4⟩
   exact⟨_,rfl,hF,k4⟩
 refine AutoQ.op (AdmP M op li) (AdmP_st _ _ _) (fun V W kW hp=>?_) ?_
 · simp only[List.forall_mem_cons,List.nil_append,List.cons_append,tab_zero,tab_succ,isV] at hp
   obtain⟨e3,e7,h9,-⟩:=hp
   simp[wantsG,rhoP,List.lookup,e3,e7,ResG,execOp,bareOp,go_sem]
   refine (C2.out W (k1.tr kW) (V 9) (Fx.now h9)).mono ?_
   rintro e w4 ⟨v1,v2,rfl,hT,k4⟩
   refine⟨_,rfl,⟨v1,v2,rfl,?_,?_⟩,k4⟩
   · exact (hT.a.less (Y':=M) fun k hk=>.inl (Nat.lt_of_lt_of_le (HM.out k hk) (k1.tr kW).size)).fx fun k hk=>Nat.lt_of_lt_of_le (HM.out k hk) (k1.tr kW).size
   · exact (hT.b.less (Y':=M) fun k hk=>.inl (Nat.lt_of_lt_of_le (HM.out k hk) (k1.tr kW).size)).fx fun k hk=>Nat.lt_of_lt_of_le (HM.out k hk) (k1.tr kW).size
 refine AutoQ.op (AdmP M op li) (AdmP_st _ _ _) (fun V W kW hp=>?_) ?_
 · simp only[List.forall_mem_cons,List.nil_append,List.cons_append,tab_zero,tab_succ,isV] at hp
   obtain⟨⟨v1,v2,e,h1,h2⟩,-⟩:=hp
   simp[wantsG,rhoP,List.lookup,e,ResG,execOp,bareOp,Below.refl,go_sem]
   exact⟨v1,v2,rfl,h1,h2⟩
 refine AutoQ.op (LsP M op) (LsP_st _ _) (fun V W kW hp=>?_) ?_
 · simp only[List.forall_mem_cons,List.nil_append,List.cons_append,tab_zero,tab_succ,isV] at hp
   obtain⟨⟨v1,v2,e,h1,h2⟩,-⟩:=hp
   simp[wantsG,rhoP,List.lookup,e,ResG,execOp,bareOp,Below.refl,go_sem]
   exact h1
 refine AutoQ.op (LsP M li) (LsP_st _ _) (fun V W kW hp=>?_) ?_
 · simp only[List.forall_mem_cons,List.nil_append,List.cons_append,tab_zero,tab_succ,isV] at hp
   obtain⟨⟨v1,v2,e,h1,h2⟩,-⟩:=hp
   simp[wantsG,rhoP,List.lookup,e,ResG,execOp,bareOp,Below.refl,go_sem]
   exact h2
 refine AutoQ.op (LsP M op) (LsP_st _ _) (fun V W kW hp=>?_) ?_
 · simp only[List.forall_mem_cons,List.nil_append,List.cons_append,tab_zero,tab_succ,isV] at hp
   simp[wantsG,rhoP,List.lookup,ResG,execOp,bareOp,Below.refl,go_sem]
   exact hp.1
 refine AutoQ.op (LsP M li) (LsP_st _ _) (fun V W kW hp=>?_) ?_
 · simp only[List.forall_mem_cons,List.nil_append,List.cons_append,tab_zero,tab_succ,isV] at hp
   simp[wantsG,rhoP,List.lookup,ResG,execOp,bareOp,Below.refl,go_sem]
   exact hp.1
 intro V W kW hA
 simp only[List.nil_append,List.cons_append,AllT,isV,Nat.reduceAdd] at hA
 refine TailQ.nil ?_
 simp only[putAll,Act.put,List.setIfInBounds_toArray,List.set_cons_succ,List.set_cons_zero,Nat.reduceAdd,hA]
 obtain⟨-,-,-,-,-,-,-,-,-,-,-,-,-,-,h14,h15,-⟩:=hA
 have kA:=k1.tr kW
 have hb0:=H.out.st kA
 have hL4:=Fx.fix h14 (by decide) enS_nb
 have hL5:=Fx.fix h15 (by decide) enS_nb
 generalize V 14=v14 at *
 generalize V 15=v15 at *
 obtain⟨A4,c4,rfl⟩:=hL4.slice
 obtain⟨A5,c5,rfl⟩:=hL5.slice
 have HL4:=Lib.hid hL4
 have HL5:=Lib.hid hL5
 have HB0:=Lib.hid hb0
 have hN0:BrN M ⟨g,gl,gd,gr,gt,vd,vr,vp,vh,.slice Al B.st.list.length cl,.slice Aq B.st.prom.length cq,.slice Aa B.st.ab.length ca,vt,vf',.slice Aw B.waits.length cw,kr⟩ B W W:=hb0.n (K.rf W)
 have HKA:=Lib.hid kA
 have hlb:=HO.out.2.2.2
 have hob:=HO.out.2.2.1
 clear h14 h15 hL4 hL5 C1 C2 q1 kW k1 hb0 kA
 go_wp2_with fail
 go_loopw [7,38] (fun _ i wr=>∃ j:Nat,j<=li.length/\i=.int .i64 (j:Int)/\BrN M ⟨g,gl,gd,gr,gt,vd,vr,vp,vh,.slice Al B.st.list.length cl,.slice Aq B.st.prom.length cq,.slice Aa B.st.ab.length ca,vt,vf',.slice Aw B.waits.length cw,kr⟩ ((li.take j).foldl (fun b x=>(listB b x).1) B) W wr) (fun _ i _=>li.length - (intOf i).toNat)
 case atStart=>exact⟨0,by omega,rfl,by simpa using hN0⟩
 case round =>
  clear hN0
  obtain⟨j,hj,rfl,p',hB',u,hgp,hX'⟩:=hrel
  by_cases hlt:j<li.length
  · have hji:(j:Int)<(li.length:Int):=by omega
    obtain⟨b1,o1,c1,cs1,e9,hn1,hcl,hF,hcell⟩:=HL5.out.at j hlt (by decide)
    injection e9 with e9 _ e10
    subst e9 e10
    have HF:=Lib.hid (fold_succ (fun b x=>(listB b x).1) li B j hlt)
    have hm:=HO.out.2.1 _ (List.getElem_mem hlt)
    have hgj:=lists_good HG.out (l:=li.take j) fun x hx=>(HO.out.2.1 x (List.mem_of_mem_take hx)).2
    generalize li[j]=x at *
    generalize (li.take j).foldl (fun b x=>(listB b x).1) B=Bj at *
    have uM:UpN M W wr:=u.more HB0.out.sub
    have hc9:=hcell wr uM
    obtain⟨vf,ve,rfl,hf,he⟩:=hF wr uM
    have q9:∀ i,i<8->wr.cell? ⟨b1,o1+j * 8+i,none⟩=(entA x vf ve)[i]?:=fun i hi=>(hc9 i hi).trans Array.getElem?_toList
    have q0:wr.cell? ⟨b1,o1+j * 8,none⟩=some (.int .i64 x.kind):=q9 0 (by decide)
    have HE:Hid (∀ W,K wr W->ent x (.agg (entA x vf ve)) W):=Lib.hid fun W k=>⟨_,_,rfl,flt_st _ _ _ _ hf k,lst_st he k⟩
    have hx:=Blk.new wr 42 (entA x vf ve)
    have k3:K wr (wr.alloc (.cells (entA x vf ve) 42)):=(K.rf wr).al _
    obtain⟨Af,cf,rfl⟩:=flt_slice hf
    obtain⟨Ae,ce,rfl⟩:=lst_slice he
    clear hcell hc9 hF hcl hn1 hf he
    go_upto_region 6 with (fail)
    generalize wr.alloc _=w3 at *
    clear q9 q0
    have q8:=hx.cell
    have C3:=Lib.hid (BList_calls (hB'.st k3) hgj.1 x _ (HE.out w3 k3) hm.2 (okEn_small hm.1))
    simp only[kg2 hgp] at C3
    have u3:=u.tr (UpN.of_k k3 _)
    have HXX:=Lib.hid hX'
    have HGP:=Lib.hid hgp
    clear hB' hgj hgp hX'
    go_wp2_with fail
    refine C3.out.mono ?_
    rintro e w4 ⟨rfl,hN⟩
    have hN4:=BrN.tr u3 HGP.out HXX.out (fun k hk=>.inl hk) hN
    rw[<- HF.out] at hN4
    clear C3 q8 hx hN
    go_wp2
    go_roundw
    case rel=>exact⟨j+1,by omega,by go_num,hN4⟩
    case measure=>simp[intOf];omega
  · have hji:¬ (j:Int)<(li.length:Int):=by omega
    obtain rfl:j=li.length:=by omega
    rw[List.take_length,<- HWL.out] at hB'
    have hg1:=lists_good HG.out (l:=li) fun x hx=>(HO.out.2.1 x hx).2
    rw[<- HWL.out] at hg1
    obtain⟨hg1,hs1⟩:=hg1
    have HKID:Hid (lastB (workL B)=lastB B):=Lib.hid (lastB_same hs1)
    generalize workL B=B1 at *
    have C3:=Lib.hid (BLast_calls hB' hg1)
    rw[HKID.out] at C3
    simp only[kg2 hgp] at C3
    have hkl:=lastB_len HG.out
    have hkv:∀ m∈lastB B,m.votes.length<=1000000:=fun m hm=>by have:=(HG.out.last hm).2.1;omega
    have HL4r:=Lib.hid (fun W' (k:K wr W')=>lst_st ((HL4.out.fx (by decide)) wr (u.more HB0.out.sub)) k)
    have HG1:=Lib.hid hg1
    have HB1:=Lib.hid hB'
    have HXX:=Lib.hid hX'
    have HGP:=Lib.hid hgp
    have hso:∀ x∈op,smallEn x:=fun x hx=>okEn_small (HO.out.1 x hx).1
    have C4:=Lib.hid fun W' (k:K wr W') vk (hk:lst msS (lastB B) vk W')=>Decide_calls op (lastB B) _ vk W' (HL4r.out W' k) hk hso hob (by omega) hkv
    clear hB' hg1 hs1 hX' hgp hkv hso
    go_wp2_with fail
    refine C3.out.mono ?_
    rintro e w6 ⟨vk,rfl,hFk,k6⟩
    have hFn:=hFk.now
    have C5:=Lib.hid (C4.out w6 k6 vk hFn)
    obtain⟨Ak,ck,rfl⟩:=lst_slice hFn
    clear C3 C4 hFk hFn
    go_wp2_with fail
    refine C5.out.mono ?_
    rintro e w7 ⟨vy,vn,vz,rfl,hFy,hFn,k7⟩
    have k67:=k6.tr k7
    have hB7:=HB1.out.st k67
    have hBl:=HB1.out.low
    have u7:=u.tr (UpN.of_k k67 _)
    have hz6:=k6.size
    have HL7:Hid (LsF (fun k=>M k∨BrX p' k) enS op (.slice A4 op.length c4) w7):=Lib.hid (HL4.out.to u7 HB0.out.sub (fun k hk hx=>by
     rcases hx with h|h
     · exact h
     · exact HB0.out.sub k ((HXX.out k h).resolve_right (by omega))) (by decide))
    have HY:=Lib.hid hFy
    have HN:=Lib.hid hFn
    have HBS:=Lib.hid (fun k (hk:BrX p' k)=>Nat.lt_of_lt_of_le (hBl k (.inr hk)) hz6)
    obtain⟨Ay,cy,hy⟩:=lst_slice hFy.now
    obtain⟨An,cn,hn⟩:=lst_slice hFn.now
    subst hy hn
    have hyl:(yesO op (lastB B)).length<=1000000:=Nat.le_trans (List.length_filter_le _ _) hob
    have hnl:(noO op (lastB B)).length<=1000000:=by unfold noO;rw[List.length_map];exact Nat.le_trans (List.length_filter_le _ _) hob
    have HB7:=Lib.hid hB7
    have HU7:=Lib.hid u7
    have hB8:BrV (fun k=>((M k∨BrX p' k)∨(Value.slice none 0 0).ownBlock=some k)∨BrX p' k) p' B1 w7:=hB7.less (fun k hk=>.inr hk) fun k hk=>by
     rcases hk with (h|h)|h
     · exact h
     · simp[Value.ownBlock] at h
     · exact .inr h
    have hO8:=OwnY.nil (fun k=>(M k∨BrX p' k)∨w7.heap.size<=k) w7.heap.size 42 enS w7
    clear C5 hFy hFn k7 hB7 hBl u u7
    go_wp2_with fail
    go_step3
    go_wp2_with fail
    go_loopw [11,13,14,56] (fun o _ _ i wr=>∃ (j:Nat) (p'':BrW),j<=op.length/\i=.int .i64 (j:Int)/\BrV (fun k=>((M k∨BrX p' k)∨o.ownBlock=some k)∨BrX p'' k) p'' ((op.take j).foldl (work1 (lastB B)) (B1,[])).1 wr/\UpN (BrX p') w7 wr/\p''.key=(g,gd)/\(∀ k,BrX p'' k->BrX p' k∨w7.heap.size<=k)/\(∀ k,o.ownBlock=some k->¬ BrX p'' k)/\OwnY (fun k=>(M k∨BrX p' k)∨w7.heap.size<=k) w7.heap.size 42 enS ((op.take j).foldl (work1 (lastB B)) (B1,[])).2 o wr) (fun _ _ _ i _=>op.length - (intOf i).toNat)
    case atStart=>exact⟨0,p',by omega,rfl,hB8,UpN.rf _ _,HGP.out,fun k hk=>.inl hk,fun k hk=>(by simp[Value.ownBlock] at hk),hO8⟩
    case round =>
     clear hB8 hO8
     obtain⟨j,p2,hj,rfl,hB',u,hgp,hX',hNB,hO⟩:=hrel
     by_cases hlt:j<op.length
     · have hji:(j:Int)<(op.length:Int):=by omega
       obtain⟨b1,o1,c1,cs1,e9,hn1,hcl,hF,hcell⟩:=HL7.out.at j hlt (by decide)
       injection e9 with e9 _ e10
       subst e9 e10
       have HFS:=Lib.hid (fold_succ (work1 (lastB B)) op (B1,[]) j hlt)
       have hm:=HO.out.1 _ (List.getElem_mem hlt)
       have hyh:=yes_has (kids:=lastB B) (List.getElem_mem hlt)
       have hnh:=no_has (kids:=lastB B) (List.getElem_mem hlt)
       have hgj:=works_good (kids:=lastB B) (p:=(B1,[])) (l:=op.take j) HG1.out fun x hx=>(HO.out.1 x (List.mem_of_mem_take hx)).2
       have hlj:=hgj.2.2.2
       replace hgj:=hgj.1
       have hlj2:(op.take j).length<=1000000:=by simp;omega
       generalize op[j]=x at *
       generalize (op.take j).foldl (work1 (lastB B)) (B1,[])=Q at *
       obtain⟨P',HP'⟩:∃ P',Hid (P'=(op.take (j+1)).foldl (work1 (lastB B)) (B1,[])):=⟨_,Lib.hid rfl⟩
       replace HFS:Hid (P'=work1 (lastB B) Q x):=Lib.hid (HP'.out.trans HFS.out)
       obtain⟨Bj,lj⟩:=Q
       simp only at hB' hO hgj hlj
       have uM:UpN (fun k=>M k∨BrX p' k) w7 wr:=u.more fun k hk=>.inr hk
       have hc9:=hcell wr uM
       obtain⟨vf,ve,rfl,hf,he⟩:=hF wr uM
       have hFx:Fx (fun k=>(M k∨BrX p' k)∨w7.heap.size<=k) (fun W=>enS.rel x (entA x vf ve).toList W) wr:=hF.to uM (fun _ h=>h) fun k hk hx=>hx.resolve_right (by omega)
       have q9:∀ i,i<8->wr.cell? ⟨b1,o1+j * 8+i,none⟩=(entA x vf ve)[i]?:=fun i hi=>(hc9 i hi).trans Array.getElem?_toList
       have q0:wr.cell? ⟨b1,o1+j * 8,none⟩=some (.int .i64 x.kind):=q9 0 (by decide)
       have HE:Hid (∀ W,K wr W->ent x (.agg (entA x vf ve)) W):=Lib.hid fun W k=>⟨_,_,rfl,flt_st _ _ _ _ hf k,lst_st he k⟩
       have hx:=Blk.new wr 42 (entA x vf ve)
       have k3:K wr (wr.alloc (.cells (entA x vf ve) 42)):=(K.rf wr).al _
       have hbl:=hO.blk
       obtain⟨Af,cf,rfl⟩:=flt_slice hf
       obtain⟨Ae,ce,rfl⟩:=lst_slice he
       obtain⟨Ao,co,rfl⟩:=hO.slice
       have HFx:=Lib.hid hFx
       have hz3:=u.size
       have HYr:=Lib.hid (fun W' (k:K wr W')=>lst_st (HY.out wr (u.more HBS.out)) k)
       have HNr:=Lib.hid (fun W' (k:K wr W')=>lst_st (HN.out wr (u.more HBS.out)) k)
       have HBr:=Lib.hid hB'
       have HUr:=Lib.hid u
       have HGP2:=Lib.hid hgp
       have HX2:=Lib.hid hX'
       have HNB:=Lib.hid hNB
       have HOr:=Lib.hid hO
       have HBL:=Lib.hid hbl
       clear hcell hc9 hF hcl hn1 hf he hFx uM hB' u hgp hX' hNB hO hbl
       go_upto_region 13 with (fail)
       generalize wr.alloc _=w8 at *
       obtain⟨ga,HGA⟩:∃ ga,Hid (ga=wr.heap.size):=⟨_,Lib.hid rfl⟩
       rw[<- HGA.out] at hx ⊢
       clear q9 q0
       have C6:=Lib.hid (ContE_calls (yesO op (lastB B)) _ (isIdE (idE x)) 96 #[.pointer (some ⟨ga,0,none⟩)] w8 (HYr.out w8 k3) hyl (fun _ _=>by rfl) (fun W k y _ u hu=>WorkC_calls y x u _ _ ga W hu (hx.below k hx.lt)))
       have HA1:Hid ((yesO op (lastB B)).any (isIdE (idE x))=decide (saysV (lastB B) (idE x)=1)):=Lib.hid hyh
       rw[HA1.out] at C6
       clear hyh HA1
       go_wp2_with fail
       refine C6.out.mono ?_
       rintro e w9 ⟨rfl,k9⟩
       have k39:=k3.tr k9
       have hx9:=hx.below k9 hx.lt
       have q8:=hx9.cell
       have hE9:=HE.out w9 k39
       have hB9:=HBr.out.st k39
       have hgs:=kg HGP2.out
       have H012:=saysV_012 (lastB B) (idE x)
       have HW1:Hid (P'=if saysV (lastB B) (idE x)=1 then (if (listB Bj x).2 then ((listB Bj x).1,lj) else (Bj,lj++[x])) else if saysV (lastB B) (idE x)=2 then (if (abortB Bj (idE x)).2 then ((abortB Bj (idE x)).1,lj) else (Bj,lj++[x])) else (Bj,lj++[x])):=Lib.hid HFS.out
       clear C6 hx HFS
       generalize saysV (lastB B) (idE x)=sx at *
       rcases H012 with rfl|rfl|rfl
       · have hdec:decide ((0:Int)=1)=false:=by decide
         have HQ:Hid (P'=(Bj,lj++[x])):=Lib.hid (by rw[HW1.out];rfl)
         have C7:=Lib.hid fun W (k:K w9 W)=>IContains_calls (noO op (lastB B)) (idE x) _ W (HNr.out W (k39.tr k)) hnl
         rw[hnh] at C7
         clear HW1 hnh
         go_wp2_with fail
         refine (C7.out w9 (K.rf _)).mono ?_
         rintro e w10 ⟨rfl,k10⟩
         have k310:=k39.tr k10
         have hB10:=HBr.out.st k310
         have uR:=HUr.out.tr (UpN.of_k k310 _)
         have hg10:=HGP2.out
         have hX10:=HX2.out
         have hNB10:=HNB.out
         have hO10:=HOr.out.st k310
         clear C7 hgs
         have hx10:Blk w10 ga 42 (entA x (.slice Af x.f.length cf) (.slice Ae x.es.length ce)):=hx9.below k10 hx9.lt
         have q10:=hx10.cell
         have HFa:=Lib.hid (HFx.out.k k310)
         have kA:K w10 (w10.alloc (.cells (entA x (.slice Af x.f.length cf) (.slice Ae x.es.length ce)) 42)):=(K.rf w10).al _
         have hOA:=hO10.st kA
         have hblA:=hO10.blk
         have hr:=rowY.new (S:=enS) (e:=42) (v:=.agg (entA x (.slice Af x.f.length cf) (.slice Ae x.es.length ce))) HFa.out 0 (Nat.zero_le _)
         have hB11:=hB10.st kA
         have hz10:=uR.size
         have HBa:=Lib.hid (And.intro hB10 (And.intro uR (And.intro hg10 (And.intro hX10 (And.intro hNB10 hO10)))))
         have HB11:=Lib.hid hB11
         have hljj:lj.length<=1000000:=by simp at hlj;omega
         clear hB10 uR hg10 hX10 hNB10 hO10 hB11 hB9 q8
         go_wp2_with (at_builtin;refine wpList_push rfl _ _ 32 rfl _ 8 96 TEn rfl rfl hOA _ rfl x ?p1 ?p2 ?p3 ?_)
         case p1 =>
          exact hr.less fun k hk=>by
           rcases hk with hk|hk
           · exact hk
           · have:=hblA k hk;exact .inr (by omega)
         case p2=>omega
         case p3=>exact Nat.le_trans hz10 kA.size
         intro v11 w11 hO11 hg11 hat11 hb11
         have HO11:=Lib.hid hO11
         have hzA:=kA.size
         have hBw:BrV (fun k=>((M k∨BrX p' k)∨v11.ownBlock=some k)∨BrX p2 k) p2 Bj w11:=HB11.out.far (X:=fun k=>(Value.slice Ao lj.length co).ownBlock=some k) (UpN.of_mut hg11 fun k e=>e) (fun k hk=>.inl (.inr hk)) (fun k hk=>HBa.out.2.2.2.2.1 k hk) (fun k hk h=>by
          rcases h with (h|h)|h
          · exact .inl (.inl h)
          · rcases hat11 with e|e
            · exact .inl (.inr (e ▸ h))
            · rw[e] at h;injection h with h;simp at hk;omega
          · exact .inr h) (fun k hk=>.inr hk) (fun k hk=>by
           have hg:=hg11.size
           rcases hk with (h|h)|h
           · exact Nat.lt_of_lt_of_le (HB11.out.low k (.inl (.inl h))) hg11.size
           · exact (hO11.blk k h).2
           · exact Nat.lt_of_lt_of_le (HB11.out.low k (.inr h)) hg11.size)
         have hNB11:∀ k,v11.ownBlock=some k->¬ BrX p2 k:=fun k hk h=>by
          rcases hat11 with e|e
          · exact HBa.out.2.2.2.2.1 k (e ▸ hk) h
          · rw[e] at hk;injection hk with hk
            have:=HBa.out.1.low k (.inr h)
            have h9:w10.heap.size<(w10.alloc (.cells (entA x (.slice Af x.f.length cf) (.slice Ae x.es.length ce)) 42)).heap.size:=by simp
            omega
         have u11:UpN (BrX p') w7 w11:=(HBa.out.2.1.tr (UpN.of_k kA _)).tr2 (UpN.of_mut (X:=fun k=>(Value.slice Ao lj.length co).ownBlock=some k) hg11 fun k e=>e) fun k hk h=>by have:=(hblA k h).1;omega
         have HH:=Lib.hid (And.intro hBw (And.intro u11 (And.intro HBa.out.2.2.1 (And.intro HBa.out.2.2.2.1 hNB11))))
         clear hBw u11 hNB11 hr hOA hO11 hg11 hat11 hb11 q10 hx10
         go_wp2
         go_roundw
         case rel=>exact⟨j+1,p2,by omega,by go_num,by rw[<- HP'.out,HQ.out];exact HH.out.1,HH.out.2.1,HH.out.2.2.1,HH.out.2.2.2.1,HH.out.2.2.2.2,by rw[<- HP'.out,HQ.out];exact HO11.out⟩
         case measure=>simp[intOf];omega
       · have C7:=Lib.hid (BList_calls (M:=fun k=>((M k∨BrX p' k)∨(Value.slice Ao lj.length co).ownBlock=some k)∨BrX p2 k) hB9 hgj x _ hE9 hm.2 (okEn_small hm.1))
         simp only[hgs] at C7
         have HNO:Hid ((listB Bj x).2=false->(listB Bj x).1=Bj):=Lib.hid noteB_no
         clear hnh hgs
         generalize listB Bj x=LB at *
         obtain⟨L1,L2⟩:=LB
         simp only at C7 HNO HW1
         go_wp2_with fail
         refine C7.out.mono ?_
         rintro e w10 ⟨rfl,hN⟩
         obtain⟨p3,hB3,u3,hg3,hX3⟩:=hN
         have hz9:=k39.size
         have uR:UpN (BrX p') w7 w10:=(HUr.out.tr (UpN.of_k k39 _)).tr2 u3 fun k hk h=>(HX2.out k h).resolve_right (by omega)
         have hX10:∀ k,BrX p3 k->BrX p' k∨w7.heap.size<=k:=fun k hk=>by
          rcases hX3 k hk with h|h
          · exact HX2.out k h
          · have:=HUr.out.size;exact .inr (by omega)
         have hNB10:∀ k,(Value.slice Ao lj.length co).ownBlock=some k->¬ BrX p3 k:=fun k hk h=>by
          rcases hX3 k h with h|h
          · exact HNB.out k hk h
          · have:=(HBL.out k hk).2;omega
         have hO10:=(HOr.out.st k39).to (Y':=fun k=>(M k∨BrX p' k)∨w7.heap.size<=k) u3 (fun k hk=>(HX2.out k hk).imp .inr id) (fun k hk h=>HNB.out k hk h) fun k _ hk=>.inl hk
         have hB10:BrV (fun k=>((M k∨BrX p' k)∨(Value.slice Ao lj.length co).ownBlock=some k)∨BrX p3 k) p3 L1 w10:=hB3.less (fun k hk=>.inr hk) fun k hk=>by
          rcases hk with h|h
          · exact .inl (.inl h)
          · exact .inr h
         have hg10:=hg3.trans HGP2.out
         clear C7
         cases L2
         · have hLB:=HNO.out rfl
           have HQ:Hid (P'=(Bj,lj++[x])):=Lib.hid (by rw[HW1.out];rfl)
           rw[hLB] at hB10
           have HU3:=Lib.hid u3
           have hx10:Blk w10 ga 42 (entA x (.slice Af x.f.length cf) (.slice Ae x.es.length ce)):=hx9.upn HU3.out (fun h=>by have:=HBr.out.low ga (.inr h);have:=HGA.out;omega)
           have q10:=hx10.cell
           have HFa:=Lib.hid (HFx.out.to ((UpN.of_k k39 _).tr HU3.out) (X:=BrX p2) (fun k hk=>(HX2.out k hk).imp .inr id) fun k _ hk=>hk)
           have kA:K w10 (w10.alloc (.cells (entA x (.slice Af x.f.length cf) (.slice Ae x.es.length ce)) 42)):=(K.rf w10).al _
           have hOA:=hO10.st kA
           have hblA:=hO10.blk
           have hr:=rowY.new (S:=enS) (e:=42) (v:=.agg (entA x (.slice Af x.f.length cf) (.slice Ae x.es.length ce))) HFa.out 0 (Nat.zero_le _)
           have hB11:=hB10.st kA
           have hz10:=uR.size
           have HBa:=Lib.hid (And.intro hB10 (And.intro uR (And.intro hg10 (And.intro hX10 (And.intro hNB10 hO10)))))
           have HB11:=Lib.hid hB11
           have hljj:lj.length<=1000000:=by simp at hlj;omega
           clear hB10 uR hg10 hX10 hNB10 hO10 hB11 hB9 q8
           clear hB3 u3 hg3 hX3
           go_wp2_with (at_builtin;refine wpList_push rfl _ _ 32 rfl _ 8 96 TEn rfl rfl hOA _ rfl x ?p1 ?p2 ?p3 ?_)
           case p1 =>
            exact hr.less fun k hk=>by
             rcases hk with hk|hk
             · exact hk
             · have:=hblA k hk;exact .inr (by omega)
           case p2=>omega
           case p3=>exact Nat.le_trans hz10 kA.size
           intro v11 w11 hO11 hg11 hat11 hb11
           have HO11:=Lib.hid hO11
           have hzA:=kA.size
           have hBw:BrV (fun k=>((M k∨BrX p' k)∨v11.ownBlock=some k)∨BrX p3 k) p3 Bj w11:=HB11.out.far (X:=fun k=>(Value.slice Ao lj.length co).ownBlock=some k) (UpN.of_mut hg11 fun k e=>e) (fun k hk=>.inl (.inr hk)) (fun k hk=>HBa.out.2.2.2.2.1 k hk) (fun k hk h=>by
            rcases h with (h|h)|h
            · exact .inl (.inl h)
            · rcases hat11 with e|e
              · exact .inl (.inr (e ▸ h))
              · rw[e] at h;injection h with h;simp at hk;omega
            · exact .inr h) (fun k hk=>.inr hk) (fun k hk=>by
             have hg:=hg11.size
             rcases hk with (h|h)|h
             · exact Nat.lt_of_lt_of_le (HB11.out.low k (.inl (.inl h))) hg11.size
             · exact (hO11.blk k h).2
             · exact Nat.lt_of_lt_of_le (HB11.out.low k (.inr h)) hg11.size)
           have hNB11:∀ k,v11.ownBlock=some k->¬ BrX p3 k:=fun k hk h=>by
            rcases hat11 with e|e
            · exact HBa.out.2.2.2.2.1 k (e ▸ hk) h
            · rw[e] at hk;injection hk with hk
              have:=HBa.out.1.low k (.inr h)
              have h9:w10.heap.size<(w10.alloc (.cells (entA x (.slice Af x.f.length cf) (.slice Ae x.es.length ce)) 42)).heap.size:=by simp
              omega
           have u11:UpN (BrX p') w7 w11:=(HBa.out.2.1.tr (UpN.of_k kA _)).tr2 (UpN.of_mut (X:=fun k=>(Value.slice Ao lj.length co).ownBlock=some k) hg11 fun k e=>e) fun k hk h=>by have:=(hblA k h).1;omega
           have HH:=Lib.hid (And.intro hBw (And.intro u11 (And.intro HBa.out.2.2.1 (And.intro HBa.out.2.2.2.1 hNB11))))
           clear hBw u11 hNB11 hr hOA hO11 hg11 hat11 hb11 q10 hx10
           go_wp2
           go_roundw
           case rel=>exact⟨j+1,p3,by omega,by go_num,by rw[<- HP'.out,HQ.out];exact HH.out.1,HH.out.2.1,HH.out.2.2.1,HH.out.2.2.2.1,HH.out.2.2.2.2,by rw[<- HP'.out,HQ.out];exact HO11.out⟩
           case measure=>simp[intOf];omega
         · have HQ:Hid (P'=(L1,lj)):=Lib.hid (by rw[HW1.out];rfl)
           have HH:=Lib.hid (And.intro hB10 (And.intro uR (And.intro hg10 (And.intro hX10 (And.intro hNB10 hO10)))))
           clear hB10 uR hg10 hX10 hNB10 hO10 hB3 u3 hg3 hX3 hB9
           go_wp2
           go_roundw
           case rel=>exact⟨j+1,p3,by omega,by go_num,by rw[<- HP'.out,HQ.out];exact HH.out.1,HH.out.2.1,HH.out.2.2.1,HH.out.2.2.2.1,HH.out.2.2.2.2.1,by rw[<- HP'.out,HQ.out];exact HH.out.2.2.2.2.2⟩
           case measure=>simp[intOf];omega
       · have hdec:decide ((2:Int)=1)=false:=by decide
         have C7:=Lib.hid fun W (k:K w9 W)=>IContains_calls (noO op (lastB B)) (idE x) _ W (HNr.out W (k39.tr k)) hnl
         rw[hnh] at C7
         clear hnh
         go_wp2_with fail
         refine (C7.out w9 (K.rf _)).mono ?_
         rintro e w9' ⟨rfl,k9'⟩
         replace k39:=k39.tr k9'
         replace hx9:=hx9.below k9' hx9.lt
         replace q8:=hx9.cell
         replace hB9:=hB9.st k9'
         have C8:=Lib.hid (BAbort1_calls (M:=fun k=>((M k∨BrX p' k)∨(Value.slice Ao lj.length co).ownBlock=some k)∨BrX p2 k) hB9 hgj (idE x) ⟨hm.2.2.1,hm.2.2.2.2.1,hm.2.2.2.2.2.1⟩)
         simp only[hgs] at C8
         have HNO:Hid ((abortB Bj (idE x)).2=false->(abortB Bj (idE x)).1=Bj):=Lib.hid fun h=>by
          unfold abortB at h ⊢
          split
          · rename_i hh;rw[if_pos hh] at h;cases h
          · rfl
         clear hgs C7
         generalize abortB Bj (idE x)=LB at *
         obtain⟨L1,L2⟩:=LB
         simp only at C8 HNO HW1
         go_wp2_with fail
         refine C8.out.mono ?_
         rintro e w10 ⟨rfl,hN⟩
         obtain⟨p3,hB3,u3,hg3,hX3⟩:=hN
         have hz9:=k39.size
         have uR:UpN (BrX p') w7 w10:=(HUr.out.tr (UpN.of_k k39 _)).tr2 u3 fun k hk h=>(HX2.out k h).resolve_right (by omega)
         have hX10:∀ k,BrX p3 k->BrX p' k∨w7.heap.size<=k:=fun k hk=>by
          rcases hX3 k hk with h|h
          · exact HX2.out k h
          · have:=HUr.out.size;exact .inr (by omega)
         have hNB10:∀ k,(Value.slice Ao lj.length co).ownBlock=some k->¬ BrX p3 k:=fun k hk h=>by
          rcases hX3 k h with h|h
          · exact HNB.out k hk h
          · have:=(HBL.out k hk).2;omega
         have hO10:=(HOr.out.st k39).to (Y':=fun k=>(M k∨BrX p' k)∨w7.heap.size<=k) u3 (fun k hk=>(HX2.out k hk).imp .inr id) (fun k hk h=>HNB.out k hk h) fun k _ hk=>.inl hk
         have hB10:BrV (fun k=>((M k∨BrX p' k)∨(Value.slice Ao lj.length co).ownBlock=some k)∨BrX p3 k) p3 L1 w10:=hB3.less (fun k hk=>.inr hk) fun k hk=>by
          rcases hk with h|h
          · exact .inl (.inl h)
          · exact .inr h
         have hg10:=hg3.trans HGP2.out
         clear C8
         cases L2
         · have hLB:=HNO.out rfl
           have HQ:Hid (P'=(Bj,lj++[x])):=Lib.hid (by rw[HW1.out];rfl)
           rw[hLB] at hB10
           have HU3:=Lib.hid u3
           have hx10:Blk w10 ga 42 (entA x (.slice Af x.f.length cf) (.slice Ae x.es.length ce)):=hx9.upn HU3.out (fun h=>by have:=HBr.out.low ga (.inr h);have:=HGA.out;omega)
           have q10:=hx10.cell
           have HFa:=Lib.hid (HFx.out.to ((UpN.of_k k39 _).tr HU3.out) (X:=BrX p2) (fun k hk=>(HX2.out k hk).imp .inr id) fun k _ hk=>hk)
           have kA:K w10 (w10.alloc (.cells (entA x (.slice Af x.f.length cf) (.slice Ae x.es.length ce)) 42)):=(K.rf w10).al _
           have hOA:=hO10.st kA
           have hblA:=hO10.blk
           have hr:=rowY.new (S:=enS) (e:=42) (v:=.agg (entA x (.slice Af x.f.length cf) (.slice Ae x.es.length ce))) HFa.out 0 (Nat.zero_le _)
           have hB11:=hB10.st kA
           have hz10:=uR.size
           have HBa:=Lib.hid (And.intro hB10 (And.intro uR (And.intro hg10 (And.intro hX10 (And.intro hNB10 hO10)))))
           have HB11:=Lib.hid hB11
           have hljj:lj.length<=1000000:=by simp at hlj;omega
           clear hB10 uR hg10 hX10 hNB10 hO10 hB11 hB9 q8
           clear hB3 u3 hg3 hX3
           go_wp2_with (at_builtin;refine wpList_push rfl _ _ 32 rfl _ 8 96 TEn rfl rfl hOA _ rfl x ?p1 ?p2 ?p3 ?_)
           case p1 =>
            exact hr.less fun k hk=>by
             rcases hk with hk|hk
             · exact hk
             · have:=hblA k hk;exact .inr (by omega)
           case p2=>omega
           case p3=>exact Nat.le_trans hz10 kA.size
           intro v11 w11 hO11 hg11 hat11 hb11
           have HO11:=Lib.hid hO11
           have hzA:=kA.size
           have hBw:BrV (fun k=>((M k∨BrX p' k)∨v11.ownBlock=some k)∨BrX p3 k) p3 Bj w11:=HB11.out.far (X:=fun k=>(Value.slice Ao lj.length co).ownBlock=some k) (UpN.of_mut hg11 fun k e=>e) (fun k hk=>.inl (.inr hk)) (fun k hk=>HBa.out.2.2.2.2.1 k hk) (fun k hk h=>by
            rcases h with (h|h)|h
            · exact .inl (.inl h)
            · rcases hat11 with e|e
              · exact .inl (.inr (e ▸ h))
              · rw[e] at h;injection h with h;simp at hk;omega
            · exact .inr h) (fun k hk=>.inr hk) (fun k hk=>by
             have hg:=hg11.size
             rcases hk with (h|h)|h
             · exact Nat.lt_of_lt_of_le (HB11.out.low k (.inl (.inl h))) hg11.size
             · exact (hO11.blk k h).2
             · exact Nat.lt_of_lt_of_le (HB11.out.low k (.inr h)) hg11.size)
           have hNB11:∀ k,v11.ownBlock=some k->¬ BrX p3 k:=fun k hk h=>by
            rcases hat11 with e|e
            · exact HBa.out.2.2.2.2.1 k (e ▸ hk) h
            · rw[e] at hk;injection hk with hk
              have:=HBa.out.1.low k (.inr h)
              have h9:w10.heap.size<(w10.alloc (.cells (entA x (.slice Af x.f.length cf) (.slice Ae x.es.length ce)) 42)).heap.size:=by simp
              omega
           have u11:UpN (BrX p') w7 w11:=(HBa.out.2.1.tr (UpN.of_k kA _)).tr2 (UpN.of_mut (X:=fun k=>(Value.slice Ao lj.length co).ownBlock=some k) hg11 fun k e=>e) fun k hk h=>by have:=(hblA k h).1;omega
           have HH:=Lib.hid (And.intro hBw (And.intro u11 (And.intro HBa.out.2.2.1 (And.intro HBa.out.2.2.2.1 hNB11))))
           clear hBw u11 hNB11 hr hOA hO11 hg11 hat11 hb11 q10 hx10
           go_wp2
           go_roundw
           case rel=>exact⟨j+1,p3,by omega,by go_num,by rw[<- HP'.out,HQ.out];exact HH.out.1,HH.out.2.1,HH.out.2.2.1,HH.out.2.2.2.1,HH.out.2.2.2.2,by rw[<- HP'.out,HQ.out];exact HO11.out⟩
           case measure=>simp[intOf];omega
         · have HQ:Hid (P'=(L1,lj)):=Lib.hid (by rw[HW1.out];rfl)
           have HH:=Lib.hid (And.intro hB10 (And.intro uR (And.intro hg10 (And.intro hX10 (And.intro hNB10 hO10)))))
           clear hB10 uR hg10 hX10 hNB10 hO10 hB3 u3 hg3 hX3 hB9
           go_wp2
           go_roundw
           case rel=>exact⟨j+1,p3,by omega,by go_num,by rw[<- HP'.out,HQ.out];exact HH.out.1,HH.out.2.1,HH.out.2.2.1,HH.out.2.2.2.1,HH.out.2.2.2.2.1,by rw[<- HP'.out,HQ.out];exact HH.out.2.2.2.2.2⟩
           case measure=>simp[intOf];omega
     · have hji:¬ (j:Int)<(op.length:Int):=by omega
       obtain rfl:j=op.length:=by omega
       rw[List.take_length,<- HWD.out] at hB' hO
       have uf:UpN (BrX ⟨g,gl,gd,gr,gt,vd,vr,vp,vh,.slice Al B.st.list.length cl,.slice Aq B.st.prom.length cq,.slice Aa B.st.ab.length ca,vt,vf',.slice Aw B.waits.length cw,kr⟩) W wr:=HU7.out.tr2 u fun k hk h=>(HXX.out k h).resolve_right (by omega)
       have hzW:=HU7.out.size
       have hX9:∀ k,BrX p2 k->BrX ⟨g,gl,gd,gr,gt,vd,vr,vp,vh,.slice Al B.st.list.length cl,.slice Aq B.st.prom.length cq,.slice Aa B.st.ab.length ca,vt,vf',.slice Aw B.waits.length cw,kr⟩ k∨W.heap.size<=k:=fun k hk=>by
        rcases hX' k hk with h|h
        · exact HXX.out k h
        · exact .inr (by omega)
       obtain⟨Ao,co,rfl⟩:=hO.slice
       have hbl:=hO.blk
       have hMl:=HM.out
       have hzw:=HKA.out.size
       have hlsf:LsF (fun k=>M k∨BrX p2 k) enS (workD B).2 _ wr:=hO.lsf (fun k hk=>by
        rcases hk with h|h
        · exact .inl (.inl (.inl h))
        · rcases hX' k h with h|h
          · exact .inl (.inl (.inr h))
          · exact .inl (.inr h)) (fun k hk h=>by
           rcases h with h|h
           · have:=hMl k h;have:=(hbl k hk).1;have:=HU7.out.size;omega
           · exact hNB k hk h)
       have hb2:BrV (fun k=>M k∨BrX p2 k) p2 (workD B).1 wr:=hB'.less (fun k hk=>.inr hk) fun k hk=>by
        rcases hk with h|h
        · exact .inl (.inl (.inl h))
        · exact .inr h
       have hfin:=hb2.putW (hlsf.fx (by decide))
       have u9:UpN (BrX p2) wr (wr.setCell ⟨p2.g,13,none⟩ (.slice Ao (workD B).2.length co)):=UpN.set1 (X:=BrX p2) (.inl rfl) 13 _
       have HF:Hid (∀ W9,W9=wr.setCell ⟨p2.g,13,none⟩ (.slice Ao (workD B).2.length co)->BrV (fun k=>M k∨BrX p2 k) { p2 with vw:=.slice Ao (workD B).2.length co } { (workD B).1 with waits:=(workD B).2 } W9):=Lib.hid fun W9 e=>e ▸ hfin
       rw[kg hgp] at u9
       have HU9:=Lib.hid (uf.tr2 u9 fun k hk h=>(hX9 k h).resolve_right (by omega))
       have HX9:=Lib.hid hX9
       have HGP9:=Lib.hid hgp
       have qg:=hb2.blk.cell
       have zg:=hb2.blk.frozen
       rw[kg hgp] at qg zg
       clear hB' hX' hNB hO hbl hMl hzw hlsf hb2 hfin u9 uf hX9 hgp u hzW
       go_wp2
       first|go_end0|(rw[Exit.noGoto_normal];go_end0)|(simp only[Exit.noGoto];go_end0)
       refine⟨rfl,?_⟩
       rw[HRW.out]
       have hN:BrN M ⟨g,gl,gd,gr,gt,vd,vr,vp,vh,.slice Al B.st.list.length cl,.slice Aq B.st.prom.length cq,.slice Aa B.st.ab.length ca,vt,vf',.slice Aw B.waits.length cw,kr⟩ { (workD B).1 with waits:=(workD B).2 } W (wr.setCell ⟨g,13,none⟩ (.slice Ao (workD B).2.length co)):=⟨{ p2 with vw:=.slice Ao (workD B).2.length co },HF.out _ (by rw[kg HGP9.out]),HU9.out,HGP9.out,HX9.out⟩
       exact hN.ofk HKA.out fun k hk=>HM.out k (HB0.out.sub k hk)
structure SameW (B B':Brk):Prop where
 me:B'.me=B.me
 par:B'.par=B.par
 hom:B'.hom=B.hom
 calls:B'.calls=B.calls
 reps:B'.reps=B.reps
 refused:B'.refused=B.refused
 told:B'.told=B.told
 life:B'.st.life=B.st.life
theorem SameB.w {B B':Brk} (h:SameB B B'):SameW B B':=⟨h.me,h.par,h.hom,h.calls,h.reps,h.refused,h.told,h.life⟩
theorem workB_same {B:Brk} (hG:GoodB B):SameW B (workB B):=by
 have ho:=hG.open'
 unfold workB
 split
 · have h1:=lists_good hG fun x hx=>(ho.2.1 x hx).2
   have h2:=works_good (kids:=lastB B) (p:=(workL B,[])) h1.1 fun x hx=>(ho.1 x hx).2
   have h3:=h1.2.tr h2.2.1
   exact⟨h3.me,h3.par,h3.hom,h3.calls,h3.reps,h3.refused,h3.told,h3.life⟩
 · exact (SameB.rf B).w
theorem BTick_solo {M:Nat->Prop} {p:BrW} {B:Brk} {w:World} (h:BrV M p B w) (hG:GoodB B) (hroot:rootB B=true) (hkids:kidsB B=[]) :
 Calls Tryz.prog 16 #[.pointer (some ⟨p.g,0,none⟩)] w fun e w'=>e=.returned (.slice none 0 0)/\BrN M p (workB B) w w':=by
 have C1:=Lib.hid (BWork_calls h hG)
 have hS:=workB_same hG
 have hGW:=workB_good hG
 have HRT:Hid (rootB (workB B)=true):=Lib.hid (by unfold rootB at hroot ⊢;rw[hS.me];exact hroot)
 have HKD:Hid (kidsB (workB B)=[]):=Lib.hid (by unfold kidsB at hkids ⊢;rw[hS.me,hS.par];exact hkids)
 generalize workB B=WB at *
 obtain⟨g,hg⟩:∃ g,g=p.g:=⟨_,rfl⟩
 rw[<- hg] at C1 ⊢
 have HG:=Lib.hid hg
 clear h hG hroot hkids hS hg
 go_enter Tryz.func16,Tryz.ntmps16
 go_wp2_with fail
 refine C1.out.mono ?_
 rintro e w1 ⟨rfl,hN⟩
 obtain⟨p',hB',u,hgp,hX'⟩:=hN
 have kA:K w1 (w1.alloc (.cells #[.slice none 0 0] 48)):=(K.rf w1).al _
 have hob:=Blk.new w1 48 #[.slice none 0 0]
 have HN:=Lib.hid (And.intro hB' (And.intro u (And.intro hgp hX')))
 have C2:=Lib.hid fun W (k:K w1 W)=>BRoot_calls (hB'.st k)
 have C3:=Lib.hid fun W (k:K w1 W)=>BKids_calls (hB'.st k) hGW
 rw[kg2 hgp,<- HG.out] at C2 C3
 rw[HRT.out] at C2
 rw[HKD.out] at C3
 clear hB' u hgp hX' C1
 go_upto_region 5 with (fail)
 generalize w1.alloc _=w2 at *
 generalize hob':w1.heap.size=ob at hob ⊢
 clear hob'
 go_wp2_with fail
 refine (C2.out w2 kA).mono ?_
 rintro e w3 ⟨rfl,k3⟩
 have k13:=kA.tr k3
 have hob3:=hob.below k3 hob.lt
 clear C2 hob
 go_wp2_with fail
 refine (C3.out w3 k13).mono ?_
 rintro e w4 ⟨v4,rfl,hO4,k4⟩
 have k14:=k13.tr k4
 have q:=(hob3.below k4 hob3.lt).cell
 obtain⟨A4,c4,rfl⟩:=hO4.slice
 have HF:Hid (BrN M p WB w w4):=Lib.hid (BrN.k ⟨p',HN.out.1,HN.out.2.1,HN.out.2.2.1,HN.out.2.2.2⟩ k14)
 clear C3 hO4 hob3
 go_wp2_with fail
 go_loopw [6,52] (fun _ i W=>i=.int .i64 0/\W=w4) (fun _ _ _=>0)
 case atStart=>exact⟨rfl,rfl⟩
 case round =>
  obtain⟨rfl,rfl⟩:=hrel
  go_wp2
  go_ret
  exact⟨rfl,HF.out⟩
def OpK (l:List Txn):Prop:=∀ t∈l,t.asked=false->t.e.kind=1
theorem OpK.nil:OpK []:=fun t h=>by simp at h
theorem OpK.erase {l:List Txn} (h:OpK l) (k:Nat):OpK (l.eraseIdx k):=fun t ht=>h t (List.mem_of_mem_eraseIdx ht)
theorem OpK.settle {l:List Txn} (h:OpK l) (a:Idn):OpK (settleT l a):=by
 unfold settleT
 split
 · exact h
 · exact h.erase _
theorem OpK.add {l:List Txn} (h:OpK l) (t:Txn) (ht:t.asked=true∨t.e.kind=1):OpK (addT l t).1:=by
 unfold addT
 repeat' split
 all_goals first|exact h|skip
 intro s hs
 rcases List.mem_append.1 hs with hs|hs
 · exact h s hs
 · simp at hs
   subst hs
   intro h1
   rcases ht with h2|h2
   · rw[h1] at h2;cases h2
   · exact h2
theorem OpK.set {l:List Txn} (h:OpK l) (k:Nat) (t:Txn) (ht:t.asked=true∨t.e.kind=1):OpK (l.set k t):=fun s hs=>by
 rcases List.mem_or_eq_of_mem_set hs with hs|rfl
 · exact h s hs
 · intro h1
   rcases ht with h2|h2
   · rw[h1] at h2;cases h2
   · exact h2
theorem OpK.publish {l:List Txn} (h:OpK l) (a:Idn) (e:List Att):OpK (publishT l a e).1:=by
 unfold publishT
 split
 · exact h
 · split
   · exact h
   · rename_i k t ht
     repeat' split
     all_goals first|exact h|skip
     refine h.set _ _ ?_
     cases hk:t.asked
     · exact .inr (h t (List.mem_of_getElem? ht) hk)
     · exact .inl rfl
theorem OpK.commit {l:List Txn} (h:OpK l) (a:Idn):OpK (commitT l a).1:=by
 unfold commitT
 split
 · exact h
 · split
   · exact h
   · exact h.set _ _ (.inl rfl)
structure Good2 (B:Brk):Prop extends GoodB B where
 opk:OpK B.txns
theorem GoodB.put {B:Brk} (hG:GoodB B) {l:List Txn} {n:Nat} (hl:OkT l) (hn:n<4611686018427387904):GoodB { B with txns:=l,calls:=n } :=
 ⟨hG.tr,hG.me,hG.hm,hG.dk,hl,hn,hG.reps,hG.told,hG.refd,hG.waits,hG.wlen⟩
theorem Good2.put {B:Brk} (hG:Good2 B) {l:List Txn} {n:Nat} (hl:OkT l) (hk:OpK l) (hn:n<4611686018427387904):Good2 { B with txns:=l,calls:=n } :=
 ⟨hG.toGoodB.put hl hn,hk⟩
theorem Good2.call {B:Brk} (hG:Good2 B) (hn:B.calls+1<4611686018427387904) (c:Int) {lay:List Txn×Int} (hl:OkT lay.1) (hk:OpK lay.1):Good2 (callB B c lay).1:=by
 unfold callB
 split
 · split
   · exact hG.put hl hk hn
   · exact hG
 · exact hG
theorem Good2.begin {B:Brk} (hG:Good2 B) (hn:B.calls+1<4611686018427387904) {c:Int} (hc:i64ok c):Good2 (beginB B c).1:=by
 have hi:=hG.new
 exact hG.call hn c (addT_ok hG.tx _ ⟨by simp[pubE,i64ok],hi.1,hc,hi.2.1,hi.2.2,by simp[pubE],by simp[pubE],by simp[pubE]⟩) (hG.opk.add _ (.inr rfl))
theorem Good2.ask {B:Brk} (hG:Good2 B) (hn:B.calls+1<4611686018427387904) {k c:Int} (hk:i64ok k) (hc:i64ok c) {n:Nat} (hs:n<18446744073709551616) {f:List Tst} (hf:∀ t∈f,fitT t):Good2 (callB B c (askT B.txns (subE B k c n f))).1:=by
 have hi:=hG.new
 exact hG.call hn c (addT_ok hG.tx _ ⟨hk,hi.1,hc,hi.2.1,hi.2.2,hs,hf,by simp[subE]⟩) (hG.opk.add _ (.inl rfl))
theorem Good2.keep {B:Brk} (hG:Good2 B) {r:List Txn×Int} (hl:OkT r.1) (hk:OpK r.1):Good2 (keepB B r).1:=by
 unfold keepB
 split
 · exact hG.put hl hk hG.calls
 · exact hG
theorem Good2.publish {B:Brk} (hG:Good2 B) {a:Idn} {e:List Att} (he:∀ x∈e,fitA x) (ha:fitI a):Good2 (keepB B (publishT B.txns a e)).1 :=
 hG.keep (nextT_ok (l:=B.txns) hG.tx ⟨2,a,0,e,ent0⟩ ha (by simp[i64ok]) he fit_ent0 hG.opk) (hG.opk.publish a e)
theorem Good2.commit {B:Brk} (hG:Good2 B) {a:Idn} (ha:fitI a):Good2 (keepB B (commitT B.txns a)).1 :=
 hG.keep (nextT_ok (l:=B.txns) hG.tx ⟨3,a,0,[],ent0⟩ ha (by simp[i64ok]) (by simp) fit_ent0 hG.opk) (hG.opk.commit a)
theorem noteB_opk {B:Brk} (h:OpK B.txns) (r:Rec):OpK (noteB B r).1.txns:=by
 unfold noteB
 split
 · split
   · exact h
   · show OpK (if r.kind=2 then settleT B.txns (idE r.e) else B.txns)
     split
     · exact h.settle _
     · exact h
 · exact h
theorem abortB_opk {B:Brk} (h:OpK B.txns) (a:Idn):OpK (abortB B a).1.txns:=by
 unfold abortB
 split
 · exact (noteB_opk h _).settle _
 · exact h
theorem lists_opk {l:List Ent}:∀ {B:Brk},OpK B.txns->OpK (l.foldl (fun b x=>(listB b x).1) B).txns:=by
 induction l with
 | nil=>intro B h;exact h
 | cons x l ih=>intro B h;exact ih (noteB_opk h _)
theorem works_opk {kids:List Msg} {l:List Ent}:∀ {p:Brk×List Ent},OpK p.1.txns->OpK (l.foldl (work1 kids) p).1.txns:=by
 induction l with
 | nil=>intro p h;exact h
 | cons x l ih =>
   intro p h
   refine ih ?_
   unfold work1
   repeat' split
   all_goals first|exact h|exact noteB_opk h _|exact abortB_opk h _
theorem Good2.work {B:Brk} (hG:Good2 B):Good2 (workB B):=by
 refine⟨workB_good hG.toGoodB,?_⟩
 unfold workB
 split
 · exact works_opk (p:=(workL B,[])) (lists_opk hG.opk)
 · exact hG.opk
