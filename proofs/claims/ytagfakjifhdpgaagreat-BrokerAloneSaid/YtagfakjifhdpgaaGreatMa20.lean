/-
  The walk of broker.Open (layer 20). Conditions: lists of at most a million; a disk of records that make a state.
-/
import Derived.Test.YtagfakjifhdpgaaGreatMa19
set_option maxRecDepth 100000
set_option maxHeartbeats 16000000
set_option linter.unusedVariables false
set_option linter.unusedSimpArgs false
namespace Go.Proofs.YtagfakjifhdpgaaGreat
open Go Go.RowKit
theorem BOis_calls (p:List Int) (n:Int) (v:Value) (g:Nat) (w:World) (hv:∃ A c,v=.slice A p.length c) (hg:Blk w g 31 #[v]) (hn:p.length<=1000000) :
 Calls Tryz.prog 35 #[.int .i64 n,.pointer (some ⟨g,0,none⟩)] w fun e w'=>e=.returned (.bool (inR p n))/\K w w':=by
 obtain⟨A,c,rfl⟩:=hv
 have q:=hg.cell
 have kk:=K.rf w
 have HC:Hid (inR p n=(decide (0<=n)&&decide (n<(p.length:Int)))):=Lib.hid rfl
 generalize inR p n=R at *
 go_enter Tryz.func35,Tryz.ntmps35
 by_cases h0:0<=n
 · by_cases h1:n<(p.length:Int)
   · have HR:Hid (R=true):=Lib.hid (by rw[HC.out];simp[h0,h1])
     go_wp2
     go_ret
     exact⟨by rw[HR.out];rfl,kk⟩
   · have HR:Hid (R=false):=Lib.hid (by rw[HC.out];simp[h0,h1])
     have h1':((p.length:Int))<=n:=by omega
     go_wp2
     go_ret
     exact⟨by rw[HR.out];rfl,kk⟩
 · have HR:Hid (R=false):=Lib.hid (by rw[HC.out];simp[h0])
   have h0':n<0:=by omega
   go_wp2
   go_ret
   exact⟨by rw[HR.out];rfl,kk⟩
def openB (me:Int) (p hom:List Int) (d:Dsk) (s:Stt):Brk:=⟨me,p,hom,s,[],0,[],[],[],[],d⟩
theorem BOpen_no (p hom:List Int) (me:Int) (v1 v2 dv:Value) (w:World) (h1:lst inS p v1 w) (h2:lst inS hom v2 w) (hn1:p.length<=1000000) (hn2:hom.length<=1000000) (hdv:dv=.pointer none∨∃ gd,dv=.pointer (some ⟨gd,0,none⟩))
 (hno:okTr p=false∨inR p me=false∨dv=.pointer none∨okHm p hom=false) :
 Calls Tryz.prog 11 #[.int .i64 me,v1,v2,dv] w fun e w'=>e=.returned (.tuple #[.pointer none,.int .i64 (if okTr p then 1 else 120)])/\K w w':=by
 have HE:Hid ((if okTr p then (1:Int) else 120)=if okTr p then (1:Int) else 120):=Lib.hid rfl
 have HT:Hid (chkTr p=if okTr p then 0 else 120):=Lib.hid rfl
 have C1:=Lib.hid fun W (k:K w W)=>TCheck_calls p v1 W (lst_st h1 k) hn1
 have k1:K w (w.alloc (.cells #[v1] 31)):=(K.rf w).al _
 have hb:=Blk.new w 31 #[v1]
 have hs:=lst_slice h1
 have C2:=Lib.hid fun n g W hg=>BOis_calls p n v1 g W hs hg hn1
 obtain⟨A1,c1,rfl⟩:=hs
 obtain⟨A2,c2,rfl,hl2,-⟩:=h2
 have HL2:=Lib.hid hl2
 generalize hR:(if okTr p then (1:Int) else 120)=R at HE ⊢
 have HR:=Lib.hid hR
 generalize chkTr p=T at *
 clear h1 hl2 hR
 go_enter Tryz.func11,Tryz.ntmps11
 go_upto_region 1 with (fail)
 generalize w.alloc _=w1 at *
 generalize w.heap.size=g at hb ⊢
 have q:=hb.cell
 go_wp2_with fail
 refine (C1.out w1 k1).mono ?_
 rintro e w2 ⟨rfl,k2⟩
 replace hb:=hb.below k2 hb.lt
 replace k1:=k1.tr k2
 clear q k2
 cases ht:okTr p
 · have HQ:Hid (R=120):=Lib.hid (by rw[<- HR.out,ht];rfl)
   obtain rfl:T=120:=by rw[HT.out,ht];rfl
   clear ht hno hdv
   go_wp2
   go_ret2
   exact⟨by rw[HQ.out];rfl,k1⟩
 have HQ:Hid (R=1):=Lib.hid (by rw[<- HR.out,ht];rfl)
 obtain rfl:T=0:=by rw[HT.out,ht];rfl
 rw[ht] at hno
 replace hno:=hno.resolve_left (by decide)
 have HNO:=Lib.hid hno
 have HDV:=Lib.hid hdv
 clear ht hno hdv HT HR HE C1
 go_wp2_with fail
 refine (C2.out _ g w2 hb).mono ?_
 rintro e w3 ⟨rfl,k3⟩
 replace hb:=hb.below k3 hb.lt
 replace k1:=k1.tr k3
 clear k3
 cases hm:inR p me
 · clear HNO HDV HL2
   go_wp2
   go_ret2
   exact⟨by rw[HQ.out];rfl,k1⟩
 rcases HDV.out with rfl|⟨gd,rfl⟩
 · clear HNO HDV HL2
   go_wp2
   go_ret2
   exact⟨by rw[HQ.out];rfl,k1⟩
 have HH:Hid (okHm p hom=false):=Lib.hid (by
  have:=HNO.out
  rw[hm] at this
  exact (this.resolve_left (by decide)).resolve_left (by simp))
 clear HNO HDV hm
 by_cases h3:hom.length<1
 · have h3':(hom.length:Int)<1:=by omega
   clear HL2
   go_wp2
   go_ret2
   exact⟨by rw[HQ.out];rfl,k1⟩
 have h3':¬ (hom.length:Int)<1:=by omega
 by_cases h4:32<hom.length
 · have h4':32<(hom.length:Int):=by omega
   clear HL2
   go_wp2
   go_ret2
   exact⟨by rw[HQ.out];rfl,k1⟩
 have h4':¬ 32<(hom.length:Int):=by omega
 obtain⟨b,off,rfl,hcell⟩:=ints_at HL2.out (by omega)
 have HCC:=Lib.hid hcell
 have hh:Hid (¬ ∀ k (h:k<hom.length),inR p hom[k]=true):=Lib.hid fun h=>by
  have:=HH.out
  rw[show okHm p hom=true by
   simp only[okHm,Bool.and_eq_true,decide_eq_true_eq,List.all_eq_true]
   exact⟨⟨by omega,by omega⟩,fun x hx=>by obtain⟨k,hk,rfl⟩:=List.mem_iff_getElem.1 hx;exact h k hk⟩] at this
  cases this
 clear hcell HL2 HH
 go_wp2_with fail
 have kk:=K.rf w3
 go_loopw [13,43,44,45,46,47,48,49,50] (fun _ i _ _ _ _ _ _ _ W=>∃ j:Nat,j<=hom.length/\i=.int .i64 (j:Int)/\Hid (∀ k (h:k<hom.length),k<j->inR p hom[k]=true)/\K w3 W) (fun _ i _ _ _ _ _ _ _ _=>hom.length - (intOf i).toNat)
 case atStart=>exact⟨0,by omega,rfl,Lib.hid fun k _ h=>by omega,kk⟩
 case round =>
  clear kk
  obtain⟨j,hj,rfl,HJ,kr⟩:=hrel
  by_cases hlt:j<hom.length
  · have hji:(j:Int)<(hom.length:Int):=by omega
    have cj:=HCC.out wr (k1.tr kr) j hlt
    have HB:Hid (inR p hom[j]=true->∀ k (h:k<hom.length),k<j+1->inR p hom[k]=true):=Lib.hid fun h k hk hkj=>by
     by_cases e:k=j
     · subst e;exact h
     · exact HJ.out k hk (by omega)
    generalize hom[j]=x at *
    have hbr:=hb.below kr hb.lt
    go_wp2_with fail
    refine (C2.out _ g wr hbr).mono ?_
    rintro e w4 ⟨rfl,k4⟩
    have kf:=k1.tr (kr.tr k4)
    cases hx:inR p x
    · clear HB HJ
      go_wp2
      go_ret2
      exact⟨by rw[HQ.out];rfl,kf⟩
    have HB2:=Lib.hid (HB.out hx)
    have kr4:=kr.tr k4
    clear hx HB cj
    go_wp2
    go_roundw
    case rel=>exact⟨j+1,by omega,by go_num,HB2,kr4⟩
    case measure=>simp[intOf];omega
  · exact absurd (fun k h=>HJ.out k h (by omega)) hh.out
theorem DkU.ofk {gd:Nat} {vh vh':Value} {w0 w w':World} (h:DkU gd vh vh' w w') (k:K w0 w) (_:∀ b,DkX gd vh b->b<w0.heap.size):DkU gd vh vh' w0 w':=⟨(UpN.of_k k _).tr h.up,fun b hb=>(h.new b hb).imp id fun a=>Nat.le_trans k.size a⟩
structure OpOk (gd:Nat) (vh:Value) (B:Brk) (w:World) (e:Ending) (w':World) (q:BrW):Prop where
 ret:e=.returned (.tuple #[.pointer (some ⟨q.g,0,none⟩),.int .i64 0])
 dd:q.gd=gd
 br:BrV (fun k=>k<w.heap.size∨BrX q k) q B w'
 up:UpN (DkX gd vh) w w'
 new:∀ k,BrX q k->DkX gd vh k∨w.heap.size<=k
 g:w.heap.size<=q.g
def OpNo (gd:Nat) (vh:Value) (d:Dsk) (w:World) (e:Ending) (w':World):Prop:=∃ vh',e=.returned (.tuple #[.pointer none,.int .i64 90])/\DkR gd vh' d w'/\DkU gd vh vh' w w'
def OpPost (gd:Nat) (vh:Value) (d:Dsk) (s:Stt) (me:Int) (p hom:List Int) (w:World) (e:Ending) (w':World):Prop :=
 if dkLen (recsS (lifeS s))<=d.room then ∃ q,OpOk gd vh (openB me p hom ⟨recsS (lifeS s),d.room⟩ (lifeS s)) w e w' q else OpNo gd vh d w e w'
theorem ints_fx {M:Nat->Prop} {e:TypeId} {base:Nat} {l:List Int} {v:Value} {w:World} {Y:Nat->Prop} (h:OwnY Y base e inS l v w) (hM:∀ b,v.ownBlock=some b->¬ M b):Fx M (fun W=>lst inS l v W) w:=fun W u=>by
 obtain⟨css,hr,hcl,hE⟩:=h
 have hcs:=each_ints_eq (hE w (UpN.rf _ _))
 exact lst_of_own (row_upn hr u hM) (by rw[hcs];exact each_ints _ _)
theorem run_makeMapG {P:Program} {t kt et:TypeId} (hT:P.underlying t=some (.map kt et)) (W:World):(Instr.makeMap t none).run P W=.ok (.map (some W.heap.size)) (W.alloc (.map #[] 0)):=by
 simp[Instr.makeMap,run_underlying hT,go_sem]
theorem BOpen_calls (gd:Nat) (vh:Value) (d:Dsk) (s:Stt) (p hom:List Int) (me:Int) (v1 v2:Value) (w:World) (h:DkR gd vh d w) (hG:DskG d s) (hl:s.life+1<18446744073709551616) (h1:Fx (DkX gd vh) (fun W=>lst inS p v1 W) w) (h2:Fx (DkX gd vh) (fun W=>lst inS hom v2 W) w)
 (ht:okTr p=true) (hm:inR p me=true) (hh:okHm p hom=true) :
 Calls Tryz.prog 11 #[.int .i64 me,v1,v2,.pointer (some ⟨gd,0,none⟩)] w (OpPost gd vh d s me p hom w):=by
 have hn1:p.length<=1000000:=by have:=okTr_par ht;omega
 obtain⟨⟨hn2,hn3⟩,hall⟩:(1<=hom.length/\hom.length<=32)/\∀ x∈hom,inR p x=true:=by
  simpa only[okHm,Bool.and_eq_true,decide_eq_true_eq,List.all_eq_true] using hh
 have HP1:Hid (∀ e w' q,dkLen (recsS (lifeS s))<=d.room->OpOk gd vh (openB me p hom ⟨recsS (lifeS s),d.room⟩ (lifeS s)) w e w' q->OpPost gd vh d s me p hom w e w'):=Lib.hid fun e w' q c h=>by unfold OpPost;rw[if_pos c];exact⟨q,h⟩
 have HP2:Hid (∀ e w',¬ dkLen (recsS (lifeS s))<=d.room->OpNo gd vh d w e w'->OpPost gd vh d s me p hom w e w'):=Lib.hid fun e w' c h=>by unfold OpPost;rw[if_neg c];exact h
 have HB:Hid (∀ W e w',BgPost gd vh d s W e w'->if dkLen (recsS (lifeS s))<=d.room then ∃ gl vh' vr vl vp va,BgOk gd vh ⟨recsS (lifeS s),d.room⟩ (lifeS s) W e w' gl vh' vr vl vp va else BgNo gd vh d W e w'):=Lib.hid fun W e w' h=>h
 have C3:=Lib.hid fun W (k:K w W)=>BBegin0_calls gd vh d s W (h.st k) hG hl
 generalize dkLen (recsS (lifeS s))=DL at *
 generalize hd':(⟨recsS (lifeS s),d.room⟩:Dsk)=d' at *
 generalize hs':lifeS s=s' at *
 generalize OpPost gd vh d s me p hom w=Post at *
 generalize hBP:BgPost gd vh d s=BP at *
 have HDX:=Lib.hid h.lt
 have H1:=Lib.hid h1
 have H2:=Lib.hid h2
 clear hd' hs' hBP hG hl hh h
 have HTT:chkTr p=0:=by unfold chkTr;rw[if_pos ht]
 have C1:=Lib.hid fun W (k:K w W)=>TCheck_calls p v1 W (h1.at k) hn1
 rw[HTT] at C1
 have k1:K w (w.alloc (.cells #[v1] 31)):=(K.rf w).al _
 have hb:=Blk.new w 31 #[v1]
 have hs:=lst_slice h1.now
 have C2:=Lib.hid fun n g W hg=>BOis_calls p n v1 g W hs hg hn1
 obtain⟨A1,c1,rfl⟩:=hs
 obtain⟨A2,c2,rfl,hl2,-⟩:=h2.now
 have HL2:=Lib.hid hl2
 clear h1 h2 hl2 HTT ht
 go_enter Tryz.func11,Tryz.ntmps11
 go_upto_region 1 with (fail)
 generalize w.alloc _=w1 at *
 generalize hg0:w.heap.size=g at hb ⊢
 have HG0:=Lib.hid hg0
 clear hg0
 have q:=hb.cell
 go_wp2_with fail
 refine (C1.out w1 k1).mono ?_
 rintro e w2 ⟨rfl,k2⟩
 replace hb:=hb.below k2 hb.lt
 replace k1:=k1.tr k2
 clear q k2 C1
 go_wp2_with fail
 refine (C2.out _ g w2 hb).mono ?_
 rintro e w3 ⟨rfl,k3⟩
 replace hb:=hb.below k3 hb.lt
 replace k1:=k1.tr k3
 clear k3
 rw[hm]
 have h3':¬ (hom.length:Int)<1:=by omega
 have h4':¬ 32<(hom.length:Int):=by omega
 obtain⟨b,off,rfl,hcell⟩:=ints_at HL2.out (by omega)
 have HCC:=Lib.hid hcell
 have HALL:Hid (∀ k (h:k<hom.length),inR p hom[k]=true):=Lib.hid fun k hk=>hall _ (List.getElem_mem hk)
 clear hcell HL2 hall hm
 go_wp2_with fail
 have kk:=K.rf w3
 go_loopw [13,43,44,45,46,47,48,49,50] (fun _ i _ _ _ _ _ _ _ W=>∃ j:Nat,j<=hom.length/\i=.int .i64 (j:Int)/\K w3 W) (fun _ i _ _ _ _ _ _ _ _=>hom.length - (intOf i).toNat)
 case atStart=>exact⟨0,by omega,rfl,kk⟩
 case round =>
  clear kk
  obtain⟨j,hj,rfl,kr⟩:=hrel
  by_cases hlt:j<hom.length
  · have hji:(j:Int)<(hom.length:Int):=by omega
    have cj:=HCC.out wr (k1.tr kr) j hlt
    have hx:=HALL.out j hlt
    generalize hom[j]=x at *
    have hbr:=hb.below kr hb.lt
    go_wp2_with fail
    refine (C2.out _ g wr hbr).mono ?_
    rintro e w4 ⟨rfl,k4⟩
    rw[hx]
    have kr4:=kr.tr k4
    clear hx cj
    go_wp2
    go_roundw
    case rel=>exact⟨j+1,by omega,by go_num,kr4⟩
    case measure=>simp[intOf];omega
  · have hji:¬ (j:Int)<(hom.length:Int):=by omega
    have kr:=k1.tr kr
    have hb:=hb.below (by assumption:K w3 wr) hb.lt
    clear hlt hj k1 HALL HCC C2
    go_wp2_with fail
    refine (C3.out wr kr).mono ?_
    intro e w5 hP
    replace hP:=HB.out _ _ _ hP
    have HKR:=Lib.hid kr
    have HBB:=Lib.hid hb
    clear HB C3 hb kr
    by_cases hfit:DL<=d.room
    · rw[if_pos hfit] at hP
      obtain⟨gl,vh',vr,vl,vp,va,⟨rfl,hlg,hst,hup,hnew,hgl⟩⟩:=hP
      have HFIT:=Lib.hid hfit
      have hb5:=HBB.out.upn hup fun hx=>by have:=HDX.out _ hx;have:=HG0.out;omega
      obtain⟨⟨Al,cl,rfl⟩,⟨Ap,cp,rfl⟩,Aa,ca,rfl⟩:(∃ A c,vl=.slice A s'.list.length c)/\(∃ A c,vp=.slice A s'.prom.length c)/\∃ A c,va=.slice A s'.ab.length c:=⟨lst_slice hst.now.1,lst_slice hst.now.2.1,lst_slice hst.now.2.2⟩
      have hb7:=Blk.new w5 53 zSt
      have q7:=hb7.cell
      have z7:=hb7.frozen
      have HLG:=Lib.hid hlg
      have HST:=Lib.hid hst
      have HUP:=Lib.hid hup
      have HNEW:=Lib.hid hnew
      have HGL:=Lib.hid hgl
      clear hlg hst hup hnew hgl hfit
      go_upto_region 14 with (fail)
      clear q7 z7 hb7
      have hb7:=Blk.new w5 53 (stA s' (.slice Al s'.list.length cl) (.slice Ap s'.prom.length cp) (.slice Aa s'.ab.length ca))
      have k6:K w5 (w5.alloc (.cells (stA s' (.slice Al s'.list.length cl) (.slice Ap s'.prom.length cp) (.slice Aa s'.ab.length ca)) 53)):=(K.rf w5).al _
      generalize w5.alloc _=w6 at *
      generalize w5.heap.size=g7 at hb7 ⊢
      have hb6:=hb5.below k6 hb5.lt
      have q6:=hb6.cells
      have q7:=hb7.cells
      have HL1:Hid (∀ W,K w6 W->lst inS p (.slice A1 p.length c1) W):=Lib.hid fun W k=>H1.out W ((UpN.of_k HKR.out _).tr (HUP.out.tr (UpN.of_k (k6.tr k) _)))
      have HL2:Hid (∀ W,K w6 W->lst inS hom (.slice (some ⟨b,off,none⟩) hom.length c2) W):=Lib.hid fun W k=>H2.out W ((UpN.of_k HKR.out _).tr (HUP.out.tr (UpN.of_k (k6.tr k) _)))
      clear hb5 hb6 hb7
      go_upto_region 16 with (fail)
      refine wp_region_apart 9 [([],[]),([],[]),([1],[(62,1)]),([],[]),([3],[(64,3)]),([],[]),([],[]),([],[]),([],[]),([0,2,4,5,6,7,8],[(61,0),(63,2),(65,4),(66,5),(67,6),(68,7),(69,8)]),([9],[(70,9)]),([0,1,2,3,4,5,6,7,8,9,10],[(71,10)]),([0,1,2,3,4,5,6,7,8,9,10,11],[])] [7,8] 72 rfl (by kernel_rfl) (by kernel_rfl) (by kernel_rfl) (by kernel_rfl) (by decide) (by decide) ?ds ?_
      case ds =>
       intro k hk
       simp at hk
       rcases hk with rfl|rfl
       · exact mapOk_make rfl rfl rfl Tryz.underlying98
       · exact mapOk_make rfl rfl rfl Tryz.underlying99
      simp only[List.take_succ_cons,List.take_zero,List.drop_succ_cons,List.drop_zero]
      iterate 2 (apply AutoQ.is;intro V W kW hp;(try simp only[List.forall_mem_cons,List.nil_append,List.cons_append,tab_zero,tab_succ,isV] at hp);simp[wantsG,rhoP,List.lookup,hp,ResG,execOp,bareOp,isV,Below.refl,kW,q6,go_sem];rfl)
      refine AutoQ.ints p _ _ _ _ _ _ TIn rfl rfl (by omega) (fun V W kW hp=>?_) ?_
      · simp only[List.forall_mem_cons,List.nil_append,List.cons_append,tab_zero,tab_succ,isV] at hp
        exact⟨rfl,by simp[rhoP,List.lookup,hp];exact HL1.out W kW⟩
      (apply AutoQ.is;intro V W kW hp;(try simp only[List.forall_mem_cons,List.nil_append,List.cons_append,tab_zero,tab_succ,isV] at hp);simp[wantsG,rhoP,List.lookup,hp,ResG,execOp,bareOp,isV,Below.refl,kW,q6,go_sem];rfl)
      refine AutoQ.ints hom _ _ _ _ _ _ TIn rfl rfl (by omega) (fun V W kW hp=>?_) ?_
      · simp only[List.forall_mem_cons,List.nil_append,List.cons_append,tab_zero,tab_succ,isV] at hp
        exact⟨rfl,by simp[rhoP,List.lookup,hp];exact HL2.out W kW⟩
      iterate 2 (apply AutoQ.is;intro V W kW hp;(try simp only[List.forall_mem_cons,List.nil_append,List.cons_append,tab_zero,tab_succ,isV] at hp);simp[wantsG,rhoP,List.lookup,hp,ResG,execOp,bareOp,isV,Below.refl,kW,q7,go_sem];rfl)
      refine AutoQ.op (fun v W=>∃ b,v=.map (some b)/\w6.heap.size<=b/\MapG encI W b []) (fun _ _ _ ⟨b,e,h1,h2⟩ k=>⟨b,e,h1,h2.st k⟩) (fun V W kW hp=>?_) ?_
      · simp[wantsG,execOp,bareOp,run_makeMapG Tryz.underlying98,ResG]
        exact⟨⟨kW.size,MapG.new W⟩,(K.rf W).al _⟩
      refine AutoQ.op (fun v W=>∃ b,v=.map (some b)/\w6.heap.size<=b/\MapG encD W b []) (fun _ _ _ ⟨b,e,h1,h2⟩ k=>⟨b,e,h1,h2.st k⟩) (fun V W kW hp=>?_) ?_
      · simp[wantsG,execOp,bareOp,run_makeMapG Tryz.underlying99,ResG]
        exact⟨⟨kW.size,MapG.new W⟩,(K.rf W).al _⟩
      intro V W kW hne hA
      simp only[List.nil_append,List.cons_append,AllT,isV,Nat.reduceAdd] at hA
      obtain⟨e0,e1,hO1,e3,hO2,e5,e6,⟨b7,e7,hz7,hm7⟩,⟨b8,e8,hz8,hm8⟩,-⟩:=hA
      obtain⟨A5,c5,e2⟩:=hO1.slice
      obtain⟨A6,c6,e4⟩:=hO2.slice
      rw[e2] at hO1
      rw[e4] at hO2
      have hne78:b7≠b8:=fun e=>hne 7 (by simp) 8 (by simp) (by decide) (by rw[e7,e8,e])
      apply TailQ.pure
      rfl
      simp[rhoP,List.lookup,updV,e0,e2,e4,e5,e6,e7,e8,execOp,bareOp,go_sem]
      rfl
      refine TailQ.val (.pointer (some ⟨W.heap.size,0,none⟩)) (W.alloc (.cells #[.int .i64 me,.slice A5 p.length c5,.slice A6 hom.length c6,.pointer (some ⟨gl,0,none⟩),.int .u64 (s'.life:Int),.slice Al s'.list.length cl,.slice Ap s'.prom.length cp,.slice Aa s'.ab.length ca,.slice none 0 0,.int .u64 0,.map (some b7),.slice none 0 0,.map (some b8),.slice none 0 0] 101)) rfl (by simp[rhoP,List.lookup,updV,execOp,bareOp,go_sem]) ?_
      apply TailQ.pure
      rfl
      simp[rhoP,List.lookup,updV,execOp,bareOp,go_sem]
      rfl
      apply TailQ.pure
      rfl
      simp[rhoP,List.lookup,updV,execOp,bareOp,go_sem]
      rfl
      refine TailQ.nil ?_
      simp only[putAll,Act.put,List.setIfInBounds_toArray,List.set_cons_succ,List.set_cons_zero,Nat.reduceAdd,updV,e0,e1,e2,e3,e4,e5,e6,e7,e8]
      have hbk:=Blk.new W 101 #[.int .i64 me,.slice A5 p.length c5,.slice A6 hom.length c6,.pointer (some ⟨gl,0,none⟩),.int .u64 (s'.life:Int),.slice Al s'.list.length cl,.slice Ap s'.prom.length cp,.slice Aa s'.ab.length ca,.slice none 0 0,.int .u64 0,.map (some b7),.slice none 0 0,.map (some b8),.slice none 0 0]
      have ka:K W (W.alloc (.cells #[.int .i64 me,.slice A5 p.length c5,.slice A6 hom.length c6,.pointer (some ⟨gl,0,none⟩),.int .u64 (s'.life:Int),.slice Al s'.list.length cl,.slice Ap s'.prom.length cp,.slice Aa s'.ab.length ca,.slice none 0 0,.int .u64 0,.map (some b7),.slice none 0 0,.map (some b8),.slice none 0 0] 101)):=(K.rf W).al _
      generalize hWa:W.alloc _=Wa at *
      generalize hg9:W.heap.size=g9 at *
      have HQ:Hid (Post (.returned (.tuple #[.pointer (some ⟨g9,0,none⟩),.int .i64 0])) Wa):=Lib.hid (by
       have hz6:=k6.size
       have hzW:=kW.size
       have hz5:=HUP.out.size
       have hzr:=HKR.out.size
       have k5:=k6.tr (kW.tr ka)
       have hlgA:=HLG.out.st k5
       have hXlt:=HLG.out.lt
       have h7lt:=hm7.lt
       have h8lt:=hm8.lt
       have hm7a:=hm7.st ka
       have hm8a:=hm8.st ka
       refine HP1.out _ _ ⟨g9,gl,gd,b7,b8,vh',vr,.slice A5 p.length c5,.slice A6 hom.length c6,.slice Al s'.list.length cl,.slice Ap s'.prom.length cp,.slice Aa s'.ab.length ca,.slice none 0 0,.slice none 0 0,.slice none 0 0,[]⟩ HFIT.out ⟨rfl,rfl,⟨hbk,hlgA,hm7a,hm8a,fun W' u=>?_,fun k hk=>.inr hk,fun k hk=>?_,hne78⟩,?_,fun k hk=>?_,?_⟩
       · have hMold:∀ k,k<w5.heap.size->(k<w.heap.size∨k=g9∨k=b7∨k=b8∨LgX gl gd vh' vr k)->(k<wr.heap.size∨LgX gl gd vh' vr k):=fun k hk hx=>by
          rcases hx with hx|hx|hx|hx|hx
          · exact .inl (by omega)
          · omega
          · omega
          · omega
          · exact .inr hx
         have hst:=(HST.out.to (X:=fun _=>False) (N:=fun k=>k<w.heap.size∨k=g9∨k=b7∨k=b8∨LgX gl gd vh' vr k) (UpN.of_k k5 _) (fun k hk=>hk.elim) hMold) W' u
         have hno:∀ (l:List Int) (A:Option Addr) (c:Nat),OwnY (fun k=>k<w6.heap.size) w6.heap.size 3 inS l (.slice A l.length c) W->∀ b,(Value.slice A l.length c).ownBlock=some b->¬ (b<w.heap.size∨b=g9∨b=b7∨b=b8∨LgX gl gd vh' vr b):=fun l A c hO b hb hx=>by
          have hbb:=hO.blk b hb
          obtain⟨css,hr,-,-⟩:=hO
          obtain⟨cur,hbk2⟩:=row_blk hr hb
          rcases hx with hx|hx|hx|hx|hx
          · omega
          · omega
          · subst hx;exact hm7.cells hbk2
          · subst hx;exact hm8.cells hbk2
          · have:=hXlt b hx;omega
         have hi1:=(ints_fx hO1 (hno p A5 c5 hO1)) W' ((UpN.of_k ka _).tr u)
         have hi2:=(ints_fx hO2 (hno hom A6 c6 hO2)) W' ((UpN.of_k ka _).tr u)
         exact⟨hi1,hi2,hst.1,hst.2.1,hst.2.2,lst_nil _ _,lst_nil _ _,lst_nil _ _,repL_nil _⟩
       · have h9:=hbk.lt
         rcases hk with hk|hk|hk|hk|hk
         · omega
         · exact hk ▸ h9
         · exact hk ▸ hm7a.lt
         · exact hk ▸ hm8a.lt
         · exact hlgA.lt k hk
       · exact (UpN.of_k HKR.out _).tr (HUP.out.tr (UpN.of_k k5 _))
       · rcases hk with hk|hk|hk|hk
         · right;show _<=k;simp only at hk;omega
         · right;simp only at hk;omega
         · right;simp only at hk;omega
         · exact (HNEW.out k hk).imp id fun h=>by omega
       · show w.heap.size<=g9
         omega)
      clear hm7 hm8 hbk ka hO1 hO2 HP1 HP2
      go_wp2
      exact HQ.out
    · rw[if_neg hfit] at hP
      obtain⟨vh',rfl,hd,hu⟩:=hP
      have hb7:=Blk.new w5 53 zSt
      have q7:=hb7.cell
      have z7:=hb7.frozen
      have k6:K w5 (w5.alloc (.cells zSt 53)):=(K.rf w5).al _
      have HZ:=Lib.hid (HP2.out _ _ hfit ⟨vh',rfl,hd.st k6,(hu.ofk HKR.out HDX.out).k k6⟩)
      clear hd hu hfit HP1 HP2 k6
      go_upto_region 14 with (fail)
      generalize w5.alloc _=w6 at *
      clear q7 z7 hb7
      go_wp2
      exact HZ.out
structure GoodB (B:Brk):Prop where
 tr:okTr B.par=true
 me:inR B.par B.me=true
 hm:okHm B.par B.hom=true
 dk:DskG B.dk B.st
 tx:OkT B.txns
 calls:B.calls<4611686018427387904
 reps:∀ x∈B.reps,okM x.2=true/\fitM x.2
 told:B.told.length<=1000000
 refd:B.refused.length<=1000000
 waits:∀ x∈B.waits,okEn x=true/\fitEn x
 wlen:B.waits.length<=1000000
theorem okHm_len {p hom:List Int} (h:okHm p hom=true):1<=hom.length/\hom.length<=32:=by
 simp only[okHm,Bool.and_eq_true,decide_eq_true_eq] at h
 exact h.1
theorem BHome_calls {M:Nat->Prop} {p:BrW} {B:Brk} {w:World} (h:BrV M p B w) (hG:GoodB B) (c:Int) :
 Calls Tryz.prog 60 #[.pointer (some ⟨p.g,0,none⟩),.int .i64 c] w fun e w'=>e=.returned (.bool (homeB' B c))/\K w w':=by
 have HH:Hid (homeB' B c=(decide (0<=c)&&decide (c<(B.hom.length:Int))&&decide (B.hom[c.toNat]?=some B.me))):=Lib.hid rfl
 have q:=h.q
 have hh:=h.dat.now.hom
 have hlen:=okHm_len hG.hm
 obtain⟨g,gl,gd,gr,gt,vd,vr,vp,vh,vl,vq,va,vt,vf,vw,kr⟩:=p
 simp only at q hh
 clear h hG
 obtain⟨A,c1,rfl,hl,-⟩:=hh
 obtain⟨b,off,rfl,hcell⟩:=ints_at hl (by omega)
 generalize homeB' B c=R at *
 have kk:=K.rf w
 clear hl
 go_enter Tryz.func60,Tryz.ntmps60
 go_upto_region 1 with (fail)
 by_cases h0:0<=c
 rotate_left
 · have HR:Hid (R=false):=Lib.hid (by rw[HH.out];simp[h0])
   have h0':c<0:=by omega
   clear HH hcell
   refine wp_region_auto 26 [([],[]),([0],[(5,0)]),([1],[(6,1)]),([2],[]),([2],[]),([2,4],[(9,4)]),([2,5],[(10,5)]),([2,6],[(11,6)]),([2,7],[(12,7)]),([2,3,8],[(8,3),(13,8)]),([2,9],[(7,2),(14,9)]),([10],[(15,10)]),([11],[]),([11,12],[(17,12)]),([11,13],[(18,13)]),([11,14],[(19,14)]),([11],[]),([11,15,16],[(20,15),(21,16)]),([11,17],[(22,17)]),([11],[]),([11,19],[(24,19)]),([11,20],[(25,20)]),([11,21],[(26,21)]),([11,18,22],[(23,18),(27,22)]),([11,23],[(16,11),(28,23)]),([24],[(29,24)])] 30 rfl (by kernel_rfl) (by kernel_rfl) (by kernel_rfl) (by kernel_rfl) (by decide) ?_
   simp only[List.take_succ_cons,List.take_zero,List.drop_succ_cons,List.drop_zero]
   iterate 26 (apply AutoQ.is;intro V W kW hp;(try simp only[List.forall_mem_cons,List.nil_append,List.cons_append,tab_zero,tab_succ,isV] at hp);simp[wantsG,rhoP,List.lookup,hp,ResG,execOp,bareOp,isV,Below.refl,kW,q,h0,go_sem];rfl)
   intro V W kW
   conv=>lhs;simp only[List.nil_append,List.cons_append,AllT,isV,Nat.reduceAdd]
   intro hA
   refine TailQ.nil ?_
   simp only[putAll,Act.put,List.setIfInBounds_toArray,List.set_cons_succ,List.set_cons_zero,Nat.reduceAdd,hA]
   go_wp2
   go_ret
   exact⟨by rw[HR.out];rfl,kW⟩
 by_cases h1:c<(B.hom.length:Int)
 rotate_left
 · have HR:Hid (R=false):=Lib.hid (by rw[HH.out];simp[h1])
   have h1':(B.hom.length:Int)<=c:=by omega
   clear HH hcell
   refine wp_region_auto 26 [([],[]),([0],[(5,0)]),([1],[(6,1)]),([2],[]),([2],[]),([2,4],[(9,4)]),([2,5],[(10,5)]),([2,6],[(11,6)]),([2,7],[(12,7)]),([2,3,8],[(8,3),(13,8)]),([2,9],[(7,2),(14,9)]),([10],[(15,10)]),([11],[]),([11,12],[(17,12)]),([11,13],[(18,13)]),([11,14],[(19,14)]),([11],[]),([11,15,16],[(20,15),(21,16)]),([11,17],[(22,17)]),([11],[]),([11,19],[(24,19)]),([11,20],[(25,20)]),([11,21],[(26,21)]),([11,18,22],[(23,18),(27,22)]),([11,23],[(16,11),(28,23)]),([24],[(29,24)])] 30 rfl (by kernel_rfl) (by kernel_rfl) (by kernel_rfl) (by kernel_rfl) (by decide) ?_
   simp only[List.take_succ_cons,List.take_zero,List.drop_succ_cons,List.drop_zero]
   iterate 26 (apply AutoQ.is;intro V W kW hp;(try simp only[List.forall_mem_cons,List.nil_append,List.cons_append,tab_zero,tab_succ,isV] at hp);simp[wantsG,rhoP,List.lookup,hp,ResG,execOp,bareOp,isV,Below.refl,kW,q,h0,h1,go_sem];rfl)
   intro V W kW
   conv=>lhs;simp only[List.nil_append,List.cons_append,AllT,isV,Nat.reduceAdd]
   intro hA
   refine TailQ.nil ?_
   simp only[putAll,Act.put,List.setIfInBounds_toArray,List.set_cons_succ,List.set_cons_zero,Nat.reduceAdd,hA]
   go_wp2
   go_ret
   exact⟨by rw[HR.out];rfl,kW⟩
 obtain⟨n,rfl⟩:∃ n:Nat,c=(n:Int):=⟨c.toNat,by omega⟩
 have hn:n<B.hom.length:=by omega
 have hc2:=fun W k=>hcell W k n hn
 have HR:Hid (R=decide (B.hom[n]=B.me)):=Lib.hid (by rw[HH.out];simp[h1,hn])
 generalize B.hom[n]=x at *
 clear HH hcell
 refine wp_region_auto 26 [([],[]),([0],[(5,0)]),([1],[(6,1)]),([2],[]),([2],[]),([2,4],[(9,4)]),([2,5],[(10,5)]),([2,6],[(11,6)]),([2,7],[(12,7)]),([2,3,8],[(8,3),(13,8)]),([2,9],[(7,2),(14,9)]),([10],[(15,10)]),([11],[]),([11,12],[(17,12)]),([11,13],[(18,13)]),([11,14],[(19,14)]),([11],[]),([11,15,16],[(20,15),(21,16)]),([11,17],[(22,17)]),([11],[]),([11,19],[(24,19)]),([11,20],[(25,20)]),([11,21],[(26,21)]),([11,18,22],[(23,18),(27,22)]),([11,23],[(16,11),(28,23)]),([24],[(29,24)])] 30 rfl (by kernel_rfl) (by kernel_rfl) (by kernel_rfl) (by kernel_rfl) (by decide) ?_
 simp only[List.take_succ_cons,List.take_zero,List.drop_succ_cons,List.drop_zero]
 iterate 26 (apply AutoQ.is;intro V W kW hp;(try simp only[List.forall_mem_cons,List.nil_append,List.cons_append,tab_zero,tab_succ,isV] at hp);simp[wantsG,rhoP,List.lookup,hp,ResG,execOp,bareOp,isV,Below.refl,kW,q,h0,h1,hc2,go_sem];rfl)
 intro V W kW
 conv=>lhs;simp only[List.nil_append,List.cons_append,AllT,isV,Nat.reduceAdd]
 intro hA
 refine TailQ.nil ?_
 simp only[putAll,Act.put,List.setIfInBounds_toArray,List.set_cons_succ,List.set_cons_zero,Nat.reduceAdd,hA]
 go_wp2
 go_ret
 exact⟨by rw[HR.out];rfl,kW⟩
def entF (g:Nat) (x:Ent) (v:Value) (W:World):Prop:=∃ vf ve,v=.agg (entA x vf ve)/\∀ W',UpB g none W W'->flt x.f vf W'/\lst evS x.es ve W'
def txF (g:Nat) (t:Txn) (v:Value) (W:World):Prop:=∃ vf ve,v=.agg (txA t vf ve)/\∀ W',UpB g none W W'->flt t.e.f vf W'/\lst evS t.e.es ve W'
def rowF (g:Nat) (T:TypeId) (t:Txn) (v:Value) (W:World):Prop:=∃ g' vf ve,v=.slice (some ⟨g',0,none⟩) 1 1/\g<=g'/\Blk W g' T (txA t vf ve)/\∀ W',UpB g none W W'->flt t.e.f vf W'/\lst evS t.e.es ve W'
def ownF8 (B:Nat) (T:TypeId) (l:List Txn) (v:Value) (W:World):Prop:=OwnL B B T txS l v W
theorem entF_st (g:Nat) (x:Ent):∀ v w w',entF g x v w->Below w.heap.size w w'->entF g x v w':=by
 rintro v w w' ⟨vf,ve,e,h⟩ k
 exact⟨vf,ve,e,fun W' u=>h W' ((UpB.of_k k _ _).tr u)⟩
theorem txF_st (g:Nat) (x:Txn):∀ v w w',txF g x v w->Below w.heap.size w w'->txF g x v w':=by
 rintro v w w' ⟨vf,ve,e,h⟩ k
 exact⟨vf,ve,e,fun W' u=>h W' ((UpB.of_k k _ _).tr u)⟩
theorem rowF_st (g:Nat) (T:TypeId) (x:Txn):∀ v w w',rowF g T x v w->Below w.heap.size w w'->rowF g T x v w':=by
 rintro v w w' ⟨g',vf,ve,e,hg,hb,h⟩ k
 exact⟨g',vf,ve,e,hg,hb.below k hb.lt,fun W' u=>h W' ((UpB.of_k k _ _).tr u)⟩
theorem ownF8_st (B:Nat) (T:TypeId) (l:List Txn):∀ v w w',ownF8 B T l v w->Below w.heap.size w w'->ownF8 B T l v w':=by
 rintro v w w' h k
 exact OwnL.st h k
theorem entF_row {g:Nat} {x:Ent} {row:Option Nat} (hr:∀ b,row=some b->b<g):∀ v w w',entF g x v w->w.grownBy w' row->entF g x v w':=by
 rintro v w w' ⟨vf,ve,e,h⟩ k
 exact⟨vf,ve,e,fun W' u=>h W' ((UpB.row k hr).tr u)⟩
theorem txF_row {g:Nat} {x:Txn} {row:Option Nat} (hr:∀ b,row=some b->b<g):∀ v w w',txF g x v w->w.grownBy w' row->txF g x v w':=by
 rintro v w w' ⟨vf,ve,e,h⟩ k
 exact⟨vf,ve,e,fun W' u=>h W' ((UpB.row k hr).tr u)⟩
theorem rowF_row {g:Nat} {T:TypeId} {x:Txn} {row:Option Nat} (hr:∀ b,row=some b->b<g):∀ v w w',rowF g T x v w->w.grownBy w' row->rowF g T x v w':=by
 rintro v w w' ⟨g',vf,ve,e,hg,hb,h⟩ k
 exact⟨g',vf,ve,e,hg,hb.grown k (fun e=>by have:=hr g' e.symm;omega),fun W' u=>h W' ((UpB.row k hr).tr u)⟩
theorem entO_entF {B g:Nat} (hg:g<=B) {x:Ent} {v:Value} {w:World} (h:entO B x v w):entF g x v w:=by
 obtain⟨vf,ve,e,h1,h2⟩:=h
 exact⟨vf,ve,e,fun W' u=>⟨flt_own (h1.up (u.more hg (fun _ _ _=>by simp))),(h2.up (Nat.le_refl _) (u.more hg (fun _ _ _=>by simp))).lst⟩⟩
theorem infoTx:(Tryz.prog.info? 121).map (fun i=>(i.zero,i.size,i.bytes))=some (some (.agg (txA txn0 (.slice none 0 0) (.slice none 0 0))),9,104):=by kernel_rfl
theorem TTx:SliceT Tryz.prog 55 121 (.agg (txA txn0 (.slice none 0 0) (.slice none 0 0))) 9 104:=⟨Tryz.underlying55,infoTx,rfl,by decide⟩
theorem exec_one {P:Program} {ρ:Operand->Value} {w:World} (s x:Operand) (t ty e:TypeId) (base:Nat) (z:Value) (bytes:Nat) (l:List Txn) (T:SliceT P t e z 9 bytes) (u:Value) (hs:ρ s=u) (ho:OwnL base base e txS l u w)
 (g:Nat) (hg:base<=g) (hgw:∀ b,u.ownBlock=some b->b<g) (tx:Txn) (v:Value) (hx:ρ x=v) (hr:rowF g e tx v w)
 (hbytes:(l.length+1) * (bytes+1)<=140737488355328) (hbase:base<=w.heap.size) :
 ∃ v' w',(execOp ρ (bareOp (.call { callee:=.builtin .append,args:=#[s,x],argTypes:=#[t,t] }) ty)).run P w=.ok (.value v') w'/\OwnL base base e txS (l++[tx]) v' w'/\Below base w w'/\w.grownBy w' u.ownBlock:=by
 obtain⟨css,hown,hcl,hE⟩:=ho
 obtain⟨g',vf,ve,rfl,-,hb,hF⟩:=hr
 have hR:Reads w w.heap.size 9 (some ⟨g',0,none⟩) 1 (txA tx vf ve).toList:=⟨rfl,fun _=>⟨g',0,rfl,hb.lt,fun j u hu=>by
  rw[Nat.zero_add,hb.cell j];simpa using hu⟩⟩
 have hone:∀ u∈(txA tx vf ve).toList,u.oneCell'=true:=by
  have h0:=hF w (UpB.rf _ _ _)
  exact txS.one (x:=tx) (w:=w) ⟨vf,ve,rfl,h0.1,h0.2⟩
 obtain⟨v',w',hrun,h2,h3,h4,h5⟩:=run_app w base t ty e z 9 bytes T u l.length css.flatten hown w.heap.size _ 1 1 _ hR hone hbytes hbase
 refine⟨v',w',?_,OwnL.snoc hcl hE h2 h3 h4 (fun W' up=>?_),h5,h3⟩
 · simp only[execOp,bareOp,resolve,invoke,builtin,Sem.run_bind,Sem.run_pure,Result.andThen_ok,List.map_toArray,List.map_cons,List.map_nil,hs,hx,hrun]
 · have:=hF W' (up.more hg (fun k hk _ e=>by have:=hgw k e.symm;omega))
   exact⟨vf,ve,rfl,this.1,this.2⟩
theorem SCopied_calls (l:List Txn) (v:Value) (w:World) (h:lst txS l v w) (hs:∀ t∈l,smallEn t.e) (hn:l.length<=1000000) :
 Calls Tryz.prog 86 #[v] w fun e w'=>∃ v',e=.returned v'/\OwnL w.heap.size w.heap.size 121 txS l v' w'/\K w w':=by
 obtain⟨A,c,rfl,hl,hc⟩:=h
 have HS:=Lib.hid hs
 clear hs
 have kk:=K.rf w
 go_enter Tryz.func86,Tryz.ntmps86
 go_wp2_with fail
 go_loopw [3,5,8] (fun o _ i W=>∃ j:Nat,j<=l.length/\i=.int .i64 (j:Int)/\OwnL w.heap.size w.heap.size 121 txS (l.take j) o W/\K w W) (fun _ _ i _=>l.length - (intOf i).toNat)
 case atStart=>exact⟨0,by omega,rfl,by simpa using OwnL.nil _ _ _ _ _,kk⟩
 case round =>
  clear kk
  obtain⟨j,hj,rfl,hO,kr⟩:=hrel
  by_cases hlt:j<l.length
  · have hji:(j:Int)<(l.length:Int):=by omega
    obtain⟨b1,off,cs,rfl,hcl,hrl,d0,d⟩:=lsr_cells hl j hlt (by decide)
    have HT:Hid (l.take (j+1)=l.take j++[l[j]]):=Lib.hid (by rw[List.take_succ_eq_append_getElem hlt])
    have hst:=HS.out _ (List.getElem_mem hlt)
    generalize l[j]=t at *
    obtain⟨vf,ve,rfl,hf,he⟩:=hrl w (K.rf w)
    obtain⟨Af,cf,rfl⟩:=flt_slice hf
    obtain⟨Ae,ce,rfl⟩:=lst_slice he
    have HE:Hid (∀ W,K w W->ent t.e (.agg (entA t.e (.slice Af t.e.f.length cf) (.slice Ae t.e.es.length ce))) W):=Lib.hid fun W k=>⟨_,_,rfl,flt_st _ _ _ _ hf k,lst_st he k⟩
    have d0:∀ W,K w W->W.cell? ⟨b1,off+j * 9,none⟩=some (.int .i64 t.e.kind):=d0
    have d:∀ W,K w W->∀ i,i<9->W.cell? ⟨b1,off+j * 9+i,none⟩=(txA t (.slice Af t.e.f.length cf) (.slice Ae t.e.es.length ce))[i]?:=fun W k i hi=>(d W k i hi).trans Array.getElem?_toList
    have htl:(l.take j).length<=1000000:=by simp;omega
    have hvc:=hO.blk
    clear hrl hcl hf he
    have hx:=Blk.new wr 121 (txA t (.slice Af t.e.f.length cf) (.slice Ae t.e.es.length ce))
    have kA:K wr (wr.alloc (.cells (txA t (.slice Af t.e.f.length cf) (.slice Ae t.e.es.length ce)) 121)):=(K.rf wr).al _
    have hg5:wr.heap.size<(wr.alloc (.cells (txA t (.slice Af t.e.f.length cf) (.slice Ae t.e.es.length ce)) 121)).heap.size:=by simp
    go_upto_region 5 with (fail)
    have hO5:=hO.st kA
    generalize wr.alloc _=w5 at *
    have hz5:=kr.size
    generalize wr.heap.size=g5 at hx hg5 hz5 hvc ⊢
    generalize Value.slice Af t.e.f.length cf=vf at *
    generalize Value.slice Ae t.e.es.length ce=ve at *
    have k5:=kr.tr kA
    obtain⟨C,hC⟩:∃ C:World->Prop,C=fun W=>K w W/\g5<W.heap.size/\Blk W g5 121 (txA t vf ve):=⟨_,rfl⟩
    have hg:∀ W W',C W->Below W.heap.size W W'->C W':=by
     subst hC
     rintro W W' ⟨h1,h0,h2⟩ hb
     exact⟨h1.tr hb,Nat.lt_of_lt_of_le h0 hb.size,h2.below hb h2.lt⟩
    have hc0:C w5:=by rw[hC];exact⟨k5,hx.lt,hx⟩
    have hvc5:∀ b,u3.ownBlock=some b->b<g5:=fun b hb=>(hvc b hb).2
    clear d d0
    refine wp_region_turn2 8 C (fun W=>OwnL w.heap.size w.heap.size 121 txS (l.take j) u3 W) (fun _=>True) (fun W W'=>W.grownBy W' u3.ownBlock) [isV u3,
     isV (.pointer (some ⟨g5,0,none⟩)),
     isV (.agg (entA t.e vf ve)),
     entF g5 t.e,
     isV (.pointer (some ⟨g5,8,none⟩)),
     isV (.bool t.asked),
     txF g5 t,
     rowF g5 121 t,
     ownF8 w.heap.size 121 (l.take j++[t]),
     ownF8 w.heap.size 121 (l.take j++[t])]
     [([],[]),([],[]),([1],[(13,1)]),([2],[(14,2)]),([],[]),([4],[(16,4)]),([3,5],[(15,3),(17,5)]),([6],[(18,6)]),([0,7],[(12,0),(19,7)]),([8],[(20,8)])] 23 rfl (by kernel_rfl) (by kernel_rfl) (by kernel_rfl) (by decide) hg (fun W W' h k=>h.st k) (fun _ _ h _=>h) (by exact hg _ _ hc0 (Below.drew (Below.refl _ _))) (hO5.st (Below.drew (Below.refl _ _))) ?st ?st2 ?ow ?_
    case st =>
     simp only[List.forall_mem_cons]
     and_intros
     all_goals first|exact isV_st _|exact entF_st _ _|exact txF_st _ _|exact rowF_st _ _ _|exact ownF8_st _ _ _|simp
    case st2 =>
     simp only[List.zipIdx_cons,List.zipIdx_nil,List.forall_mem_cons,Nat.zero_add,Nat.reduceAdd]
     and_intros
     all_goals first|exact .inl rfl|exact .inr (fun _ _ _ h _=>h)|exact .inr (entF_row hvc5)|exact .inr (txF_row hvc5)|exact .inr (rowF_row hvc5)|simp
    case ow =>
     simp only[OwedT]
     and_intros
     all_goals try trivial
     all_goals
      simp only[Nat.reduceEqDiff,if_false,Nat.reduceAdd]
     all_goals
      first
      | (intro V w' hc hD hp
         have hD2:OwnL w.heap.size w.heap.size 121 txS (l.take j) u3 w':=hD
         simp only[List.forall_mem_cons,tab_zero,tab_succ,isV] at hp
         rw[hC] at hc
         obtain⟨kw,hgw,hbx⟩:=hc)
      | (intro V w' hc hp
         rw[hC] at hc
         obtain⟨kw,hgw,hbx⟩:=hc
         have q:=hbx.cell
         try simp only[List.forall_mem_cons,tab_zero,tab_succ,isV] at hp
         try simp[wantsG,rhoP,List.lookup,hp,tab_zero,tab_succ,ResG,execOp,bareOp,isV,undef,Below.refl,q,go_sem])
      | skip
     · refine (SWhole_calls t.e _ w' (HE.out _ kw) hst).mono ?_
       rintro e w'' ⟨v,rfl,ho,hb⟩
       exact⟨v,rfl,entO_entF (by omega) ho,hb⟩
     · obtain⟨⟨vf3,ve3,e3,hF⟩,h5,-⟩:=hp
       simp[e3,go_sem]
       exact⟨⟨vf3,ve3,rfl,hF⟩,Below.refl _ _⟩
     · obtain⟨⟨vf3,ve3,e3,hF⟩,-⟩:=hp
       have hA:=hF _ (UpB.rf _ _ _)
       obtain⟨A3,c3,rfl⟩:=flt_slice hA.1
       obtain⟨D3,d3,rfl⟩:=lst_slice hA.2
       simp[e3,go_sem]
       exact⟨⟨w'.heap.size,_,_,rfl,by omega,Blk.new _ _ _,fun W' u=>hF W' ((UpB.of_k ((K.rf w').al _) _ _).tr u)⟩,(K.rf w').al _⟩
     · obtain⟨h0,hr7,-⟩:=hp
       obtain⟨v',w'',hrun,h1,h2,h3⟩:=exec_one (P:=Tryz.prog) (ρ:=rhoP [(12,0),(19,7)] _ V) (.tmp 12) (.tmp 19) 55 55 121 w.heap.size _ 104 (l.take j) TTx u3 h0 hD2 g5 hz5 hvc5 t (V 7) rfl hr7 (by omega) (by omega)
       rw[hrun]
       refine⟨h1,?_,trivial,h3⟩
       rw[hC]
       exact⟨kw.trans h2,by have:=h3.size;omega,hbx.grown h3 (fun e=>by have:=hvc5 g5 e.symm;omega)⟩
    intro V W hc _ hp
    have h9:=hp 9 (by simp)
    simp only[tab_zero,tab_succ] at h9
    rw[hC] at hc
    have kW:=hc.1
    have h9':OwnL w.heap.size w.heap.size 121 txS (l.take (j+1)) (V 9) W:=by rw[HT.out];exact h9
    clear hp hc hg hc0 hC h9 hO5 hO hx
    simp only[putAll,Act.put,List.setIfInBounds_toArray,List.set_cons_succ,List.set_cons_zero]
    generalize V 9=v9 at *
    go_wp2
    go_roundw
    case rel=>exact⟨j+1,by omega,by go_num,h9',kW⟩
    case measure=>simp[intOf];omega
  · have hji:¬ (j:Int)<(l.length:Int):=by omega
    rw[List.take_of_length_le (by omega)] at hO
    have HO:=Lib.hid hO
    clear hO
    go_wp2
    go_ret
    exact⟨_,rfl,HO.out,kr⟩
theorem seekT_hit {l:List Txn} {a:Idn} {k:Nat} (hk:k<l.length) (h:isId a l[k]=true) (ha:∀ t∈l.take k,isId a t=false):seekT l a=some k:=by
 unfold seekT
 rw[List.findIdx?_eq_some_iff_getElem]
 exact⟨hk,h,fun j hj=>by
  have:=ha l[j] (List.mem_take_iff_getElem.2 ⟨j,by omega,rfl⟩)
  simp[this]⟩
theorem seekT_miss {l:List Txn} {a:Idn} (ha:∀ t∈l,isId a t=false):seekT l a=none:=by
 unfold seekT
 rw[List.findIdx?_eq_none_iff]
 exact ha
theorem seekI_hit {l:List Txn} {a:Idn} {k:Nat} (h:seekT l a=some k):seekI l a=(k:Int):=by unfold seekI;rw[h]
theorem seekI_miss {l:List Txn} {a:Idn} (h:seekT l a=none):seekI l a=-1:=by unfold seekI;rw[h]
theorem isId_iff (a:Idn) (t:Txn):isId a t=(decide (t.e.br=a.1)&&decide (t.e.life=a.2.1)&&decide (t.e.ser=a.2.2)):=by
 obtain⟨a0,a1,a2⟩:=a
 unfold isId idOf
 rw[Bool.eq_iff_iff]
 simp[and_assoc]
theorem SeekC_calls (t:Txn) (a:Idn) (v:Value) (g:Nat) (w:World) (h:txv t v w) (hg:Blk w g 35 #[.int .i64 a.1,.int .u64 (a.2.1:Int),.int .u64 (a.2.2:Int)]) :
 Calls Tryz.prog 194 #[v,.pointer (some ⟨g,0,none⟩)] w fun e w'=>e=.returned (.bool (isId a t))/\K w w':=by
 obtain⟨vf,ve,rfl,hf,he⟩:=h
 obtain⟨A,c,rfl⟩:=flt_slice hf
 obtain⟨D,d,rfl⟩:=lst_slice he
 clear hf he
 have HI:=Lib.hid (isId_iff a t)
 have q:=hg.cells
 have ka:=fun o=>(K.rf w).al o
 obtain⟨a0,a1,a2⟩:=a
 obtain⟨⟨k,b,l,s,cl,u,f,es⟩,asked⟩:=t
 simp only at q HI ⊢
 generalize isId (a0,a1,a2) ⟨⟨k,b,l,s,cl,u,f,es⟩,asked⟩=R at *
 go_enter Tryz.func194,Tryz.ntmps194
 go_wp2
 all_goals
  go_ret
  refine⟨?_,(K.rf w).al _⟩
  rw[HI.out]
  show Ending.returned (.bool _)=Ending.returned (.bool _)
  clear q ka
  first|(simp_all;done)|(simp_all;omega)|(congr 2;rw[Bool.eq_iff_iff];simp_all;omega)
theorem SIndexFunc_calls (A:Option Addr) (c:Nat) (l:List Txn) (a:Idn) (g:Nat) (w:World) (h:lsr txS l A w) (hlen:l.length<=1000000) (hg:Blk w g 35 #[.int .i64 a.1,.int .u64 (a.2.1:Int),.int .u64 (a.2.2:Int)]) :
 Calls Tryz.prog 193 #[.slice A l.length c,.func (Fn.func 194) #[] #[.pointer (some ⟨g,0,none⟩)]] w fun e w'=>e=.returned (.int .i64 (seekI l a))/\K w w':=by
 have kk:=K.rf w
 go_enter Tryz.func193,Tryz.ntmps193
 go_wp2_with fail
 go_loopw [5,8] (fun _ i wr=>∃ k:Nat,k<=l.length/\i=.int .i64 (k:Int)/\Hid (∀ t∈l.take k,isId a t=false)/\K w wr) (fun _ i _=>l.length - (intOf i).toNat)
 case atStart=>exact⟨0,by omega,rfl,Lib.hid (by simp),kk⟩
 case round =>
  clear kk
  obtain⟨k,hk,rfl,hall,kr⟩:=hrel
  by_cases hlt:k<l.length
  · have hki:(k:Int)<(l.length:Int):=by omega
    obtain⟨b1,off,cs,rfl,hcl,hrl,d0,d⟩:=lsr_cells h k hlt (by decide)
    have HT:Hid (isId a l[k]=false->∀ t∈l.take (k+1),isId a t=false):=by
     refine Lib.hid fun h x hx=>?_
     rw[List.take_succ_eq_append_getElem hlt] at hx
     rcases List.mem_append.1 hx with hx|hx
     · exact hall.out x hx
     · simp at hx;rw[hx];exact h
    have HK:Hid (isId a l[k]=true->seekI l a=(k:Int)):=Lib.hid fun h=>seekI_hit (seekT_hit hlt h hall.out)
    generalize l[k]=t at *
    obtain⟨vf,ve,rfl,hf,he⟩:=hrl wr kr
    have d0:∀ W,K w W->W.cell? ⟨b1,off+k * 9,none⟩=some (.int .i64 t.e.kind):=d0
    have d:∀ W,K w W->∀ i,i<9->W.cell? ⟨b1,off+k * 9+i,none⟩=(txA t vf ve)[i]?:=fun W j hj=>fun hi=>(d W j hj hi).trans Array.getElem?_toList
    clear hrl hcl
    go_wp2_with fail
    refine (SeekC_calls t a _ g wr ⟨vf,ve,rfl,hf,he⟩ (hg.below kr hg.lt)).mono ?_
    rintro e w2 ⟨rfl,k2⟩
    have kW:=kr.tr k2
    clear d d0 hf he
    cases hx:isId a t
    · have hrr:=Lib.hid (HT.out hx)
      go_wp2
      go_roundw
      case rel=>exact⟨k+1,by omega,by go_num,hrr,kW⟩
      case measure=>simp[intOf];omega
    · have HE:=Lib.hid (HK.out hx)
      go_wp2
      go_ret
      exact⟨by rw[HE.out];rfl,kW⟩
  · have hki:¬ (k:Int)<(l.length:Int):=by omega
    have HE:Hid (seekI l a=-1):=Lib.hid (by
     have:=hall.out
     rw[List.take_of_length_le (by omega)] at this
     exact seekI_miss (seekT_miss this))
    go_wp2
    go_ret
    exact⟨by rw[HE.out];rfl,kr⟩
theorem Seek_calls (l:List Txn) (a:Idn) (v:Value) (w:World) (h:lst txS l v w) (hlen:l.length<=1000000) :
 Calls Tryz.prog 113 #[v,idv a] w fun e w'=>e=.returned (.int .i64 (seekI l a))/\K w w':=by
 obtain⟨A,c,rfl,hl,-⟩:=h
 have hx:=Blk.new w 35 #[.int .i64 a.1,.int .u64 (a.2.1:Int),.int .u64 (a.2.2:Int)]
 have k1:K w (w.alloc (.cells #[.int .i64 a.1,.int .u64 (a.2.1:Int),.int .u64 (a.2.2:Int)] 35)):=(K.rf w).al _
 have hl1:=lsr_st hl k1
 go_enter Tryz.func113,Tryz.ntmps113
 go_wp2_with fail
 generalize w.alloc _=w1 at *
 refine (SIndexFunc_calls A c l a _ w1 hl1 hlen hx).mono ?_
 rintro e w2 ⟨rfl,k2⟩
 go_wp2
 go_ret
 exact⟨rfl,k1.tr k2⟩
theorem openI_eq (l:List Txn) (a:Idn):openI l a=match seekT l a with|none=>-1|some k=>if (l[k]?.map Txn.asked)=some true then -1 else (k:Int):=by
 unfold openI openT
 cases seekT l a with
 | none=>rfl
 | some k =>
   by_cases h:(l[k]?.map Txn.asked)=some true
   · simp[h]
   · simp[h]
theorem Open_calls (l:List Txn) (a:Idn) (v:Value) (w:World) (h:lst txS l v w) (hlen:l.length<=1000000) :
 Calls Tryz.prog 87 #[v,idv a] w fun e w'=>e=.returned (.int .i64 (openI l a))/\K w w':=by
 have h':=h
 obtain⟨A,c,rfl,hl,-⟩:=h
 have hx:=Blk.new w 35 #[.int .i64 a.1,.int .u64 (a.2.1:Int),.int .u64 (a.2.2:Int)]
 have k1:K w (w.alloc (.cells #[.int .i64 a.1,.int .u64 (a.2.1:Int),.int .u64 (a.2.2:Int)] 35)):=(K.rf w).al _
 have HO:=Lib.hid (openI_eq l a)
 have C1:=Lib.hid fun W (kW:K w W)=>Seek_calls l a _ W (lst_st h' kW) hlen
 have HS:Hid (seekI l a=match seekT l a with|none=>-1|some k=>(k:Int)):=Lib.hid (by unfold seekI;cases seekT l a <;> rfl)
 have HL:=Lib.hid fun k h=>@seekT_some l a k h
 generalize openI l a=R at *
 generalize seekI l a=I at *
 clear h'
 go_enter Tryz.func87,Tryz.ntmps87
 go_wp2_with fail
 generalize w.alloc _=w1 at *
 refine (C1.out w1 k1).mono ?_
 rintro e w2 ⟨rfl,k2⟩
 have kW:=k1.tr k2
 cases hs:seekT l a with
 | none =>
   obtain rfl:I=-1:=by rw[HS.out,hs]
   obtain rfl:R=-1:=by rw[HO.out,hs]
   go_wp2
   go_ret
   exact⟨rfl,kW⟩
 | some k =>
   obtain rfl:I=(k:Int):=by rw[HS.out,hs]
   obtain⟨t,h1,-,-⟩:=HL.out k hs
   obtain⟨hk,h2⟩:=List.getElem?_eq_some_iff.1 h1
   have HR:Hid (R=if t.asked=true then -1 else (k:Int)):=Lib.hid (by rw[HO.out,hs];simp[h1])
   obtain⟨b1,off,cs,rfl,hcl,hrl,d0,d⟩:=lsr_cells hl k hk (by decide)
   rw[h2] at hrl
   obtain⟨vf,ve,rfl,-,-⟩:=hrl w2 kW
   have d8:w2.cell? ⟨b1,off+k * 9+8,none⟩=some (.bool t.asked):=d w2 kW 8 (by decide)
   have hki:(k:Int)<(l.length:Int):=by omega
   have hk0:(0:Int)<=(k:Int):=by omega
   clear d d0 hrl hcl h1 h2 hs HO HS HL
   cases ha:t.asked
   · obtain rfl:R=(k:Int):=by rw[HR.out,ha];rfl
     rw[ha] at d8
     go_wp2
     go_ret
     exact⟨rfl,kW⟩
   · obtain rfl:R=-1:=by rw[HR.out,ha];rfl
     rw[ha] at d8
     go_wp2
     go_ret
     exact⟨rfl,kW⟩
theorem Big_calls (x:Ent) (v:Value) (w:World) (h:ent x v w) (hf:fitEn x) :
 Calls Tryz.prog 90 #[v] w fun e w'=>e=.returned (.bool (bigE x))/\K w w':=by
 have C1:=Lib.hid fun W (kW:K w W)=>NEncode_calls x v W (ent_st h kW) hf
 have HB:Hid (bigE x=decide (3000<((encEnR x).length:Int))):=Lib.hid (by
  unfold bigE encOf encEnR
  rw[decide_eq_decide];omega)
 obtain⟨vf,ve,rfl,-,-⟩:=h
 have k1:K w (w.alloc (.cells (entA x vf ve) 42)):=(K.rf w).al _
 go_enter Tryz.func90,Tryz.ntmps90
 go_wp2_with fail
 generalize w.alloc _=w1 at *
 refine (C1.out w1 k1).mono ?_
 rintro e w2 ⟨v2,rfl,ho,k2⟩
 obtain⟨A2,c2,rfl,-⟩:=sl_own ho
 clear ho
 go_wp2
 go_ret
 exact⟨by rw[HB.out];rfl,k1.tr k2⟩
