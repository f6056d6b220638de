/-
  The walk of broker.begin (layer 20). Conditions: a disk of records that make a state.
-/
import Derived.Test.YtagfakjifhdpgaaGreatMa17
set_option maxRecDepth 100000
set_option maxHeartbeats 16000000
set_option linter.unusedVariables false
set_option linter.unusedSimpArgs false
namespace Go.Proofs.YtagfakjifhdpgaaGreat
open Go Go.RowKit
def dkB (d:Dsk):List UInt8:=frames (d.recs.map encRec)
abbrev DkR (gd:Nat) (vh:Value) (d:Dsk) (w:World):Prop:=DkV gd vh (dkB d) (dkB d).length d.room w
abbrev LgR (gl gd:Nat) (vh vr:Value) (d:Dsk) (w:World):Prop:=LgV gl gd vh vr (dkB d) (dkB d).length d.room w
def stF (M:Nat->Prop) (s:Stt) (vl vp va:Value) (w:World):Prop:=Fx M (fun W=>lst enS s.list vl W/\lst enS s.prom vp W/\lst idS s.ab va W) w
structure BgOk (gd:Nat) (vh:Value) (d:Dsk) (s:Stt) (w:World) (e:Ending) (w':World) (gl:Nat) (vh' vr vl vp va:Value):Prop where
 ret:e=.returned (.tuple #[.pointer (some ⟨gl,0,none⟩),.agg (stA s vl vp va),.int .i64 0])
 lg:LgR gl gd vh' vr d w'
 st:stF (fun k=>k<w.heap.size∨LgX gl gd vh' vr k) s vl vp va w'
 up:UpN (DkX gd vh) w w'
 new:∀ k,LgX gl gd vh' vr k->DkX gd vh k∨w.heap.size<=k
 gl:w.heap.size<=gl
def BgNo (gd:Nat) (vh:Value) (d:Dsk) (w:World) (e:Ending) (w':World):Prop :=
 ∃ vh',e=.returned (.tuple #[.pointer none,.agg zSt,.int .i64 90])/\DkR gd vh' d w'/\DkU gd vh vh' w w'
def BgPost (gd:Nat) (vh:Value) (d:Dsk) (s:Stt) (w:World) (e:Ending) (w':World):Prop :=
 if dkLen (recsS (lifeS s))<=d.room then ∃ gl vh' vr vl vp va,BgOk gd vh ⟨recsS (lifeS s),d.room⟩ (lifeS s) w e w' gl vh' vr vl vp va else BgNo gd vh d w e w'
section
variable {gl gd lasts room:Nat} {vh vr:Value} {l:List UInt8} {w w':World} {X:Nat->Prop}
theorem DkV.upn (h:DkV gd vh l lasts room w) (u:UpN X w w') (hX:∀ k,DkX gd vh k->¬ X k):DkV gd vh l lasts room w' :=
 ⟨h.blk.upn u (hX _ (.inl rfl)),row_upn h.own u fun b hb=>hX b (.inr hb),h.len,h.room⟩
theorem LgV.upn (h:LgV gl gd vh vr l lasts room w) (u:UpN X w w') (hX:∀ k,LgX gl gd vh vr k->¬ X k):LgV gl gd vh vr l lasts room w':=by
 obtain⟨n,xs,hn,hx⟩:=h.row
 exact⟨h.dk.upn u fun k hk=>hX k (.inr (.inr hk)),h.blk.upn u (hX _ (.inl rfl)),n,xs,hn,row_upn hx u fun b hb=>hX b (.inr (.inl hb))⟩
end
theorem BBegin0_calls (gd:Nat) (vh:Value) (d:Dsk) (s:Stt) (w:World) (h:DkR gd vh d w) (hG:DskG d s) (hl:s.life+1<18446744073709551616) :
 Calls Tryz.prog 36 #[.pointer (some ⟨gd,0,none⟩)] w (BgPost gd vh d s w):=by
 obtain⟨rs,hrs⟩:∃ rs,rs=d.recs.map encRec:=⟨_,rfl⟩
 obtain⟨rt,hrt⟩:∃ rt,rt=(recsS (lifeS s)).map encRec:=⟨_,rfl⟩
 obtain⟨n1,hn1⟩:∃ n,n=s.life+1:=⟨_,rfl⟩
 have hls:lifeS s=⟨n1,s.list,s.prom,s.ab⟩:=by unfold lifeS;rw[Nat.mod_eq_of_lt hl,hn1]
 have hlen:=hG.len
 have hD:dkB d=frames rs:=by rw[hrs];rfl
 have hok:∀ b∈rs,okFr b=true:=by
  rw[hrs]
  intro b hb
  obtain⟨r,hr,rfl⟩:=List.mem_map.1 hb
  exact okFr_rec (hG.recs r hr).2.2
 have hbl:∀ b∈rs,b.length<=1000000000:=fun b hb=>by have:=hok b hb;simp[okFr] at this;omega
 have hokt:rt.all okFr=true:=by
  rw[hrt,List.all_eq_true]
  intro b hb
  obtain⟨r,hr,rfl⟩:=List.mem_map.1 hb
  exact okFr_rec (hG.small r hr)
 have hblt:∀ b∈rt,b.length<=1000000000:=fun b hb=>by have:=List.all_eq_true.1 hokt b hb;simp[okFr] at this;omega
 have hcnt:rs.length<=150000:=by rw[hrs,List.length_map];exact hG.cnt
 have hcntt:rt.length<=200000:=by
  have htot:=hG.tot
  rw[hrt,List.length_map]
  have:=rec1_len (lifeS s).life
  unfold recsS
  simp only[List.length_append,recL_len,recP_len,recB_len]
  show _+s.list.length+s.prom.length+s.ab.length<=_
  omega
 have hall:allS rs=(s,0):=by
  have:=allG_run d.recs (fun r hr=>⟨(hG.recs r hr).1,(hG.recs r hr).2.1⟩) st0 s hG.run
  rw[hrs]
  unfold allS
  rw[this]
  rfl
 have hro:=recs_ok hG.inv.lifeS (by show s.list.length<=_;omega)
 have hfl:(frames rt).length=dkLen (recsS (lifeS s)):=by rw[hrt,frames_recs]
 have HP1:Hid (∀ e w' gl vh' vr vl vp va,dkLen (recsS (lifeS s))<=d.room->BgOk gd vh ⟨recsS (lifeS s),d.room⟩ (lifeS s) w e w' gl vh' vr vl vp va->BgPost gd vh d s w e w'):=Lib.hid fun e w' gl vh' vr vl vp va c h=>by unfold BgPost;rw[if_pos c];exact⟨gl,vh',vr,vl,vp,va,h⟩
 have HP2:Hid (∀ e w',¬ dkLen (recsS (lifeS s))<=d.room->BgNo gd vh d w e w'->BgPost gd vh d s w e w'):=Lib.hid fun e w' c h=>by unfold BgPost;rw[if_neg c];exact h
 have HN:Hid (dkB ⟨recsS (lifeS s),d.room⟩=frames rt):=Lib.hid (by rw[hrt];rfl)
 have HD:=Lib.hid hD
 have HRO:Hid (∀ r∈recsS ⟨n1,s.list,s.prom,s.ab⟩,okRec r=true/\fitRec r):=Lib.hid (by rw[<- hls];exact hro)
 have HRT:Hid ((recsS ⟨n1,s.list,s.prom,s.ab⟩).map encRec=rt):=Lib.hid (by rw[<- hls];exact hrt.symm)
 have HLS:=Lib.hid hls
 have HFL:=Lib.hid hfl
 generalize dkLen (recsS (lifeS s))=DL at *
 generalize BgPost gd vh d s w=Post at *
 have HOK:=Lib.hid hok
 have HBL:=Lib.hid hbl
 have HOT:=Lib.hid hokt
 have HBT:=Lib.hid hblt
 have HALL:=Lib.hid hall
 have hr0:=Blk.new w 53 zSt
 have k0:K w (w.alloc (.cells zSt 53)):=(K.rf w).al _
 have hd0:=h.st k0
 have hlo:=h.lt
 have hlen2:=Lib.hid hlen
 rw[hD] at hd0
 have C1:=Lib.hid (WOpen_calls gd vh rs d.room _ hd0 hok)
 have hW:IntKind.u64.wrap ((s.life:Int)+1)=(n1:Int):=by
  rw[IntWalk.u64_in ((s.life:Int)+1) (by omega)];omega
 have HN1:=Lib.hid hn1
 clear hn1 hl
 clear h hG hrs hrt hls hD hok hbl hokt hblt hall hro hfl hd0
 go_enter Tryz.func36,Tryz.ntmps36
 go_wp2_with fail
 generalize w.alloc _=w1 at *
 generalize hgp:w.heap.size=gp at hr0 ⊢
 have HGP:=Lib.hid hgp
 refine C1.out.mono ?_
 rintro e w2 ⟨gl,vr,rfl,hgl,hbl,hO,hd2,hu2⟩
 have hz0:=k0.size
 have HZ2:Hid (w1.heap.size<=w2.heap.size):=Lib.hid hu2.size
 have HG1:Hid (gp<w1.heap.size):=Lib.hid hr0.lt
 have HZ1:Hid (w.heap.size<=w1.heap.size):=Lib.hid hz0
 have hr2:=hr0.upn hu2 fun h=>by have:=hlo gp h;omega
 have C2:=Lib.hid (WRecords_calls gl _ vr rs w2 hbl hO.lst (by omega) HBL.out)
 have HU2:Hid (UpN (DkX gd vh) w w2):=Lib.hid ((UpN.of_k k0 _).tr hu2)
 have HO2:=Lib.hid hO
 have HB2:=Lib.hid hbl
 have HD2:=Lib.hid hd2
 clear hu2 hO hbl hd2 C1 hr0 hgp
 go_wp2_with fail
 refine C2.out.mono ?_
 rintro e w3 ⟨v3,rfl,hO3,k3⟩
 have C3:=Lib.hid (All_own rs v3 w3 hO3.lst (by omega) HBL.out)
 obtain⟨A3,c3,rfl⟩:=hO3.slice
 clear C2 hO3
 go_wp2_with fail
 refine C3.out.mono ?_
 rintro e w4 ⟨vl,vp,va,c1,c2,rfl,hS4,k4⟩
 rw[HALL.out] at hS4 ⊢
 have HS4:=Lib.hid hS4
 have k34:=k3.tr k4
 have k24:=Lib.hid k34
 have hr4:=hr2.below k34 hr2.lt
 have HB4:=Lib.hid (HB2.out.below k34 HB2.out.lt)
 have HD4:=Lib.hid (HD2.out.st k34)
 have HO4:=Lib.hid (HO2.out.st k34)
 have hz4:gp<w4.heap.size:=hr4.lt
 have HZ4:Hid (w3.heap.size<=w4.heap.size/\w2.heap.size<=w3.heap.size):=Lib.hid ⟨k4.size,k3.size⟩
 have hb7:=Blk.new w4 53 zSt
 have q7:=hb7.cell
 have z7:=hb7.frozen
 obtain⟨⟨Al,cl,rfl⟩,⟨Ap,cp,rfl⟩,Aa,ca,rfl⟩:(∃ A c,vl=.slice A s.list.length c)/\(∃ A c,vp=.slice A s.prom.length c)/\∃ A c,va=.slice A s.ab.length c:=by
  obtain⟨x,y,z,e,h1,h2,h3⟩:=hS4.stv
  simp at e
  obtain⟨rfl,rfl,rfl⟩:=e
  exact⟨lst_slice h1,lst_slice h2,lst_slice h3⟩
 have ka:K w4 (w4.alloc (.cells zSt 53)):=(K.rf w4).al _
 clear C3 hS4 k3 k4 k34
 go_upto_region 5 with (fail)
 clear q7 z7 hb7 ka
 have hb71:=Blk.new w4 53 (stA s (.slice Al s.list.length cl) (.slice Ap s.prom.length cp) (.slice Aa s.ab.length ca))
 have k5:K w4 (w4.alloc (.cells (stA s (.slice Al s.list.length cl) (.slice Ap s.prom.length cp) (.slice Aa s.ab.length ca)) 53)):=(K.rf w4).al _
 generalize w4.alloc _=w5 at *
 generalize hg7:w4.heap.size=g7 at hb71 hz4 ⊢
 have q7:=hb71.cell
 have z7:=hb71.frozen
 have hb72:Blk (w5.setCell ⟨g7,0,none⟩ (.int .u64 (n1:Int))) g7 53 (stA ⟨n1,s.list,s.prom,s.ab⟩ (.slice Al s.list.length cl) (.slice Ap s.prom.length cp) (.slice Aa s.ab.length ca)):=hb71.set_ 0 (.int .u64 (n1:Int))
 have k6:K w4 (w5.setCell ⟨g7,0,none⟩ (.int .u64 (n1:Int))):=K.set k5 (r:=g7) (by omega) 0 _
 go_upto_region 8 with (fail)
 clear q7 z7 hb71 hW k5
 generalize World.setCell w5 _ _=w6 at *
 have q7:=hb72.cell
 have hz6:=k6.size
 have HX:Hid (∀ k,LgX gl gd vh vr k->k<w3.heap.size):=Lib.hid fun k hk=>by
  have h2:=HZ4.out.2
  rcases hk with rfl|hk|hk
  · have:=HB2.out.lt;omega
  · have:=(HO2.out.blk k hk).2;omega
  · have:=HD2.out.lt k hk;omega
 have HF4:Hid (stF (fun k=>k<w3.heap.size) s (.slice Al s.list.length cl) (.slice Ap s.prom.length cp) (.slice Aa s.ab.length ca) w4):=Lib.hid fun W u=>by
  obtain⟨x,y,z,e,h1,h2,h3⟩:=(HS4.out.low u).stv
  simp at e
  obtain⟨rfl,rfl,rfl⟩:=e
  exact⟨h1,h2,h3⟩
 have HF6:=Lib.hid (HF4.out.k k6)
 have C4:=Lib.hid (Records_new ⟨n1,s.list,s.prom,s.ab⟩ (.agg (stA ⟨n1,s.list,s.prom,s.ab⟩ (.slice Al s.list.length cl) (.slice Ap s.prom.length cp) (.slice Aa s.ab.length ca))) w6 ⟨_,_,_,rfl,HF6.out.now.1,HF6.out.now.2.1,HF6.out.now.2.2⟩ (by simp only;have:=hlen2.out;omega) HRO.out)
 rw[HRT.out] at C4
 have HL1:=Lib.hid hlo
 have HG7:=Lib.hid hg7
 clear hlo hg7 hlen
 go_wp2_with fail
 refine C4.out.mono ?_
 rintro e w7 ⟨v7,rfl,hO7,k7⟩
 have hX7:∀ k,LgX gl gd vh vr k->k<w6.heap.size:=fun k hk=>by have:=HX.out k hk;have:=HZ4.out;omega
 have k67:=k6.tr k7
 have hl7:LgV gl gd vh vr (frames rs) (frames rs).length d.room w7:=by
  obtain⟨css,hr,hcl,hE⟩:=HO4.out.st k67
  exact⟨HD4.out.st k67,HB4.out.below k67 HB4.out.lt,_,_,frames_cnt rs,row_base (Nat.zero_le _) hr⟩
 have hV7:Fx (LgX gl gd vh vr) (fun W=>lst byS rt v7 W) w7:=(hO7.toY.fx fun k hk=>hk).less hX7
 have C5:=Lib.hid (WRewrite_calls gl gd vh vr v7 (frames rs) d.room rt w7 hl7 hV7 (by omega) HBT.out)
 have HRW:Hid (rwL (frames rs) rt d.room=if DL<=d.room then (frames rt,0) else (frames rs,90)):=Lib.hid (by unfold rwL swD;rw[if_pos HOT.out,HFL.out])
 have HX7:=Lib.hid hX7
 have HF7:=Lib.hid (HF6.out.k k7)
 have hb78:=hb72.below k7 hb72.lt
 have hr7:=hr4.below k67 hr4.lt
 have HK7:=Lib.hid k67
 obtain⟨A7,c7,rfl⟩:=hO7.toY.slice
 clear q7 hb72 hO7 hl7 hV7 C4 k7 hX7 k6 hz6
 go_wp2_with fail
 refine C5.out.mono ?_
 rintro e w8 ⟨vh8,vr8,rfl,hL8,hd8,hu8⟩
 clear C5
 have HU:Hid (UpN (DkX gd vh) w w8):=Lib.hid (by
  refine (HU2.out.tr (UpN.of_k (k24.out.tr HK7.out) _)).tr2 hu8.up fun k hk hx=>?_
  rcases hx with rfl|hx|hx
  · have:=HGP.out;omega
  · have:=(HO2.out.blk k hx).1;have:=HZ1.out;omega
  · exact hx)
 by_cases hfit:DL<=d.room
 · have HRR:Hid (rwL (frames rs) rt d.room=(frames rt,0)):=Lib.hid (by rw[HRW.out,if_pos hfit])
   rw[HRR.out] at hL8 hd8 ⊢
   have HFIT:=Lib.hid hfit
   have HL8:=Lib.hid (hL8 rfl)
   have hlg:=HL8.out.lt
   have hb8:=hb78.upn hu8.up fun hx=>by have:=HX7.out _ hx;have:=HX.out _ hx;have:=HG7.out;have:=HZ4.out;omega
   have hr8:=hr7.upn hu8.up fun hx=>by
    rcases hx with hx|hx|hx
    · have:=HZ1.out;have:=HGP.out;have:=HG1.out;omega
    · have:=(HO2.out.blk gp hx).1;have:=HG1.out;omega
    · have:=HL1.out gp hx;have:=HGP.out;omega
   have HF8:Hid (stF (fun k=>k<w1.heap.size∨LgX gl gd vh8 vr8 k) ⟨n1,s.list,s.prom,s.ab⟩ (.slice Al s.list.length cl) (.slice Ap s.prom.length cp) (.slice Aa s.ab.length ca) w8):=Lib.hid (HF7.out.to (M:=fun k=>k<w3.heap.size) (N:=fun k=>k<w1.heap.size∨LgX gl gd vh8 vr8 k) hu8.up (fun k hk=>HX.out k hk) fun k hk hx=>by
    rcases hx with hx|hx
    · have:=HZ4.out;have:=HZ2.out;omega
    · exact HX.out k ((hu8.new k hx).resolve_right (by omega)))
   have q7:=hb8.cells
   have HGX:Hid (∀ k,LgX gl gd vh8 vr8 k->¬ k=gp):=Lib.hid fun k hk e=>by
    rcases hu8.new k hk with hx|hx
    · rw[e] at hx
      rcases hx with hx|hx|hx
      · have:=HZ1.out;have:=HGP.out;have:=HG1.out;omega
      · have:=(HO2.out.blk gp hx).1;have:=HG1.out;omega
      · have:=HL1.out gp hx;have:=HGP.out;omega
    · have:=hr7.lt;omega
   have HNW:Hid (∀ k,LgX gl gd vh8 vr8 k->DkX gd vh k∨w.heap.size<=k):=Lib.hid fun k hk=>by
    rcases hu8.new k hk with hx|hx
    · rcases hx with hx|hx|hx
      · have:=HZ1.out;right;omega
      · have:=(HO2.out.blk k hx).1;have:=HZ1.out;right;omega
      · exact .inl hx
    · have:=hr7.lt;have:=HGP.out;right;omega
   have HGL:Hid (w.heap.size<=gl):=Lib.hid (by have:=HZ1.out;omega)
   clear hb8 hu8 hL8 hd8 hb78 hr7 hfit HRR HRW hlg
   go_upto_region 14 with (fail)
   refine wp_region_auto 3 [([],[]),([],[]),([0],[(49,0)]),([0,1,2],[(50,1)]),([0,1,2,3],[])] 51 rfl (by kernel_rfl) (by kernel_rfl) (by kernel_rfl) (by kernel_rfl) (by decide) ?_
   simp only[List.take_succ_cons,List.take_zero,List.drop_succ_cons,List.drop_zero]
   iterate 3 (apply AutoQ.is;intro V W kW hp;(try simp only[List.forall_mem_cons,List.nil_append,List.cons_append,tab_zero,tab_succ,isV] at hp);simp[wantsG,rhoP,List.lookup,hp,ResG,execOp,bareOp,isV,Below.refl,kW,q7,go_sem];rfl)
   intro V W kW hA
   simp only[List.nil_append,List.cons_append,AllT,isV,Nat.reduceAdd] at hA
   have hr9:=hr8.below kW hr8.lt
   have q9:=hr9.cell
   have z9:=hr9.frozen
   refine TailQ.skip (World.setCell (World.setCell (World.setCell (World.setCell W ⟨gp,0,none⟩ (.int .u64 (n1:Int))) ⟨gp,1,none⟩ (.slice Al s.list.length cl)) ⟨gp,2,none⟩ (.slice Ap s.prom.length cp)) ⟨gp,3,none⟩ (.slice Aa s.ab.length ca)) rfl (by simp[rhoP,List.lookup,hA,updV,execOp,bareOp,q9,z9,go_sem]) ?_
   apply TailQ.pure
   rfl
   simp[rhoP,List.lookup,updV,hA,execOp,bareOp,go_sem]
   rfl
   refine TailQ.nil ?_
   simp only[putAll,Act.put,List.setIfInBounds_toArray,List.set_cons_succ,List.set_cons_zero,Nat.reduceAdd,hA,updV]
   clear q9 z9 q7
   have hr91:Blk (World.setCell (World.setCell (World.setCell (World.setCell W _ _) _ _) _ _) _ _) gp 53 (stA ⟨n1,s.list,s.prom,s.ab⟩ (.slice Al s.list.length cl) (.slice Ap s.prom.length cp) (.slice Aa s.ab.length ca)):=(((hr9.set_ 0 (.int .u64 (n1:Int))).set_ 1 (.slice Al s.list.length cl)).set_ 2 (.slice Ap s.prom.length cp)).set_ 3 (.slice Aa s.ab.length ca)
   have u9:UpN (fun k=>k=gp) W _:=(((UpN.set1 (X:=fun k=>k=gp) rfl 0 (.int .u64 (n1:Int))).tr (UpN.set1 (X:=fun k=>k=gp) rfl 1 (.slice Al s.list.length cl))).tr (UpN.set1 (X:=fun k=>k=gp) rfl 2 (.slice Ap s.prom.length cp))).tr (UpN.set1 (X:=fun k=>k=gp) rfl 3 (.slice Aa s.ab.length ca))
   generalize World.setCell (World.setCell (World.setCell (World.setCell W _ _) _ _) _ _) _ _=W9 at *
   have e9:=hr91.cell
   have HPP:=HP1.out
   clear hr9 HP1 HP2
   have HU9:=Lib.hid (((UpN.of_k kW _).tr u9:UpN (fun k=>k=gp) w8 W9))
   clear u9 hA
   go_wp2
   try rw[Exit.noGoto_ret]
   refine bodyPost_ret (v:=.tuple #[.pointer (some ⟨gl,0,none⟩),.agg (stA ⟨n1,s.list,s.prom,s.ab⟩ (.slice Al s.list.length cl) (.slice Ap s.prom.length cp) (.slice Aa s.ab.length ca)),.int .i64 0]) (by simp[results,Tryz.results36,go_sem,e9]) rfl ?_
   refine HPP _ _ gl vh8 vr8 (.slice Al s.list.length cl) (.slice Ap s.prom.length cp) (.slice Aa s.ab.length ca) HFIT.out ⟨by rw[HLS.out],?_,?_,?_,HNW.out,HGL.out⟩
   · show LgV gl gd vh8 vr8 (dkB _) (dkB _).length d.room W9
     rw[HN.out]
     exact HL8.out.upn HU9.out HGX.out
   · rw[HLS.out]
     exact (HF8.out.up HU9.out fun k hk=>.inl (by have:=HG1.out;omega)).less fun k hk=>hk.imp (fun h=>by have:=HZ1.out;omega) id
   · exact HU.out.tr2 HU9.out fun k hk hx=>by have:=HGP.out;omega
 · have HRR:Hid (rwL (frames rs) rt d.room=(frames rs,90)):=Lib.hid (by rw[HRW.out,if_neg hfit])
   rw[HRR.out] at hL8 hd8 ⊢
   have HFIT:=Lib.hid hfit
   have hr8:=hr7.upn hu8.up fun hx=>by
    rcases hx with hx|hx|hx
    · have:=HZ1.out;have:=HGP.out;have:=HG1.out;omega
    · have:=(HO2.out.blk gp hx).1;have:=HG1.out;omega
    · have:=HL1.out gp hx;have:=HGP.out;omega
   have HGX:Hid (∀ k,DkX gd vh8 k->¬ k=gp):=Lib.hid fun k hk e=>by
    rcases hu8.new k (.inr (.inr hk)) with hx|hx
    · rw[e] at hx
      rcases hx with hx|hx|hx
      · have:=HZ1.out;have:=HGP.out;have:=HG1.out;omega
      · have:=(HO2.out.blk gp hx).1;have:=HG1.out;omega
      · have:=HL1.out gp hx;have:=HGP.out;omega
    · have:=hr7.lt;omega
   have HNW:Hid (∀ k,DkX gd vh8 k->DkX gd vh k∨w.heap.size<=k):=Lib.hid fun k hk=>by
    rcases hu8.new k (.inr (.inr hk)) with hx|hx
    · rcases hx with hx|hx|hx
      · have:=HZ1.out;right;omega
      · have:=(HO2.out.blk k hx).1;have:=HZ1.out;right;omega
      · exact .inl hx
    · have:=hr7.lt;have:=HGP.out;right;omega
   have HD8:=Lib.hid hd8
   clear hu8 hL8 hd8 hb78 hr7 hfit HRR HRW
   have z:=hr8.frozen
   have qz:=hr8.cell
   go_wp2
   have hr91:Blk (World.setCell (World.setCell (World.setCell (World.setCell w8 _ _) _ _) _ _) _ _) gp 53 zSt:=(((hr8.set_ 0 (.int .u64 0)).set_ 1 (.slice none 0 0)).set_ 2 (.slice none 0 0)).set_ 3 (.slice none 0 0)
   have u9:UpN (fun k=>k=gp) w8 _:=(((UpN.set1 (X:=fun k=>k=gp) rfl 0 (.int .u64 0)).tr (UpN.set1 (X:=fun k=>k=gp) rfl 1 (.slice none 0 0))).tr (UpN.set1 (X:=fun k=>k=gp) rfl 2 (.slice none 0 0))).tr (UpN.set1 (X:=fun k=>k=gp) rfl 3 (.slice none 0 0))
   clear z qz hr8
   generalize World.setCell (World.setCell (World.setCell (World.setCell w8 _ _) _ _) _ _) _ _=W9 at *
   have e9:=hr91.cell
   try rw[Exit.noGoto_ret]
   refine bodyPost_ret (v:=.tuple #[.pointer none,.agg zSt,.int .i64 90]) (by simp[results,Tryz.results36,go_sem,e9]) rfl ?_
   refine HP2.out _ _ HFIT.out ⟨vh8,rfl,?_,HU.out.tr2 u9 fun k hk hx=>by have:=HGP.out;omega,HNW.out⟩
   show DkV gd vh8 (dkB d) (dkB d).length d.room W9
   rw[HD.out]
   exact HD8.out.upn u9 HGX.out
section
open Go Go.RowKit Go.ChangeMaps
section
variable {α:Type} [DecidableEq α] {enc:α->Value} {P:Program} {kt:TypeId}
def idxG (k:α):List (α×Value)->Nat->Option (Nat×Value)
 | [],_=>none
 | p :: r,i=>if p.1=k then some (i,p.2) else idxG k r (i+1)
def lookG (kvs:List (α×Value)) (k:α):Option Value:=(idxG k kvs 0).map (·.2)
def putG (kvs:List (α×Value)) (k:α) (v:Value):List (α×Value):=match idxG k kvs 0 with|some (i,_)=>kvs.modify i fun p=>(p.1,v)|none=>kvs++[(k,v)]
theorem idxG_some {k:α} {kvs:List (α×Value)}:∀ {i j:Nat} {v:Value},idxG k kvs i=some (j,v)->i<=j/\kvs[j - i]?=some (k,v):=by
 induction kvs with
 | nil=>intro i j v h;cases h
 | cons p r ih =>
   intro i j v h
   simp only[idxG] at h
   split at h
   · rename_i hk
     injection h with h
     injection h with h1 h2
     subst h1 h2 hk
     simp
   · obtain⟨h1,h2⟩:=ih h
     refine⟨by omega,?_⟩
     rw[show j - i=(j - (i+1))+1 by omega,List.getElem?_cons_succ]
     exact h2
structure KeyG (P:Program) (kt:TypeId) (enc:α->Value):Prop where
 find:∀ (k:α) (es:List MapEntry) (kvs:List (α×Value)) (w:World),es.map (fun e=>(e.key,e.val))=kvs.map (fun p=>(enc p.1,p.2))->(Instr.findKey kt (enc k) es).run P w=.ok (idxG k kvs 0) w
 chk:∀ (k:α) (em:Bool) (w:World),(Instr.checkKey em 10000 kt (enc k)).run P w=.ok () w
 stays:∀ (k:α),Instr.sameBits 10000 (enc k) (enc k)=true
def MapG (enc:α->Value) (w:World) (b:Nat) (kvs:List (α×Value)):Prop :=
 ∃ (es:Array MapEntry) (c:Nat),w.heap[b]?=some (.map es c)/\es.toList.map (fun e=>(e.key,e.val))=kvs.map fun p=>(enc p.1,p.2)
end
section
variable {α:Type} {enc:α->Value} {P:Program} {kt:TypeId}
theorem MapG.new (w:World):MapG enc (w.alloc (.map #[] 0)) w.heap.size []:=⟨#[],0,heap_alloc_new w _,rfl⟩
end
section
variable {α:Type} [DecidableEq α] {enc:α->Value} {P:Program} {kt:TypeId}
end
section
variable {α:Type} {enc:α->Value} {P:Program} {kt:TypeId}
theorem MapG.lt {w:World} {b:Nat} {kvs:List (α×Value)} (h:MapG enc w b kvs):b<w.heap.size:=by
 obtain⟨es,c,h,_⟩:=h
 exact (Array.getElem?_eq_some_iff.1 h).1
end
section
variable {α:Type} [DecidableEq α] {enc:α->Value} {P:Program} {kt:TypeId}
end
section
variable {α:Type} {enc:α->Value} {P:Program} {kt:TypeId}
theorem MapG.upn {w w':World} {b:Nat} {kvs:List (α×Value)} {X:Nat->Prop} (h:MapG enc w b kvs) (hb:UpN X w w') (hB:¬ X b):MapG enc w' b kvs:=by
 have hl:=h.lt
 obtain⟨es,c,h1,h2⟩:=h
 exact⟨es,c,(hb.block b hl hB).trans h1,h2⟩
end
section
variable {α:Type} [DecidableEq α] {enc:α->Value} {P:Program} {kt:TypeId}
end
section
variable {α:Type} {enc:α->Value} {P:Program} {kt:TypeId}
theorem MapG.st {w w':World} {b:Nat} {kvs:List (α×Value)} (h:MapG enc w b kvs) (k:K w w'):MapG enc w' b kvs:=by
 have hl:=h.lt
 obtain⟨es,c,h1,h2⟩:=h
 exact⟨es,c,(k.block b hl).trans h1,h2⟩
end
section
variable {α:Type} [DecidableEq α] {enc:α->Value} {P:Program} {kt:TypeId}
end
section
variable {α:Type} {enc:α->Value} {P:Program} {kt:TypeId}
theorem MapG.cells {w:World} {b:Nat} {kvs:List (α×Value)} (h:MapG enc w b kvs) {e:TypeId} {cs:Array Value} (hb:Blk w b e cs):False:=by
 obtain⟨es,c,h1,_⟩:=h
 have:=h1.symm.trans hb
 cases this
end
section
variable {α:Type} [DecidableEq α] {enc:α->Value} {P:Program} {kt:TypeId}
theorem run_lookG {t E:TypeId} (KG:KeyG P kt enc) (hT:P.underlying t=some (.map kt E)) {w:World} {z:Value} (hz:(zeroValue E).run P w=.ok z w) {b:Nat} {kvs:List (α×Value)} (h:MapG enc w b kvs) (k:α) :
 (Instr.lookup t (.map (some b)) (enc k) true).run P w=.ok (.tuple #[(lookG kvs k).getD z,.bool (lookG kvs k).isSome]) w/\(Instr.lookup t (.map (some b)) (enc k) false).run P w=.ok ((lookG kvs k).getD z) w:=by
 obtain⟨es,c,h1,h2⟩:=h
 have hf:=KG.find k es.toList kvs w h2
 unfold lookG
 cases hr:idxG k kvs 0 with
 | none=>rw[hr] at hf;simp[Instr.lookup,run_underlying hT,MapKept.run_getObj_map h1,KG.chk,hf,hz,Result.andThen]
 | some x=>rw[hr] at hf;simp[Instr.lookup,run_underlying hT,MapKept.run_getObj_map h1,KG.chk,hf,Result.andThen]
theorem run_putG {t E:TypeId} (KG:KeyG P kt enc) (hT:P.underlying t=some (.map kt E)) {w:World} {b:Nat} {kvs:List (α×Value)} (h:MapG enc w b kvs) (k:α) (v:Value) :
 ∃ w',(Instr.mapUpdate t (.map (some b)) (enc k) v).run P w=.ok () w'/\MapG enc w' b (putG kvs k v)/\w.grownBy w' (some b):=by
 obtain⟨es,c,h1,h2⟩:=h
 have hf:=KG.find k es.toList kvs w h2
 have hg:∀ o,w.grownBy (setBlock w b o) (some b):=fun o=>⟨rfl,rfl,rfl,by simp[setBlock],fun i _ hi=>heap_setBlock_other h1 _ (fun e=>hi (by rw[e]))⟩
 unfold putG
 cases hr:idxG k kvs 0 with
 | none =>
   rw[hr] at hf
   refine⟨setBlock w b (.map (es.push ⟨enc k,v,c⟩) (c+1)),?_,⟨_,_,heap_setBlock_same h1 _,?_⟩,hg _⟩
   · simp[Instr.mapUpdate,run_underlying hT,MapKept.run_getObj_map h1,KG.chk,hf,MapKept.run_setObj_map _ h1,Result.andThen,setBlock]
   · simp[h2]
 | some x =>
   obtain⟨i,v0⟩:=x
   rw[hr] at hf
   obtain⟨-,hi⟩:=idxG_some hr
   have hlen:es.toList.length=kvs.length:=by simpa using congrArg List.length h2
   have hik:i<kvs.length:=by have:=(List.getElem?_eq_some_iff.1 hi).1;omega
   have hkey:(es[i]?).map (·.key)=some (enc k):=by
    have:=congrArg (fun l=>l[i]?) h2
    simp only[List.getElem?_map] at this
    rw[show i - 0=i by omega] at hi
    rw[hi] at this
    simp only[Array.getElem?_toList,Option.map_some] at this
    cases he:es[i]? with
    | none=>rw[he] at this;simp at this
    | some e=>rw[he] at this;simp at this;simp[this.1]
   refine⟨setBlock w b (.map (es.modify i fun e=>{ e with key:=enc k,val:=v }) c),?_,⟨_,_,heap_setBlock_same h1 _,?_⟩,hg _⟩
   · simp[Instr.mapUpdate,run_underlying hT,MapKept.run_getObj_map h1,KG.chk,hf,hkey,Instr.keyThatStays,KG.stays,MapKept.run_setObj_map _ h1,Result.andThen,setBlock]
   · rw[Array.toList_modify]
     apply List.ext_getElem?
     intro j
     have hj:=congrArg (fun l=>l[j]?) h2
     simp only[List.getElem?_map,List.getElem?_modify] at hj ⊢
     by_cases e:i=j
     · subst e
       have hij:=congrArg (Option.map Prod.fst) hj
       rw[show i - 0=i by omega] at hi
       simp only[hi,Option.map_some] at hj ⊢
       cases he:es.toList[i]? with
       | none=>rw[he] at hj;simp at hj
       | some y=>simp
     · simp only[e,if_false] at hj ⊢
       simpa using hj
end
def encI (n:Int):Value:=.int .i64 n
theorem keyI {P:Program} {kt:TypeId} (hK:P.underlying kt=some (.int .i64)):KeyG P kt encI:=by
 refine⟨fun k es kvs w h=>?_,fun k em w=>run_checkKey_i hK k em w,fun k=>by simp[encI,Instr.sameBits]⟩
 have key:∀ (es:List MapEntry) (kvs:List (Int×Value)) (i:Nat),es.map (fun e=>(e.key,e.val))=kvs.map (fun p=>(encI p.1,p.2))->Instr.findNow (.int .i64) (.int .i64 k) es i=some (idxG k kvs i):=by
  intro es
  induction es with
  | nil=>intro kvs i h;cases kvs with
    | nil=>rfl
    | cons p r=>simp at h
  | cons e es ih=>intro kvs i h;cases kvs with
    | nil=>simp at h
    | cons p r =>
      simp only[List.map_cons,List.cons.injEq,Prod.mk.injEq] at h
      obtain⟨⟨h1,h2⟩,h3⟩:=h
      unfold Instr.findNow idxG
      rw[h1]
      by_cases hk:p.1=k
      · subst hk
        simp[Instr.sameNow,encI,h2]
      · have:(k==p.1)=false:=by simp;exact fun e=>hk e.symm
        simp[Instr.sameNow,encI,this,ih r (i+1) h3,hk]
 simp[Instr.findKey,run_underlying hK,encI,key es kvs 0 h]
def encD (a:Idn):Value:=.agg #[.int .i64 a.1,.int .u64 (a.2.1:Int),.int .u64 (a.2.2:Int)]
theorem run_id_eq (x y:Idn) (w:World) (d:Nat):(Op.equalIn (d+1+1) 35 (encD x) (encD y)).run Tryz.prog w=.ok (decide (x=y)) w:=by
 obtain⟨a,b,c⟩:=x
 obtain⟨a',b',c'⟩:=y
 unfold encD
 simp[go_sem,toList_iff]
 by_cases h0:a=a' <;> by_cases h4:b=b' <;> by_cases h1:c=c' <;> simp[h0,h1,h4] <;> omega
theorem keyD:KeyG Tryz.prog 35 encD:=by
 refine⟨fun k es kvs w h=>?_,fun k em w=>?_,fun k=>?_⟩
 · have key:∀ (es:List MapEntry) (kvs:List (Idn×Value)) (i:Nat),es.map (fun e=>(e.key,e.val))=kvs.map (fun p=>(encD p.1,p.2))->(Instr.findAsking 35 (encD k) es i).run Tryz.prog w=.ok (idxG k kvs i) w:=by
    intro es
    induction es with
    | nil=>intro kvs i h;cases kvs with
      | nil=>rfl
      | cons p r=>simp at h
    | cons e es ih=>intro kvs i h;cases kvs with
      | nil=>simp at h
      | cons p r =>
        simp only[List.map_cons,List.cons.injEq,Prod.mk.injEq] at h
        obtain⟨⟨h1,h2⟩,h3⟩:=h
        have he:(Op.equal 35 (encD k) (encD p.1)).run Tryz.prog w=.ok (decide (k=p.1)) w:=run_id_eq k p.1 w 9998
        unfold Instr.findAsking idxG
        rw[h1]
        by_cases hk:p.1=k
        · subst hk
          simp[Sem.run_bind,he,Result.andThen,h2]
        · have hk':¬ k=p.1:=fun e=>hk e.symm
          simp[Sem.run_bind,he,Result.andThen,hk,hk',ih r (i+1) h3]
   obtain⟨fs,hu⟩:∃ fs,Tryz.prog.underlying 35=some (.struct fs):=⟨_,Tryz.underlying35⟩
   cases es with
   | nil =>
     cases kvs with
     | nil=>simp[Instr.findKey,run_underlying hu,Instr.findNow,idxG]
     | cons p r=>simp at h
   | cons e es =>
     have hn:Instr.findNow (.struct fs) (encD k) (e :: es) 0=none:=by
      unfold Instr.findNow
      have:Instr.sameNow (.struct fs) (encD k) e.key=none:=by unfold Instr.sameNow encD;split <;> simp_all
      rw[this]
     simp[Instr.findKey,run_underlying hu,hn,key (e :: es) kvs 0 h]
 · unfold encD;kernel_rfl
 · unfold encD;simp[Instr.sameBits]
end
structure BrW where
 g:Nat
 gl:Nat
 gd:Nat
 gr:Nat
 gt:Nat
 vd:Value
 vr:Value
 vp:Value
 vh:Value
 vl:Value
 vq:Value
 va:Value
 vt:Value
 vf:Value
 vw:Value
 kr:List (Int×Value)
abbrev brA (p:BrW) (B:Brk):Array Value:=#[.int .i64 B.me,p.vp,p.vh,.pointer (some ⟨p.gl,0,none⟩),.int .u64 (B.st.life:Int),p.vl,p.vq,p.va,p.vt,.int .u64 (B.calls:Int),.map (some p.gr),p.vf,.map (some p.gt),p.vw]
def BrX (p:BrW) (k:Nat):Prop:=k=p.g∨k=p.gr∨k=p.gt∨LgX p.gl p.gd p.vd p.vr k
def RepL (l:List (Int×Msg)) (kvs:List (Int×Value)) (W:World):Prop:=kvs.length=l.length/\∀ i (h:i<kvs.length) (h':i<l.length),kvs[i].1=l[i].1/\msv l[i].2 kvs[i].2 W
def toldK (l:List Idn):List (Idn×Value):=l.zipIdx.map fun p=>(p.1,.int .i64 (p.2:Int))
structure BrD (p:BrW) (B:Brk) (W:World):Prop where
 par:lst inS B.par p.vp W
 hom:lst inS B.hom p.vh W
 list:lst enS B.st.list p.vl W
 prom:lst enS B.st.prom p.vq W
 ab:lst idS B.st.ab p.va W
 txns:lst txS B.txns p.vt W
 refd:lst idS B.refused p.vf W
 waits:lst enS B.waits p.vw W
 reps:RepL B.reps p.kr W
structure BrV (M:Nat->Prop) (p:BrW) (B:Brk) (w:World):Prop where
 blk:Blk w p.g 101 (brA p B)
 lg:LgR p.gl p.gd p.vd p.vr B.dk w
 rep:MapG encI w p.gr p.kr
 tol:MapG encD w p.gt (toldK B.told)
 dat:Fx M (BrD p B) w
 sub:∀ k,BrX p k->M k
 low:∀ k,M k->k<w.heap.size
 ne:p.gr≠p.gt
section
variable {M M' X:Nat->Prop} {p p':BrW} {B B':Brk} {w w' w'':World}
theorem BrV.st (h:BrV M p B w) (k:K w w'):BrV M p B w' :=
 ⟨h.blk.below k h.blk.lt,h.lg.st k,h.rep.st k,h.tol.st k,h.dat.k k,h.sub,fun b hb=>Nat.lt_of_lt_of_le (h.low b hb) k.size,h.ne⟩
theorem MapG.noLg {gl gd:Nat} {vd vr:Value} {d:Dsk} {α:Type} [DecidableEq α] {enc:α->Value} {b:Nat} {kvs:List (α×Value)} (h:MapG enc w b kvs) (l:LgR gl gd vd vr d w):¬ LgX gl gd vd vr b:=fun hk=>by
 obtain⟨n,xs,hn,hx⟩:=l.row
 rcases hk with rfl|hk|rfl|hk
 · exact h.cells l.blk
 · obtain⟨cur,hb⟩:=row_blk hx hk;exact h.cells hb
 · exact h.cells l.dk.blk
 · obtain⟨cur,hb⟩:=row_blk l.dk.own hk;exact h.cells hb
theorem BrV.apart (h:BrV M p B w):p.g≠p.gr/\p.g≠p.gt/\¬ LgX p.gl p.gd p.vd p.vr p.g/\¬ LgX p.gl p.gd p.vd p.vr p.gr/\¬ LgX p.gl p.gd p.vd p.vr p.gt:=by
 refine⟨fun e=>h.rep.cells (e ▸ h.blk),fun e=>h.tol.cells (e ▸ h.blk),fun hk=>?_,h.rep.noLg h.lg,h.tol.noLg h.lg⟩
 obtain⟨n,xs,hn,hx⟩:=h.lg.row
 rcases hk with e|hk|e|hk
 · exact absurd (h.blk.unlike (e ▸ h.lg.blk)) (by decide)
 · obtain⟨cur,hb⟩:=row_blk hx hk;exact absurd (h.blk.unlike hb) (by decide)
 · exact absurd (h.blk.unlike (e ▸ h.lg.dk.blk)) (by decide)
 · obtain⟨cur,hb⟩:=row_blk h.lg.dk.own hk;exact absurd (h.blk.unlike hb) (by decide)
theorem BrV.far (h:BrV M p B w) (u:UpN X w w') (hX:∀ k,X k->M k) (hn:∀ k,X k->¬ BrX p k) (hM:∀ k,k<w.heap.size->M' k->M k) (hs:∀ k,BrX p k->M' k) (hl:∀ k,M' k->k<w'.heap.size):BrV M' p B w' :=
 ⟨h.blk.upn u fun hx=>hn _ hx (.inl rfl),h.lg.upn u fun k hk hx=>hn k hx (.inr (.inr (.inr hk))),h.rep.upn u fun hx=>hn _ hx (.inr (.inl rfl)),h.tol.upn u fun hx=>hn _ hx (.inr (.inr (.inl rfl))),h.dat.to u hX hM,hs,hl,h.ne⟩
theorem BrV.cell (h:BrV M p B w) (i:Nat) (v:Value) (hb:Blk (w.setCell ⟨p.g,i,none⟩ v) p.g 101 (brA p' B'))
 (hp:p'.g=p.g/\p'.gl=p.gl/\p'.gd=p.gd/\p'.gr=p.gr/\p'.gt=p.gt/\p'.vd=p.vd/\p'.vr=p.vr/\p'.kr=p.kr) (hB:B'.dk=B.dk/\B'.told=B.told)
 (hd:∀ W,UpN M w W->BrD p B W->BrD p' B' W):BrV M p' B' (w.setCell ⟨p.g,i,none⟩ v):=by
 obtain⟨e1,e2,e3,e4,e5,e6,e7,e8⟩:=hp
 obtain⟨f1,f2⟩:=hB
 obtain⟨a1,a2,a3,a4,a5⟩:=h.apart
 have u:UpN (fun k=>k=p.g) w (w.setCell ⟨p.g,i,none⟩ v):=UpN.set1 (X:=fun k=>k=p.g) rfl i v
 have uM:UpN M w (w.setCell ⟨p.g,i,none⟩ v):=u.more fun k hk=>h.sub k (.inl hk)
 refine⟨by rw[e1];exact hb,?_,?_,?_,fun W uW=>hd W (uM.tr uW) (h.dat W (uM.tr uW)),fun k hk=>h.sub k ?_,fun k hk=>by simpa using h.low k hk,by rw[e4,e5];exact h.ne⟩
 · rw[e2,e3,e6,e7,f1]
   exact h.lg.upn u fun k hk e=>a3 (e ▸ hk)
 · rw[e4,e8];exact h.rep.upn u fun e=>a1 e.symm
 · rw[e5,f2];exact h.tol.upn u fun e=>a2 e.symm
 · unfold BrX at hk ⊢
   rw[e1,e2,e3,e4,e5,e6,e7] at hk
   exact hk
def BrW.key (p:BrW):Nat×Nat:=(p.g,p.gd)
theorem kg {p:BrW} {a b:Nat} (h:p.key=(a,b)):p.g=a:=congrArg Prod.fst h
theorem kg2 {p p':BrW} (h:p'.key=p.key):p'.g=p.g:=congrArg Prod.fst h
def BrN (M:Nat->Prop) (p:BrW) (B':Brk) (w w':World):Prop :=
 ∃ p',BrV (fun k=>M k∨BrX p' k) p' B' w'/\UpN (BrX p) w w'/\p'.key=p.key/\∀ k,BrX p' k->BrX p k∨w.heap.size<=k
theorem BrV.less (h:BrV M p B w) (hs:∀ k,BrX p k->M' k) (hM:∀ k,M' k->M k):BrV M' p B w:=⟨h.blk,h.lg,h.rep,h.tol,h.dat.less hM,hs,fun k hk=>h.low k (hM k hk),h.ne⟩
theorem BrV.now (h:BrV M p B w) (hg:p'.key=p.key) (hx:∀ k,BrX p k->BrX p' k∨w'.heap.size<=k) (u:UpN (BrX p') w' w):BrN M p' B w' w :=
 ⟨p,h.less (fun k hk=>.inr hk) (fun k hk=>hk.elim id (h.sub k)),u,hg.symm,hx⟩
theorem BrV.n (h:BrV M p B w) (k:K w w'):BrN M p B w w' :=
 (h.st k).now rfl (fun _ h=>.inl h) (UpN.of_k k _)
theorem BrN.tr {M1:Nat->Prop} {p1:BrW} (u:UpN (BrX p) w w') (hg:p1.key=p.key) (hx:∀ k,BrX p1 k->BrX p k∨w.heap.size<=k) (hM:∀ k,M k->M1 k) (h:BrN M1 p1 B' w' w''):BrN M p B' w w'':=by
 obtain⟨p2,h1,h2,h3,h4⟩:=h
 refine⟨p2,h1.less (fun k hk=>.inr hk) (fun k hk=>hk.imp (hM k) id),u.tr2 h2 fun k hk hX=>(hx k hX).resolve_right (by omega),h3.trans hg,fun k hk=>?_⟩
 rcases h4 k hk with a|a
 · exact hx k a
 · exact .inr (Nat.le_trans u.size a)
theorem BrN.k (h:BrN M p B' w w') (k:K w' w''):BrN M p B' w w'':=by
 obtain⟨p2,h1,h2,h3,h4⟩:=h
 exact⟨p2,h1.st k,h2.tr (UpN.of_k k _),h3,h4⟩
theorem BrN.ofk {w0:World} (h:BrN M p B' w w') (k:K w0 w) (hX:∀ j,BrX p j->j<w0.heap.size):BrN M p B' w0 w':=by
 obtain⟨p2,h1,h2,h3,h4⟩:=h
 exact⟨p2,h1,(UpN.of_k k _).tr h2,h3,fun j hj=>(h4 j hj).imp id fun a=>Nat.le_trans k.size a⟩
end
theorem repL_nil (W:World):RepL [] [] W:=⟨rfl,fun i h=>by simp at h⟩
theorem BrV.q {M:Nat->Prop} {p:BrW} {B:Brk} {w:World} (h:BrV M p B w):∀ W,K w W->∀ i,W.cell? ⟨p.g,i,none⟩=(brA p B)[i]?:=h.blk.cells
