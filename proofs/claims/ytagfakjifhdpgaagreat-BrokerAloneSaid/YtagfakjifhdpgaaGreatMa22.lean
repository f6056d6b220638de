/-
  The walks of broker's call, keep, Begin, Sub, Unsub, Publish, Commit, Abort (layer 20). Conditions: none.
-/
import Derived.Test.YtagfakjifhdpgaaGreatMa21
set_option maxRecDepth 100000
set_option maxHeartbeats 16000000
set_option linter.unusedVariables false
set_option linter.unusedSimpArgs false
namespace Go.Proofs.YtagfakjifhdpgaaGreat
open Go Go.RowKit
theorem OkT.small {l:List Txn} (h:OkT l):∀ t∈l,smallEn t.e:=fun t ht=>okEn_small (h.each t ht).1
def newV (lo:Nat) (t:TypeId) (cs:Array Value) (v:Value) (W:World):Prop:=∃ b,v=.pointer (some ⟨b,0,none⟩)/\lo<=b/\Blk W b t cs
theorem newV_st (lo:Nat) (t:TypeId) (cs:Array Value):∀ v w w',newV lo t cs v w->Below w.heap.size w w'->newV lo t cs v w':=by
 rintro v w w' ⟨b,e,hl,h⟩ k
 exact⟨b,e,hl,h.below k h.lt⟩
theorem newV_new {lo:Nat} (t:TypeId) (cs:Array Value) (W:World) (h:lo<=W.heap.size):newV lo t cs (.pointer (some ⟨W.heap.size,0,none⟩)) (W.alloc (.cells cs t)):=⟨_,rfl,h,Blk.new W t cs⟩
section
variable {M:Nat->Prop} {p:BrW} {B:Brk} {w:World}
theorem BrV.putT (h:BrV M p B w) {l:List Txn} {v:Value} (hv:Fx M (fun W=>lst txS l v W) w):BrV M { p with vt:=v } { B with txns:=l } (w.setCell ⟨p.g,8,none⟩ v) :=
 h.cell 8 v (h.blk.set_ 8 v) ⟨rfl,rfl,rfl,rfl,rfl,rfl,rfl,rfl⟩ ⟨rfl,rfl⟩ fun W u d=>⟨d.par,d.hom,d.list,d.prom,d.ab,hv W u,d.refd,d.waits,d.reps⟩
theorem BrV.putC (h:BrV M p B w) (n:Nat):BrV M p { B with calls:=n } (w.setCell ⟨p.g,9,none⟩ (.int .u64 (n:Int))) :=
 h.cell 9 _ (h.blk.set_ 9 _) ⟨rfl,rfl,rfl,rfl,rfl,rfl,rfl,rfl⟩ ⟨rfl,rfl⟩ fun W u d=>⟨d.par,d.hom,d.list,d.prom,d.ab,d.txns,d.refd,d.waits,d.reps⟩
theorem BrV.putW (h:BrV M p B w) {l:List Ent} {v:Value} (hv:Fx M (fun W=>lst enS l v W) w):BrV M { p with vw:=v } { B with waits:=l } (w.setCell ⟨p.g,13,none⟩ v) :=
 h.cell 13 v (h.blk.set_ 13 v) ⟨rfl,rfl,rfl,rfl,rfl,rfl,rfl,rfl⟩ ⟨rfl,rfl⟩ fun W u d=>⟨d.par,d.hom,d.list,d.prom,d.ab,d.txns,d.refd,hv W u,d.reps⟩
theorem BrV.nset {p':BrW} {B':Brk} {w':World} (h:BrV M p B w) (hg:p'.g=p.g/\p'.gl=p.gl/\p'.gd=p.gd/\p'.gr=p.gr/\p'.gt=p.gt/\p'.vd=p.vd/\p'.vr=p.vr) (h':BrV M p' B' w') (u:UpN (BrX p) w w'):BrN M p B' w w':=by
 have hX:∀ k,BrX p' k ↔ BrX p k:=fun k=>by
  obtain⟨e1,e2,e3,e4,e5,e6,e7⟩:=hg
  unfold BrX
  rw[e1,e2,e3,e4,e5,e6,e7]
 exact⟨p',h'.less (fun k hk=>.inr hk) (fun k hk=>hk.elim id fun h1=>h.sub k ((hX k).1 h1)),u,(by unfold BrW.key;rw[hg.1,hg.2.2.1]),fun k hk=>.inl ((hX k).1 hk)⟩
theorem OwnL.fxM {e:TypeId} {α:Type} {S:Shp α} {l:List α} {v:Value} {w':World} (h:OwnL w.heap.size w.heap.size e S l v w') (hM:∀ k,M k->k<w.heap.size):Fx M (fun W=>Go.Proofs.YtagfakjifhdpgaaGreat.lst S l v W) w':=(h.toY.fx fun _ h=>h).less hM
end
theorem BKeep_calls {M:Nat->Prop} {p:BrW} {B:Brk} {w:World} (h:BrV M p B w) {l:List Txn} {v:Value} (c:Int) (hv:Fx M (fun W=>lst txS l v W) w) :
 Calls Tryz.prog 40 #[.pointer (some ⟨p.g,0,none⟩),v,.int .i64 c] w fun e w'=>e=.returned (.int .i64 (keepB B (l,c)).2)/\BrN M p (keepB B (l,c)).1 w w':=by
 have HK:Hid (keepB B (l,c)=if c=0 then ({ B with txns:=l },0) else (B,c)):=Lib.hid rfl
 generalize keepB B (l,c)=R at *
 have H1:=Lib.hid (h.nset (p':={ p with vt:=v }) ⟨rfl,rfl,rfl,rfl,rfl,rfl,rfl⟩ (h.putT hv) (UpN.set1 (X:=BrX p) (.inl rfl) 8 v))
 have H0:=Lib.hid (h.n (K.rf w))
 have q:=h.blk.cell
 have z:=h.blk.frozen
 obtain⟨A,cc,rfl⟩:=lst_slice hv.now
 obtain⟨g,gl,gd,gr,gt,vd,vr,vp,vh,vl,vq,va,vt,vf,vw,kr⟩:=p
 simp only at q z H1 H0
 clear h hv
 go_enter Tryz.func40,Tryz.ntmps40
 by_cases hc:c=0
 · subst hc
   have HR:Hid (R=({ B with txns:=l },0)):=Lib.hid (by rw[HK.out,if_pos rfl])
   go_wp2
   go_ret
   exact⟨by rw[HR.out];rfl,by rw[HR.out];exact H1.out⟩
 · have HR:Hid (R=(B,c)):=Lib.hid (by rw[HK.out,if_neg hc])
   have hc2:(c==0)=false:=by simpa using hc
   go_wp2
   go_ret
   exact⟨by rw[HR.out];rfl,by rw[HR.out];exact H0.out⟩
theorem BCall_calls {M:Nat->Prop} {p:BrW} {B:Brk} {w:World} (h:BrV M p B w) (hG:GoodB B) (c:Int) (f:Nat) (cs:Array Value) (lay:List Txn×Int) (hf:∀ args W,(callFunc f args).run Tryz.prog W=.ok (.enter f args) W)
 (hlay:∀ W,K w W->Calls Tryz.prog f (#[idv (newB B)]++cs) W fun e w'=>∃ v',e=.returned (.tuple #[v',.int .i64 lay.2])/\OwnL W.heap.size W.heap.size 121 txS lay.1 v' w'/\K W w') :
 Calls Tryz.prog 37 #[.pointer (some ⟨p.g,0,none⟩),.int .i64 c,.func (.func f) #[] cs] w fun e w'=>e=.returned (.tuple #[idv (callB B c lay).2.1,.int .i64 (callB B c lay).2.2])/\BrN M p (callB B c lay).1 w w':=by
 have HK:Hid (callB B c lay=if homeB' B c then (if lay.2=0 then ({ B with txns:=lay.1,calls:=B.calls+1 },newB B,0) else (B,(0,0,0),lay.2)) else (B,(0,0,0),200)):=Lib.hid rfl
 generalize callB B c lay=R at *
 have H:=Lib.hid h
 have HX:=Lib.hid fun k hk=>h.low k (h.sub k hk)
 have HM:=Lib.hid h.low
 have hcl:=hG.calls
 have C1:=Lib.hid fun W (k:K w W)=>BHome_calls (h.st k) hG c
 have C2:=Lib.hid hlay
 have q:=h.q
 have k0:K w (w.alloc (.cells #[.int .i64 0,.int .u64 0,.int .u64 0] 35)):=(K.rf w).al _
 have hr:=Blk.new w 35 #[.int .i64 0,.int .u64 0,.int .u64 0]
 generalize homeB' B c=HB at *
 generalize hnew:newB B=nw at *
 obtain⟨n1,hn1⟩:∃ n,n=B.calls+1:=⟨_,rfl⟩
 have HNEW:Hid (nw=(B.me,B.st.life,n1)):=Lib.hid (by rw[hn1];exact hnew.symm)
 have hw:IntKind.u64.wrap ((B.calls:Int)+1)=(n1:Int):=by rw[IntWalk.u64_in _ (by omega),hn1];omega
 have HN1:=Lib.hid hn1
 clear hn1 hcl
 clear h hG hlay hnew
 go_enter Tryz.func37,Tryz.ntmps37
 go_upto_region 1 with (fail)
 generalize w.alloc _=w1 at *
 generalize hgw:w.heap.size=g9 at hr ⊢
 have HGW:=Lib.hid hgw
 clear hgw
 go_wp2_with fail
 refine (C1.out w1 k0).mono ?_
 rintro e w2 ⟨rfl,k2⟩
 have hr2:=hr.below k2 hr.lt
 have k02:=k0.tr k2
 clear C1 hr
 cases hHB:HB
 · have HR:Hid (R=(B,(0,0,0),200)):=Lib.hid (by rw[HK.out,hHB];rfl)
   have qr:=hr2.cell
   have zr:=hr2.frozen
   clear HK C2 q
   go_wp2
   have hr91:Blk (World.setCell (World.setCell (World.setCell w2 _ _) _ _) _ _) g9 35 #[.int .i64 0,.int .u64 0,.int .u64 0]:=((hr2.set_ 0 (.int .i64 0)).set_ 1 (.int .u64 0)).set_ 2 (.int .u64 0)
   have kS:=K.set (K.set (K.set k02 (r:=g9) (by have:=HGW.out;omega) 0 (.int .i64 0)) (r:=g9) (by have:=HGW.out;omega) 1 (.int .u64 0)) (r:=g9) (by have:=HGW.out;omega) 2 (.int .u64 0)
   clear qr zr hr2
   generalize World.setCell (World.setCell (World.setCell w2 _ _) _ _) _ _=W9 at *
   have e9:=hr91.cell
   try rw[Exit.noGoto_ret]
   refine bodyPost_ret (v:=.tuple #[idv (0,0,0),.int .i64 200]) (by simp[results,Tryz.results37,go_sem,e9]) rfl ?_
   exact⟨by rw[HR.out],by rw[HR.out];exact H.out.n kS⟩
 have HK2:Hid (R=if lay.2=0 then ({ B with txns:=lay.1,calls:=B.calls+1 },nw,0) else (B,(0,0,0),lay.2)):=Lib.hid (by rw[HK.out,hHB,if_pos rfl])
 have q2:=fun W (k:K w2 W)=>q W (k02.tr k)
 subst hHB
 clear HK q
 obtain⟨g,gl,gd,gr,gt,vd,vr,vp,vh,vl,vq,va,vt,vf,vw,kr⟩:=p
 simp only at q2
 go_upto_region 5 with (fail)
 refine wp_region_auto 16 [([],[]),([0],[(19,0)]),([1],[(20,1)]),([2],[(21,2)]),([],[]),([4],[(23,4)]),([5],[(24,5)]),([6],[(25,6)]),([7],[(26,7)]),([],[]),([9],[(28,9)]),([10],[(29,10)]),([11],[(30,11)]),([12],[(31,12)]),([3,8,13],[(22,3),(27,8),(32,13)]),([],[]),([0,1,2,3,4,5,6,7,8,9,10,11,12,13,14,15],[(8,15),(33,14)])] 56 rfl (by kernel_rfl) (by kernel_rfl) (by kernel_rfl) (by kernel_rfl) (by decide) ?_
 simp only[List.take_succ_cons,List.take_zero,List.drop_succ_cons,List.drop_zero]
 iterate 15 (apply AutoQ.is;intro V W kW hp;(try simp only[List.forall_mem_cons,List.nil_append,List.cons_append,tab_zero,tab_succ,isV] at hp);simp[wantsG,rhoP,List.lookup,hp,ResG,execOp,bareOp,isV,Below.refl,kW,q2,hw,go_sem];rfl)
 refine AutoQ.op (newV (w2.heap.size) 35 #[.int .i64 0,.int .u64 0,.int .u64 0]) (newV_st _ _ _) (fun V W kW hp=>?_) ?_
 · simp[wantsG,rhoP,List.lookup,ResG,execOp,bareOp,go_sem]
   exact⟨newV_new _ _ _ kW.size,(K.rf W).al _⟩
 intro V W kW hA
 simp only[List.nil_append,List.cons_append,AllT,isV,Nat.reduceAdd] at hA
 obtain⟨e0,e1,e2,e3,e4,e5,e6,e7,e8,e9,e10,e11,e12,e13,e14,⟨b8,e15,hb8,hx8⟩,-⟩:=hA
 have q8:=hx8.cell
 have z8:=hx8.frozen
 obtain⟨W8,hW8⟩:∃ W8,W8=World.setCell (World.setCell (World.setCell W ⟨b8,0,none⟩ (.int .i64 B.me)) ⟨b8,1,none⟩ (.int .u64 (B.st.life:Int))) ⟨b8,2,none⟩ (.int .u64 (n1:Int)):=⟨_,rfl⟩
 refine TailQ.skip W8 rfl (by rw[hW8];simp[rhoP,List.lookup,e14,e15,updV,execOp,bareOp,q8,z8,go_sem]) ?_
 refine TailQ.nil ?_
 simp only[putAll,Act.put,List.setIfInBounds_toArray,List.set_cons_succ,List.set_cons_zero,Nat.reduceAdd,updV,e0,e1,e2,e3,e4,e5,e6,e7,e8,e9,e10,e11,e12,e13,e14,e15]
 have hy8:Blk W8 b8 35 #[.int .i64 nw.1,.int .u64 (nw.2.1:Int),.int .u64 (nw.2.2:Int)]:=by
  rw[hW8,HNEW.out]
  exact ((hx8.set_ 0 (.int .i64 B.me)).set_ 1 (.int .u64 (B.st.life:Int))).set_ 2 (.int .u64 (n1:Int))
 have k8:K w2 W8:=by
  rw[hW8]
  exact K.set (K.set (K.set kW hb8 0 _) hb8 1 _) hb8 2 _
 have hr8:=hr2.below k8 hr2.lt
 have k08:=k02.tr k8
 have hne:b8≠g9:=by have:=hr2.lt;omega
 have HB8:=Lib.hid hb8
 have C3:=Lib.hid (C2.out W8 k08)
 have HW:=Lib.hid hw
 clear q8 z8 hx8 hr2 hb8 hW8 e0 e1 e2 e3 e4 e5 e6 e7 e8 e9 e10 e11 e12 e13 e14 e15 kW q2 hw C2 k8
 have q8:=hy8.cell
 go_wp2_with fail
 refine C3.out.mono ?_
 rintro e w4 ⟨v4,rfl,hO4,k4⟩
 have hgs:=HGW.out
 have hz4:=(k08.tr k4).size
 have hg94:g9<w4.heap.size:=Nat.lt_of_lt_of_le hr8.lt k4.size
 have hB4:BrV (fun k=>M k∨k=g9) _ B w4:=H.out.far (X:=fun _=>False) (UpN.of_k (k08.tr k4) _) (fun k hk=>hk.elim) (fun k hk=>hk.elim) (fun k hk hx=>hx.resolve_right (by omega)) (fun k hk=>.inl (H.out.sub k hk)) (fun k hk=>hk.elim (fun h=>Nat.lt_of_lt_of_le (HM.out k h) hz4) fun e=>by omega)
 have hfx:Fx (fun k=>M k∨k=g9) (fun W=>lst txS lay.1 v4 W) w4:=hO4.fxM fun k hk=>hk.elim (fun h=>Nat.lt_of_lt_of_le (HM.out k h) k08.size) fun e=>e ▸ hr8.lt
 have hy4:=hy8.below k4 hy8.lt
 have hr4:=hr8.below k4 hr8.lt
 have k04:=k08.tr k4
 obtain⟨A4,c4,rfl⟩:=lst_slice hfx.now
 clear C3 hO4 k4 q8 hy8 hr8 k08
 by_cases hc:lay.2=0
 rotate_left
 · have HR:Hid (R=(B,(0,0,0),lay.2)):=Lib.hid (by rw[HK2.out,if_neg hc])
   have hc2:(lay.2 != 0)=true:=by simpa using hc
   have qr:=hr4.cell
   have zr:=hr4.frozen
   clear hB4 hfx hy4 HK2
   go_wp2
   have hr91:Blk (World.setCell (World.setCell (World.setCell w4 _ _) _ _) _ _) g9 35 #[.int .i64 0,.int .u64 0,.int .u64 0]:=((hr4.set_ 0 (.int .i64 0)).set_ 1 (.int .u64 0)).set_ 2 (.int .u64 0)
   have kS:=K.set (K.set (K.set k04 (r:=g9) (by omega) 0 (.int .i64 0)) (r:=g9) (by omega) 1 (.int .u64 0)) (r:=g9) (by omega) 2 (.int .u64 0)
   clear qr zr hr4
   generalize World.setCell (World.setCell (World.setCell w4 _ _) _ _) _ _=W9 at *
   have e9:=hr91.cell
   try rw[Exit.noGoto_ret]
   refine bodyPost_ret (v:=.tuple #[idv (0,0,0),.int .i64 lay.2]) (by simp[results,Tryz.results37,go_sem,e9]) rfl ?_
   exact⟨by rw[HR.out],by rw[HR.out];exact H.out.n kS⟩
 · have HR:Hid (R=({ B with txns:=lay.1,calls:=B.calls+1 },nw,0)):=Lib.hid (by rw[HK2.out,if_pos hc])
   have q4:=hB4.blk.cell
   have z4:=hB4.blk.frozen
   have hB5:BrV (fun k=>M k∨k=g9) ⟨g,gl,gd,gr,gt,vd,vr,vp,vh,vl,vq,va,.slice A4 lay.1.length c4,vf,vw,kr⟩ { B with txns:=lay.1,calls:=n1 } ((w4.setCell ⟨g,8,none⟩ (.slice A4 lay.1.length c4)).setCell ⟨g,9,none⟩ (.int .u64 (n1:Int))):=(hB4.putT hfx).putC n1
   have u5:UpN (fun k=>k=g) w4 ((w4.setCell ⟨g,8,none⟩ (.slice A4 lay.1.length c4)).setCell ⟨g,9,none⟩ (.int .u64 (n1:Int))):=(UpN.set1 (X:=fun k=>k=g) rfl 8 _).tr (UpN.set1 (X:=fun k=>k=g) rfl 9 _)
   have hgl:g<w.heap.size:=HX.out g (.inl rfl)
   have hb8z:=HB8.out
   have hz2:=k02.size
   have hy5:=hy4.upn u5 (by omega)
   have hr5:=hr4.upn u5 (by omega)
   have hw:IntKind.u64.wrap ((B.calls:Int)+1)=(n1:Int):=HW.out
   rw[hc]
   clear hB4 hfx hc HK2 hy4 hr4
   simp only at q4 z4
   go_upto_region 11 with (fail)
   generalize (w4.setCell ⟨g,8,none⟩ _).setCell ⟨g,9,none⟩ _=w5 at *
   clear q4 z4 hw
   have q8:=hy5.cell
   have qr:=hr5.cell
   have zr:=hr5.frozen
   go_wp2
   have hr91:Blk (World.setCell (World.setCell (World.setCell w5 _ _) _ _) _ _) g9 35 #[.int .i64 nw.1,.int .u64 (nw.2.1:Int),.int .u64 (nw.2.2:Int)]:=((hr5.set_ 0 (.int .i64 nw.1)).set_ 1 (.int .u64 (nw.2.1:Int))).set_ 2 (.int .u64 (nw.2.2:Int))
   have u9:UpN (fun k=>k=g9) w5 _:=((UpN.set1 (X:=fun k=>k=g9) rfl 0 (.int .i64 nw.1)).tr (UpN.set1 (X:=fun k=>k=g9) rfl 1 (.int .u64 (nw.2.1:Int)))).tr (UpN.set1 (X:=fun k=>k=g9) rfl 2 (.int .u64 (nw.2.2:Int)))
   clear qr zr hr5 q8
   generalize World.setCell (World.setCell (World.setCell w5 _ _) _ _) _ _=W9 at *
   have e9:=hr91.cell
   have hz5:=u5.size
   have hz9:=u9.size
   have hB9:=hB5.far (M':=M) u9 (fun k hk=>.inr hk) (fun k hk hx=>by have:=HX.out k hx;omega) (fun k hk hx=>.inl hx) (fun k hk=>H.out.sub k hk) (fun k hk=>by have:=HM.out k hk;omega)
   have hU:UpN (BrX ⟨g,gl,gd,gr,gt,vd,vr,vp,vh,vl,vq,va,vt,vf,vw,kr⟩) w W9:=((UpN.of_k k04 _).tr (u5.more fun k hk=>.inl hk)).tr2 u9 fun k hk hx=>by omega
   have HB9:=Lib.hid (H.out.nset (p':=⟨g,gl,gd,gr,gt,vd,vr,vp,vh,vl,vq,va,.slice A4 lay.1.length c4,vf,vw,kr⟩) ⟨rfl,rfl,rfl,rfl,rfl,rfl,rfl⟩ hB9 hU)
   try rw[Exit.noGoto_ret]
   refine bodyPost_ret (v:=.tuple #[idv nw,.int .i64 0]) (by simp[results,Tryz.results37,go_sem,e9]) rfl ?_
   exact⟨by rw[HR.out],by rw[HR.out,<- HN1.out];exact HB9.out⟩
theorem asks_step (l:List Txn) (t:Txn):asksT (l++[t])=if t.asked=true/\(asksT l).length<4 then asksT l++[t.e] else asksT l:=by
 unfold asksT
 rw[List.filter_append,List.map_append,List.take_append]
 generalize ((l.filter Txn.asked).map Txn.e)=X
 rcases t with ⟨e,b⟩
 cases b
 · simp
 · simp only[List.length_take,true_and,List.filter_cons,if_true,List.filter_nil,List.map_cons,List.map_nil]
   split
   · rename_i h
     rw[List.take_of_length_le (l:=[e]) (by simp;omega)]
   · rename_i h
     rw[show 4 - X.length=0 by omega,List.take_zero,List.append_nil]
theorem infoEnS:(Tryz.prog.info? 42).map (fun i=>(i.zero,i.size,i.bytes))=some (some (.agg zEnt),8,96):=by kernel_rfl
theorem TEnS:SliceT Tryz.prog 32 42 (.agg zEnt) 8 96:=⟨Tryz.underlying32,infoEnS,rfl,by decide⟩
theorem Asks_calls (l:List Txn) (v:Value) (w:World) (h:lst txS l v w) (hs:∀ t∈l,smallEn t.e) (hn:l.length<=1000000) :
 Calls Tryz.prog 103 #[v] w fun e w'=>∃ v',e=.returned v'/\OwnL w.heap.size w.heap.size 42 enS (asksT l) v' w'/\K w w':=by
 obtain⟨A,c,rfl,hl,hc⟩:=h
 have HS:=Lib.hid hs
 clear hs
 have kk:=K.rf w
 go_enter Tryz.func103,Tryz.ntmps103
 go_wp2_with fail
 go_loopw [3,5,8] (fun o _ i W=>∃ j:Nat,j<=l.length/\i=.int .i64 (j:Int)/\OwnL w.heap.size w.heap.size 42 enS (asksT (l.take j)) o W/\K w W) (fun _ _ i _=>l.length - (intOf i).toNat)
 case atStart=>exact⟨0,by omega,rfl,by simpa [asksT] using OwnL.nil _ _ _ _ _,kk⟩
 case round =>
  clear kk
  obtain⟨j,hj,rfl,hO,kr⟩:=hrel
  by_cases hlt:j<l.length
  · have hji:(j:Int)<(l.length:Int):=by omega
    obtain⟨b1,off,cs,rfl,hcl,hrl,d0,d⟩:=lsr_cells hl j hlt (by decide)
    have HT:Hid (asksT (l.take (j+1))=if l[j].asked=true/\(asksT (l.take j)).length<4 then asksT (l.take j)++[l[j].e] else asksT (l.take j)):=Lib.hid (by rw[List.take_succ_eq_append_getElem hlt,asks_step])
    have hst:=HS.out _ (List.getElem_mem hlt)
    generalize l[j]=t at *
    obtain⟨vf,ve,rfl,hf,he⟩:=hrl w (K.rf w)
    obtain⟨Af,cf,rfl⟩:=flt_slice hf
    obtain⟨Ae,ce,rfl⟩:=lst_slice he
    have HE:Hid (∀ W,K w W->ent t.e (.agg (entA t.e (.slice Af t.e.f.length cf) (.slice Ae t.e.es.length ce))) W):=Lib.hid fun W k=>⟨_,_,rfl,flt_st _ _ _ _ hf k,lst_st he k⟩
    have d0:∀ W,K w W->W.cell? ⟨b1,off+j * 9,none⟩=some (.int .i64 t.e.kind):=d0
    have d:∀ W,K w W->∀ i,i<9->W.cell? ⟨b1,off+j * 9+i,none⟩=(txA t (.slice Af t.e.f.length cf) (.slice Ae t.e.es.length ce))[i]?:=fun W k i hi=>(d W k i hi).trans Array.getElem?_toList
    have htl:(asksT (l.take j)).length<=4:=by unfold asksT;rw[List.length_take];omega
    clear hrl hcl hf he
    generalize asksT (l.take j)=L at *
    obtain⟨Ao,co,rfl,-⟩:=hO.slice
    have hx:=Blk.new wr 121 (txA t (.slice Af t.e.f.length cf) (.slice Ae t.e.es.length ce))
    have kA:K wr (wr.alloc (.cells (txA t (.slice Af t.e.f.length cf) (.slice Ae t.e.es.length ce)) 121)):=(K.rf wr).al _
    go_upto_region 5 with (fail)
    have hO5:=hO.st kA
    generalize wr.alloc _=w5 at *
    generalize wr.heap.size=g5 at hx ⊢
    generalize Value.slice Af t.e.f.length cf=vf at *
    generalize Value.slice Ae t.e.es.length ce=ve at *
    have k5:=kr.tr kA
    have q:=hx.cell
    clear d d0 hO kA
    clear d d0
    have hvc:=hO5.blk
    have hg3:=hx.lt
    rcases t with ⟨te,ta⟩
    cases ta
    · have HQ:Hid (asksT (l.take (j+1))=L):=Lib.hid (by rw[HT.out];simp)
      have HO:=Lib.hid hO5
      clear HT hO5
      go_wp2
      go_roundw
      case rel=>exact⟨j+1,by omega,by go_num,by rw[HQ.out];exact HO.out,k5⟩
      case measure=>simp[intOf];omega
    · by_cases h4:L.length<4
      rotate_left
      · have h4i:¬ (L.length:Int)<4:=by omega
        have HQ:Hid (asksT (l.take (j+1))=L):=Lib.hid (by rw[HT.out,if_neg (fun h=>h4 h.2)])
        have HO:=Lib.hid hO5
        clear HT hO5 hvc
        go_wp2
        go_roundw
        case rel=>exact⟨j+1,by omega,by go_num,by rw[HQ.out];exact HO.out,k5⟩
        case measure=>simp[intOf];omega
      · have h4i:(L.length:Int)<4:=by omega
        have HQ:Hid (asksT (l.take (j+1))=L++[te]):=Lib.hid (by rw[HT.out,if_pos ⟨rfl,h4⟩])
        clear HT
        go_wp2_with fail
        refine (SWhole_calls te _ w5 (HE.out _ k5) hst).mono ?_
        rintro e w6 ⟨v6,rfl,ho,k6⟩
        have hO6:=hO5.st k6
        obtain⟨vf2,ve2,rfl,hF,hV⟩:=ho
        have kr6:=k5.tr k6
        obtain⟨css,hown,hcl,hEa⟩:=hO6
        have hz6:=k6.size
        have hz5:=k5.size
        have HF:Hid (∀ w',UpB w5.heap.size none w6 w'->flt te.f vf2 w'/\lst evS te.es ve2 w'):=Lib.hid fun w' u=>⟨flt_own (hF.up u),(hV.up (Nat.le_refl _) u).lst⟩
        obtain⟨Af2,cf2,rfl⟩:=flt_slice (flt_own hF)
        obtain⟨Ae2,ce2,rfl⟩:=lst_slice hV.lst
        have kB:K w6 (w6.alloc (.cells (entA te (.slice Af2 te.f.length cf2) (.slice Ae2 te.es.length ce2)) 42)):=(K.rf w6).al _
        have hbase:w.heap.size<=(w6.alloc (.cells (entA te (.slice Af2 te.f.length cf2) (.slice Ae2 te.es.length ce2)) 42)).heap.size:=by have:=kB.size;omega
        have hA6:(L.length+1) * 97<=140737488355328:=by omega
        clear hO5 hF hV
        go_wp2_with (at_builtin;refine wpList_app rfl _ _ 32 rfl w.heap.size 42 _ 8 96 TEnS _ _ _ rfl (World.ownsRow.alloc hown _) (w6.heap.size+1) _ 1 1 (entc te (.slice Af2 te.f.length cf2) (.slice Ae2 te.es.length ce2)) rfl ?c1 ?c2 ?c3 hbase ?_)
        case c1=>exact Reads.new w6 (entc te (.slice Af2 te.f.length cf2) (.slice Ae2 te.es.length ce2)) 42 8 1 rfl
        case c2=>have h0:=HF.out w6 (UpB.rf _ _ _);exact enS.one (x:=te) (w:=w6) ⟨_,_,rfl,h0.1,h0.2⟩
        case c3=>omega
        intro v9 w9 hown9 hg9 hat9 hb9
        have k9:=(kr6.tr kB).trans hb9
        have hO9:Hid (OwnL w.heap.size w.heap.size 42 enS (asksT (l.take (j+1))) v9 w9):=by
         rw[HQ.out]
         exact OwnL.snoc hcl (fun w' u=>hEa w' (UpB.tr (UpB.of_k kB _ _) u)) hown9 hg9 (by rw[World.size_alloc];exact hat9)
          (fun w' u=>by
           have:=HF.out w' ((UpB.tr (UpB.of_k kB _ _) u).more (by omega) (fun k hk _ e=>by have:=(hvc k e.symm).2;omega))
           exact⟨_,_,rfl,this.1,this.2⟩)
        clear hown9 hg9 hat9 hb9 hown hEa
        go_wp2
        go_roundw
        case rel=>exact⟨j+1,by omega,by go_num,hO9.out,k9⟩
        case measure=>simp[intOf];omega
  · have hji:¬ (j:Int)<(l.length:Int):=by omega
    rw[List.take_of_length_le (by omega)] at hO
    have HO:=Lib.hid hO
    clear hO
    go_wp2
    go_ret
    exact⟨_,rfl,HO.out,kr⟩
theorem exec_store {P:Program} {ρ:Operand->Value} {w:World} (s x:Operand) (T ty t:TypeId) (g o:Nat) (cur cells:Array Value) (hs:ρ s=.pointer (some ⟨g,o,none⟩)) (hx:ρ x=.agg cells) (hb:Blk w g t cur)
 (hi:(P.info? T).map (·.size)=some cells.size) (hl:o+cells.size<=cur.size) (h1:∀ u∈cells.toList,u.oneCell'=true) :
 ∃ w',(execOp ρ (bareOp (.store T s x) ty)).run P w=.ok .skip w'/\Blk w' g t (cur.toList.take o++cells.toList++cur.toList.drop (o+cells.size)).toArray/\w.grownBy w' (some g):=by
 have hst:=run_storeCells_at P g o t cells.toList 0 cur w hb (by simpa using hl) h1
 simp only[Nat.add_zero,Array.length_toList] at hst
 refine⟨_,?_,setRow_heap w g cur _ t _ hb,⟨rfl,rfl,rfl,by simp,fun k hk hne=>setRow_other w g k _ (fun e=>hne (by simp[e]))⟩⟩
 cases hq:P.info? T with
 | none=>simp[hq] at hi
 | some i =>
   have hz:cells.size=i.size:=by simp[hq] at hi;omega
   simp[execOp,bareOp,hs,hx,Instr.storeAt,Instr.sureAddr,storeVar,sizeOf,typeInfo,hq,Value.cells,hz]
   rw[<- hz,hst]
   simp[Result.andThen]
theorem find_seek (l:List Txn) (a:Idn):findT l a=match seekT l a with|none=>(txn0,false)|some k=>match l[k]? with|some t=>(t,true)|none=>(txn0,false):=by
 cases h:seekT l a with
 | none=>exact find_false (seekT_none h)
 | some k =>
   obtain⟨t,h1,h2,h3⟩:=seekT_some h
   obtain⟨hk,hkt⟩:=List.getElem?_eq_some_iff.1 h1
   have:l.find? (isId a)=some t:=by
    rw[List.find?_eq_some_iff_getElem]
    exact⟨by simp[isId,h2],k,hk,hkt,fun j hj=>by
     have:=h3 j hj l[j] (List.getElem?_eq_getElem _)
     simp[isId,this]⟩
   unfold findT
   rw[this]
   simp only[h1]
abbrev zTx:Array Value:=#[.int .i64 0,.int .i64 0,.int .u64 0,.int .u64 0,.int .i64 0,.int .u64 0,.slice none 0 0,.slice none 0 0,.bool false]
theorem TFind_calls (l:List Txn) (a:Idn) (v:Value) (w:World) (h:lst txS l v w) (hs:∀ s∈l,smallEn s.e) (hlen:l.length<=1000000) :
 Calls Tryz.prog 57 #[v,idv a] w fun e w'=>∃ u,e=.returned (.tuple #[u,.bool (findT l a).2])/\txv (findT l a).1 u w'/\K w w':=by
 have C2:=Lib.hid fun W (kW:K w W)=>Seek_calls l a v W (lst_st h kW) hlen
 obtain⟨A,c,rfl,hl,hc⟩:=h
 have hx:=(Blk.new w 35 #[.int .i64 a.1,.int .u64 (a.2.1:Int),.int .u64 (a.2.2:Int)]).alloc (.cells zTx 121)
 have hr:=Blk.new (w.alloc (.cells #[.int .i64 a.1,.int .u64 (a.2.1:Int),.int .u64 (a.2.2:Int)] 35)) 121 zTx
 have k1:K w ((w.alloc (.cells #[.int .i64 a.1,.int .u64 (a.2.1:Int),.int .u64 (a.2.2:Int)] 35)).alloc (.cells zTx 121)):=((K.rf w).al _).al _
 have hz:(w.alloc (.cells #[.int .i64 a.1,.int .u64 (a.2.1:Int),.int .u64 (a.2.2:Int)] 35)).heap.size=w.heap.size+1:=by simp
 rw[hz] at hr
 clear hz
 have HI:Hid (seekI l a=match seekT l a with|some k=>(k:Int)|none=>-1):=Lib.hid rfl
 have HC:=Lib.hid (find_seek l a)
 have HO:=Lib.hid fun k h=>@seekT_some l a k h
 generalize findT l a=R at *
 go_enter Tryz.func57,Tryz.ntmps57
 go_upto_region 1 with (fail)
 generalize World.alloc (World.alloc w _) _=w1 at *
 have q:=hx.cell
 go_wp2_with fail
 clear q
 refine (C2.out w1 k1).mono ?_
 rintro e w2 ⟨rfl,k2⟩
 have k02:=k1.tr k2
 have hr2:=hr.below k2 hr.lt
 have hrg:w.heap.size<=w.heap.size+1:=by omega
 generalize w.heap.size+1=g4 at *
 generalize seekI l a=I at *
 clear hx hr C2
 cases ho:seekT l a with
 | none =>
   obtain rfl:I=-1:=by rw[HI.out,ho]
   have HQ:Hid (R=(txn0,false)):=Lib.hid (by rw[HC.out,ho])
   clear ho HI HC HO
   have q:=hr2.cell
   have z:=hr2.frozen
   go_wp2
   have hr9:=((((((((hr2.set_ 0 (.int .i64 0)).set_ 1 (.int .i64 0)).set_ 2 (.int .u64 0)).set_ 3 (.int .u64 0)).set_ 4 (.int .i64 0)).set_ 5 (.int .u64 0)).set_ 6 (.slice none 0 0)).set_ 7 (.slice none 0 0)).set_ 8 (.bool false)
   have e9:=hr9.cell
   refine bodyPost_ret (v:=.tuple #[.agg zTx,.bool false]) (by simp[results,Tryz.results57,go_sem,e9]) rfl ?_
   refine⟨.agg zTx,by rw[HQ.out],by rw[HQ.out];exact nil_txv txn0 rfl rfl _,?_⟩
   exact ((((((((k02.setCell (by exact hrg) _).setCell (by exact hrg) _).setCell (by exact hrg) _).setCell (by exact hrg) _).setCell (by exact hrg) _).setCell (by exact hrg) _).setCell (by exact hrg) _).setCell (by exact hrg) _).setCell (by exact hrg) _
 | some k =>
   obtain rfl:I=(k:Int):=by rw[HI.out,ho]
   obtain⟨t,h1,-⟩:=HO.out k ho
   have HQ:Hid (R=(t,true)):=Lib.hid (by rw[HC.out,ho];simp only[h1])
   obtain⟨hk,hkt⟩:=List.getElem?_eq_some_iff.1 h1
   have hki:(k:Int)<(l.length:Int):=by omega
   have hk0:¬ (k:Int)<0:=by omega
   obtain⟨b1,off,cs,rfl,hcl,hrl,d0,d⟩:=lsr_cells hl k hk (by decide)
   have hst:=hs _ (List.getElem_mem hk)
   rw[hkt] at hrl hst
   obtain⟨vf,ve,rfl,hf,he⟩:=hrl w (K.rf w)
   have HE:Hid (∀ W,K w W->ent t.e (.agg (entA t.e vf ve)) W):=Lib.hid fun W k=>⟨_,_,rfl,flt_st _ _ _ _ hf k,lst_st he k⟩
   have d0:∀ W,K w W->W.cell? ⟨b1,off+k * 9,none⟩=some (.int .i64 t.e.kind):=d0
   have d:∀ W,K w W->∀ i,i<9->W.cell? ⟨b1,off+k * 9+i,none⟩=(txA t vf ve)[i]?:=fun W kk i hi=>(d W kk i hi).trans Array.getElem?_toList
   clear hrl hcl hf he ho HI HC HO h1 hkt
   go_upto_region 4 with (fail)
   obtain⟨gb,hgb⟩:∃ gb,gb=w2.heap.size:=⟨_,rfl⟩
   have hg4:g4<gb:=by rw[hgb];exact hr2.lt
   obtain⟨C,hC⟩:∃ C:World->Prop,C=fun W=>K w W/\gb<=W.heap.size:=⟨_,rfl⟩
   have hg:∀ W W',C W->Below W.heap.size W W'->C W':=by
    subst hC
    rintro W W' ⟨h1,h0⟩ hb
    exact⟨h1.tr hb,Nat.le_trans h0 hb.size⟩
   have hc0:C w2:=by rw[hC];exact⟨k02,by omega⟩
   have hrow:∀ b,some g4=some b->b<gb:=by rintro b e;cases e;exact hg4
   refine wp_region_turn2 12 C (fun W=>Blk W g4 121 zTx) (fun W=>∃ vf ve,Blk W g4 121 (txA t vf ve)/\flt t.e.f vf W/\lst evS t.e.es ve W) (fun W W'=>W.grownBy W' (some g4)) [isV (.slice (some ⟨b1,off,none⟩) l.length c),
    isV (.int .i64 k),
    isV (.pointer (some ⟨b1,off+k * 9,none⟩)),
    isV (.pointer (some ⟨b1,off+k * 9,none⟩)),
    isV (.agg (entA t.e vf ve)),
    entF gb t.e,
    isV (.slice (some ⟨b1,off,none⟩) l.length c),
    isV (.int .i64 k),
    isV (.pointer (some ⟨b1,off+k * 9,none⟩)),
    isV (.pointer (some ⟨b1,off+k * 9+8,none⟩)),
    isV (.bool t.asked),
    txF gb t,
    anyV,
    isV (.bool true)]
    [([],[]),([],[]),([0,1],[(13,0),(14,1)]),([2],[(15,2)]),([3],[(16,3)]),([4],[(17,4)]),([],[]),([],[]),([6,7],[(19,6),(20,7)]),([8],[(21,8)]),([9],[(22,9)]),([5,10],[(18,5),(23,10)]),([11],[(24,11)]),([],[])] 25 rfl (by kernel_rfl) (by kernel_rfl) (by kernel_rfl) (by decide) hg (fun W W' h k=>h.below k h.lt) (fun W W' h k=>by obtain⟨vf,ve,h1,h2,h3⟩:=h;exact⟨vf,ve,h1.below k h1.lt,flt_st _ _ _ _ h2 k,lst_st h3 k⟩) (by exact hg _ _ hc0 (Below.drew (Below.refl _ _))) hr2.drew ?st ?st2 ?ow ?_
   case st =>
    simp only[List.forall_mem_cons]
    and_intros
    all_goals first|exact isV_st _|exact anyV_st|exact entF_st _ _|exact txF_st _ _|simp
   case st2 =>
    simp only[List.zipIdx_cons,List.zipIdx_nil,List.forall_mem_cons,Nat.zero_add,Nat.reduceAdd]
    and_intros
    all_goals first|exact .inl rfl|exact .inr (fun _ _ _ h _=>h)|exact .inr (entF_row hrow)|exact .inr (txF_row hrow)|simp
   case ow =>
    simp only[OwedT]
    and_intros
    all_goals try trivial
    all_goals
     simp only[Nat.reduceEqDiff,if_false,Nat.reduceAdd]
    all_goals
     first
     | (intro V w' hc hD hp
        have hD2:Blk w' g4 121 zTx:=hD
        simp only[List.forall_mem_cons,tab_zero,tab_succ] at hp
        rw[hC] at hc
        obtain⟨kw,hgw⟩:=hc)
     | (intro V w' hc hp
        rw[hC] at hc
        obtain⟨kw,hgw⟩:=hc
        have q0:=d0 w' kw
        have q:=d w' kw
        try simp only[List.forall_mem_cons,tab_zero,tab_succ,isV] at hp
        try simp[wantsG,rhoP,List.lookup,hp,tab_zero,tab_succ,ResG,execOp,bareOp,isV,undef,Below.refl,q,q0,hki,go_sem])
     | skip
    · refine (SWhole_calls t.e _ w' (HE.out _ kw) hst).mono ?_
      rintro e w'' ⟨v,rfl,ho,hb⟩
      exact⟨v,rfl,entO_entF (by omega) ho,hb⟩
    · obtain⟨⟨vf3,ve3,e3,hF⟩,h5,-⟩:=hp
      simp[e3,go_sem]
      exact⟨⟨vf3,ve3,rfl,hF⟩,Below.refl _ _⟩
    · obtain⟨⟨vf3,ve3,e3,hF⟩,-⟩:=hp
      have h0:=hF w' (UpB.rf _ _ _)
      generalize hA:rhoP [(24,11)] _ V=ρ9
      have es4:ρ9 (.tmp 4)=.pointer (some ⟨g4,0,none⟩):=by rw[<- hA];rfl
      have ex4:ρ9 (.tmp 24)=.agg (txA t vf3 ve3):=by rw[<- hA];exact e3
      obtain⟨w'',hrun,hb2,hg2⟩:=exec_store (P:=Tryz.prog) (ρ:=ρ9) (.tmp 4) (.tmp 24) 121 0 121 g4 0 zTx (txA t vf3 ve3) es4 ex4 hD2 (by have:=infoTx;cases hq:Tryz.prog.info? 121 with
       | none=>rw[hq] at this;cases this
       | some i=>rw[hq] at this;simp at this;simp[this.2.1]) (by simp) (txS.one (x:=t) (w:=w') ⟨vf3,ve3,rfl,h0.1,h0.2⟩)
      rw[hrun]
      have h9:=hF w'' (UpB.row hg2 hrow)
      refine⟨trivial,?_,⟨vf3,ve3,hb2,h9.1,h9.2⟩,hg2⟩
      rw[hC]
      exact⟨(UpB.of_mut hg2 0).k kw (by rintro b e;cases e;exact hrg),Nat.le_trans hgw hg2.size⟩
   intro V W hc hD1 hp
   have h13:=hp 13 (by simp)
   simp only[tab_zero,tab_succ,isV] at h13
   rw[hC] at hc
   have kW:=hc.1
   obtain⟨vf9,ve9,hb9,hf9,he9⟩:=hD1
   have HW:Hid (txv t (.agg (txA t vf9 ve9)) W):=Lib.hid ⟨vf9,ve9,rfl,hf9,he9⟩
   have e9:=hb9.cell
   clear hp hc hg hc0 hC hf9 he9
   simp only[putAll,Act.put,List.setIfInBounds_toArray,List.set_cons_succ,List.set_cons_zero]
   go_wp2
   refine bodyPost_ret (v:=.tuple #[.agg (txA t vf9 ve9),.bool true]) (by simp[results,Tryz.results57,go_sem,e9,h13]) rfl ?_
   exact⟨_,by rw[HQ.out],by rw[HQ.out];exact HW.out,kW⟩
def evF (g:Nat) (e:List Att) (v:Value) (W:World):Prop:=∀ W',UpB g none W W'->evt e v W'
def evR (g:Nat) (T:TypeId) (e:List Att) (v:Value) (W:World):Prop:=∃ g' u,v=.slice (some ⟨g',0,none⟩) 1 1/\g<=g'/\Blk W g' T #[u]/\∀ W',UpB g none W W'->evt e u W'
theorem evF_st (g:Nat) (e:List Att):∀ v w w',evF g e v w->Below w.heap.size w w'->evF g e v w':=by
 rintro v w w' h k
 exact fun W' u=>h W' ((UpB.of_k k _ _).tr u)
theorem evF_row {g:Nat} {e:List Att} {row:Option Nat} (hr:∀ b,row=some b->b<g):∀ v w w',evF g e v w->w.grownBy w' row->evF g e v w':=by
 rintro v w w' h k
 exact fun W' u=>h W' ((UpB.row k hr).tr u)
theorem evR_st (g:Nat) (T:TypeId) (e:List Att):∀ v w w',evR g T e v w->Below w.heap.size w w'->evR g T e v w':=by
 rintro v w w' ⟨g',u,e0,hg,hb,h⟩ k
 exact⟨g',u,e0,hg,hb.below k hb.lt,fun W' u=>h W' ((UpB.of_k k _ _).tr u)⟩
theorem evR_row {g:Nat} {T:TypeId} {e:List Att} {row:Option Nat} (hr:∀ b,row=some b->b<g):∀ v w w',evR g T e v w->w.grownBy w' row->evR g T e v w':=by
 rintro v w w' ⟨g',u,e0,hg,hb,h⟩ k
 exact⟨g',u,e0,hg,hb.grown k (fun e=>by have:=hr g' e.symm;omega),fun W' u=>h W' ((UpB.row k hr).tr u)⟩
def evQ (g B:Nat) (T:TypeId) (n:Nat) (xs:List Value) (e:List Att) (v:Value) (W:World):Prop:=∃ u,W.ownsRow B T 1 v (n+1) (xs++[u])/\∀ W',UpB g none W W'->evt e u W'
theorem evQ_st (g B:Nat) (T:TypeId) (n:Nat) (xs:List Value) (e:List Att):∀ v w w',evQ g B T n xs e v w->Below w.heap.size w w'->evQ g B T n xs e v w':=by
 rintro v w w' ⟨u,h1,h⟩ k
 exact⟨u,row_below h1 k,fun W' u=>h W' ((UpB.of_k k _ _).tr u)⟩
