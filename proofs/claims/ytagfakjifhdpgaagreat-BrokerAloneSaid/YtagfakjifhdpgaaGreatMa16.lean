/-
  Disks of records and the state that they make, in plain Lean (layers 9, 10, 16, 20). Conditions: none.
-/
import Derived.Test.YtagfakjifhdpgaaGreatMa15
set_option maxRecDepth 100000
set_option maxHeartbeats 16000000
set_option linter.unusedVariables false
set_option linter.unusedSimpArgs false
namespace Go.Proofs.YtagfakjifhdpgaaGreat
open Go Go.RowKit
structure DskG (d:Dsk) (s:Stt):Prop where
 recs:∀ r∈d.recs,okRec r=true/\fitRec r/\(encRec r).length<=4000
 run:runS st0 d.recs=some s
 fit:dkLen d.recs<=d.room
 room:d.room<=1048576
theorem packN_pos (n:Nat):1<=(packN n).length:=by unfold packN;simp
theorem encRec_pos (r:Rec):1<=(encRec r).length:=by
 have:=packN_pos (kindN r.kind)
 unfold encRec
 simp only[List.length_append]
 omega
theorem okFr_rec {r:Rec} (h:(encRec r).length<=4000):okFr (encRec r)=true:=by
 have:=encRec_pos r
 simp[okFr,h]
 exact this
theorem frames_recs (l:List Rec):(frames (l.map encRec)).length=dkLen l:=by
 induction l with
 | nil=>rfl
 | cons r l ih =>
   simp only[frames,List.map_cons,List.flatMap_cons,List.length_append,frame_len] at ih ⊢
   simp only[dkLen,List.map_cons,List.sum_cons] at ih ⊢
   rw[ih]
theorem dkLen_app (l m:List Rec):dkLen (l++m)=dkLen l+dkLen m:=by simp[dkLen]
theorem dkLen_cnt (l:List Rec):7 * l.length<=dkLen l:=by
 induction l with
 | nil=>simp[dkLen]
 | cons r l ih =>
   have:=encRec_pos r
   simp only[dkLen,List.map_cons,List.sum_cons,List.length_cons,frN] at ih ⊢
   omega
theorem run_inv (l:List Rec) (h:∀ r∈l,okRec r=true/\fitRec r):∀ s t,InvS s->runS s l=some t->InvS t:=by
 induction l with
 | nil=>intro s t i e;injection e with e;exact e ▸ i
 | cons r l ih =>
   intro s t i e
   simp only[runS] at e
   cases h1:onS s r with
   | none=>rw[h1] at e;cases e
   | some u =>
     rw[h1] at e
     obtain⟨a,b⟩:=h r (by simp)
     exact ih (fun q hq=>h q (by simp[hq])) u t (i.on a b h1) e
theorem run_len (l:List Rec):∀ s t,runS s l=some t->t.list.length<=s.list.length+l.length/\t.prom.length<=s.prom.length+l.length/\t.ab.length<=s.ab.length+l.length:=by
 induction l with
 | nil=>intro s t e;injection e with e;subst e;simp
 | cons r l ih =>
   intro s t e
   simp only[runS] at e
   cases h1:onS s r with
   | none=>rw[h1] at e;cases e
   | some u =>
     rw[h1] at e
     have a:=len_on s u r h1
     have b:=ih u t e
     simp only[List.length_cons]
     omega
theorem dropE_le (l:List Ent) (a:Idn):(dropE l a).length<=l.length:=List.length_filter_le _ _
theorem tot_on {s t:Stt} {r:Rec} (e:onS s r=some t):t.list.length+t.prom.length+t.ab.length<=s.list.length+s.prom.length+s.ab.length+1:=by
 unfold onS on1 on2 on3 on4 on5 at e
 repeat' split at e
 all_goals first|(cases e;done)|(injection e with e;subst e)
 all_goals simp only[List.length_append,List.length_cons,List.length_nil]
 all_goals first
  | omega
  | (have:=dropE_le s.prom (idE r.e);omega)
  | (have:=dropE_le s.prom (idR r);omega)
theorem run_tot (l:List Rec):∀ s t,runS s l=some t->t.list.length+t.prom.length+t.ab.length<=s.list.length+s.prom.length+s.ab.length+l.length:=by
 induction l with
 | nil=>intro s t e;injection e with e;subst e;simp
 | cons r l ih =>
   intro s t e
   simp only[runS] at e
   cases h1:onS s r with
   | none=>rw[h1] at e;cases e
   | some u =>
     rw[h1] at e
     have a:=tot_on h1
     have b:=ih u t e
     simp only[List.length_cons]
     omega
theorem recsS_on {s t:Stt} {r:Rec} (hok:okRec r=true) (e:onS s r=some t):∀ q∈recsS t,q∈recsS s∨q=r∨q.kind=1:=by
 have hd:∀ (p:List Ent) a q,q∈recP (dropE p a)->q∈recP p:=fun p a q hq=>by
  unfold recP at hq ⊢
  obtain⟨x,hx,rfl⟩:=List.mem_map.1 hq
  exact List.mem_map_of_mem (dropE_mem.1 hx).1
 have h1:∀ n,∀ q∈rec1 n,q.kind=1:=fun n q hq=>by
  unfold rec1 at hq
  split at hq
  · cases hq
  · simp at hq;rw[hq]
 intro q hq
 obtain⟨k,n,x,b,l,c⟩:=r
 have hk:=okRec_kind hok
 simp only at hk
 unfold recsS at hq ⊢
 simp only[List.mem_append] at hq ⊢
 unfold onS on1 on2 on3 on4 on5 at e
 simp only at e
 repeat' split at e
 all_goals first|(cases e;done)|(injection e with e;subst e)
 all_goals try simp only at hq ⊢
 all_goals rcases hq with ((hq|hq)|hq)|hq
 all_goals first
  | exact .inr (.inr (h1 _ _ hq))
  | exact .inl (.inl (.inl (.inr hq)))
  | exact .inl (.inl (.inr hq))
  | exact .inl (.inl (.inr (hd _ _ _ hq)))
  | exact .inl (.inr hq)
  | skip
 · unfold recL at hq
   rename_i h2 hn h3 h4
   try simp only[Decidable.not_not] at hn
   rw[List.zipIdx_append,List.map_append,List.mem_append] at hq
   rcases hq with hq|hq
   · exact .inl (.inl (.inl (.inr hq)))
   · simp at hq
     rcases hk with ⟨g,_⟩|⟨_,-,rfl,rfl,rfl⟩|⟨g,_⟩
     · omega
     · exact .inr (.inl (by rw[hq,hn,h2]))
     · omega
 · unfold recP at hq
   rename_i h2 h3 h4 h5 h6
   rw[List.map_append,List.mem_append] at hq
   rcases hq with hq|hq
   · exact .inl (.inl (.inr hq))
   · simp at hq
     rcases hk with ⟨g,_⟩|⟨g,-,rfl,rfl,rfl⟩|⟨g,_⟩
     · omega
     · obtain⟨rfl,rfl⟩:k=3/\n=0:=by omega
       exact .inr (.inl hq)
     · omega
 · unfold recB at hq
   rename_i h2 h3 h4 h5 h6
   rw[List.map_append,List.mem_append] at hq
   rcases hq with hq|hq
   · exact .inl (.inr hq)
   · simp at hq
     rcases hk with ⟨g,_⟩|⟨g,_⟩|⟨_,_,rfl,rfl⟩
     · omega
     · omega
     · subst h4
       exact .inr (.inl hq)
theorem recsS_run (l:List Rec) (h:∀ r∈l,okRec r=true):∀ s t,runS s l=some t->∀ q∈recsS t,q∈recsS s∨q∈l∨q.kind=1:=by
 induction l with
 | nil=>intro s t e q hq;injection e with e;subst e;exact .inl hq
 | cons r l ih =>
   intro s t e q hq
   simp only[runS] at e
   cases h1:onS s r with
   | none=>rw[h1] at e;cases e
   | some u =>
     rw[h1] at e
     rcases ih (fun q hq=>h q (by simp[hq])) u t e q hq with a|a|a
     · rcases recsS_on (h r (by simp)) h1 q a with b|b|b
       · exact .inl b
       · exact .inr (.inl (by simp[b]))
       · exact .inr (.inr b)
     · exact .inr (.inl (by simp[a]))
     · exact .inr (.inr a)
section
variable {d:Dsk} {s t:Stt} {r:Rec}
theorem DskG.inv (h:DskG d s):InvS s:=run_inv _ (fun r hr=>⟨(h.recs r hr).1,(h.recs r hr).2.1⟩) _ _ InvS.zero h.run
theorem DskG.cnt (h:DskG d s):d.recs.length<=150000:=by
 have:=dkLen_cnt d.recs
 have:=h.fit
 have:=h.room
 omega
theorem DskG.len (h:DskG d s):s.list.length<=150000/\s.prom.length<=150000/\s.ab.length<=150000:=by
 have a:=run_len _ _ _ h.run
 have b:=h.cnt
 simp only[st0,List.length_nil] at a
 omega
theorem DskG.tot (h:DskG d s):s.list.length+s.prom.length+s.ab.length<=150000:=by
 have a:=run_tot _ _ _ h.run
 have b:=h.cnt
 simp only[st0,List.length_nil] at a
 omega
theorem DskG.next (h:DskG d s) (hok:okRec r=true) (hf:fitRec r) (hr:fitsR d r=true) (e:onS s r=some t):DskG ⟨d.recs++[r],d.room⟩ t:=by
 simp only[fitsR,Bool.and_eq_true,decide_eq_true_eq] at hr
 refine⟨fun q hq=>?_,?_,?_,h.room⟩
 · simp only[List.mem_append,List.mem_singleton] at hq
   rcases hq with hq|rfl
   · exact h.recs q hq
   · exact⟨hok,hf,hr.1⟩
 · show runS st0 (d.recs++[r])=_
   rw[runS_app,h.run]
   simp[runS,e]
 · rw[dkLen_app]
   have:dkLen [r]=frN (encRec r):=by simp[dkLen]
   rw[this]
   exact hr.2
theorem InvS.lifeS (h:InvS s):InvS (lifeS s):=⟨h.nl,h.np,h.na,h.lp,h.la,h.pa,h.okl,h.okp,h.oka,Nat.mod_lt _ (by decide)⟩
theorem DskG.small (h:DskG d s):∀ q∈recsS (lifeS s),(encRec q).length<=4000:=by
 intro q hq
 have h1:=recs_ok h.inv.lifeS (by have:=h.len;show s.list.length<=_;omega) q hq
 have hk:q∈recsS s∨q.kind=1:=by
  unfold recsS at hq ⊢
  simp only[List.mem_append] at hq ⊢
  rcases hq with ((hq|hq)|hq)|hq
  · right
    unfold rec1 at hq
    split at hq
    · cases hq
    · simp at hq;rw[hq]
  · exact .inl (.inl (.inl (.inr hq)))
  · exact .inl (.inl (.inr hq))
  · exact .inl (.inr hq)
 have hk2:q∈d.recs∨q.kind=1:=by
  rcases hk with a|a
  · rcases recsS_run _ (fun r hr=>(h.recs r hr).1) _ _ h.run q a with b|b|b
    · simp[recsS,st0,rec1,recL,recP,recB] at b
    · exact .inl b
    · exact .inr b
  · exact .inr a
 rcases hk2 with a|a
 · exact (h.recs q a).2.2
 · have e:encRec q=packN (kindN q.kind)++packN q.n:=by unfold encRec;rw[if_neg (by omega),if_neg (by omega)];simp
   have a1:=packN_len (kindN q.kind) (kindN_lt q.kind)
   have a2:=packN_len q.n h1.2.2.1
   rw[e,List.length_append]
   omega
theorem DskG.life (h:DskG d s) (hl:dkLen (recsS (lifeS s))<=d.room):DskG ⟨recsS (lifeS s),d.room⟩ (lifeS s):=by
 have h1:=recs_ok h.inv.lifeS (by have:=h.len;show s.list.length<=_;omega)
 exact⟨fun q hq=>⟨(h1 q hq).1,(h1 q hq).2,h.small q hq⟩,run_recs h.inv.lifeS,hl,h.room⟩
theorem DskG.new {room:Nat} (h:room<=1048576):DskG ⟨[],room⟩ st0:=⟨by simp,rfl,by simp[dkLen],h⟩
end
structure DkV (gd:Nat) (vh:Value) (l:List UInt8) (lasts room:Nat) (w:World):Prop where
 blk:Blk w gd 92 #[vh,.int .i64 (lasts:Int),.int .i64 (room:Int)]
 own:Own w 0 5 vh l
 len:l.length<=room
 room:room<=1048576
def DkX (gd:Nat) (vh:Value) (k:Nat):Prop:=k=gd∨vh.ownBlock=some k
structure DkU (gd:Nat) (vh vh':Value) (w w':World):Prop where
 up:UpN (DkX gd vh) w w'
 new:∀ k,DkX gd vh' k->DkX gd vh k∨w.heap.size<=k
section
variable {gd:Nat} {vh vh' vh'':Value} {l:List UInt8} {lasts room:Nat} {w w' w'':World}
theorem DkV.st (h:DkV gd vh l lasts room w) (k:K w w'):DkV gd vh l lasts room w':=⟨h.blk.below k h.blk.lt,row_below h.own k,h.len,h.room⟩
theorem DkV.ne (h:DkV gd vh l lasts room w):vh.ownBlock≠some gd:=fun e=>by
 obtain⟨cur,h1⟩:=row_blk h.own e
 exact absurd (h1.unlike h.blk) (by decide)
theorem DkV.lt (h:DkV gd vh l lasts room w):∀ k,DkX gd vh k->k<w.heap.size:=fun k hk=>hk.elim (fun e=>e ▸ h.blk.lt) fun e=>(h.own.lt k e).2
theorem DkU.rf (k:K w w'):DkU gd vh vh w w':=⟨UpN.of_k k _,fun _ h=>.inl h⟩
theorem DkU.tr (h:DkU gd vh vh' w w') (k:DkU gd vh' vh'' w' w''):DkU gd vh vh'' w w'' :=
 ⟨h.up.tr2 k.up fun b hb hx=>(h.new b hx).resolve_right (by omega),fun b hb=>(k.new b hb).elim (fun h1=>h.new b h1) fun h1=>.inr (Nat.le_trans h.up.size h1)⟩
theorem DkU.k (h:DkU gd vh vh' w w') (k:K w' w''):DkU gd vh vh' w w'':=h.tr (DkU.rf k)
end
theorem DNew_ok (room:Nat) (w:World) (h:room<=1048576) :
 Calls Tryz.prog 10 #[.int .i64 (room:Int)] w fun e w'=>e=.returned (.tuple #[.pointer (some ⟨w.heap.size,0,none⟩),.int .i64 0])/\DkV w.heap.size (.slice none 0 0) [] 0 room w'/\K w w':=by
 have h1:¬ (room:Int)<0:=by omega
 have h2:¬ 1048576<(room:Int):=by omega
 have hb:=Blk.new w 92 #[.slice none 0 0,.int .i64 0,.int .i64 (room:Int)]
 have k1:=(K.rf w).al (.cells #[.slice none 0 0,.int .i64 0,.int .i64 (room:Int)] 92)
 go_enter Tryz.func10,Tryz.ntmps10
 go_wp2
 go_ret2
 exact⟨rfl,⟨hb,World.ownsRow_nil _ _ _ _,by simp,h⟩,k1⟩
def apD (l b:List UInt8) (room:Nat):List UInt8×Int:=if l.length+b.length<=room then (l++b,0) else (l,90)
theorem DAppend_calls (gd:Nat) (vh v:Value) (l b:List UInt8) (lasts room:Nat) (w:World) (h:DkV gd vh l lasts room w) (hb:sl b v w) (hn:b.length<=1000000000) :
 Calls Tryz.prog 271 #[.pointer (some ⟨gd,0,none⟩),v] w fun e w'=>∃ vh',e=.returned (.int .i64 (apD l b room).2)/\DkV gd vh' (apD l b room).1 lasts room w'/\DkU gd vh vh' w w':=by
 have HA:Hid (apD l b room=if l.length+b.length<=room then (l++b,0) else (l,90)):=Lib.hid rfl
 generalize apD l b room=R at *
 have hne:=h.ne
 obtain⟨A,c,rfl,-⟩:=h.own.slice
 obtain⟨Ab,cb,rfl,hRb⟩:=hb
 have hlen:=h.len
 have hroom:=h.room
 have q:=h.blk.cells
 have H:=Lib.hid h
 clear h
 go_enter Tryz.func271,Tryz.ntmps271
 go_wp2
 refine wp_scope_fwd 0 rfl ?_
 have hw1:IntKind.i64.wrap ((room:Int) - (l.length:Int))=(room:Int) - (l.length:Int):=IntWalk.i64_in _ (by omega)
 go_upto_region 3 with (fail)
 refine wp_region_auto 13 [([],[]),([0],[(7,0)]),([],[]),([2],[(9,2)]),([3],[(10,3)]),([4],[(11,4)]),([],[]),([6],[(13,6)]),([7],[(14,7)]),([8],[(15,8)]),([9],[(16,9)]),([5,10],[(12,5),(17,10)]),([1,11],[(8,1),(18,11)])] 29 rfl (by kernel_rfl) (by kernel_rfl) (by kernel_rfl) (by kernel_rfl) (by decide) ?_
 simp only[List.take_succ_cons,List.take_zero,List.drop_succ_cons,List.drop_zero]
 iterate 13 (apply AutoQ.is;intro V W kW hp;(try simp only[List.forall_mem_cons,List.nil_append,List.cons_append,tab_zero,tab_succ,isV] at hp);simp[wantsG,rhoP,List.lookup,hp,ResG,execOp,bareOp,isV,Below.refl,kW,q,hw1,go_sem];rfl)
 intro V W kW hA
 simp only[List.nil_append,List.cons_append,AllT,isV,Nat.reduceAdd] at hA
 refine TailQ.nil ?_
 simp only[putAll,Act.put,List.setIfInBounds_toArray,List.set_cons_succ,List.set_cons_zero,Nat.reduceAdd,hA]
 clear hA q hw1
 have HW:=Lib.hid (H.out.st kW)
 have hRW:=(hRb.below kW (Nat.le_refl _)).more kW.size
 have q:=HW.out.blk.cell
 have z:=HW.out.blk.frozen
 by_cases hfit:l.length+b.length<=room
 · have hd:decide ((room:Int) - (l.length:Int)<(b.length:Int))=false:=by simp;omega
   have HR:Hid (R=(l++b,0)):=Lib.hid (by rw[HA.out,if_pos hfit])
   go_wp2_with (at_builtin;refine wpList_app rfl _ _ 62 rfl 0 5 _ 1 1 TB _ _ _ rfl HW.out.own _ Ab b.length cb (bys b) rfl hRW (bys_one b) ?p1 (Nat.zero_le _) ?_)
   case p1=>omega
   intro v2 w2 ho2 hg2 hat2 hb2
   have ho:Own w2 0 5 v2 (l++b):=by unfold Own;rw[bys_append,List.length_append];exact ho2
   have hx2:=HW.out.blk.grown hg2 fun e=>hne e.symm
   have hne2:v2.ownBlock≠some gd:=fun e=>by
    obtain⟨cur,h1⟩:=row_blk ho e
    exact absurd (h1.unlike hx2) (by decide)
   have hV:DkV gd v2 (l++b) lasts room (w2.setCell ⟨gd,0,none⟩ v2) :=
    ⟨hx2.set_ 0 v2,row_upn ho (UpN.set1 (X:=fun k=>k=gd) rfl 0 v2) fun k hk e=>hne2 (by rw[hk,e]),by simp;omega,hroom⟩
   have hU:DkU gd (.slice A l.length c) v2 w (w2.setCell ⟨gd,0,none⟩ v2):=by
    have hsz:=kW.size
    refine⟨((UpN.of_k kW _).tr (UpN.of_mut hg2 fun k hk=>.inr hk)).tr (UpN.set1 (.inl rfl) 0 v2),fun k hk=>?_⟩
    rcases hk with hk|hk
    · exact .inl (.inl hk)
    · rcases hat2 with e|e <;> rw[e] at hk
      · exact .inl (.inr hk)
      · injection hk with hk;exact .inr (by omega)
   clear q z
   have q2:=hx2.cell
   have z2:=hx2.frozen
   obtain⟨A2,c2,rfl,-⟩:=ho.slice
   simp only[List.length_append] at hV hU
   go_wp2
   simp only[Exit.jump]
   go_ret
   exact⟨_,by rw[HR.out];rfl,by rw[HR.out];exact hV,hU⟩
 · have hd:decide ((room:Int) - (l.length:Int)<(b.length:Int))=true:=by simp;omega
   have HR:Hid (R=(l,90)):=Lib.hid (by rw[HA.out,if_neg hfit])
   go_wp2_with fail
   go_step3
   refine⟨rfl,?_⟩
   go_wp2
   rw[Exit.noGoto_ret]
   go_ret
   exact⟨_,by rw[HR.out];rfl,by rw[HR.out];exact HW.out,DkU.rf kW⟩
theorem DSync_calls (gd:Nat) (vh:Value) (l:List UInt8) (lasts room:Nat) (w:World) (h:DkV gd vh l lasts room w) :
 Calls Tryz.prog 246 #[.pointer (some ⟨gd,0,none⟩)] w fun e w'=>e=.returned (.int .i64 0)/\DkV gd vh l l.length room w'/\DkU gd vh vh w w':=by
 have hne:=h.ne
 obtain⟨A,c,rfl,-⟩:=h.own.slice
 have q:=h.blk.cell
 have z:=h.blk.frozen
 have hV:DkV gd (.slice A l.length c) l l.length room (w.setCell ⟨gd,1,none⟩ (.int .i64 (l.length:Int))) :=
  ⟨h.blk.set_ 1 (.int .i64 (l.length:Int)),row_upn h.own (UpN.set1 (X:=fun k=>k=gd) rfl 1 _) fun k hk e=>hne (by rw[hk,e]),h.len,h.room⟩
 have hU:DkU gd (.slice A l.length c) (.slice A l.length c) w (w.setCell ⟨gd,1,none⟩ (.int .i64 (l.length:Int))):=⟨UpN.set1 (.inl rfl) 1 _,fun _ h=>.inl h⟩
 clear h
 go_enter Tryz.func246,Tryz.ntmps246
 go_wp2
 go_ret
 exact⟨rfl,hV,hU⟩
theorem DCut_calls (gd:Nat) (vh:Value) (l:List UInt8) (lasts room:Nat) (w:World) (h:DkV gd vh l lasts room w) :
 Calls Tryz.prog 162 #[.pointer (some ⟨gd,0,none⟩),.int .i64 (l.length:Int)] w fun e w'=>e=.returned (.int .i64 0)/\DkV gd vh l l.length room w'/\DkU gd vh vh w w':=by
 have hne:=h.ne
 have hlr:=h.len
 have hrr:=h.room
 have hown:=h.own
 have hl:∃ A c,vh=.slice A l.length c/\l.length<=c:=by
  rcases hown.2 with ⟨rfl,h0⟩|⟨g,cap,cur,rfl,-,-,h1,-⟩
  · exact⟨_,_,by rw[h0],by omega⟩
  · exact⟨_,_,rfl,h1⟩
 obtain⟨A,c,rfl,hlc⟩:=hl
 have q:=h.blk.cell
 have z:=h.blk.frozen
 have hli:(l.length:Int)<=(c:Int):=by omega
 have hV:DkV gd (.slice A l.length c) l l.length room ((w.setCell ⟨gd,0,none⟩ (.slice A l.length c)).setCell ⟨gd,1,none⟩ (.int .i64 (l.length:Int))):=by
  refine⟨(h.blk.set_ 0 (.slice A l.length c)).set_ 1 (.int .i64 (l.length:Int)),?_,h.len,h.room⟩
  exact row_upn (row_upn h.own (UpN.set1 (X:=fun k=>k=gd) rfl 0 _) fun k hk e=>hne (by rw[hk,e])) (UpN.set1 (X:=fun k=>k=gd) rfl 1 _) fun k hk e=>hne (by rw[hk,e])
 have hU:DkU gd (.slice A l.length c) (.slice A l.length c) w ((w.setCell ⟨gd,0,none⟩ (.slice A l.length c)).setCell ⟨gd,1,none⟩ (.int .i64 (l.length:Int))):=⟨(UpN.set1 (.inl rfl) 0 _).tr (UpN.set1 (.inl rfl) 1 _),fun _ h=>.inl h⟩
 clear h hown
 go_enter Tryz.func162,Tryz.ntmps162
 go_wp2
 go_ret
 exact⟨rfl,hV,hU⟩
def swD (l b:List UInt8) (room:Nat):List UInt8×Int:=if b.length<=room then (b,0) else (l,90)
theorem DSwap_calls (gd:Nat) (vh v:Value) (l b:List UInt8) (room:Nat) (w:World) (h:DkV gd vh l l.length room w) (hb:sl b v w) (hn:b.length<=1000000000) :
 Calls Tryz.prog 168 #[.pointer (some ⟨gd,0,none⟩),v] w fun e w'=>∃ vh',e=.returned (.int .i64 (swD l b room).2)/\DkV gd vh' (swD l b room).1 (swD l b room).1.length room w'/\DkU gd vh vh' w w':=by
 have HA:Hid (swD l b room=if b.length<=room then (b,0) else (l,90)):=Lib.hid rfl
 generalize swD l b room=R at *
 have hne:=h.ne
 have hroom:=h.room
 have hgd:=h.blk.lt
 obtain⟨Ab,cb,rfl,hRb⟩:=hb
 have CB:=Lib.hid (CloneB_calls Ab b.length cb (bys b) w hRb (bys_one b) hn)
 have q:=h.blk.cell
 have H:=Lib.hid h
 clear h
 go_enter Tryz.func168,Tryz.ntmps168
 go_wp2
 refine wp_scope_fwd 0 rfl ?_
 by_cases hfit:b.length<=room
 · have hfi:¬ (room:Int)<(b.length:Int):=by omega
   have HR:Hid (R=(b,0)):=Lib.hid (by rw[HA.out,if_pos hfit])
   go_wp2_with fail
   refine CB.out.mono ?_
   rintro e w2 ⟨v2,rfl,ho2,k2⟩
   have ho:Own w2 w.heap.size 5 v2 b:=ho2
   have hx2:=H.out.blk.below k2 hgd
   have hne2:v2.ownBlock≠some gd:=fun e=>by
    have:=(ho.lt gd e).1;omega
   have hV:DkV gd v2 b b.length room ((w2.setCell ⟨gd,0,none⟩ v2).setCell ⟨gd,1,none⟩ (.int .i64 (b.length:Int))):=by
    refine⟨(hx2.set_ 0 v2).set_ 1 (.int .i64 (b.length:Int)),?_,hfit,hroom⟩
    exact row_upn (row_upn (row_base (Nat.zero_le _) ho2) (UpN.set1 (X:=fun k=>k=gd) rfl 0 v2) fun k hk e=>hne2 (by rw[hk,e])) (UpN.set1 (X:=fun k=>k=gd) rfl 1 _) fun k hk e=>hne2 (by rw[hk,e])
   have hU:DkU gd vh v2 w ((w2.setCell ⟨gd,0,none⟩ v2).setCell ⟨gd,1,none⟩ (.int .i64 (b.length:Int))) :=
    ⟨((UpN.of_k k2 _).tr (UpN.set1 (.inl rfl) 0 v2)).tr (UpN.set1 (.inl rfl) 1 _),fun k hk=>hk.elim (fun e=>.inl (.inl e)) fun e=>.inr (ho.lt k e).1⟩
   clear q
   have q2:=hx2.cell
   have z2:=hx2.frozen
   obtain⟨A2,c2,rfl,-⟩:=ho.slice
   clear ho ho2 hx2
   go_wp2
   try simp only[Exit.jump]
   go_ret
   exact⟨_,by rw[HR.out];rfl,by rw[HR.out];exact hV,hU⟩
 · have hfi:(room:Int)<(b.length:Int):=by omega
   have HR:Hid (R=(l,90)):=Lib.hid (by rw[HA.out,if_neg hfit])
   go_wp2_with fail
   go_step3
   refine⟨rfl,?_⟩
   go_wp2
   rw[Exit.noGoto_ret]
   go_ret
   exact⟨_,by rw[HR.out];rfl,by rw[HR.out];exact H.out,DkU.rf (K.rf w)⟩
theorem DRead_calls (gd:Nat) (vh:Value) (l:List UInt8) (lasts room:Nat) (w:World) (h:DkV gd vh l lasts room w) :
 Calls Tryz.prog 161 #[.pointer (some ⟨gd,0,none⟩)] w fun e w'=>∃ v',e=.returned v'/\Own w' w.heap.size 5 v' l/\K w w':=by
 have hlr:=h.len
 have hrr:=h.room
 obtain⟨A,c,rfl,hR⟩:=h.own.slice
 have q:=h.blk.cell
 have CB:=Lib.hid (CloneB_calls A l.length c (bys l) w hR (bys_one l) (by omega))
 clear h hR
 go_enter Tryz.func161,Tryz.ntmps161
 go_wp2_with fail
 refine CB.out.mono ?_
 rintro e w2 ⟨v2,rfl,ho2,k2⟩
 have HO:Hid (Own w2 w.heap.size 5 v2 l):=Lib.hid ho2
 clear ho2
 go_wp2
 go_ret
 exact⟨_,rfl,HO.out,k2⟩
theorem WLay_calls (g base lo:Nat) (v u:Value) (l b:List UInt8) (w:World) (hb:Blk w g 62 #[v]) (ho:Own w base 5 v l) (hu:sl b u w) (hlo:lo<=g/\lo<=base/\lo<=w.heap.size) (hbase:base<=w.heap.size) (hn:b.length<=1000000000) (hl:l.length<=1000000000) :
 Calls Tryz.prog 225 #[u,.pointer (some ⟨g,0,none⟩)] w fun e w'=>∃ v',e=.returned (.int .i64 (chkFr b))/\Blk w' g 62 #[v']/\Own w' base 5 v' (l++frameR b)/\Below lo w w':=by
 have C1:=Lib.hid (FWrap_calls b u w hu hn)
 have hfl:(frameR b).length<=4006:=by
  unfold frameR okFr
  split
  · rename_i h
    simp only[Bool.and_eq_true,decide_eq_true_eq] at h
    rw[frame_len,frN];omega
  · simp
 obtain⟨A,c,rfl,hR⟩:=hu
 generalize frameR b=f at *
 go_enter Tryz.func225,Tryz.ntmps225
 go_wp2_with fail
 refine C1.out.mono ?_
 rintro e w1 ⟨v1,rfl,ho1,k1⟩
 have hx1:=hb.below k1 hb.lt
 have hr1:=own_below (Nat.le_refl _) ho k1
 obtain⟨A1,c1,rfl,hR1⟩:=ho1.slice
 have hz:=k1.size
 have hne:v.ownBlock≠some g:=fun e=>by
  obtain⟨cur,h1⟩:=row_blk hr1 e
  exact absurd (h1.unlike hx1) (by decide)
 have q:=hx1.cell
 clear C1 hb ho hR
 go_wp2_with (at_builtin;refine wpList_app rfl _ _ 62 rfl base 5 _ 1 1 TB _ _ _ rfl hr1 _ A1 f.length c1 (bys f) rfl hR1 (bys_one f) ?p1 (by omega) ?_)
 case p1=>omega
 intro v2 w2 ho2 hg2 _ hb2
 have ho:Own w2 base 5 v2 (l++f):=by unfold Own;rw[bys_append,List.length_append];exact ho2
 have hx2:=hx1.grown hg2 fun e=>hne e.symm
 have hne2:v2.ownBlock≠some g:=fun e=>by
  obtain⟨cur,h1⟩:=row_blk ho e
  exact absurd (h1.unlike hx2) (by decide)
 have hx3:=hx2.set_ 0 v2
 have ho3:Own (w2.setCell ⟨g,0,none⟩ v2) base 5 v2 (l++f):=row_upn ho (UpN.set1 (X:=fun k=>k=g) rfl 0 v2) fun k hk e=>hne2 (by rw[hk,e])
 have k3:Below lo w (w2.setCell ⟨g,0,none⟩ v2):=((k1.mono hlo.2.2).trans (hb2.mono hlo.2.1)).setCell (p:=⟨g,0,none⟩) hlo.1 v2
 have q2:=hx2.cell
 have z2:=hx2.frozen
 clear q hx1 hr1 hx2 ho2 hg2 hb2
 obtain⟨A2,c2,rfl,-⟩:=ho.slice
 simp only[List.length_append] at hx3 ho3 k3
 go_wp2
 go_ret
 exact⟨_,rfl,hx3,ho3,k3⟩
def framedR (rs:List (List UInt8)):List UInt8×Int:=if rs.all okFr then (frames rs,0) else ([],30)
def framesR (rs:List (List UInt8)):List UInt8:=rs.flatMap frameR
theorem framesR_len (rs:List (List UInt8)):(framesR rs).length<=rs.length * 4006:=by
 induction rs with
 | nil=>simp[framesR]
 | cons b rs ih =>
   have hfl:(frameR b).length<=4006:=by
    unfold frameR okFr
    split
    · rename_i h
      simp only[Bool.and_eq_true,decide_eq_true_eq] at h
      rw[frame_len,frN];omega
    · simp
   simp only[framesR,List.flatMap_cons,List.length_append,List.length_cons] at ih ⊢
   omega
theorem framesR_ok {rs:List (List UInt8)} (h:rs.all okFr=true):framesR rs=frames rs:=by
 unfold framesR frames
 rw[List.all_eq_true] at h
 induction rs with
 | nil=>rfl
 | cons b rs ih =>
   rw[List.flatMap_cons,List.flatMap_cons,ih (fun x hx=>h x (by simp[hx])),frameR,if_pos (h b (by simp))]
theorem WFramed_calls (rs:List (List UInt8)) (v:Value) (w:World) (h:lst byS rs v w) (hn:rs.length<=200000) (hb:∀ b∈rs,b.length<=1000000000) :
 Calls Tryz.prog 167 #[v] w fun e w'=>∃ v',e=.returned (.tuple #[v',.int .i64 (framedR rs).2])/\Own w' w.heap.size 5 v' (framedR rs).1/\K w w':=by
 have HR:Hid (framedR rs=if rs.all okFr then (frames rs,0) else ([],30)):=Lib.hid rfl
 generalize framedR rs=R at *
 obtain⟨A,c,rfl,hl,-⟩:=h
 have HB:=Lib.hid hb
 have hx:=Blk.new w 62 #[.slice none 0 0]
 have k0:=(K.rf w).al (.cells #[.slice none 0 0] 62)
 clear hb
 go_enter Tryz.func167,Tryz.ntmps167
 go_wp2_with fail
 generalize w.alloc _=w0 at *
 have ho0:Own w0 w.heap.size 5 (.slice none 0 0) []:=World.ownsRow_nil _ _ _ _
 have hb0:=Below.refl w.heap.size w0
 go_loopw [7,8,12] (fun _ _ i W=>∃ (j:Nat) (v':Value),j<=rs.length/\i=.int .i64 (j:Int)/\Blk W w.heap.size 62 #[v']/\Own W w.heap.size 5 v' (framesR (rs.take j))/\Hid ((rs.take j).all okFr=true)/\Below w.heap.size w W) (fun _ _ i _=>rs.length - (intOf i).toNat)
 case atStart=>exact⟨0,_,by omega,rfl,hx,by simpa [framesR] using ho0,Lib.hid (by simp),k0⟩
 case round =>
  clear hx ho0 hb0
  obtain⟨j,v',hj,rfl,hx,ho,HT,kr⟩:=hrel
  by_cases hlt:j<rs.length
  · have hji:(j:Int)<(rs.length:Int):=by omega
    obtain⟨b1,off,cs,rfl,hcl,hrl,d0,d⟩:=lsr_cells hl j hlt (by decide)
    have hbl:=HB.out _ (List.getElem_mem hlt)
    have HS:Hid (rs.take (j+1)=rs.take j++[rs[j]]):=Lib.hid (List.take_succ_eq_append_getElem hlt)
    have HO:Hid (okFr rs[j]=false->R=([],30)):=Lib.hid fun h=>by
     rw[HR.out,if_neg]
     simp only[List.all_eq_true]
     intro h2
     have:=h2 _ (List.getElem_mem hlt)
     rw[h] at this;cases this
    generalize rs[j]=b at *
    obtain⟨u,rfl,hu⟩:=hrl w (K.rf w)
    have cj:wr.cell? ⟨b1,off+j,none⟩=some u:=by
     have:=d0 wr kr
     simpa [byS] using this
    have hur:=sl_st _ _ _ _ hu kr
    obtain⟨Au,cu,rfl⟩:∃ Au cu,u=.slice Au b.length cu:=by obtain⟨A,c,e,-⟩:=hu;exact⟨A,c,e⟩
    have htl:=framesR_len (rs.take j)
    have htl2:(rs.take j).length<=200000:=by simp;omega
    have C1:=Lib.hid (WLay_calls w.heap.size w.heap.size w.heap.size v' _ (framesR (rs.take j)) b wr hx ho hur ⟨Nat.le_refl _,Nat.le_refl _,kr.size⟩ kr.size hbl (by omega))
    have HC:Hid (chkFr b=if okFr b then 0 else 30):=Lib.hid rfl
    clear d d0 hcl hrl hur hx ho
    go_wp2_with fail
    refine C1.out.mono ?_
    rintro e w2 ⟨v2,rfl,hx2,ho2,k2⟩
    cases hok:okFr b
    · have HRR:=Lib.hid (HO.out hok)
      rw[show chkFr b=30 by rw[HC.out,hok];rfl]
      clear hok
      go_wp2
      go_ret2
      exact⟨_,by rw[HRR.out];rfl,by rw[HRR.out];exact World.ownsRow_nil _ _ _ _,kr.trans k2⟩
    · have HA:Hid ((rs.take (j+1)).all okFr=true):=Lib.hid (by rw[HS.out,List.all_append,HT.out];simp[hok])
      rw[show chkFr b=0 by rw[HC.out,hok];rfl]
      have ho3:Own w2 w.heap.size 5 v2 (framesR (rs.take (j+1))):=by
       rw[HS.out];simpa [framesR] using ho2
      clear hok ho2
      go_wp2
      go_roundw
      case rel=>exact⟨j+1,v2,by omega,by go_num,hx2,ho3,HA,kr.trans k2⟩
      case measure=>simp[intOf];omega
  · have hji:¬ (j:Int)<(rs.length:Int):=by omega
    obtain rfl:j=rs.length:=by omega
    have HRR:Hid (R=(frames rs,0)):=Lib.hid (by have:=HT.out;rw[List.take_length] at this;rw[HR.out,if_pos this])
    have HO:Hid (Own wr w.heap.size 5 v' (frames rs)):=Lib.hid (by have h1:=HT.out;rw[List.take_length] at ho h1;rw[<- framesR_ok h1];exact ho)
    have q:=hx.cell
    clear ho hx
    go_wp2
    go_ret2
    exact⟨_,by rw[HRR.out];rfl,by rw[HRR.out];exact HO.out,kr⟩
theorem WCopies_calls (rs:List (List UInt8)) (v:Value) (w:World) (h:lst byS rs v w) (hn:rs.length<=200000) (hb:∀ b∈rs,b.length<=1000000000) :
 Calls Tryz.prog 165 #[v] w fun e w'=>∃ v',e=.returned v'/\OwnY (fun k=>k<w.heap.size) w.heap.size 62 byS rs v' w'/\K w w':=by
 obtain⟨A,c,rfl,hl,-⟩:=h
 have HB:=Lib.hid hb
 obtain⟨i,hi,hz0,hz1,hz2⟩:=info_parts infoBy
 have hmk:∀ W:World,(Instr.makeSlice 153 (.int .i64 0) (.int .i64 (rs.length:Int))).run Tryz.prog W=.ok (.slice (some ⟨W.heap.size,0,none⟩) 0 rs.length) (W.alloc (.cells (madeCells #[.slice none 0 0] rs.length) 62)):=by
  intro W
  have h:=run_make (P:=Tryz.prog) W 153 62 i (.slice none 0 0) Tryz.underlying153 hi hz0 .i64 .i64 0 (rs.length:Int) (by omega) (by omega) (by rw[hz2];omega) (by omega)
  rw[hz1] at h
  simpa [Value.cells] using h
 clear hi hz0 hz1 hz2 hb
 have hx:=Blk.new w 62 (madeCells #[.slice none 0 0] rs.length)
 have k0:=(K.rf w).al (.cells (madeCells #[.slice none 0 0] rs.length) 62)
 go_enter Tryz.func165,Tryz.ntmps165
 go_wp2_with fail
 generalize w.alloc _=w0 at *
 have hO0:OwnY (fun k=>k<w.heap.size) w.heap.size 62 byS [] (.slice (some ⟨w.heap.size,0,none⟩) 0 rs.length) w0 :=
  ⟨[],own_of_block (xs:=[]) (rest:=List.replicate rs.length (.slice none 0 0)) (Nat.le_refl _) (by rw[List.nil_append,<- toList_madeCells_one];exact hx) rfl (by simp) (by unfold maxLen;omega),rfl,fun _ _=>Each.nil _ _⟩
 clear hmk hx
 go_loopw [3,5,11] (fun o _ i W=>∃ j:Nat,j<=rs.length/\i=.int .i64 (j:Int)/\OwnY (fun k=>k<w.heap.size) w.heap.size 62 byS (rs.take j) o W/\K w W) (fun _ _ i _=>rs.length - (intOf i).toNat)
 case atStart=>exact⟨0,by omega,rfl,by simpa using hO0,k0⟩
 case round =>
  clear hO0
  obtain⟨j,hj,rfl,hO,kr⟩:=hrel
  by_cases hlt:j<rs.length
  · have hji:(j:Int)<(rs.length:Int):=by omega
    obtain⟨b1,off,cs,rfl,hcl,hrl,d0,d⟩:=lsr_cells hl j hlt (by decide)
    have hbl:=HB.out _ (List.getElem_mem hlt)
    have HT:Hid (rs.take (j+1)=rs.take j++[rs[j]]):=Lib.hid (List.take_succ_eq_append_getElem hlt)
    generalize rs[j]=b at *
    obtain⟨u,rfl,hu⟩:=hrl w (K.rf w)
    have cj:wr.cell? ⟨b1,off+j,none⟩=some u:=by
     have:=d0 wr kr
     simpa [byS] using this
    obtain⟨Au,cu,rfl,hRu⟩:=sl_st _ _ _ _ hu kr
    have C1:=Lib.hid (CloneB_calls Au b.length cu (bys b) wr hRu (bys_one b) hbl)
    have hbv:=hO.blk
    clear d d0 hcl hrl hRu
    go_wp2_with fail
    refine C1.out.mono ?_
    rintro e w4 ⟨v4,rfl,ho4,k4⟩
    replace ho4:Own w4 wr.heap.size 5 v4 b:=by unfold Own;exact ho4
    have hO4:=(hO.st k4).st ((K.rf w4).al (.cells #[v4] 62))
    have hz:=kr.size
    have hF:Fx (fun k=>k<wr.heap.size) (fun W=>byS.rel b [v4] W) w4:=fun W u=>⟨v4,rfl,sl_own (row_upn ho4 u fun b hb h=>by have:=(ho4.lt b hb).1;omega)⟩
    obtain⟨A4,c4,rfl,-⟩:=ho4.slice
    have hr:=rowY.new (S:=byS) (e:=62) (v:=.slice A4 b.length c4) hF 0 (Nat.zero_le _)
    have krf:=(kr.tr k4).tr ((K.rf w4).al (.cells #[.slice A4 b.length c4] 62))
    clear hO hF ho4 C1
    go_wp2_with (at_builtin;refine wpList_push rfl _ _ 153 rfl _ 1 24 TBy rfl rfl hO4 _ rfl b ?p1 ?p2 ?p3 ?_)
    case p1=>exact hr.less fun k hk=>by rcases hk with hk|hk;omega;have:=hbv k hk;omega
    case p2=>simp;omega
    case p3=>exact krf.size
    intro v9 w9 hO9 hg9 _ hb9
    rw[<- HT.out] at hO9
    have k9:=krf.trans hb9
    clear hr hO4
    go_wp2
    go_roundw
    case rel=>exact⟨j+1,by omega,by go_num,hO9,k9⟩
    case measure=>simp[intOf];omega
  · have hji:¬ (j:Int)<(rs.length:Int):=by omega
    obtain rfl:j=rs.length:=by omega
    rw[List.take_length] at hO
    go_wp2
    go_ret
    exact⟨_,rfl,hO,kr⟩
structure LgV (gl gd:Nat) (vh vr:Value) (l:List UInt8) (lasts room:Nat) (w:World):Prop where
 dk:DkV gd vh l lasts room w
 blk:Blk w gl 227 #[.pointer (some ⟨gd,0,none⟩),vr]
 row:∃ n xs,n<=l.length/\w.ownsRow 0 62 1 vr n xs
def LgX (gl gd:Nat) (vh vr:Value) (k:Nat):Prop:=k=gl∨vr.ownBlock=some k∨DkX gd vh k
structure LgU (gl gd:Nat) (vh vr vh' vr':Value) (w w':World):Prop where
 up:UpN (LgX gl gd vh vr) w w'
 new:∀ k,LgX gl gd vh' vr' k->LgX gl gd vh vr k∨w.heap.size<=k
section
variable {gl gd:Nat} {vh vr vh' vr' vh'' vr'':Value} {l:List UInt8} {lasts room:Nat} {w w' w'':World}
theorem LgV.st (h:LgV gl gd vh vr l lasts room w) (k:K w w'):LgV gl gd vh vr l lasts room w':=by
 obtain⟨n,xs,hn,hx⟩:=h.row
 exact⟨h.dk.st k,h.blk.below k h.blk.lt,n,xs,hn,row_below hx k⟩
theorem LgV.lt (h:LgV gl gd vh vr l lasts room w):∀ k,LgX gl gd vh vr k->k<w.heap.size:=fun k hk=>by
 obtain⟨n,xs,hn,hx⟩:=h.row
 rcases hk with rfl|hk|hk
 · exact h.blk.lt
 · exact (hx.lt k hk).2
 · exact h.dk.lt k hk
theorem LgV.apart (h:LgV gl gd vh vr l lasts room w):¬ DkX gd vh gl/\(∀ k,vr.ownBlock=some k->¬ DkX gd vh k)/\vr.ownBlock≠some gl:=by
 obtain⟨n,xs,hn,hx⟩:=h.row
 refine⟨fun hk=>?_,fun k hk hd=>?_,fun e=>?_⟩
 · rcases hk with e|e
   · exact absurd (h.blk.unlike (e ▸ h.dk.blk)) (by decide)
   · obtain⟨cur,h1⟩:=row_blk h.dk.own e
     exact absurd (h1.unlike h.blk) (by decide)
 · obtain⟨cur,h1⟩:=row_blk hx hk
   rcases hd with rfl|e
   · exact absurd (h1.unlike h.dk.blk) (by decide)
   · obtain⟨cur2,h2⟩:=row_blk h.dk.own e
     exact absurd (h1.unlike h2) (by decide)
 · obtain⟨cur,h1⟩:=row_blk hx e
   exact absurd (h1.unlike h.blk) (by decide)
theorem LgV.disk {l':List UInt8} {lasts':Nat} (h:LgV gl gd vh vr l lasts room w) (d:DkV gd vh' l' lasts' room w') (u:DkU gd vh vh' w w') (hl:l.length<=l'.length):LgV gl gd vh' vr l' lasts' room w'/\LgU gl gd vh vr vh' vr w w':=by
 obtain⟨a1,a2,-⟩:=h.apart
 obtain⟨n,xs,hn,hx⟩:=h.row
 refine⟨⟨d,h.blk.upn u.up a1,n,xs,Nat.le_trans hn hl,row_upn hx u.up a2⟩,⟨u.up.more fun k hk=>.inr (.inr hk),fun k hk=>?_⟩⟩
 rcases hk with hk|hk|hk
 · exact .inl (.inl hk)
 · exact .inl (.inr (.inl hk))
 · exact (u.new k hk).imp (fun h=>.inr (.inr h)) id
theorem LgU.rf (k:K w w'):LgU gl gd vh vr vh vr w w':=⟨UpN.of_k k _,fun _ h=>.inl h⟩
theorem LgU.tr (h:LgU gl gd vh vr vh' vr' w w') (k:LgU gl gd vh' vr' vh'' vr'' w' w''):LgU gl gd vh vr vh'' vr'' w w'' :=
 ⟨h.up.tr2 k.up fun b hb hx=>(h.new b hx).resolve_right (by omega),fun b hb=>(k.new b hb).elim (fun h1=>h.new b h1) fun h1=>.inr (Nat.le_trans h.up.size h1)⟩
end
theorem frames_cnt (rs:List (List UInt8)):rs.length<=(frames rs).length:=by
 induction rs with
 | nil=>simp
 | cons b rs ih =>
   simp only[frames,List.flatMap_cons,List.length_append,List.length_cons,frame_len,frN] at ih ⊢
   omega
def apL (l:List UInt8) (rs:List (List UInt8)) (room:Nat):List UInt8×Int:=if rs.all okFr then apD l (frames rs) room else (l,30)
theorem WAppend_calls (gl gd:Nat) (vh vr v:Value) (l:List UInt8) (lasts room:Nat) (rs:List (List UInt8)) (w:World) (h:LgV gl gd vh vr l lasts room w) (hv:Fx (LgX gl gd vh vr) (fun W=>lst byS rs v W) w) (hrs:rs.length<=200000) (hb:∀ b∈rs,b.length<=1000000000) :
 Calls Tryz.prog 245 #[.pointer (some ⟨gl,0,none⟩),v] w fun e w'=>∃ vh' vr',e=.returned (.int .i64 (apL l rs room).2)/\LgV gl gd vh' vr' (apL l rs room).1 lasts room w'/\LgU gl gd vh vr vh' vr' w w':=by
 have HA:Hid (apL l rs room=if rs.all okFr then apD l (frames rs) room else (l,30)):=Lib.hid rfl
 have HD:Hid (apD l (frames rs) room=if l.length+(frames rs).length<=room then (l++frames rs,0) else (l,90)):=Lib.hid rfl
 have HF:Hid (framedR rs=if rs.all okFr then (frames rs,0) else ([],30)):=Lib.hid rfl
 generalize apL l rs room=R at *
 have C1:=Lib.hid (WFramed_calls rs v w hv.now hrs hb)
 have hfl:(framedR rs).1.length<=1000000000:=by
  rw[HF.out]
  split
  · rename_i ho
    have:=framesR_len rs
    rw[framesR_ok ho] at this
    simp only
    omega
  · simp
 have H:=Lib.hid h
 have HV:=Lib.hid hv
 have HRB:=Lib.hid hb
 obtain⟨A,c,rfl⟩:=lst_slice hv.now
 have q:=h.blk.cells
 clear h hv hb
 go_enter Tryz.func245,Tryz.ntmps245
 go_wp2_with fail
 refine C1.out.mono ?_
 rintro e w1 ⟨v1,rfl,ho1,k1⟩
 generalize framedR rs=F at *
 cases hok:rs.all okFr
 · have HFF:Hid (F=([],30)):=Lib.hid (by rw[HF.out,if_neg (by rw[hok];decide)])
   have HRR:Hid (R=(l,30)):=Lib.hid (by rw[HA.out,if_neg (by rw[hok];decide)])
   rw[HFF.out]
   clear hok ho1 hfl
   go_wp2
   go_ret
   exact⟨vh,vr,by rw[HRR.out];rfl,by rw[HRR.out];exact H.out.st k1,LgU.rf k1⟩
 have HFF:Hid (F=(frames rs,0)):=Lib.hid (by rw[HF.out,if_pos hok])
 have HRR:Hid (R=apD l (frames rs) room):=Lib.hid (by rw[HA.out,if_pos hok])
 rw[HFF.out] at ho1 hfl ⊢
 have H1:=Lib.hid (H.out.st k1)
 obtain⟨A1,c1,rfl,-⟩:=ho1.slice
 have C2:=Lib.hid (DAppend_calls gd vh _ l (frames rs) lasts room w1 H1.out.dk (sl_own ho1) hfl)
 have q1:=q w1 k1
 clear hok q
 go_wp2_with fail
 refine C2.out.mono ?_
 rintro e w2 ⟨vh2,rfl,hd2,hu2⟩
 obtain⟨n,xs,hnl,hrow⟩:=H1.out.row
 replace hrow:=row_upn hrow hu2.up H1.out.apart.2.1
 obtain⟨hL2,hU2⟩:=H1.out.disk hd2 hu2 (by rw[HD.out];split <;> simp)
 have HU:=Lib.hid ((LgU.rf k1).tr hU2)
 have HL:=Lib.hid hL2
 have hV2:Fx (LgX gl gd vh2 vr) (fun W=>lst byS rs (.slice A rs.length c) W) w2:=HV.out.to HU.out.up (fun _ h=>h) fun k hk hx=>(HU.out.new k hx).resolve_right (by omega)
 clear hd2 hu2 hL2 hU2 ho1 q1 HA HF C1 C2
 by_cases hfit:l.length+(frames rs).length<=room
 rotate_left
 · have HDD:Hid (apD l (frames rs) room=(l,90)):=Lib.hid (by rw[HD.out,if_neg hfit])
   rw[HDD.out]
   clear hfit
   go_wp2
   go_ret
   exact⟨vh2,vr,by rw[HRR.out,HDD.out];rfl,by rw[HRR.out];exact HL.out,HU.out⟩
 have HDD:Hid (apD l (frames rs) room=(l++frames rs,0)):=Lib.hid (by rw[HD.out,if_pos hfit])
 rw[HDD.out] at HL ⊢
 obtain⟨-,-,hne⟩:=HL.out.apart
 have q:=HL.out.blk.cells
 have C3:=Lib.hid fun W (k:K w2 W)=>WCopies_calls rs _ W (hV2.at k) hrs HRB.out
 clear hfit HD hV2 HV
 go_upto_region 9 with (fail)
 refine wp_region_free [0] (fun _=>.pointer (some ⟨gl,0,none⟩)) 7 [([],[]),([],[]),([1],[(28,1)]),([2],[(29,2)]),([3],[(30,3)]),([],[]),([5],[(32,5)]),([4,6],[(31,4),(33,6)]),([0,1,2,3,4,5,6,7],[(27,0)]),([0,1,2,3,4,5,6,7,8],[(35,8)]),([0,1,2,3,4,5,6,7,9],[(36,9),(34,7)])] 37 rfl (by kernel_rfl) (by kernel_rfl) (by kernel_rfl) (by kernel_rfl) (by decide) ?fr ?_
 case fr =>
  intro j hj
  simp at hj
  subst hj
  exact⟨_,_,rfl,rfl,rfl,by simp,fun V W _=>by simp[rhoP,List.lookup,execOp,bareOp,go_sem]⟩
 simp only[List.take_succ_cons,List.take_zero,List.drop_succ_cons,List.drop_zero]
 iterate 6 (apply AutoQ.is;intro V W kW hp;(try simp only[List.forall_mem_cons,List.nil_append,List.cons_append,tab_zero,tab_succ,isV] at hp);simp[wantsG,rhoP,List.lookup,hp,ResG,execOp,bareOp,isV,Below.refl,kW,q,go_sem];rfl)
 refine AutoQ.op (fun v W=>OwnY (fun k=>k<w2.heap.size) w2.heap.size 62 byS rs v W) (fun _ _ _ h k=>h.st k) (fun V W kW hp=>?_) ?_
 · simp only[List.forall_mem_cons,List.nil_append,List.cons_append,tab_zero,tab_succ,isV] at hp
   simp[wantsG,rhoP,List.lookup,hp,ResG,execOp,bareOp,go_sem]
   refine (C3.out W kW).mono ?_
   rintro e w4 ⟨v4,rfl,hO4,k4⟩
   exact⟨_,rfl,(hO4.low kW.size).less fun k hk=>Nat.lt_of_lt_of_le hk kW.size,k4⟩
 intro V W kW hA
 simp only[List.nil_append,List.cons_append,AllT,isV,Nat.reduceAdd] at hA
 obtain⟨e0,e1,e2,e3,e4,e5,hO,-⟩:=hA
 have hWL:=HL.out.st kW
 have hrowW:=row_below hrow kW
 obtain⟨css,hr6,hcl6,hE6⟩:=hO
 have hEn:=hE6 W (UpN.rf _ _)
 have hlr:=HL.out.dk.len
 have hrr:=HL.out.dk.room
 have hL9:(l++frames rs).length<=1048576:=by omega
 have hrf:=frames_cnt rs
 obtain⟨A6,c6,e6⟩:=lst_slice (OwnY.lst ⟨css,hr6,hcl6,hE6⟩)
 rw[e6] at hr6
 have hR6:=Reads.of_own hr6
 refine TailQ.app (.tmp 31) (.tmp 33) 153 _ 1 24 TBy rfl rfl vr n xs ?_ hrowW W.heap.size A6 rs.length c6 css.flatten ?_ ?_ hEn.ones ?_ (Nat.zero_le _) ?_
 · simp[rhoP,List.lookup,e4]
 · simp[rhoP,List.lookup,e6]
 · exact hR6
 · simp only[List.length_append] at hL9;omega
 intro v9 w9 ho9 hg9 hat9 _
 have hx9:=hWL.blk.grown hg9 fun e=>hne e.symm
 have hd9:DkV gd vh2 (l++frames rs) lasts room w9:=by
  obtain⟨-,a2,-⟩:=hWL.apart
  have u:UpN (fun k=>vr.ownBlock=some k) W w9:=UpN.of_mut hg9 fun k hk=>hk
  exact⟨hWL.dk.blk.upn u fun e=>a2 _ e (.inl rfl),row_upn hWL.dk.own u fun k hk e=>a2 _ e (.inr hk),hlr,hrr⟩
 have hne9:v9.ownBlock≠some gl:=fun e=>by
  obtain⟨cur,h1⟩:=row_blk ho9 e
  exact absurd (h1.unlike hx9) (by decide)
 have hgd:gl≠gd:=fun e=>hWL.apart.1 (.inl e)
 have hvg:vh2.ownBlock≠some gl:=fun e=>hWL.apart.1 (.inr e)
 have q9:=hx9.cell
 have z9:=hx9.frozen
 obtain⟨A9,c9,rfl⟩:∃ A c,v9=.slice A (n+rs.length) c:=by
  rcases ho9.2 with ⟨rfl,h0⟩|⟨g,cap,cur,rfl,-⟩
  · exact⟨_,_,by rw[h0]⟩
  · exact⟨_,_,rfl⟩
 iterate 2 (apply TailQ.pure;rfl;(simp[rhoP,List.lookup,updV,e0,execOp,bareOp,go_sem];rfl))
 refine TailQ.skip (w9.setCell ⟨gl,1,none⟩ (.slice A9 (n+rs.length) c9)) rfl (by simp[rhoP,List.lookup,updV,execOp,bareOp,q9,z9,go_sem]) ?_
 refine TailQ.nil ?_
 simp only[putAll,Act.put,List.setIfInBounds_toArray,List.set_cons_succ,List.set_cons_zero,Nat.reduceAdd]
 have u9:UpN (fun k=>k=gl) w9 (w9.setCell ⟨gl,1,none⟩ (.slice A9 (n+rs.length) c9)):=UpN.set1 (X:=fun k=>k=gl) rfl 1 _
 have hV:LgV gl gd vh2 (.slice A9 (n+rs.length) c9) (l++frames rs) lasts room (w9.setCell ⟨gl,1,none⟩ (.slice A9 (n+rs.length) c9)):=by
  refine⟨⟨hd9.blk.upn u9 fun e=>hgd e.symm,row_upn hd9.own u9 fun k hk e=>hvg (by rw[hk,e]),hlr,hrr⟩,hx9.set_ 1 (.slice A9 (n+rs.length) c9),_,_,?_,row_upn ho9 u9 fun k hk e=>hne9 (by rw[hk,e])⟩
  simp only[List.length_append]
  omega
 have hU:LgU gl gd vh vr vh2 (.slice A9 (n+rs.length) c9) w (w9.setCell ⟨gl,1,none⟩ (.slice A9 (n+rs.length) c9)):=by
  refine HU.out.tr ⟨((UpN.of_k kW _).tr (UpN.of_mut hg9 fun k hk=>.inr (.inl hk))).tr (UpN.set1 (.inl rfl) 1 _),fun k hk=>?_⟩
  have hsz:=kW.size
  rcases hk with hk|hk|hk
  · exact .inl (.inl hk)
  · rcases hat9 with e|e <;> rw[e] at hk
    · exact .inl (.inr (.inl hk))
    · injection hk with hk;exact .inr (by omega)
  · exact .inl (.inr (.inr hk))
 clear q9 z9 ho9 hg9 hx9 hd9 e0 e1 e2 e3 e4 e5
 go_wp2
 go_ret
 exact⟨by rw[HRR.out,HDD.out];rfl,_,_,by rw[HRR.out,HDD.out];exact hV,hU⟩
