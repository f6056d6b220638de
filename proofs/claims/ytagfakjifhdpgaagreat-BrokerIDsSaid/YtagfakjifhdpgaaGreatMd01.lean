/-
  The walk of disk.Crash (layer 9). Conditions: what was held lasts.
-/
import Derived.Test.YtagfakjifhdpgaaGreatMa33
import Derived.Test.YtagfakjifhdpgaaGreatMd00
import Derived.WalkKit
import Derived.WalkLawsBesides
import Derived.WalkSpells
import Derived.Deep.Draws
import Derived.Deep.AppendLies
import Derived.Maps.AppendAt
import Derived.Laws.CopyOwn
import Derived.Lib.Hide
import Derived.ScopeJumps
import Derived.Laws.IdiomStrings
import Derived.Laws.BytesArg
import Derived.WalkMore
import Derived.Orders
import Derived.Test.YtagfakjifhdpgaaGreatProg
import Derived.BigQuiet
import Derived.Deep.QuietTactic
import Derived.Deep.CutRange
import Derived.Deep.LoopGhost
import Derived.IntWalk
import Derived.Deep.RegionHeld3
import Derived.Deep.DrawnRows
import Derived.Deep.CutBlock
import Derived.Maps.OwnSet
import Derived.Carry
import Derived.Laws.BitsAllLaws
import Derived.RangeFuncKeeps
import Derived.RangeFuncLeaves
import Derived.RangeFuncFrom
import Derived.RangeFuncBox
import Derived.Shelf.Abstract
import Derived.OwnWalkIn
import Derived.TacticsInMore
import Derived.LoopNIn
import Derived.LoopIn
import Derived.Deep.RegionLaw
import Derived.Lib.SlicesDelete
set_option maxRecDepth 100000
set_option maxHeartbeats 16000000
set_option linter.unusedVariables false
set_option linter.unusedSimpArgs false
namespace Go.Proofs.YtagfakjifhdpgaaGreat
open Go Go.RowKit
theorem DCrash_calls (gd:Nat) (vh:Value) (l:List UInt8) (room:Nat) (keep:Int) (w:World) (h:DkV gd vh l l.length room w) (hk:i64ok keep) :
 Calls Tryz.prog 21 #[.pointer (some ⟨gd,0,none⟩),.int .i64 keep] w fun e w'=>e=.returned (.tuple #[])/\DkV gd vh l l.length room w'/\DkU gd vh vh w w':=by
 have hne:=h.ne
 have hlr:=h.len
 have hrr:=h.room
 have hl:∃ A c,vh=.slice A l.length c/\l.length<=c:=by
  rcases h.own.2 with ⟨rfl,h0⟩|⟨g,cap,cur,rfl,-,-,h1,-⟩
  · exact⟨_,_,by rw[h0],by omega⟩
  · exact⟨_,_,rfl,h1⟩
 obtain⟨A,c,rfl,hlc⟩:=hl
 have hli:(l.length:Int)<=(c:Int):=by omega
 have q:=h.blk.cells
 have hw:IntKind.i64.wrap ((l.length:Int) - (l.length:Int))=0:=by rw[Int.sub_self];rfl
 have H:=Lib.hid h
 clear h
 go_enter Tryz.func21,Tryz.ntmps21
 go_upto_region 1 with (fail)
 refine wp_region_auto 14 [([],[]),([0],[(6,0)]),([],[]),([2],[(8,2)]),([3],[(9,3)]),([4],[(10,4)]),([5],[(11,5)]),([],[]),([7],[(13,7)]),([8],[(14,8)]),([9],[(15,9)]),([6,10],[(12,6),(16,10)]),([1,11],[(7,1),(17,11)]),([12],[(18,12)])] 39 rfl (by kernel_rfl) (by kernel_rfl) (by kernel_rfl) (by kernel_rfl) (by decide) ?_
 simp only[List.take_succ_cons,List.take_zero,List.drop_succ_cons,List.drop_zero]
 iterate 14 (apply AutoQ.is;intro V W kW hp;(try simp only[List.forall_mem_cons,List.nil_append,List.cons_append,tab_zero,tab_succ,isV] at hp);simp[wantsG,rhoP,List.lookup,hp,ResG,execOp,bareOp,isV,Below.refl,kW,q,hw,go_sem];rfl)
 intro V W kW hA
 simp only[List.nil_append,List.cons_append,AllT,isV,Nat.reduceAdd] at hA
 refine TailQ.nil ?_
 simp only[putAll,Act.put,List.setIfInBounds_toArray,List.set_cons_succ,List.set_cons_zero,Nat.reduceAdd,hA]
 rw[show (if IntKind.i64.wrap 0<(if keep<0 then (0:Int) else keep) then IntKind.i64.wrap 0 else if keep<0 then 0 else keep)=0 from by
  rw[show IntKind.i64.wrap 0=0 from rfl];split <;> split <;> omega]
 have hW:=H.out.st kW
 have qW:=hW.blk.cell
 have z:=hW.blk.frozen
 have hx1:=hW.blk.set_ 1 (.int .i64 (l.length:Int))
 have ho1:=row_upn hW.own (UpN.set1 (X:=fun k=>k=gd) rfl 1 (.int .i64 (l.length:Int))) fun k hk e=>hne (by rw[hk,e])
 have u1:UpN (DkX gd (.slice A l.length c)) w (W.setCell ⟨gd,1,none⟩ (.int .i64 (l.length:Int))):=(UpN.of_k kW _).tr (UpN.set1 (.inl rfl) 1 _)
 clear hA q hw
 go_upto_region 3 with (fail)
 generalize W.setCell _ _=w1 at *
 clear qW z
 have q2:=(show Blk w1 gd 92 #[.slice A l.length c,.int .i64 (l.length:Int),.int .i64 (room:Int)] from hx1).cells
 refine wp_region_auto 10 [([],[]),([],[]),([1],[(28,1)]),([2],[(29,2)]),([3],[(30,3)]),([],[]),([5],[(32,5)]),([6],[(33,6)]),([7],[(34,7)]),([4,8],[(31,4),(35,8)]),([0,1,2,3,4,5,6,7,8,9],[(27,0)]),([0,1,2,3,4,5,6,7,8,9,10],[(37,10)]),([0,1,2,3,4,5,6,7,8,9,11],[(38,11),(36,9)])] 39 rfl (by kernel_rfl) (by kernel_rfl) (by kernel_rfl) (by kernel_rfl) (by decide) ?_
 simp only[List.take_succ_cons,List.take_zero,List.drop_succ_cons,List.drop_zero]
 iterate 10 (apply AutoQ.is;intro V W kW hp;(try simp only[List.forall_mem_cons,List.nil_append,List.cons_append,tab_zero,tab_succ,isV] at hp);simp[wantsG,rhoP,List.lookup,hp,ResG,execOp,bareOp,isV,Below.refl,kW,q2,hli,go_sem];rfl)
 intro V W kW hA
 simp only[List.nil_append,List.cons_append,AllT,isV,Nat.reduceAdd] at hA
 have hxW:=(show Blk w1 gd 92 #[.slice A l.length c,.int .i64 (l.length:Int),.int .i64 (room:Int)] from hx1).below kW (show gd<w1.heap.size from hx1.lt)
 have hoW:=row_below ho1 kW
 have q3:=hxW.cell
 have z3:=hxW.frozen
 clear q2
 iterate 2 (apply TailQ.pure;rfl;(simp[rhoP,List.lookup,updV,hA,execOp,bareOp,go_sem];rfl))
 refine TailQ.skip (W.setCell ⟨gd,0,none⟩ (.slice A l.length c)) rfl (by simp[rhoP,List.lookup,updV,hA,execOp,bareOp,q3,z3,go_sem]) ?_
 refine TailQ.nil ?_
 simp only[putAll,Act.put,List.setIfInBounds_toArray,List.set_cons_succ,List.set_cons_zero,Nat.reduceAdd]
 have hV:DkV gd (.slice A l.length c) l l.length room (W.setCell ⟨gd,0,none⟩ (.slice A l.length c)) :=
  ⟨hxW.set_ 0 (.slice A l.length c),row_upn hoW (UpN.set1 (X:=fun k=>k=gd) rfl 0 _) fun k hk e=>hne (by rw[hk,e]),hlr,hrr⟩
 have hU:DkU gd (.slice A l.length c) (.slice A l.length c) w (W.setCell ⟨gd,0,none⟩ (.slice A l.length c)):=⟨(u1.tr (UpN.of_k kW _)).tr (UpN.set1 (.inl rfl) 0 _),fun _ h=>.inl h⟩
 clear q3 z3 hA
 go_wp2
 all_goals
  go_end0
  exact⟨rfl,hV,hU⟩
section
open Go Go.RowKit Go.Shelf
attribute [local go_sem] Oper.semAt_some
end
section
open Go Go.RowKit Go.Shelf
attribute [local go_sem] Oper.semAt_some
end
theorem BUnsub1_calls {M:Nat->Prop} {p:BrW} {B:Brk} {w:World} (h:BrV M p B w) (hG:GoodB B) (c:Int) (hc:i64ok c) (n:Nat) (hn:n<18446744073709551616) (gb gc gn:Nat) (hgb:Blk w gb 28 #[.pointer (some ⟨p.g,0,none⟩)]) (hgc:Blk w gc 3 #[.int .i64 c]) (hgn:Blk w gn 33 #[.int .u64 (n:Int)]) :
 Calls Tryz.prog 55 #[idv (newB B),.pointer (some ⟨gb,0,none⟩),.pointer (some ⟨gc,0,none⟩),.pointer (some ⟨gn,0,none⟩)] w fun e w'=>∃ v',e=.returned (.tuple #[v',.int .i64 (askT B.txns (subE B 3 c n [])).2])/\OwnL w.heap.size w.heap.size 121 txS (askT B.txns (subE B 3 c n [])).1 v' w'/\K w w':=by
 have hnew:=hG.new
 have hfit:fitEn (subE B 3 c n []):=⟨by simp[subE,i64ok],hnew.1,hc,hnew.2.1,hnew.2.2,hn,by simp[subE],by simp[subE]⟩
 have C1:=Lib.hid fun W (k:K w W)=>Ask_calls B.txns (subE B 3 c n []) p.vt (.agg (entA (subE B 3 c n []) (.slice none 0 0) (.slice none 0 0))) W (h.dat.at k).txns ⟨_,_,rfl,⟨none,0,rfl,Reads.nil _ _ _ _⟩,lst_nil _ _⟩ hfit (by simp[smallEn,subE]) hG.tx.small hG.tx.len6
 have q:=h.q
 have qb:=hgb.cells
 have qc:=hgc.cells
 have qn:=hgn.cells
 skip
 have hs1:=lst_slice h.dat.now.txns
 simp only[subE] at C1
 have HN:Hid (newB B=(B.me,B.st.life,B.calls+1)):=Lib.hid rfl
 obtain⟨n1,hn1⟩:∃ n,n=B.calls+1:=⟨_,rfl⟩
 rw[<- hn1] at C1 HN
 rw[HN.out]
 generalize hR:askT B.txns (subE B 3 c n [])=R at *
 simp only[subE] at hR
 rw[<- hn1] at hR
 rw[hR] at C1
 clear hn1 hR HN
 have k1:K w (w.alloc (.cells #[.int .i64 B.me,.int .u64 (B.st.life:Int),.int .u64 (n1:Int)] 35)):=(K.rf w).al _
 have hb:=Blk.new w 35 #[.int .i64 B.me,.int .u64 (B.st.life:Int),.int .u64 (n1:Int)]
 obtain⟨g,gl,gd,gr,gt,vd,vr,vp,vh,vl,vq,va,vt,vf,vw,kr⟩:=p
 simp only at q C1 hs1 qb
 obtain⟨At,ct,rfl⟩:=hs1
 obtain⟨rl,rc⟩:=R
 clear h hG hgb hgc hgn hfit
 go_enter Tryz.func55,Tryz.ntmps55
 go_upto_region 1 with (fail)
 generalize w.alloc _=w1 at *
 obtain⟨lo,hlo⟩:∃ lo,Hid (lo=w.heap.size):=⟨_,Lib.hid rfl⟩
 generalize w.heap.size=ga at hb ⊢
 have qa:=hb.cells
 have q1:=fun W (k:K w1 W)=>q W (k1.tr k)
 have qb1:=fun W (k:K w1 W)=>qb W (k1.tr k)
 have qc1:=fun W (k:K w1 W)=>qc W (k1.tr k)
 have qn1:=fun W (k:K w1 W)=>qn W (k1.tr k)
 skip
 clear q qb qc qn hb
 refine wp_region_auto 11 [([],[]),([0],[(7,0)]),([1],[(8,1)]),([2],[(9,2)]),([],[]),([],[]),([],[]),([4,5,6],[(11,4),(12,5),(13,6)]),([3,7],[(10,3),(14,7)]),([8],[(15,8)]),([8],[(15,8)]),([0,1,2,3,4,5,6,7,8,9,10],[(16,9)]),([0,1,2,3,4,5,6,7,8,9,10,11],[(17,10)])] 18 rfl (by kernel_rfl) (by kernel_rfl) (by kernel_rfl) (by kernel_rfl) (by decide) ?_
 simp only[List.take_succ_cons,List.take_zero,List.drop_succ_cons,List.drop_zero]
 iterate 8 (apply AutoQ.is;intro V W kW hp;(try simp only[List.forall_mem_cons,List.nil_append,List.cons_append,tab_zero,tab_succ,isV] at hp);simp[wantsG,rhoP,List.lookup,hp,ResG,execOp,bareOp,isV,Below.refl,kW,q1,qa,qb1,qc1,qn1,go_sem];rfl)
 refine AutoQ.op (fun v W=>∃ v',v=.tuple #[v',.int .i64 rc]/\OwnL lo lo 121 txS rl v' W) (fun _ _ _ ⟨v',e,h⟩ k=>⟨v',e,h.st k⟩) (fun V W kW hp=>?_) ?_
 · (try simp only[List.forall_mem_cons,List.nil_append,List.cons_append,tab_zero,tab_succ,isV] at hp)
   simp[wantsG,rhoP,List.lookup,hp,ResG,execOp,bareOp,q1,qa,qb1,qc1,qn1,go_sem]
   refine (C1.out W (k1.tr kW)).mono ?_
   rintro e w4 ⟨v4,rfl,hO,k4⟩
   exact⟨_,rfl,⟨_,rfl,OwnL.low (OwnL.floor hO (by rw[hlo.out];exact (k1.tr kW).size)) (by rw[hlo.out];exact (k1.tr kW).size)⟩,k4⟩
 refine AutoQ.op (fun v W=>OwnL lo lo 121 txS rl v W) (fun _ _ _ h k=>h.st k) (fun V W kW hp=>?_) ?_
 · simp only[List.forall_mem_cons,List.nil_append,List.cons_append,tab_zero,tab_succ,isV] at hp
   obtain⟨⟨v',e,hO⟩,-⟩:=hp
   simp[wantsG,rhoP,List.lookup,e,ResG,execOp,bareOp,Below.refl,go_sem]
   exact hO
 refine AutoQ.is (.int .i64 rc) (fun V W kW hp=>?_) ?_
 · simp only[List.forall_mem_cons,List.nil_append,List.cons_append,tab_zero,tab_succ,isV] at hp
   obtain⟨⟨v',e,hO⟩,-⟩:=hp
   simp[wantsG,rhoP,List.lookup,e,ResG,execOp,bareOp,isV,Below.refl,go_sem]
 intro V W kW hA
 simp only[List.nil_append,List.cons_append,AllT,isV,Nat.reduceAdd] at hA
 obtain⟨e0,e1,e2,e3,e4,e5,e6,e7,⟨v',ev,hO1⟩,hO,ec,-⟩:=hA
 have kF:=k1.tr kW
 generalize hv7:V 9=v7 at *
 have hsl:=lst_slice hO.lst
 obtain⟨A7,c7,rfl⟩:=hsl
 apply TailQ.pure
 rfl
 simp[rhoP,List.lookup,updV,hv7,execOp,bareOp,go_sem]
 rfl
 apply TailQ.pure
 rfl
 simp[rhoP,List.lookup,updV,ec,execOp,bareOp,go_sem]
 rfl
 refine TailQ.nil ?_
 simp only[putAll,Act.put,List.setIfInBounds_toArray,List.set_cons_succ,List.set_cons_zero,Nat.reduceAdd,updV]
 have HO:=Lib.hid hO
 clear hO hO1 C1 q1 qa qb1 qc1 qn1 hv7 e0 e1 e2 e3 e4 e5 e6 e7 ev ec
 go_wp2
 go_ret2
 exact⟨_,rfl,by rw[<- hlo.out];exact HO.out,kF⟩
section
variable {M:Nat->Prop} {p:BrW} {B B':Brk} {w w1 w2 w3:World} {g9:Nat}
end
theorem BUnsub_calls {M:Nat->Prop} {p:BrW} {B:Brk} {w:World} (h:BrV M p B w) (hG:GoodB B) (c:Int) (hc:i64ok c) (n:Nat) (hn:n<18446744073709551616) :
 Calls Tryz.prog 20 #[.pointer (some ⟨p.g,0,none⟩),.int .i64 c,.int .u64 (n:Int)] w fun e w'=>e=.returned (.tuple #[idv (unsubB B c n).2.1,.int .i64 (unsubB B c n).2.2])/\BrN M p (unsubB B c n).1 w w':=by
 have HX:=Lib.hid fun k hk=>h.low k (h.sub k hk)
 have HM:=Lib.hid h.low
 have hb1:=((((Blk.new w 28 #[.pointer (some ⟨p.g,0,none⟩)]).alloc (.cells #[.int .i64 c] 3)).alloc (.cells #[.int .u64 (n:Int)] 33)).alloc (.cells #[.int .i64 0,.int .u64 0,.int .u64 0] 35))
 have hb2:=(((Blk.new (w.alloc (.cells #[.pointer (some ⟨p.g,0,none⟩)] 28)) 3 #[.int .i64 c]).alloc (.cells #[.int .u64 (n:Int)] 33)).alloc (.cells #[.int .i64 0,.int .u64 0,.int .u64 0] 35))
 have hb3:=((Blk.new ((w.alloc (.cells #[.pointer (some ⟨p.g,0,none⟩)] 28)).alloc (.cells #[.int .i64 c] 3)) 33 #[.int .u64 (n:Int)]).alloc (.cells #[.int .i64 0,.int .u64 0,.int .u64 0] 35))
 have hr:=Blk.new (((w.alloc (.cells #[.pointer (some ⟨p.g,0,none⟩)] 28)).alloc (.cells #[.int .i64 c] 3)).alloc (.cells #[.int .u64 (n:Int)] 33)) 35 #[.int .i64 0,.int .u64 0,.int .u64 0]
 have k1:K w ((((w.alloc (.cells #[.pointer (some ⟨p.g,0,none⟩)] 28)).alloc (.cells #[.int .i64 c] 3)).alloc (.cells #[.int .u64 (n:Int)] 33)).alloc (.cells #[.int .i64 0,.int .u64 0,.int .u64 0] 35)):=(((((K.rf w).al _).al _).al _).al _)
 simp only[World.size_alloc] at hb2 hb3 hr
 generalize hg9:w.heap.size+1+1+1=g9 at hr
 have h9:w.heap.size<=g9:=by omega
 have H9:=h.scr k1 h9 hr.lt
 have C1:=Lib.hid (BCall_calls H9 hG c 55 #[.pointer (some ⟨w.heap.size,0,none⟩),.pointer (some ⟨w.heap.size+1,0,none⟩),.pointer (some ⟨w.heap.size+1+1,0,none⟩)] (askT B.txns (subE B 3 c n [])) (fun args W=>by rfl) (fun W kW=>BUnsub1_calls (H9.st kW) hG c hc n hn _ _ _ (hb1.below kW hb1.lt) (hb2.below kW hb2.lt) (hb3.below kW hb3.lt)))
 have HMD:Hid (unsubB B c n=callB B c (askT B.txns (subE B 3 c n []))):=Lib.hid rfl
 generalize unsubB B c n=R at *
 generalize callB B c (askT B.txns (subE B 3 c n []))=RR at *
 obtain⟨B',nid,ec⟩:=RR
 have HS:=Lib.hid fun w2 w3 (hN:BrN (fun k=>M k∨k=g9) p B' _ w2) (u:UpN (fun k=>k=g9) w2 w3)=>hN.scratch u k1 h9 hr.lt HX.out HM.out
 have HR:=Lib.hid fun w2 (hN:BrN (fun k=>M k∨k=g9) p B' _ w2)=>hN.keeps hr fun hx=>by have:=HX.out _ hx;omega
 have q1:=hb1.cell
 have q2:=hb2.cell
 have q3:=hb3.cell
 have HG9:=Lib.hid hg9
 clear h hG hr H9 hc h9 hb1 hb2 hb3
 go_enter Tryz.func20,Tryz.ntmps20
 go_upto_region 1 with (fail)
 generalize World.alloc (World.alloc (World.alloc (World.alloc w _) _) _) _=w1 at *
 clear hg9
 go_wp2_with fail
 refine C1.out.mono ?_
 rintro e w2 ⟨rfl,hN⟩
 have hr2:=HR.out _ hN
 have HS2:=Lib.hid (HS.out _ · hN)
 have qr:=hr2.cell
 have zr:=hr2.frozen
 clear C1 HS HR hN q1 q2 q3
 go_wp2
 have hr91:Blk (World.setCell (World.setCell (World.setCell w2 _ _) _ _) _ _) g9 35 #[.int .i64 nid.1,.int .u64 (nid.2.1:Int),.int .u64 (nid.2.2:Int)]:=((hr2.set_ 0 (.int .i64 nid.1)).set_ 1 (.int .u64 (nid.2.1:Int))).set_ 2 (.int .u64 (nid.2.2:Int))
 have HF:=Lib.hid (HS2.out _ (((UpN.set1 (X:=fun k=>k=g9) rfl 0 (.int .i64 nid.1)).tr (UpN.set1 (X:=fun k=>k=g9) rfl 1 (.int .u64 (nid.2.1:Int)))).tr (UpN.set1 (X:=fun k=>k=g9) rfl 2 (.int .u64 (nid.2.2:Int)))))
 clear qr zr hr2 HS2
 generalize World.setCell (World.setCell (World.setCell w2 _ _) _ _) _ _=W9 at *
 have e9:=hr91.cell
 try rw[Exit.noGoto_ret]
 refine bodyPost_ret (v:=.tuple #[idv nid,.int .i64 ec]) (by simp[results,Tryz.results20,go_sem,e9]) rfl ?_
 exact⟨by rw[HMD.out],by rw[HMD.out];exact HF.out⟩
section
variable {X X' Z Z':Nat->Prop} {g gd:Nat} {B B':Brk} {W W':World}
theorem LivX.less (h:LivX X Z g gd B W) (hX:∀ k,X' k->X k) (hZ:∀ k,Z' k->Z k):LivX X' Z' g gd B W:=h.more (K.rf W) (fun k hk=>.inl (hX k hk)) fun k hk=>.inl (hZ k hk)
theorem LivX.far (h:LivX X Z g gd B W) (u:UpN X W W') (hX:∀ k,X k->Z k):LivX X Z g gd B W':=by
 obtain⟨hG,p,hb,hg,hz⟩:=h
 exact⟨hG,p,hb.far u (fun _ h=>.inl h) (fun k hk=>(hz k (hX k hk)).1) (fun _ _ h=>h) (fun _ h=>.inr h) (fun k hk=>Nat.lt_of_lt_of_le (hb.low k hk) u.size),hg,fun k hk=>⟨(hz k hk).1,Nat.lt_of_lt_of_le (hz k hk).2 u.size⟩⟩
theorem KUnsub (h:LivX X Z g gd B W) (c:Int) (hc:i64ok c) (hn:B.calls+1<4611686018427387904) (n:Nat) (hn':n<18446744073709551616) :
 Calls Tryz.prog 20 #[.pointer (some ⟨g,0,none⟩),.int .i64 c,.int .u64 (n:Int)] W fun e w'=>e=.returned (.tuple #[idv (unsubB B c n).2.1,.int .i64 (unsubB B c n).2.2])/\LivX X Z g gd (unsubB B c n).1 w'/\UpN (fun k=>¬ Z k) W w' :=
 h.call (fun p hb e=>kg e ▸ BUnsub_calls hb h.1.toGoodB c hc n hn') (h.1.ask hn (by simp[i64ok]) hc hn' (by simp))
end
section
open Go Go.RowKit Go.ChangeShapes Go.WideShapes Go.ChangeAt
section
variable {H:Type} {enc:TypeId×Value->H} {w:World} {base:Nat} {r:Reach} {b0:Nat} {spare:Nat->Bool} {held:Bool} {v:Value} {d:DataW H} {p:List MemPlace}
theorem vo_cells {fuel:Nat} {cs:List Value} {x:DataW H×List MemPlace} (h:DataW.trod enc Tryz.prog w base spare held fuel 138 cs=some x):∃ y:Vot,voS.rel y cs w/\fitI y.id:=by
 obtain⟨xs,n,_,_,hlen,hxl,hf⟩:=DataW.trod_struct Tryz.underlying138 h
 have hC:Tryz.prog.cellsOf 138=4:=by kernel_rfl
 rw[hC] at hlen
 have e1:Tryz.prog.cellsOf 4=1:=by kernel_rfl
 have e3:Tryz.prog.cellsOf 35=3:=by kernel_rfl
 have hxl':xs.length=2:=hxl
 match cs,hlen with
 | [c0,c1,c2,c3],_ =>
   have h0:=hf 0 _ rfl
   have h1:=hf 1 _ rfl
   simp[e1,e3] at h0 h1
   rw[List.getElem?_eq_getElem (by omega)] at h0 h1
   obtain⟨i,ei,wi⟩:=id_cells h0
   obtain⟨b,eb⟩:=bool_cells h1
   obtain⟨i0,i1,i2⟩:=i
   simp at ei eb
   obtain⟨rfl,rfl,rfl⟩:=ei
   subst eb
   exact⟨⟨(i0,i1,i2),b⟩,rfl,wi⟩
theorem ms_cells {fuel:Nat} {cs:List Value} {x:DataW H×List MemPlace} (h:DataW.trod enc Tryz.prog w base spare held fuel 61 cs=some x) :
 ∃ (m:Msg) (v1 v2 v3 v4 v5 v6:Value),cs=(msA m v1 v2 v3 v4 v5 v6).toList/\(lst voS m.votes v1 w/\lst enS m.asks v2 w/\lst enS m.entries v3 w/\lst enS m.prepares v4 w/\lst idS m.aborts v5 w/\lst idS m.ends v6 w)/\fitM m:=by
 obtain⟨xs,n,_,_,hlen,hxl,hf⟩:=DataW.trod_struct Tryz.underlying61 h
 have hC:Tryz.prog.cellsOf 61=8:=by kernel_rfl
 rw[hC] at hlen
 have e1:Tryz.prog.cellsOf 3=1:=by kernel_rfl
 have e2:Tryz.prog.cellsOf 33=1:=by kernel_rfl
 have e3:Tryz.prog.cellsOf 59=1:=by kernel_rfl
 have e4:Tryz.prog.cellsOf 32=1:=by kernel_rfl
 have e5:Tryz.prog.cellsOf 51=1:=by kernel_rfl
 have hxl':xs.length=8:=hxl
 match cs,hlen with
 | [c0,c1,c2,c3,c4,c5,c6,c7],_ =>
   have h0:=hf 0 _ rfl
   have h1:=hf 1 _ rfl
   have h2:=hf 2 _ rfl
   have h3:=hf 3 _ rfl
   have h4:=hf 4 _ rfl
   have h5:=hf 5 _ rfl
   have h6:=hf 6 _ rfl
   have h7:=hf 7 _ rfl
   simp[e1,e2,e3,e4,e5] at h0 h1 h2 h3 h4 h5 h6 h7
   rw[List.getElem?_eq_getElem (by omega)] at h0 h1 h2 h3 h4 h5 h6 h7
   obtain⟨k,ek,wk⟩:=i64_cells h0
   obtain⟨g,eg,wg⟩:=u64_cells h1
   obtain⟨v1,l1,f1,g1,o1⟩:=lst_cells Tryz.underlying59 voS (fun v=>fitI v.id) (by kernel_rfl) (by decide) (fun _ _ _ _ ht=>vo_cells ht) h2
   obtain⟨v2,l2,f2,g2,o2⟩:=lst_cells Tryz.underlying32 enS fitEn (by kernel_rfl) (by decide) (fun _ _ _ _ ht=>en_cells ht) h3
   obtain⟨v3,l3,f3,g3,o3⟩:=lst_cells Tryz.underlying32 enS fitEn (by kernel_rfl) (by decide) (fun _ _ _ _ ht=>en_cells ht) h4
   obtain⟨v4,l4,f4,g4,o4⟩:=lst_cells Tryz.underlying32 enS fitEn (by kernel_rfl) (by decide) (fun _ _ _ _ ht=>en_cells ht) h5
   obtain⟨v5,l5,f5,g5,o5⟩:=lst_cells Tryz.underlying51 idS fitI (by kernel_rfl) (by decide) (fun _ _ _ _ ht=>by obtain⟨y,e,o⟩:=id_cells ht;exact⟨y,e,o⟩) h6
   obtain⟨v6,l6,f6,g6,o6⟩:=lst_cells Tryz.underlying51 idS fitI (by kernel_rfl) (by decide) (fun _ _ _ _ ht=>by obtain⟨y,e,o⟩:=id_cells ht;exact⟨y,e,o⟩) h7
   simp at ek eg f1 f2 f3 f4 f5 f6
   subst ek eg f1 f2 f3 f4 f5 f6
   exact⟨⟨k,g,l1,l2,l3,l4,l5,l6⟩,_,_,_,_,_,_,rfl,⟨g1,g2,g3,g4,g5,g6⟩,wk,wg,o1,o2,o3,o4,o5,o6⟩
end
end
