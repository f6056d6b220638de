/-
  The walks of broker.whole, order.whole, vote.whole: an entry in memory of its own. Conditions: lists of at most a million.
-/
import Derived.Test.YtagfakjifhdpgaaGreatMa23
set_option maxRecDepth 100000
set_option maxHeartbeats 16000000
set_option linter.unusedVariables false
set_option linter.unusedSimpArgs false
namespace Go.Proofs.YtagfakjifhdpgaaGreat
open Go Go.RowKit
theorem entO_fx {B:Nat} {x:Ent} {v:Value} {w:World} (h:entO B x v w):∃ vf ve,v=.agg (entA x vf ve)/\Fx (fun k=>k<B) (fun W=>enS.rel x (entA x vf ve).toList W) w:=by
 have h2:=h
 obtain⟨vf,ve,e,-,-⟩:=h
 refine⟨vf,ve,e,fun W u=>?_⟩
 obtain⟨vf',ve',e',h1,h2⟩:=entO_ent (entO_up h2 W (u.upB fun k h1 _ _ h2=>by omega))
 rw[e] at e'
 injection e' with e'
 exact⟨vf',ve',congrArg Array.toList e',h1,h2⟩
theorem BWhole_calls (x:Ent) (v:Value) (w:World) (h:ent x v w) (hs:smallEn x) :
 Calls Tryz.prog 54 #[v] w fun e w'=>∃ v',e=.returned v'/\entO w.heap.size x v' w'/\K w w':=by
 obtain⟨vf,ve,rfl,hf,he⟩:=h
 obtain⟨A,c,e0,hfr⟩:=hf
 obtain rfl:=e0
 obtain⟨D,d,e0,he,hd⟩:=he
 obtain rfl:=e0
 obtain⟨hs1,hs2,hs3⟩:=hs
 obtain⟨k,b,l,s,cl,u,f,es⟩:=x
 simp only at hfr he hd hs1 hs2 hs3 ⊢
 have hx:=(Blk.new w 42 (entA ⟨k,b,l,s,cl,u,f,es⟩ (.slice A f.length c) (.slice D es.length d))).alloc (.cells zEnt 42)
 have hr:=Blk.new (w.alloc (.cells (entA ⟨k,b,l,s,cl,u,f,es⟩ (.slice A f.length c) (.slice D es.length d)) 42)) 42 zEnt
 have k1:K w ((w.alloc (.cells (entA ⟨k,b,l,s,cl,u,f,es⟩ (.slice A f.length c) (.slice D es.length d)) 42)).alloc (.cells zEnt 42)):=((K.rf w).al _).al _
 have hz:(w.alloc (.cells (entA ⟨k,b,l,s,cl,u,f,es⟩ (.slice A f.length c) (.slice D es.length d)) 42)).heap.size=w.heap.size+1:=by simp
 rw[hz] at hr
 clear hz
 have HS3:=Lib.hid hs3
 clear hs3
 go_enter Tryz.func54,Tryz.ntmps54
 go_upto_region 1 with (fail)
 generalize World.alloc (World.alloc w _) _=w1 at *
 have hfr1:=(hfr.below k1 (Nat.le_refl _)).more k1.size
 have hr1:=hr.lt
 clear hfr
 have q:=hx.cell
 have z:=hx.frozen
 go_wp2_with (at_builtin;refine wpList_app rfl _ _ 40 rfl w1.heap.size 87 _ 5 56 TF _ 0 [] rfl (World.ownsRow_nil _ _ _ _) _ A f.length c (f.flatMap tstc) rfl hfr1 (tsts_one' f) ?p1 (Nat.le_refl _) ?_)
 case p1=>omega
 intro v1 w2 ho1 _ _ hb1
 have hx2:=hx.below hb1 hx.lt
 have hr2:=hr.below hb1 hr.lt
 have k2:=k1.tr hb1
 obtain⟨A1,c1,rfl,-⟩:=(show OwnF w2 w1.heap.size v1 f from ho1).slice
 clear q z hx hr
 have q:=hx2.cell
 have z:=hx2.frozen
 have hz12:=hb1.size
 clear hb1
 go_upto_region 3 with (fail)
 have hx3:Blk (w2.setCell ⟨w.heap.size,6,none⟩ (.slice A1 f.length c1)) w.heap.size 42 #[.int .i64 k,.int .i64 b,.int .u64 (l:Int),.int .u64 (s:Int),.int .i64 cl,.int .u64 (u:Int),.slice A1 f.length c1,.slice D es.length d]:=hx2.set_ 6 (.slice A1 f.length c1)
 have hr3:=hr2.far (p:=⟨w.heap.size,6,none⟩) (by simp) (.slice A1 f.length c1)
 have k3:K w (w2.setCell ⟨w.heap.size,6,none⟩ (.slice A1 f.length c1)):=K.set k2 (Nat.le_refl _) 6 _
 have ho3:OwnF (w2.setCell ⟨w.heap.size,6,none⟩ (.slice A1 f.length c1)) w1.heap.size (.slice A1 f.length c1) f:=OwnF.up ho1 (UpB.set (by omega) 6 _)
 have hgz:w.heap.size+1<(w2.setCell ⟨w.heap.size,6,none⟩ (.slice A1 f.length c1)).heap.size:=by simp[World.setCell];omega
 clear hx2 hr2 k2 ho1 q z
 generalize w2.setCell _ _=w3 at *
 have TOK:=K.rf w3
 have q:=hx3.cell
 go_wp2_with fail
 clear q
 go_loopw [3,5,13] (fun o _ i W=>∃ j:Nat,j<=es.length/\i=.int .i64 (j:Int)/\OwnL w3.heap.size w3.heap.size 45 evS (es.take j) o W/\K w3 W) (fun _ _ i _=>es.length - (intOf i).toNat)
 case atStart=>exact⟨0,by omega,rfl,by simpa using OwnL.nil _ _ _ _ _,TOK⟩
 case round =>
  clear TOK
  obtain⟨j,hj,rfl,hO,kr⟩:=hrel
  have kwr:=k3.tr kr
  by_cases hlt:j<es.length
  · have hji:(j:Int)<(es.length:Int):=by omega
    obtain⟨b1,off,cs,rfl,hb1,hcl,⟨ve,rfl,hev⟩,hcell⟩:=lsr_at he j hlt (by decide)
    have d0:wr.cell? ⟨b1,off+j,none⟩=some ve:=by
     have:=hcell 0 (by decide)
     rw[kwr.cell (by simpa using hb1)]
     simpa [evS] using this
    have HT:Hid (es.take (j+1)=es.take j++[es[j]]):=Lib.hid (by rw[List.take_succ_eq_append_getElem hlt])
    have hej:=HS3.out _ (List.getElem_mem hlt)
    have hevr:=evt_st _ _ _ _ hev kwr
    generalize es[j]=ej at *
    obtain⟨Ae,ce,rfl,hRe⟩:=hevr
    have htl:(es.take j).length<=1000000:=by simp;omega
    have hbs:=kr.size
    clear hcell hev
    go_wp2_with (at_builtin;refine wpList_app rfl _ _ 45 rfl wr.heap.size 90 _ 4 48 TE _ 0 [] rfl (World.ownsRow_nil _ _ _ _) _ Ae ej.length ce (ej.flatMap attc) rfl hRe (atts_one ej) ?p1 (Nat.le_refl _) ?_)
    case p1=>omega
    intro v2 w4 ho2 _ _ hb2
    have HEv:=Lib.hid (OwnE.rel (show OwnE w4 wr.heap.size v2 ej from ho2))
    obtain⟨A2,c2,rfl,-⟩:=(show OwnE w4 wr.heap.size v2 ej from ho2).slice
    have hvc:=hO.blk
    have hO4:=hO.st hb2
    have kr4:=kr.tr hb2
    obtain⟨css,hown,hcl,hEa⟩:=hO4
    have hz4:=hb2.size
    clear hO hb2 ho2
    have kA:K w4 (w4.alloc (.cells #[.slice A2 ej.length c2] 45)):=(K.rf w4).al _
    have hbase:w3.heap.size<=(w4.alloc (.cells #[.slice A2 ej.length c2] 45)).heap.size:=by have:=kA.size;omega
    go_wp2_with (at_builtin;refine wpList_app rfl _ _ 38 rfl w3.heap.size 45 _ 1 24 TEv _ _ _ rfl (World.ownsRow.alloc hown _) (w4.heap.size+1) _ 1 1 [.slice A2 ej.length c2] rfl ?c1 ?c2 ?c3 hbase ?_)
    case c1=>exact Reads.new w4 [.slice A2 ej.length c2] 45 1 1 rfl
    case c2=>intro u hu;simp at hu;subst hu;rfl
    case c3=>omega
    intro v9 w9 hown9 hg9 hat9 hb9
    have k9:=(kr4.tr kA).trans hb9
    have hO9:OwnL w3.heap.size w3.heap.size 45 evS (es.take (j+1)) v9 w9:=by
     rw[HT.out]
     exact OwnL.snoc hcl (fun w' u=>hEa w' (UpB.tr (UpB.of_k kA _ _) u)) (by rw[List.length_take_of_le (show j<=es.length by omega)];exact hown9) hg9 (by rw[World.size_alloc];exact hat9)
      (fun w' u=>HEv.out w' ((UpB.tr (UpB.of_k kA _ _) u).more (by omega) (fun k hk _ e=>by have:=(hvc k e.symm).2;omega)))
    clear hown9 hg9 hat9 hb9 hown hEa
    go_wp2
    go_roundw
    case rel=>exact⟨j+1,by omega,by go_num,hO9,k9⟩
    case measure=>simp[intOf];omega
  · have hji:¬ (j:Int)<(es.length:Int):=by omega
    rw[List.take_of_length_le (by omega)] at hO
    have hxr:=hx3.below kr hx3.lt
    have hrr:=hr3.below kr hr3.lt
    have hor:OwnF wr w1.heap.size (.slice A1 f.length c1) f:=row_below ho3 kr
    obtain⟨Ao,co,rfl,-⟩:=hO.slice
    have q:=hxr.cell
    have z:=hxr.frozen
    have hzz:=kr.size
    go_upto_region 9 with (fail)
    have hx5:Blk (wr.setCell ⟨w.heap.size,7,none⟩ (.slice Ao es.length co)) w.heap.size 42 #[.int .i64 k,.int .i64 b,.int .u64 (l:Int),.int .u64 (s:Int),.int .i64 cl,.int .u64 (u:Int),.slice A1 f.length c1,.slice Ao es.length co]:=hxr.set_ 7 _
    have hr5:=hrr.far (p:=⟨w.heap.size,7,none⟩) (by simp) (.slice Ao es.length co)
    have k5:K w (wr.setCell ⟨w.heap.size,7,none⟩ (.slice Ao es.length co)):=K.set kwr (Nat.le_refl _) 7 _
    have ho5:=OwnF.up hor (w':=wr.setCell ⟨w.heap.size,7,none⟩ (.slice Ao es.length co)) (UpB.set (by omega) 7 _)
    have hO5:=hO.up (w':=wr.setCell ⟨w.heap.size,7,none⟩ (.slice Ao es.length co)) (Nat.le_refl _) (UpB.set (by omega) 7 _)
    clear hxr hrr hor hO q z
    generalize wr.setCell _ _=w5 at *
    have q:=hx5.cell
    have y:=hr5.cell
    have z:=hr5.frozen
    go_wp2
    have hr9:Blk (World.setCell w5 _ _) (w.heap.size+1) 42 #[.int .i64 k,.int .i64 0,.int .u64 0,.int .u64 0,.int .i64 0,.int .u64 0,.slice none 0 0,.slice none 0 0]:=(hr5).set_ 0 (.int .i64 k)
    have hr9:Blk (World.setCell (World.setCell w5 _ _) _ _) (w.heap.size+1) 42 #[.int .i64 k,.int .i64 b,.int .u64 0,.int .u64 0,.int .i64 0,.int .u64 0,.slice none 0 0,.slice none 0 0]:=(hr9).set_ 1 (.int .i64 b)
    have hr9:Blk (World.setCell (World.setCell (World.setCell w5 _ _) _ _) _ _) (w.heap.size+1) 42 #[.int .i64 k,.int .i64 b,.int .u64 (l:Int),.int .u64 0,.int .i64 0,.int .u64 0,.slice none 0 0,.slice none 0 0]:=(hr9).set_ 2 (.int .u64 (l:Int))
    have hr9:Blk (World.setCell (World.setCell (World.setCell (World.setCell w5 _ _) _ _) _ _) _ _) (w.heap.size+1) 42 #[.int .i64 k,.int .i64 b,.int .u64 (l:Int),.int .u64 (s:Int),.int .i64 0,.int .u64 0,.slice none 0 0,.slice none 0 0]:=(hr9).set_ 3 (.int .u64 (s:Int))
    have hr9:Blk (World.setCell (World.setCell (World.setCell (World.setCell (World.setCell w5 _ _) _ _) _ _) _ _) _ _) (w.heap.size+1) 42 #[.int .i64 k,.int .i64 b,.int .u64 (l:Int),.int .u64 (s:Int),.int .i64 cl,.int .u64 0,.slice none 0 0,.slice none 0 0]:=(hr9).set_ 4 (.int .i64 cl)
    have hr9:Blk (World.setCell (World.setCell (World.setCell (World.setCell (World.setCell (World.setCell w5 _ _) _ _) _ _) _ _) _ _) _ _) (w.heap.size+1) 42 #[.int .i64 k,.int .i64 b,.int .u64 (l:Int),.int .u64 (s:Int),.int .i64 cl,.int .u64 (u:Int),.slice none 0 0,.slice none 0 0]:=(hr9).set_ 5 (.int .u64 (u:Int))
    have hr9:Blk (World.setCell (World.setCell (World.setCell (World.setCell (World.setCell (World.setCell (World.setCell w5 _ _) _ _) _ _) _ _) _ _) _ _) _ _) (w.heap.size+1) 42 #[.int .i64 k,.int .i64 b,.int .u64 (l:Int),.int .u64 (s:Int),.int .i64 cl,.int .u64 (u:Int),.slice A1 f.length c1,.slice none 0 0]:=(hr9).set_ 6 (.slice A1 f.length c1)
    have hr9:Blk (World.setCell (World.setCell (World.setCell (World.setCell (World.setCell (World.setCell (World.setCell (World.setCell w5 _ _) _ _) _ _) _ _) _ _) _ _) _ _) _ _) (w.heap.size+1) 42 #[.int .i64 k,.int .i64 b,.int .u64 (l:Int),.int .u64 (s:Int),.int .i64 cl,.int .u64 (u:Int),.slice A1 f.length c1,.slice Ao es.length co]:=(hr9).set_ 7 (.slice Ao es.length co)
    have U9:=((((((((UpB.rf (w.heap.size+1+1) none w5).tr (UpB.set (b:=w.heap.size+1) (by omega) 0 (.int .i64 k))).tr (UpB.set (b:=w.heap.size+1) (by omega) 1 (.int .i64 b))).tr (UpB.set (b:=w.heap.size+1) (by omega) 2 (.int .u64 (l:Int)))).tr (UpB.set (b:=w.heap.size+1) (by omega) 3 (.int .u64 (s:Int)))).tr (UpB.set (b:=w.heap.size+1) (by omega) 4 (.int .i64 cl))).tr (UpB.set (b:=w.heap.size+1) (by omega) 5 (.int .u64 (u:Int)))).tr (UpB.set (b:=w.heap.size+1) (by omega) 6 (.slice A1 f.length c1))).tr (UpB.set (b:=w.heap.size+1) (by omega) 7 (.slice Ao es.length co))
    have K9:=(K.set (K.set (K.set (K.set (K.set (K.set (K.set (K.set k5 (r:=w.heap.size+1) (by omega) 0 (.int .i64 k)) (r:=w.heap.size+1) (by omega) 1 (.int .i64 b)) (r:=w.heap.size+1) (by omega) 2 (.int .u64 (l:Int))) (r:=w.heap.size+1) (by omega) 3 (.int .u64 (s:Int))) (r:=w.heap.size+1) (by omega) 4 (.int .i64 cl)) (r:=w.heap.size+1) (by omega) 5 (.int .u64 (u:Int))) (r:=w.heap.size+1) (by omega) 6 (.slice A1 f.length c1)) (r:=w.heap.size+1) (by omega) 7 (.slice Ao es.length co))
    clear q y z
    generalize (World.setCell (World.setCell (World.setCell (World.setCell (World.setCell (World.setCell (World.setCell (World.setCell w5 _ _) _ _) _ _) _ _) _ _) _ _) _ _) _ _)=W9 at *
    have e9:=hr9.cell
    refine bodyPost_ret (v:=.agg #[.int .i64 k,.int .i64 b,.int .u64 (l:Int),.int .u64 (s:Int),.int .i64 cl,.int .u64 (u:Int),.slice A1 f.length c1,.slice Ao es.length co]) (by simp[results,Tryz.results54,go_sem,e9]) rfl ?_
    exact⟨_,rfl,⟨_,_,rfl,row_base (by omega) (OwnF.up ho5 (U9.more (by omega) (fun _ _ _=>by simp))),(OwnL.low (OwnL.floor (hO5.up (Nat.le_refl _) (U9.more (by omega) (fun _ _ _=>by simp))) (by omega)) (by omega))⟩,K9⟩
theorem OWhole_calls (x:Ent) (v:Value) (w:World) (h:ent x v w) (hs:smallEn x) :
 Calls Tryz.prog 173 #[v] w fun e w'=>∃ v',e=.returned v'/\entO w.heap.size x v' w'/\K w w':=by
 obtain⟨vf,ve,rfl,hf,he⟩:=h
 obtain⟨A,c,e0,hfr⟩:=hf
 obtain rfl:=e0
 obtain⟨D,d,e0,he,hd⟩:=he
 obtain rfl:=e0
 obtain⟨hs1,hs2,hs3⟩:=hs
 obtain⟨k,b,l,s,cl,u,f,es⟩:=x
 simp only at hfr he hd hs1 hs2 hs3 ⊢
 have hx:=(Blk.new w 42 (entA ⟨k,b,l,s,cl,u,f,es⟩ (.slice A f.length c) (.slice D es.length d))).alloc (.cells zEnt 42)
 have hr:=Blk.new (w.alloc (.cells (entA ⟨k,b,l,s,cl,u,f,es⟩ (.slice A f.length c) (.slice D es.length d)) 42)) 42 zEnt
 have k1:K w ((w.alloc (.cells (entA ⟨k,b,l,s,cl,u,f,es⟩ (.slice A f.length c) (.slice D es.length d)) 42)).alloc (.cells zEnt 42)):=((K.rf w).al _).al _
 have hz:(w.alloc (.cells (entA ⟨k,b,l,s,cl,u,f,es⟩ (.slice A f.length c) (.slice D es.length d)) 42)).heap.size=w.heap.size+1:=by simp
 rw[hz] at hr
 clear hz
 have HS3:=Lib.hid hs3
 clear hs3
 go_enter Tryz.func173,Tryz.ntmps173
 go_upto_region 1 with (fail)
 generalize World.alloc (World.alloc w _) _=w1 at *
 have hfr1:=(hfr.below k1 (Nat.le_refl _)).more k1.size
 have hr1:=hr.lt
 clear hfr
 have q:=hx.cell
 have z:=hx.frozen
 go_wp2_with (at_builtin;refine wpList_app rfl _ _ 40 rfl w1.heap.size 87 _ 5 56 TF _ 0 [] rfl (World.ownsRow_nil _ _ _ _) _ A f.length c (f.flatMap tstc) rfl hfr1 (tsts_one' f) ?p1 (Nat.le_refl _) ?_)
 case p1=>omega
 intro v1 w2 ho1 _ _ hb1
 have hx2:=hx.below hb1 hx.lt
 have hr2:=hr.below hb1 hr.lt
 have k2:=k1.tr hb1
 obtain⟨A1,c1,rfl,-⟩:=(show OwnF w2 w1.heap.size v1 f from ho1).slice
 clear q z hx hr
 have q:=hx2.cell
 have z:=hx2.frozen
 have hz12:=hb1.size
 clear hb1
 go_upto_region 3 with (fail)
 have hx3:Blk (w2.setCell ⟨w.heap.size,6,none⟩ (.slice A1 f.length c1)) w.heap.size 42 #[.int .i64 k,.int .i64 b,.int .u64 (l:Int),.int .u64 (s:Int),.int .i64 cl,.int .u64 (u:Int),.slice A1 f.length c1,.slice D es.length d]:=hx2.set_ 6 (.slice A1 f.length c1)
 have hr3:=hr2.far (p:=⟨w.heap.size,6,none⟩) (by simp) (.slice A1 f.length c1)
 have k3:K w (w2.setCell ⟨w.heap.size,6,none⟩ (.slice A1 f.length c1)):=K.set k2 (Nat.le_refl _) 6 _
 have ho3:OwnF (w2.setCell ⟨w.heap.size,6,none⟩ (.slice A1 f.length c1)) w1.heap.size (.slice A1 f.length c1) f:=OwnF.up ho1 (UpB.set (by omega) 6 _)
 have hgz:w.heap.size+1<(w2.setCell ⟨w.heap.size,6,none⟩ (.slice A1 f.length c1)).heap.size:=by simp[World.setCell];omega
 clear hx2 hr2 k2 ho1 q z
 generalize w2.setCell _ _=w3 at *
 have TOK:=K.rf w3
 have q:=hx3.cell
 go_wp2_with fail
 clear q
 go_loopw [3,5,13] (fun o _ i W=>∃ j:Nat,j<=es.length/\i=.int .i64 (j:Int)/\OwnL w3.heap.size w3.heap.size 45 evS (es.take j) o W/\K w3 W) (fun _ _ i _=>es.length - (intOf i).toNat)
 case atStart=>exact⟨0,by omega,rfl,by simpa using OwnL.nil _ _ _ _ _,TOK⟩
 case round =>
  clear TOK
  obtain⟨j,hj,rfl,hO,kr⟩:=hrel
  have kwr:=k3.tr kr
  by_cases hlt:j<es.length
  · have hji:(j:Int)<(es.length:Int):=by omega
    obtain⟨b1,off,cs,rfl,hb1,hcl,⟨ve,rfl,hev⟩,hcell⟩:=lsr_at he j hlt (by decide)
    have d0:wr.cell? ⟨b1,off+j,none⟩=some ve:=by
     have:=hcell 0 (by decide)
     rw[kwr.cell (by simpa using hb1)]
     simpa [evS] using this
    have HT:Hid (es.take (j+1)=es.take j++[es[j]]):=Lib.hid (by rw[List.take_succ_eq_append_getElem hlt])
    have hej:=HS3.out _ (List.getElem_mem hlt)
    have hevr:=evt_st _ _ _ _ hev kwr
    generalize es[j]=ej at *
    obtain⟨Ae,ce,rfl,hRe⟩:=hevr
    have htl:(es.take j).length<=1000000:=by simp;omega
    have hbs:=kr.size
    clear hcell hev
    go_wp2_with (at_builtin;refine wpList_app rfl _ _ 45 rfl wr.heap.size 90 _ 4 48 TE _ 0 [] rfl (World.ownsRow_nil _ _ _ _) _ Ae ej.length ce (ej.flatMap attc) rfl hRe (atts_one ej) ?p1 (Nat.le_refl _) ?_)
    case p1=>omega
    intro v2 w4 ho2 _ _ hb2
    have HEv:=Lib.hid (OwnE.rel (show OwnE w4 wr.heap.size v2 ej from ho2))
    obtain⟨A2,c2,rfl,-⟩:=(show OwnE w4 wr.heap.size v2 ej from ho2).slice
    have hvc:=hO.blk
    have hO4:=hO.st hb2
    have kr4:=kr.tr hb2
    obtain⟨css,hown,hcl,hEa⟩:=hO4
    have hz4:=hb2.size
    clear hO hb2 ho2
    have kA:K w4 (w4.alloc (.cells #[.slice A2 ej.length c2] 45)):=(K.rf w4).al _
    have hbase:w3.heap.size<=(w4.alloc (.cells #[.slice A2 ej.length c2] 45)).heap.size:=by have:=kA.size;omega
    go_wp2_with (at_builtin;refine wpList_app rfl _ _ 38 rfl w3.heap.size 45 _ 1 24 TEv _ _ _ rfl (World.ownsRow.alloc hown _) (w4.heap.size+1) _ 1 1 [.slice A2 ej.length c2] rfl ?c1 ?c2 ?c3 hbase ?_)
    case c1=>exact Reads.new w4 [.slice A2 ej.length c2] 45 1 1 rfl
    case c2=>intro u hu;simp at hu;subst hu;rfl
    case c3=>omega
    intro v9 w9 hown9 hg9 hat9 hb9
    have k9:=(kr4.tr kA).trans hb9
    have hO9:OwnL w3.heap.size w3.heap.size 45 evS (es.take (j+1)) v9 w9:=by
     rw[HT.out]
     exact OwnL.snoc hcl (fun w' u=>hEa w' (UpB.tr (UpB.of_k kA _ _) u)) (by rw[List.length_take_of_le (show j<=es.length by omega)];exact hown9) hg9 (by rw[World.size_alloc];exact hat9)
      (fun w' u=>HEv.out w' ((UpB.tr (UpB.of_k kA _ _) u).more (by omega) (fun k hk _ e=>by have:=(hvc k e.symm).2;omega)))
    clear hown9 hg9 hat9 hb9 hown hEa
    go_wp2
    go_roundw
    case rel=>exact⟨j+1,by omega,by go_num,hO9,k9⟩
    case measure=>simp[intOf];omega
  · have hji:¬ (j:Int)<(es.length:Int):=by omega
    rw[List.take_of_length_le (by omega)] at hO
    have hxr:=hx3.below kr hx3.lt
    have hrr:=hr3.below kr hr3.lt
    have hor:OwnF wr w1.heap.size (.slice A1 f.length c1) f:=row_below ho3 kr
    obtain⟨Ao,co,rfl,-⟩:=hO.slice
    have q:=hxr.cell
    have z:=hxr.frozen
    have hzz:=kr.size
    go_upto_region 9 with (fail)
    have hx5:Blk (wr.setCell ⟨w.heap.size,7,none⟩ (.slice Ao es.length co)) w.heap.size 42 #[.int .i64 k,.int .i64 b,.int .u64 (l:Int),.int .u64 (s:Int),.int .i64 cl,.int .u64 (u:Int),.slice A1 f.length c1,.slice Ao es.length co]:=hxr.set_ 7 _
    have hr5:=hrr.far (p:=⟨w.heap.size,7,none⟩) (by simp) (.slice Ao es.length co)
    have k5:K w (wr.setCell ⟨w.heap.size,7,none⟩ (.slice Ao es.length co)):=K.set kwr (Nat.le_refl _) 7 _
    have ho5:=OwnF.up hor (w':=wr.setCell ⟨w.heap.size,7,none⟩ (.slice Ao es.length co)) (UpB.set (by omega) 7 _)
    have hO5:=hO.up (w':=wr.setCell ⟨w.heap.size,7,none⟩ (.slice Ao es.length co)) (Nat.le_refl _) (UpB.set (by omega) 7 _)
    clear hxr hrr hor hO q z
    generalize wr.setCell _ _=w5 at *
    have q:=hx5.cell
    have y:=hr5.cell
    have z:=hr5.frozen
    go_wp2
    have hr9:Blk (World.setCell w5 _ _) (w.heap.size+1) 42 #[.int .i64 k,.int .i64 0,.int .u64 0,.int .u64 0,.int .i64 0,.int .u64 0,.slice none 0 0,.slice none 0 0]:=(hr5).set_ 0 (.int .i64 k)
    have hr9:Blk (World.setCell (World.setCell w5 _ _) _ _) (w.heap.size+1) 42 #[.int .i64 k,.int .i64 b,.int .u64 0,.int .u64 0,.int .i64 0,.int .u64 0,.slice none 0 0,.slice none 0 0]:=(hr9).set_ 1 (.int .i64 b)
    have hr9:Blk (World.setCell (World.setCell (World.setCell w5 _ _) _ _) _ _) (w.heap.size+1) 42 #[.int .i64 k,.int .i64 b,.int .u64 (l:Int),.int .u64 0,.int .i64 0,.int .u64 0,.slice none 0 0,.slice none 0 0]:=(hr9).set_ 2 (.int .u64 (l:Int))
    have hr9:Blk (World.setCell (World.setCell (World.setCell (World.setCell w5 _ _) _ _) _ _) _ _) (w.heap.size+1) 42 #[.int .i64 k,.int .i64 b,.int .u64 (l:Int),.int .u64 (s:Int),.int .i64 0,.int .u64 0,.slice none 0 0,.slice none 0 0]:=(hr9).set_ 3 (.int .u64 (s:Int))
    have hr9:Blk (World.setCell (World.setCell (World.setCell (World.setCell (World.setCell w5 _ _) _ _) _ _) _ _) _ _) (w.heap.size+1) 42 #[.int .i64 k,.int .i64 b,.int .u64 (l:Int),.int .u64 (s:Int),.int .i64 cl,.int .u64 0,.slice none 0 0,.slice none 0 0]:=(hr9).set_ 4 (.int .i64 cl)
    have hr9:Blk (World.setCell (World.setCell (World.setCell (World.setCell (World.setCell (World.setCell w5 _ _) _ _) _ _) _ _) _ _) _ _) (w.heap.size+1) 42 #[.int .i64 k,.int .i64 b,.int .u64 (l:Int),.int .u64 (s:Int),.int .i64 cl,.int .u64 (u:Int),.slice none 0 0,.slice none 0 0]:=(hr9).set_ 5 (.int .u64 (u:Int))
    have hr9:Blk (World.setCell (World.setCell (World.setCell (World.setCell (World.setCell (World.setCell (World.setCell w5 _ _) _ _) _ _) _ _) _ _) _ _) _ _) (w.heap.size+1) 42 #[.int .i64 k,.int .i64 b,.int .u64 (l:Int),.int .u64 (s:Int),.int .i64 cl,.int .u64 (u:Int),.slice A1 f.length c1,.slice none 0 0]:=(hr9).set_ 6 (.slice A1 f.length c1)
    have hr9:Blk (World.setCell (World.setCell (World.setCell (World.setCell (World.setCell (World.setCell (World.setCell (World.setCell w5 _ _) _ _) _ _) _ _) _ _) _ _) _ _) _ _) (w.heap.size+1) 42 #[.int .i64 k,.int .i64 b,.int .u64 (l:Int),.int .u64 (s:Int),.int .i64 cl,.int .u64 (u:Int),.slice A1 f.length c1,.slice Ao es.length co]:=(hr9).set_ 7 (.slice Ao es.length co)
    have U9:=((((((((UpB.rf (w.heap.size+1+1) none w5).tr (UpB.set (b:=w.heap.size+1) (by omega) 0 (.int .i64 k))).tr (UpB.set (b:=w.heap.size+1) (by omega) 1 (.int .i64 b))).tr (UpB.set (b:=w.heap.size+1) (by omega) 2 (.int .u64 (l:Int)))).tr (UpB.set (b:=w.heap.size+1) (by omega) 3 (.int .u64 (s:Int)))).tr (UpB.set (b:=w.heap.size+1) (by omega) 4 (.int .i64 cl))).tr (UpB.set (b:=w.heap.size+1) (by omega) 5 (.int .u64 (u:Int)))).tr (UpB.set (b:=w.heap.size+1) (by omega) 6 (.slice A1 f.length c1))).tr (UpB.set (b:=w.heap.size+1) (by omega) 7 (.slice Ao es.length co))
    have K9:=(K.set (K.set (K.set (K.set (K.set (K.set (K.set (K.set k5 (r:=w.heap.size+1) (by omega) 0 (.int .i64 k)) (r:=w.heap.size+1) (by omega) 1 (.int .i64 b)) (r:=w.heap.size+1) (by omega) 2 (.int .u64 (l:Int))) (r:=w.heap.size+1) (by omega) 3 (.int .u64 (s:Int))) (r:=w.heap.size+1) (by omega) 4 (.int .i64 cl)) (r:=w.heap.size+1) (by omega) 5 (.int .u64 (u:Int))) (r:=w.heap.size+1) (by omega) 6 (.slice A1 f.length c1)) (r:=w.heap.size+1) (by omega) 7 (.slice Ao es.length co))
    clear q y z
    generalize (World.setCell (World.setCell (World.setCell (World.setCell (World.setCell (World.setCell (World.setCell (World.setCell w5 _ _) _ _) _ _) _ _) _ _) _ _) _ _) _ _)=W9 at *
    have e9:=hr9.cell
    refine bodyPost_ret (v:=.agg #[.int .i64 k,.int .i64 b,.int .u64 (l:Int),.int .u64 (s:Int),.int .i64 cl,.int .u64 (u:Int),.slice A1 f.length c1,.slice Ao es.length co]) (by simp[results,Tryz.results173,go_sem,e9]) rfl ?_
    exact⟨_,rfl,⟨_,_,rfl,row_base (by omega) (OwnF.up ho5 (U9.more (by omega) (fun _ _ _=>by simp))),(OwnL.low (OwnL.floor (hO5.up (Nat.le_refl _) (U9.more (by omega) (fun _ _ _=>by simp))) (by omega)) (by omega))⟩,K9⟩
theorem BCopied_calls (l:List Ent) (v:Value) (w:World) (h:lst enS l v w) (hs:∀ x∈l,smallEn x) (hn:l.length<=1000000) :
 Calls Tryz.prog 52 #[v] w fun e w'=>∃ v',e=.returned v'/\OwnY (fun k=>k<w.heap.size) w.heap.size 42 enS l v' w'/\K w w':=by
 obtain⟨A,c,rfl,hl,hc⟩:=h
 have HS:=Lib.hid hs
 have kk:=K.rf w
 have hO:=OwnY.nil (fun k=>k<w.heap.size) w.heap.size 42 enS w
 clear hs
 go_enter Tryz.func52,Tryz.ntmps52
 go_wp2_with fail
 go_loopw [3,5,8] (fun o _ i W=>∃ j:Nat,j<=l.length/\i=.int .i64 (j:Int)/\OwnY (fun k=>k<w.heap.size) w.heap.size 42 enS (l.take j) o W/\K w W) (fun _ _ i _=>l.length - (intOf i).toNat)
 case atStart=>exact⟨0,by omega,rfl,by simpa using hO,kk⟩
 case round =>
  clear hO kk
  obtain⟨j,hj,rfl,hO,kr⟩:=hrel
  by_cases hlt:j<l.length
  · have hji:(j:Int)<(l.length:Int):=by omega
    obtain⟨b1,off,cs,rfl,hcl,hrl,d0,d⟩:=lsr_cells hl j hlt (by decide)
    have HT:Hid (l.take (j+1)=l.take j++[l[j]]):=Lib.hid (by rw[List.take_succ_eq_append_getElem hlt])
    have hsx:=HS.out _ (List.getElem_mem hlt)
    generalize l[j]=x at *
    obtain⟨vf,ve,rfl,hf,he⟩:=hrl w (K.rf w)
    have HE:Hid (∀ W,K w W->ent x (.agg (entA x vf ve)) W):=Lib.hid fun W k=>⟨_,_,rfl,flt_st _ _ _ _ hf k,lst_st he k⟩
    have q:∀ i,i<8->wr.cell? ⟨b1,off+j * 8+i,none⟩=(entA x vf ve)[i]?:=fun i hi=>(d wr kr i hi).trans Array.getElem?_toList
    have q0:wr.cell? ⟨b1,off+j * 8,none⟩=some (.int .i64 x.kind):=d0 wr kr
    have hx:=Blk.new wr 42 (entA x vf ve)
    have k1:K wr (wr.alloc (.cells (entA x vf ve) 42)):=(K.rf wr).al _
    obtain⟨Af,cf,rfl⟩:=flt_slice hf
    obtain⟨Ae,ce,rfl⟩:=lst_slice he
    clear d d0 hf he hrl hcl
    go_upto_region 5 with (fail)
    generalize wr.alloc _=w1 at *
    replace hO:=hO.st k1
    have kr1:=kr.tr k1
    clear q q0
    have q:=hx.cell
    go_wp2_with fail
    refine (BWhole_calls x _ w1 (HE.out _ kr1) hsx).mono ?_
    rintro e w2 ⟨v2,rfl,ho,k2⟩
    obtain⟨vf2,ve2,rfl,hF⟩:=entO_fx ho
    have hbl:=hO.blk
    have hz:=kr1.size
    replace hO:=hO.st k2
    have kr2:=kr1.tr k2
    have hr:=rowY.new (S:=enS) (e:=42) (v:=.agg (entA x vf2 ve2)) hF 0 (Nat.zero_le _)
    have hO3:=hO.st ((K.rf w2).al (.cells (entA x vf2 ve2) 42))
    have kr3:=kr2.tr ((K.rf w2).al (.cells (entA x vf2 ve2) 42))
    clear hO hF ho q
    go_wp2_with (at_builtin;refine wpList_push rfl _ _ 32 rfl _ 8 96 TEn rfl rfl hO3 _ rfl x ?p1 ?p2 ?p3 ?_)
    case p1=>exact hr.less fun k hk=>by rcases hk with hk|hk;omega;have:=hbl k hk;omega
    case p2=>simp;omega
    case p3=>exact kr3.size
    intro v9 w9 hO9 hg9 _ hb9
    rw[<- HT.out] at hO9
    have kr9:=kr3.trans hb9
    clear hr hO3
    go_wp2
    go_roundw
    case rel=>exact⟨j+1,by omega,by go_num,hO9,kr9⟩
    case measure=>simp[intOf];omega
  · have hji:¬ (j:Int)<(l.length:Int):=by omega
    obtain rfl:j=l.length:=by omega
    rw[List.take_length] at hO
    go_wp2
    go_ret
    exact⟨_,rfl,hO,kr⟩
theorem OCopied_calls (l:List Ent) (v:Value) (w:World) (h:lst enS l v w) (hs:∀ x∈l,smallEn x) (hn:l.length<=1000000) :
 Calls Tryz.prog 171 #[v] w fun e w'=>∃ v',e=.returned v'/\OwnY (fun k=>k<w.heap.size) w.heap.size 42 enS l v' w'/\K w w':=by
 obtain⟨A,c,rfl,hl,hc⟩:=h
 have HS:=Lib.hid hs
 have kk:=K.rf w
 have hO:=OwnY.nil (fun k=>k<w.heap.size) w.heap.size 42 enS w
 clear hs
 go_enter Tryz.func171,Tryz.ntmps171
 go_wp2_with fail
 go_loopw [3,5,8] (fun o _ i W=>∃ j:Nat,j<=l.length/\i=.int .i64 (j:Int)/\OwnY (fun k=>k<w.heap.size) w.heap.size 42 enS (l.take j) o W/\K w W) (fun _ _ i _=>l.length - (intOf i).toNat)
 case atStart=>exact⟨0,by omega,rfl,by simpa using hO,kk⟩
 case round =>
  clear hO kk
  obtain⟨j,hj,rfl,hO,kr⟩:=hrel
  by_cases hlt:j<l.length
  · have hji:(j:Int)<(l.length:Int):=by omega
    obtain⟨b1,off,cs,rfl,hcl,hrl,d0,d⟩:=lsr_cells hl j hlt (by decide)
    have HT:Hid (l.take (j+1)=l.take j++[l[j]]):=Lib.hid (by rw[List.take_succ_eq_append_getElem hlt])
    have hsx:=HS.out _ (List.getElem_mem hlt)
    generalize l[j]=x at *
    obtain⟨vf,ve,rfl,hf,he⟩:=hrl w (K.rf w)
    have HE:Hid (∀ W,K w W->ent x (.agg (entA x vf ve)) W):=Lib.hid fun W k=>⟨_,_,rfl,flt_st _ _ _ _ hf k,lst_st he k⟩
    have q:∀ i,i<8->wr.cell? ⟨b1,off+j * 8+i,none⟩=(entA x vf ve)[i]?:=fun i hi=>(d wr kr i hi).trans Array.getElem?_toList
    have q0:wr.cell? ⟨b1,off+j * 8,none⟩=some (.int .i64 x.kind):=d0 wr kr
    have hx:=Blk.new wr 42 (entA x vf ve)
    have k1:K wr (wr.alloc (.cells (entA x vf ve) 42)):=(K.rf wr).al _
    obtain⟨Af,cf,rfl⟩:=flt_slice hf
    obtain⟨Ae,ce,rfl⟩:=lst_slice he
    clear d d0 hf he hrl hcl
    go_upto_region 5 with (fail)
    generalize wr.alloc _=w1 at *
    replace hO:=hO.st k1
    have kr1:=kr.tr k1
    clear q q0
    have q:=hx.cell
    go_wp2_with fail
    refine (OWhole_calls x _ w1 (HE.out _ kr1) hsx).mono ?_
    rintro e w2 ⟨v2,rfl,ho,k2⟩
    obtain⟨vf2,ve2,rfl,hF⟩:=entO_fx ho
    have hbl:=hO.blk
    have hz:=kr1.size
    replace hO:=hO.st k2
    have kr2:=kr1.tr k2
    have hr:=rowY.new (S:=enS) (e:=42) (v:=.agg (entA x vf2 ve2)) hF 0 (Nat.zero_le _)
    have hO3:=hO.st ((K.rf w2).al (.cells (entA x vf2 ve2) 42))
    have kr3:=kr2.tr ((K.rf w2).al (.cells (entA x vf2 ve2) 42))
    clear hO hF ho q
    go_wp2_with (at_builtin;refine wpList_push rfl _ _ 32 rfl _ 8 96 TEn rfl rfl hO3 _ rfl x ?p1 ?p2 ?p3 ?_)
    case p1=>exact hr.less fun k hk=>by rcases hk with hk|hk;omega;have:=hbl k hk;omega
    case p2=>simp;omega
    case p3=>exact kr3.size
    intro v9 w9 hO9 hg9 _ hb9
    rw[<- HT.out] at hO9
    have kr9:=kr3.trans hb9
    clear hr hO3
    go_wp2
    go_roundw
    case rel=>exact⟨j+1,by omega,by go_num,hO9,kr9⟩
    case measure=>simp[intOf];omega
  · have hji:¬ (j:Int)<(l.length:Int):=by omega
    obtain rfl:j=l.length:=by omega
    rw[List.take_length] at hO
    go_wp2
    go_ret
    exact⟨_,rfl,hO,kr⟩
theorem CloneD_calls (l:List Idn) (v:Value) (w:World) (h:lst idS l v w) (hn:l.length<=1000000000) :
 Calls Tryz.prog 53 #[v] w fun e w'=>∃ v',e=.returned v'/\OwnY (fun k=>k<w.heap.size) w.heap.size 35 idS l v' w'/\K w w':=by
 obtain⟨A,c,rfl,hl,-⟩:=h
 refine (CloneI_calls A l.length c _ w (ids_reads hl) (ids_one l) hn).mono ?_
 rintro e w' ⟨v',rfl,hr,k⟩
 exact⟨v',rfl,⟨l.map idc,by rw[flat_ids];exact hr,by simp,fun W _=>each_ids l W⟩,k⟩
theorem GoodB.smallL {B:Brk} (hG:GoodB B):(∀ x∈B.st.list,smallEn x)/\(∀ x∈B.st.prom,smallEn x)/\(∀ x∈B.waits,smallEn x) :=
 ⟨fun x hx=>okEn_small (hG.dk.inv.okl x hx).1,fun x hx=>okEn_small (hG.dk.inv.okp x hx).1,fun x hx=>okEn_small (hG.waits x hx).1⟩
theorem BState_calls {M:Nat->Prop} {p:BrW} {B:Brk} {w:World} (h:BrV M p B w) (hG:GoodB B) :
 Calls Tryz.prog 18 #[.pointer (some ⟨p.g,0,none⟩)] w fun e w'=>∃ vl vp va,e=.returned (.agg (stA B.st vl vp va))/\stF (fun k=>k<w.heap.size) B.st vl vp va w'/\K w w':=by
 have hsm:=hG.smallL
 have hln:=hG.dk.len
 have C1:=Lib.hid fun W (k:K w W)=>BCopied_calls B.st.list p.vl W (h.dat.at k).list hsm.1 (by omega)
 have C2:=Lib.hid fun W (k:K w W)=>BCopied_calls B.st.prom p.vq W (h.dat.at k).prom hsm.2.1 (by omega)
 have C3:=Lib.hid fun W (k:K w W)=>CloneD_calls B.st.ab p.va W (h.dat.at k).ab (by omega)
 have q:=h.q
 have hs1:=lst_slice h.dat.now.list
 have hs2:=lst_slice h.dat.now.prom
 have hs3:=lst_slice h.dat.now.ab
 have hr:=Blk.new w 53 zSt
 have k1:K w (w.alloc (.cells zSt 53)):=(K.rf w).al _
 obtain⟨g,gl,gd,gr,gt,vd,vr,vp,vh,vl,vq,va,vt,vf,vw,kr⟩:=p
 simp only at q C1 C2 C3 hs1 hs2 hs3
 obtain⟨Al,cl,rfl⟩:=hs1
 obtain⟨Aq,cq,rfl⟩:=hs2
 obtain⟨Aa,ca,rfl⟩:=hs3
 generalize hS:B.st=s at *
 have HS:=Lib.hid hS
 clear h hG hsm hln hS
 go_enter Tryz.func18,Tryz.ntmps18
 go_upto_region 1 with (fail)
 generalize w.alloc _=w1 at *
 generalize hg2:w.heap.size=g2 at hr ⊢
 have HG2:=Lib.hid hg2
 clear hg2
 have q1:=fun W (k:K w1 W)=>q W (k1.tr k)
 simp only[brA,HS.out] at q1
 clear q
 go_upto_region 3 with (fail)
 refine wp_region_auto 23 [([],[]),([0],[(6,0)]),([1],[(7,1)]),([2],[(8,2)]),([3],[(9,3)]),([],[]),([5],[(11,5)]),([6],[(12,6)]),([7],[(13,7)]),([8],[(14,8)]),([9],[(15,9)]),([],[]),([11],[(17,11)]),([12],[(18,12)]),([13],[(19,13)]),([14],[(20,14)]),([15],[(21,15)]),([],[]),([17],[(23,17)]),([18],[(24,18)]),([19],[(25,19)]),([20],[(26,20)]),([21],[(27,21)]),([4,10,16,22],[(10,4),(16,10),(22,16),(28,22)]),([0,1,2,3,4,5,6,7,8,9,10,11,12,13,14,15,16,17,18,19,20,21,22,23],[(29,23)])] 30 rfl (by kernel_rfl) (by kernel_rfl) (by kernel_rfl) (by kernel_rfl) (by decide) ?_
 simp only[List.take_succ_cons,List.take_zero,List.drop_succ_cons,List.drop_zero]
 iterate 10 (apply AutoQ.is;intro V W kW hp;(try simp only[List.forall_mem_cons,List.nil_append,List.cons_append,tab_zero,tab_succ,isV] at hp);simp[wantsG,rhoP,List.lookup,hp,ResG,execOp,bareOp,isV,Below.refl,kW,q1,go_sem];rfl)
 refine AutoQ.op (fun v W=>OwnY (fun k=>k<w1.heap.size) w1.heap.size 42 enS s.list v W) (fun _ _ _ h k=>h.st k) (fun V W kW hp=>?_) ?_
 · (try simp only[List.forall_mem_cons,List.nil_append,List.cons_append,tab_zero,tab_succ,isV] at hp)
   simp[wantsG,rhoP,List.lookup,hp,ResG,execOp,bareOp,q1,go_sem]
   refine (C1.out W (k1.tr kW)).mono ?_
   rintro e w4 ⟨v4,rfl,hO,k4⟩
   exact⟨_,rfl,(hO.less fun k hk=>Nat.lt_of_lt_of_le hk kW.size).low kW.size,k4⟩
 iterate 5 (apply AutoQ.is;intro V W kW hp;(try simp only[List.forall_mem_cons,List.nil_append,List.cons_append,tab_zero,tab_succ,isV] at hp);simp[wantsG,rhoP,List.lookup,hp,ResG,execOp,bareOp,isV,Below.refl,kW,q1,go_sem];rfl)
 refine AutoQ.op (fun v W=>OwnY (fun k=>k<w1.heap.size) w1.heap.size 42 enS s.prom v W) (fun _ _ _ h k=>h.st k) (fun V W kW hp=>?_) ?_
 · (try simp only[List.forall_mem_cons,List.nil_append,List.cons_append,tab_zero,tab_succ,isV] at hp)
   simp[wantsG,rhoP,List.lookup,hp,ResG,execOp,bareOp,q1,go_sem]
   refine (C2.out W (k1.tr kW)).mono ?_
   rintro e w4 ⟨v4,rfl,hO,k4⟩
   exact⟨_,rfl,(hO.less fun k hk=>Nat.lt_of_lt_of_le hk kW.size).low kW.size,k4⟩
 iterate 5 (apply AutoQ.is;intro V W kW hp;(try simp only[List.forall_mem_cons,List.nil_append,List.cons_append,tab_zero,tab_succ,isV] at hp);simp[wantsG,rhoP,List.lookup,hp,ResG,execOp,bareOp,isV,Below.refl,kW,q1,go_sem];rfl)
 refine AutoQ.op (fun v W=>OwnY (fun k=>k<w1.heap.size) w1.heap.size 35 idS s.ab v W) (fun _ _ _ h k=>h.st k) (fun V W kW hp=>?_) ?_
 · (try simp only[List.forall_mem_cons,List.nil_append,List.cons_append,tab_zero,tab_succ,isV] at hp)
   simp[wantsG,rhoP,List.lookup,hp,ResG,execOp,bareOp,q1,go_sem]
   refine (C3.out W (k1.tr kW)).mono ?_
   rintro e w4 ⟨v4,rfl,hO,k4⟩
   exact⟨_,rfl,(hO.less fun k hk=>Nat.lt_of_lt_of_le hk kW.size).low kW.size,k4⟩
 intro V W kW
 conv=>lhs;simp only[List.nil_append,List.cons_append,AllT,isV,Nat.reduceAdd]
 intro hA
 obtain⟨e0,e1,e2,e3,e4,e5,e6,e7,e8,e9,hO1,e11,e12,e13,e14,e15,hO2,e17,e18,e19,e20,e21,hO3,-⟩:=hA
 obtain⟨A1,c1,e10⟩:=hO1.slice
 obtain⟨A2,c2,e16⟩:=hO2.slice
 obtain⟨A3,c3,e22⟩:=hO3.slice
 rw[e10] at hO1
 rw[e16] at hO2
 rw[e22] at hO3
 apply TailQ.pure
 rfl
 simp[rhoP,List.lookup,updV,e4,e10,e16,e22,execOp,bareOp,go_sem]
 try rfl
 have hr9:=hr.below kW hr.lt
 have q9:=hr9.cell
 have z9:=hr9.frozen
 obtain⟨W9,hW9⟩:∃ W9,W9=World.setCell (World.setCell (World.setCell (World.setCell W ⟨g2,0,none⟩ (.int .u64 (s.life:Int))) ⟨g2,1,none⟩ (.slice A1 s.list.length c1)) ⟨g2,2,none⟩ (.slice A2 s.prom.length c2)) ⟨g2,3,none⟩ (.slice A3 s.ab.length c3):=⟨_,rfl⟩
 refine TailQ.skip W9 rfl (by rw[hW9];simp[rhoP,List.lookup,updV,execOp,bareOp,q9,z9,go_sem]) ?_
 refine TailQ.nil ?_
 simp only[putAll,Act.put,List.setIfInBounds_toArray,List.set_cons_succ,List.set_cons_zero,Nat.reduceAdd,updV]
 have hr91:Blk W9 g2 53 (stA s (.slice A1 s.list.length c1) (.slice A2 s.prom.length c2) (.slice A3 s.ab.length c3)):=by
  rw[hW9]
  exact (((hr9.set_ 0 (.int .u64 (s.life:Int))).set_ 1 (.slice A1 s.list.length c1)).set_ 2 (.slice A2 s.prom.length c2)).set_ 3 (.slice A3 s.ab.length c3)
 have u9:UpN (fun k=>k=g2) W W9:=by
  rw[hW9]
  exact (((UpN.set1 (X:=fun k=>k=g2) rfl 0 (.int .u64 (s.life:Int))).tr (UpN.set1 (X:=fun k=>k=g2) rfl 1 (.slice A1 s.list.length c1))).tr (UpN.set1 (X:=fun k=>k=g2) rfl 2 (.slice A2 s.prom.length c2))).tr (UpN.set1 (X:=fun k=>k=g2) rfl 3 (.slice A3 s.ab.length c3))
 have hg1:=hr.lt
 have hgw:=HG2.out
 have hlt:∀ k,k<w.heap.size->k<w1.heap.size:=fun k hk=>by omega
 have HF:Hid (stF (fun k=>k<w.heap.size) s (.slice A1 s.list.length c1) (.slice A2 s.prom.length c2) (.slice A3 s.ab.length c3) W9):=Lib.hid fun W' u =>
  have uu:UpN (fun k=>k<w1.heap.size) W W':=(u9.more fun k hk=>by omega).tr (u.more hlt)
  ⟨hO1.fx (fun _ h=>h) W' uu,hO2.fx (fun _ h=>h) W' uu,hO3.fx (fun _ h=>h) W' uu⟩
 have hK:K w W9:=u9.k (k1.tr kW) fun k hk=>by omega
 clear hO1 hO2 hO3 hr9 hr q1 q9 z9 hW9 u9 e0 e1 e2 e3 e4 e5 e6 e7 e8 e9 e10 e11 e12 e13 e14 e15 e16 e17 e18 e19 e20 e21 e22 C1 C2 C3
 have e9:=hr91.cell
 go_wp2
 try rw[Exit.noGoto_ret]
 refine bodyPost_ret (v:=.agg (stA s (.slice A1 s.list.length c1) (.slice A2 s.prom.length c2) (.slice A3 s.ab.length c3))) (by simp[results,Tryz.results18,go_sem,e9]) rfl ?_
 exact⟨_,_,_,rfl,HF.out,hK⟩
def entN (lo:Nat) (x:Ent) (v:Value) (W:World):Prop:=∃ vf ve,v=.agg (entA x vf ve)/\Fx (fun k=>k<lo) (fun W=>enS.rel x (entA x vf ve).toList W) W
theorem entN_st (lo:Nat) (x:Ent):∀ v w w',entN lo x v w->Below w.heap.size w w'->entN lo x v w':=by
 rintro v w w' ⟨vf,ve,e,h⟩ k
 exact⟨vf,ve,e,h.k k⟩
