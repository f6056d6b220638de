/-
  The walk of BrokerIDs (layer 20). Conditions: none.
-/
import Derived.Test.YtagfakjifhdpgaaGreatMa33
import Derived.Test.YtagfakjifhdpgaaGreatMd02
import Derived.WalkKit
import Derived.WalkLawsBesides
import Derived.WalkSpells
import Derived.Deep.Draws
import Derived.Deep.AppendLies
import Derived.Maps.AppendAt
import Derived.Laws.CopyOwn
import Derived.Lib.Hide
import Derived.ScopeJumps
import Derived.Laws.IdiomStrings
import Derived.Laws.BytesArg
import Derived.WalkMore
import Derived.Orders
import Derived.Test.YtagfakjifhdpgaaGreatProg
import Derived.BigQuiet
import Derived.Deep.QuietTactic
import Derived.Deep.CutRange
import Derived.Deep.LoopGhost
import Derived.IntWalk
import Derived.Deep.RegionHeld3
import Derived.Deep.DrawnRows
import Derived.Deep.CutBlock
import Derived.Maps.OwnSet
import Derived.Carry
import Derived.Laws.BitsAllLaws
set_option maxRecDepth 100000
set_option maxHeartbeats 16000000
set_option linter.unusedVariables false
set_option linter.unusedSimpArgs false
namespace Go.Proofs.YtagfakjifhdpgaaGreat
open Go Go.RowKit
section
open Go Go.RowKit Go.ChangeShapes Go.WideShapes Go.ChangeAt
theorem LivX.grow {X X' Z Z':Nat->Prop} {g gd:Nat} {B:Brk} {W W':World} (h:LivX X Z g gd B W) (u:UpN X W W') (hX:∀ k,X k->Z k) (hX':∀ k,X' k->X k∨(W.heap.size<=k/\k<W'.heap.size)) (hZ':∀ k,Z' k->Z k∨(W.heap.size<=k/\k<W'.heap.size)):LivX X' Z' g gd B W':=by
 obtain⟨hG,p,hb,hg,hz⟩:=h
 refine⟨hG,p,hb.far u (fun _ h=>.inl h) (fun k hk=>(hz k (hX k hk)).1) (fun k hk hx=>hx.elim (fun h=>.inl ((hX' k h).resolve_right (by omega))) .inr) (fun _ h=>.inr h) (fun k hk=>?_),hg,fun k hk=>?_⟩
 · rcases hk with h|h
   · rcases hX' k h with h|h
     · exact Nat.lt_of_lt_of_le (hb.low k (.inl h)) u.size
     · exact h.2
   · exact Nat.lt_of_lt_of_le (hb.low k (.inr h)) u.size
 · rcases hZ' k hk with h|h
   · exact⟨(hz k h).1,Nat.lt_of_lt_of_le (hz k h).2 u.size⟩
   · exact⟨fun hx=>by have:=hb.low k (hb.sub k hx);omega,h.2⟩
theorem run_id_no {x y:Idn} (h:x≠y) {w:World}:(binOp .eql 35 (idv x) (idv y)).run Tryz.prog w=.ok (.bool false) w:=by
 have h1:(Op.equal 35 (idv x) (idv y)).run Tryz.prog w=.ok (decide (x=y)) w:=run_id_eq x y w 9998
 simp only[binOp,Sem.run_bind,h1,Result.andThen_ok,Sem.run_pure,h,decide_false]
def stL (n:Nat) (v:Value) (_:World):Prop:=∃ a b c,v=.agg #[.int .u64 (n:Int),a,b,c]
theorem stL_st (n:Nat):∀ v w w',stL n v w->Below w.heap.size w w'->stL n v w':=fun _ _ _ h _=>h
theorem fx_z {Z:Nat->Prop} {p:World->Prop} {w W:World} (h:∀ W,K w W->p W) (hz:∀ k,k<w.heap.size->Z k) (k:K w W):Fx (fun k=>¬ Z k) p W:=fun W' u=>h W' (u.k k fun j hj=>Nat.le_of_not_lt fun hl=>hj (hz j hl))
theorem BrokerIDs_walk (v0 v1 v2 v3:Value) (w:World) (r0:repI64 w v0) (r1:repInts w v1) (r2:repInts w v2) (r3:repCallsB w v3) :
 Calls Tryz.prog 5 #[v0,v1,v2,v3] w fun e w'=>e=.returned (.bool true)/\Below w.heap.size w w':=by
 obtain⟨me,rfl,hme⟩:=r0
 obtain⟨par,hp,-⟩:=r1
 obtain⟨hom,hh,-⟩:=r2
 obtain⟨cs,hcs,hfit⟩:=r3
 obtain⟨Ac,cc,rfl,hl1,hcc⟩:=hcs
 have HP:=Lib.hid hp
 have HH:=Lib.hid hh
 have HF:=Lib.hid hfit
 obtain⟨Ap,cp,rfl⟩:=lst_slice hp
 obtain⟨Ah,ch,rfl⟩:=lst_slice hh
 have C1:=Lib.hid (Awake20_calls w)
 clear hp hh hfit
 go_enter Tryz.func5,Tryz.ntmps5
 go_wp2_with fail
 refine C1.out.mono ?_
 rintro e w1 ⟨rfl,k1⟩
 clear C1
 by_cases hp20:20<par.length
 · have hq:(20:Int)<(par.length:Int):=by omega
   clear hp20
   go_wp2
   go_ret
   exact⟨rfl,k1⟩
 have hq:¬ (20:Int)<(par.length:Int):=by omega
 by_cases hh20:20<hom.length
 · have hq2:(20:Int)<(hom.length:Int):=by omega
   clear hp20 hh20
   go_wp2
   go_ret
   exact⟨rfl,k1⟩
 have hq2:¬ (20:Int)<(hom.length:Int):=by omega
 have C2:=Lib.hid (DNew_ok 60000 w1 (by omega))
 go_wp2_with fail
 refine C2.out.mono ?_
 rintro e w2 ⟨rfl,hd,k2⟩
 have k02:=k1.tr k2
 obtain⟨gd,hgd⟩:∃ gd,gd=w1.heap.size:=⟨_,rfl⟩
 rw[<- hgd] at hd ⊢
 have hzw:=k1.size
 have hD:DkS (fun k=>k<w.heap.size) gd ⟨[],60000⟩ w2:=⟨_,hd,fun k hk=>⟨fun h=>by
  rcases h with h|h
  · omega
  · simp[Value.ownBlock] at h,by have:=k02.size;omega⟩⟩
 clear hgd C2 hd
 by_cases hno:okTr par=false∨inR par me=false∨okHm par hom=false
 · have C3:=Lib.hid (BOpen_no par hom me _ _ (.pointer (some ⟨gd,0,none⟩)) w2 (lst_st HP.out k02) (lst_st HH.out k02) (by omega) (by omega) (.inr ⟨_,rfl⟩) (by
    rcases hno with h|h|h
    · exact .inl h
    · exact .inr (.inl h)
    · exact .inr (.inr (.inr h))))
   have hne:((if okTr par=true then (1:Int) else 120) != 0)=true:=by split <;> decide
   generalize (if okTr par=true then (1:Int) else 120)=cd at *
   clear hD hno
   go_wp2_with fail
   refine C3.out.mono ?_
   rintro e w3 ⟨rfl,k3⟩
   have kF:=k02.tr k3
   clear C3
   go_wp2
   go_ret
   exact⟨rfl,kF⟩
 have ht:okTr par=true:=by cases h:okTr par;exact absurd (.inl h) hno;rfl
 have hm:inR par me=true:=by cases h:inR par me;exact absurd (.inr (.inl h)) hno;rfl
 have ho:okHm par hom=true:=by cases h:okHm par hom;exact absurd (.inr (.inr h)) hno;rfl
 have HOP:Hid (∀ (Z:Nat->Prop) (W:World) (B:Brk) (n:Nat) (l:List Idn),K w W->(∀ k,k<w.heap.size->Z k)->IdsI me par hom B n l->n<60->DkS Z gd B.dk W->DskG B.dk B.st->∀ X:Nat->Prop,(∀ k,X k->Z k)->Calls Tryz.prog 11 #[.int .i64 me,.slice Ap par.length cp,.slice Ah hom.length ch,.pointer (some ⟨gd,0,none⟩)] W fun e w'=>∃ g,e=.returned (.tuple #[.pointer (some ⟨g,0,none⟩),.int .i64 0])/\LivX X Z g gd (openB me par hom ⟨recsS (lifeS B.st),60000⟩ (lifeS B.st)) w'/\UpN (fun k=>¬ Z k) W w'/\W.heap.size<=g) :=
  Lib.hid fun Z W B n l kW hZ hI hn hDk hG X hX=>by
   obtain⟨h1,h2,-⟩:=hI.again hn
   have h3:=hI.dk
   have:=KOpen (X:=X) hDk hG h2 par hom me _ _ (fx_z (fun W k=>lst_st HP.out k) hZ kW) (fx_z (fun W k=>lst_st HH.out k) hZ kW) ht hm ho (by rw[h3];exact h1) hX
   rw[h3] at this
   exact this
 have C3:=Lib.hid (KOpen (X:=fun _=>False) hD (DskG.new (by omega)) (by simp[st0]) par hom me _ _ (fx_z (fun W k=>lst_st HP.out k) (fun _ h=>h) k02) (fx_z (fun W k=>lst_st HH.out k) (fun _ h=>h) k02) ht hm ho homes_room (fun _ h=>h.elim))
 clear hno hD ht hm ho
 go_wp2_with fail
 refine C3.out.mono ?_
 rintro e w3 ⟨g0,rfl,hL3,u3,-⟩
 have k03:K w w3:=u3.k k02 fun k hk=>by omega
 have hL4:LivX (fun k=>(Value.slice none 0 0).ownBlock=some k) (fun k=>k<w.heap.size∨(Value.slice none 0 0).ownBlock=some k) g0 gd (openB me par hom ⟨recsS (lifeS st0),60000⟩ (lifeS st0)) w3:=hL3.less (fun k hk=>by simp[Value.ownBlock] at hk) fun k hk=>hk.resolve_right (by simp[Value.ownBlock])
 have hI0:IdsI me par hom (openB me par hom ⟨recsS (lifeS st0),60000⟩ (lifeS st0)) 0 []:=IdsI.start
 have hO0:=OwnY.nil (fun _=>True) w.heap.size 35 idS w3
 generalize openB me par hom ⟨recsS (lifeS st0),60000⟩ (lifeS st0)=B0 at *
 clear C3 hL3 u3 hq hq2 hp20 hh20 k1 k2 k02 hzw
 go_wp2_with fail
 go_loopw [12,14,15,16,17,18,19,20,21] (fun vb vl i _ _ _ _ _ _ W=>∃ (j g:Nat) (B:Brk) (l:List Idn),vb=.pointer (some ⟨g,0,none⟩)/\j<=cs.length/\j<=40/\i=.int .i64 (j:Int)/\IdsI me par hom B j l/\l.length<=j/\LivX (fun k=>vl.ownBlock=some k) (fun k=>k<w.heap.size∨vl.ownBlock=some k) g gd B W/\OwnY (fun _=>True) w.heap.size 35 idS l vl W/\K w W) (fun _ _ i _ _ _ _ _ _ _=>cs.length - (intOf i).toNat)
 case atStart=>exact⟨0,g0,B0,[],rfl,by omega,by omega,rfl,hI0,by simp,hL4,hO0,k03⟩
 case round =>
  clear hL4 hI0 hO0 k03
  obtain⟨j,g,B,l,rfl,hj,hj40,rfl,hI,hln,hL,hO,kr⟩:=hrel
  by_cases hlt:j<cs.length/\j<40
  rotate_left
  · have hji:¬ ((j:Int)<(cs.length:Int)/\(j:Int)<40):=by omega
    obtain⟨Ao,co,rfl⟩:=hO.slice
    by_cases h1:(j:Int)<(cs.length:Int)
    · have h2:¬ (j:Int)<40:=by omega
      clear hI hL hO
      go_wp2
      go_ret
      exact⟨rfl,kr⟩
    · clear hI hL hO
      go_wp2
      go_ret
      exact⟨rfl,kr⟩
  obtain⟨hlt,hlt40⟩:=hlt
  have hji:(j:Int)<(cs.length:Int):=by omega
  have hj4:(j:Int)<40:=by omega
  have hfc:=HF.out _ (List.getElem_mem hlt)
  obtain⟨b1,off,cc1,rfl,hcl,hrl,d0,d⟩:=lsr_cells hl1 j hlt (by decide)
  generalize cs[j]=c at *
  obtain⟨kd,cl,nn,ev,fl,m,bb⟩:=c
  obtain⟨hck,hci,hcn,-⟩:=hfc
  obtain⟨ve,vf,e1,e2,e3,e4,e5,e6,vb,rfl,he,hf,h1,h2,h3,h4,h5,h6,hb⟩:=hrl w (K.rf w)
  obtain⟨Ae,ce,rfl⟩:=evt_slice he
  obtain⟨Af,cf,rfl⟩:=flt_slice hf
  obtain⟨A1,c1,rfl⟩:=lst_slice h1
  obtain⟨A2,c2,rfl⟩:=lst_slice h2
  obtain⟨A3,c3,rfl⟩:=lst_slice h3
  obtain⟨A4,c4,rfl⟩:=lst_slice h4
  obtain⟨A5,c5,rfl⟩:=lst_slice h5
  obtain⟨A6,c6,rfl⟩:=lst_slice h6
  obtain⟨A7,c7,rfl,-⟩:=hb
  have d0:∀ W,K wr W->W.cell? ⟨b1,off+j * 14,none⟩=some (.int .i64 kd):=fun W kW=>d0 W (kr.tr kW)
  have d:∀ W,K wr W->∀ i,i<14->W.cell? ⟨b1,off+j * 14+i,none⟩=(cbA ⟨kd,cl,nn,ev,fl,m,bb⟩ (.slice Ae ev.length ce) (.slice Af fl.length cf) (.slice A1 m.votes.length c1) (.slice A2 m.asks.length c2) (.slice A3 m.entries.length c3) (.slice A4 m.prepares.length c4) (.slice A5 m.aborts.length c5) (.slice A6 m.ends.length c6) (.slice A7 bb.length c7))[i]?:=fun W kW i hi=>(d W (kr.tr kW) i hi).trans Array.getElem?_toList
  have q0:=d0 wr (K.rf _)
  have q9:=d wr (K.rf _)
  have hx:=Blk.new wr 64 (cbA ⟨kd,cl,nn,ev,fl,m,bb⟩ (.slice Ae ev.length ce) (.slice Af fl.length cf) (.slice A1 m.votes.length c1) (.slice A2 m.asks.length c2) (.slice A3 m.entries.length c3) (.slice A4 m.prepares.length c4) (.slice A5 m.aborts.length c5) (.slice A6 m.ends.length c6) (.slice A7 bb.length c7))
  have kA:K wr (wr.alloc (.cells (cbA ⟨kd,cl,nn,ev,fl,m,bb⟩ (.slice Ae ev.length ce) (.slice Af fl.length cf) (.slice A1 m.votes.length c1) (.slice A2 m.asks.length c2) (.slice A3 m.entries.length c3) (.slice A4 m.prepares.length c4) (.slice A5 m.aborts.length c5) (.slice A6 m.ends.length c6) (.slice A7 bb.length c7)) 64)):=(K.rf wr).al _
  clear hcl hrl he hf h1 h2 h3 h4 h5 h6 d0 d
  go_upto_region 15 with (fail)
  generalize wr.alloc _=w4 at *
  generalize hgc:wr.heap.size=gc at hx ⊢
  clear q0 q9
  have hi:=Blk.new w4 35 #[.int .i64 0,.int .u64 0,.int .u64 0]
  have kB:K w4 (w4.alloc (.cells #[.int .i64 0,.int .u64 0,.int .u64 0] 35)):=(K.rf w4).al _
  have hx5:=hx.below kB hx.lt
  have hL5:=hL.more (X':=fun k=>k=w4.heap.size∨u14.ownBlock=some k) (Z':=fun k=>(k<w.heap.size∨u14.ownBlock=some k)∨k=w4.heap.size) (kA.tr kB) (fun k hk=>hk.elim (fun hk=>.inr (by rw[hk];exact⟨kA.size,hi.lt⟩)) .inl) (fun k hk=>hk.imp id fun hk=>by rw[hk];exact⟨kA.size,hi.lt⟩)
  have hO5:=hO.st (kA.tr kB)
  have k05:=kr.tr (kA.tr kB)
  have hgi:gc<w4.heap.size:=hx.lt
  have hob:∀ k,u14.ownBlock=some k->w.heap.size<=k/\k<wr.heap.size:=fun k hk=>hO.blk k hk
  have hzr:=kr.size
  go_upto_region 17 with (fail)
  generalize w4.alloc _=w5 at *
  generalize hgi':w4.heap.size=gi at *
  have hgw:w.heap.size<=gi:=by omega
  have hobi:u14.ownBlock≠some gi:=fun h=>by have:=hob gi h;have:=kA.size;omega
  have HOB:=Lib.hid hobi
  have HGW:=Lib.hid hgw
  clear hx hL hO kA kB kr hgc hgi' hob hzr hgi hobi hgw
  have q:=hx5.cell
  have qi:=hi.cell
  go_upto_block 2 with (fail)
  go_cut [12,17,19,20] from 66 to 103 (fun vb f _ _ W=>∃ (g':Nat) (B':Brk) (k:Int) (a:Idn),vb=.pointer (some ⟨g',0,none⟩)/\f=.int .i64 k/\LivX (fun k=>k=gi∨u14.ownBlock=some k) (fun k=>(k<w.heap.size∨u14.ownBlock=some k)∨k=gi) g' gd B' W/\Blk W gi 35 (idA a)/\OwnY (fun _=>True) w.heap.size 35 idS l u14 W/\K w W/\(k≠0/\IdsI me par hom B' (j+1) l∨k=0/\IdsI me par hom B' (j+1) (l++[a])/\a ∉ l/\a.1=me/\a.2.1=B'.st.life/\statusB B' a≠0))
  case first =>
   by_cases hk1:kd=1
   · subst hk1
     have hcl2:=hI.calls
     have C5:=Lib.hid (KBegin hL5 cl hci (by omega))
     have HI:=Lib.hid (hI.call cl (t:=⟨pubE (newB B) cl,false⟩) rfl)
     have HJ:Hid ((beginB B cl).2.2≠0/\(beginB B cl).1=B∨(beginB B cl).2.2=0/\IdsI me par hom (beginB B cl).1 (j+1) (l++[(beginB B cl).2.1])/\(beginB B cl).2.1 ∉ l/\(beginB B cl).2.1=(me,(beginB B cl).1.st.life,B.calls+1)/\statusB (beginB B cl).1 (beginB B cl).2.1≠0):=Lib.hid HI.out
     clear HI
     generalize beginB B cl=r at *
     obtain⟨B',a,k⟩:=r
     simp only at C5 HJ
     go_wp2_with fail
     refine C5.out.mono ?_
     rintro e w6 ⟨rfl,hL6,u6⟩
     have k06:K w w6:=u6.k k05 fun b hb=>Nat.le_of_not_lt fun hl=>hb (.inl (.inl hl))
     have hi6:=hi.z u6 (.inr rfl)
     have hO6:=hO5.ids u6 fun b hb hn=>hn (.inl (.inr hb))
     clear C5 hL5 hi hO5 u6 k05 q qi hx5
     have q6:=hi6.cell
     have z6:=hi6.frozen
     go_wp2
     have hi9:Blk (World.setCell (World.setCell (World.setCell w6 _ _) _ _) _ _) gi 35 (idA a):=((hi6.set_ 0 (.int .i64 a.1)).set_ 1 (.int .u64 (a.2.1:Int))).set_ 2 (.int .u64 (a.2.2:Int))
     have k9:=K.set (K.set (K.set k06 (r:=gi) HGW.out 0 (.int .i64 a.1)) (r:=gi) HGW.out 1 (.int .u64 (a.2.1:Int))) (r:=gi) HGW.out 2 (.int .u64 (a.2.2:Int))
     have u9:UpN (fun k=>k=gi) w6 (World.setCell (World.setCell (World.setCell w6 ⟨gi,0,none⟩ (.int .i64 a.1)) ⟨gi,1,none⟩ (.int .u64 (a.2.1:Int))) ⟨gi,2,none⟩ (.int .u64 (a.2.2:Int))):=((UpN.set1 (X:=fun k=>k=gi) rfl _ _).tr (UpN.set1 (X:=fun k=>k=gi) rfl _ _)).tr (UpN.set1 (X:=fun k=>k=gi) rfl _ _)
     have hL9:=hL6.far (u9.more fun _ h=>.inl h) fun k h=>h.elim .inr fun h=>.inl (.inr h)
     have hO9:=hO6.ids u9 fun b hb hn=>HOB.out (hn ▸ hb)
     clear q6 z6 hi6 hL6 hO6 k06 u9
     generalize World.setCell (World.setCell (World.setCell w6 _ _) _ _) _ _=W9 at *
     go_meet
     case rel=>exact⟨g,B',k,a,rfl,rfl,hL9,hi9,hO9,k9,by
      rcases HJ.out with ⟨h1,h2⟩|⟨h1,h2,h3,h4,h5⟩
      · exact .inl ⟨h1,h2 ▸ hI.step⟩
      · exact .inr ⟨h1,h2,h3,by rw[h4],by rw[h4],h5⟩⟩
   by_cases hk6:kd=6
   · subst hk6
     have hcl2:=hI.calls
     obtain⟨nu,hnu,hnl⟩:∃ nu:Nat,IntKind.u64.wrap nn=(nu:Int)/\nu<18446744073709551616:=⟨(nn % 18446744073709551616).toNat,by simp[IntKind.wrap,IntKind.bits,IntKind.signed];omega,by omega⟩
     have HNL:=Lib.hid hnl
     have C5:=Lib.hid (KUnsub hL5 cl hci (by omega) nu hnl)
     have HI:=Lib.hid (hI.call cl (t:=⟨subE B 3 cl nu [],true⟩) rfl)
     have HJ:Hid ((unsubB B cl nu).2.2≠0/\(unsubB B cl nu).1=B∨(unsubB B cl nu).2.2=0/\IdsI me par hom (unsubB B cl nu).1 (j+1) (l++[(unsubB B cl nu).2.1])/\(unsubB B cl nu).2.1 ∉ l/\(unsubB B cl nu).2.1=(me,(unsubB B cl nu).1.st.life,B.calls+1)/\statusB (unsubB B cl nu).1 (unsubB B cl nu).2.1≠0):=Lib.hid HI.out
     clear HI
     generalize unsubB B cl nu=r at *
     obtain⟨B',a,k⟩:=r
     simp only at C5 HJ
     go_wp2_with fail
     refine C5.out.mono ?_
     rintro e w6 ⟨rfl,hL6,u6⟩
     have k06:K w w6:=u6.k k05 fun b hb=>Nat.le_of_not_lt fun hl=>hb (.inl (.inl hl))
     have hi6:=hi.z u6 (.inr rfl)
     have hO6:=hO5.ids u6 fun b hb hn=>hn (.inl (.inr hb))
     clear C5 hL5 hi hO5 u6 k05 q qi hx5
     have q6:=hi6.cell
     have z6:=hi6.frozen
     go_wp2
     have hi9:Blk (World.setCell (World.setCell (World.setCell w6 _ _) _ _) _ _) gi 35 (idA a):=((hi6.set_ 0 (.int .i64 a.1)).set_ 1 (.int .u64 (a.2.1:Int))).set_ 2 (.int .u64 (a.2.2:Int))
     have k9:=K.set (K.set (K.set k06 (r:=gi) HGW.out 0 (.int .i64 a.1)) (r:=gi) HGW.out 1 (.int .u64 (a.2.1:Int))) (r:=gi) HGW.out 2 (.int .u64 (a.2.2:Int))
     have u9:UpN (fun k=>k=gi) w6 (World.setCell (World.setCell (World.setCell w6 ⟨gi,0,none⟩ (.int .i64 a.1)) ⟨gi,1,none⟩ (.int .u64 (a.2.1:Int))) ⟨gi,2,none⟩ (.int .u64 (a.2.2:Int))):=((UpN.set1 (X:=fun k=>k=gi) rfl _ _).tr (UpN.set1 (X:=fun k=>k=gi) rfl _ _)).tr (UpN.set1 (X:=fun k=>k=gi) rfl _ _)
     have hL9:=hL6.far (u9.more fun _ h=>.inl h) fun k h=>h.elim .inr fun h=>.inl (.inr h)
     have hO9:=hO6.ids u9 fun b hb hn=>HOB.out (hn ▸ hb)
     clear q6 z6 hi6 hL6 hO6 k06 u9
     generalize World.setCell (World.setCell (World.setCell w6 _ _) _ _) _ _=W9 at *
     go_meet
     case rel=>exact⟨g,B',k,a,rfl,rfl,hL9,hi9,hO9,k9,by
      rcases HJ.out with ⟨h1,h2⟩|⟨h1,h2,h3,h4,h5⟩
      · exact .inl ⟨h1,h2 ▸ hI.step⟩
      · exact .inr ⟨h1,h2,h3,by rw[h4],by rw[h4],h5⟩⟩
   by_cases hk10:kd=10
   · subst hk10
     have C5:=Lib.hid (KCrash (Z:=fun k=>(k<w.heap.size∨u14.ownBlock=some k)∨k=gi) hL5.dk nn hcn)
     have hG5:=hL5.1.toGoodB.dk
     clear hL5 hk1 hk6
     go_wp2_with fail
     refine C5.out.mono ?_
     rintro e w6 ⟨rfl,hD6,u6⟩
     have k06:K w w6:=u6.k k05 fun b hb=>Nat.le_of_not_lt fun hl=>hb (.inl (.inl hl))
     have hi6:=hi.z u6 (.inr rfl)
     have hO6:=hO5.ids u6 fun b hb hn=>hn (.inl (.inr hb))
     have C6:=Lib.hid (HOP.out (fun k=>(k<w.heap.size∨u14.ownBlock=some k)∨k=gi) w6 B j l k06 (fun k hk=>.inl (.inl hk)) hI (by omega) hD6 hG5 (fun k=>k=gi∨u14.ownBlock=some k) (fun k h=>h.elim .inr fun h=>.inl (.inr h)))
     have hI7:=(hI.again (by omega)).2.2
     generalize openB me par hom ⟨recsS (lifeS B.st),60000⟩ (lifeS B.st)=B7 at *
     clear C5 hi hO5 u6 k05 q qi hx5 hD6 hG5
     go_wp2_with fail
     refine C6.out.mono ?_
     rintro e w7 ⟨g7,rfl,hL7,u7,-⟩
     have k07:K w w7:=u7.k k06 fun b hb=>Nat.le_of_not_lt fun hl=>hb (.inl (.inl hl))
     have hi7:=hi6.z u7 (.inr rfl)
     have hO7:=hO6.ids u7 fun b hb hn=>hn (.inl (.inr hb))
     clear C6 hi6 hO6 u7 k06
     go_wp2
     go_meet
     case rel=>exact⟨g7,B7,1,(0,0,0),rfl,rfl,hL7,hi7,hO7,k07,.inl ⟨by decide,hI7⟩⟩
   have n1:(kd==1)=false:=by simpa using hk1
   have n6:(kd==6)=false:=by simpa using hk6
   have n10:(kd==10)=false:=by simpa using hk10
   clear hk1 hk6 hk10 hx5
   go_wp2
   go_meet
   case rel=>exact⟨g,B,1,(0,0,0),rfl,rfl,hL5,hi,hO5,k05,.inl ⟨by decide,hI.step⟩⟩
  case rest =>
  obtain⟨g',B',k,a,rfl,rfl,hLx,hix,hOx,kx,hc⟩:=hcut
  clear hI hL5 hi hO5 k05 q qi hx5
  obtain⟨Ao,co,rfl⟩:=hOx.slice
  rcases hc with ⟨hk0,hIx⟩|⟨rfl,hIx,hnm,ha1,ha2,hst⟩
  · have hkb:(k != 0)=true:=by simpa using hk0
    clear hk0
    go_wp2
    go_roundw
    case rel=>exact⟨j+1,g',B',l,rfl,by omega,by omega,by go_num,hIx,by omega,hLx.less (fun _ h=>.inr h) (fun k hk=>.inl hk),hOx,kx⟩
    case measure=>simp[intOf];omega
  have HI2:=Lib.hid hIx
  have HNM:=Lib.hid hnm
  have HST:=Lib.hid hst
  obtain⟨A8,c8,e8,hl8,-⟩:=hOx.lst
  injection e8 with e8 _ e9
  subst e8 e9
  have HL:=Lib.hid hLx
  have HOX:=Lib.hid hOx
  clear hIx hnm hst hLx hOx
  generalize wc=w8 at *
  have kk:=K.rf w8
  have qix:=hix.cells
  obtain⟨a1,a2,a3⟩:=a
  simp only at ha1 ha2
  subst ha1 ha2
  go_wp2_with fail
  go_loopw [21] (fun i W=>∃ m:Nat,m<=l.length/\i=.int .i64 (m:Int)/\K w8 W) (fun i _=>l.length - (intOf i).toNat)
  case atStart=>exact⟨0,by omega,rfl,kk⟩
  case round =>
   clear kk
   obtain⟨m,hm,rfl,kr8⟩:=hrel
   by_cases hlt2:m<l.length
   · have hmi:(m:Int)<(l.length:Int):=by omega
     obtain⟨b2,o2,cs2,rfl,hcl2,hr2,d0,dd⟩:=lsr_cells hl8 m hlt2 (by decide)
     have hne:l[m]≠(a1,B'.st.life,a3):=fun h=>HNM.out (h ▸ List.getElem_mem hlt2)
     generalize l[m]=x at *
     obtain rfl:=hr2 w8 (K.rf w8)
     have q8:∀ W,K wr W->∀ i,i<3->W.cell? ⟨b2,o2+m * 3+i,none⟩=(idA x)[i]?:=fun W k i hi=>(dd W (kr8.tr k) i hi).trans Array.getElem?_toList
     have q80:∀ W,K wr W->W.cell? ⟨b2,o2+m * 3,none⟩=some (.int .i64 x.1):=fun W k=>d0 W (kr8.tr k)
     have qi8:∀ W,K wr W->∀ i,W.cell? ⟨gi,i,none⟩=(idA (a1,B'.st.life,a3))[i]?:=fun W k=>qix W (kr8.tr k)
     clear d0 dd hcl2 hr2
     go_upto_region 32 with (fail)
     refine wp_region_auto 5 [([],[]),([],[]),([0,1],[(112,0),(113,1)]),([2],[(114,2)]),([],[]),([3,4],[(115,3),(116,4)])] 140 rfl (by kernel_rfl) (by kernel_rfl) (by kernel_rfl) (by kernel_rfl) (by decide) ?_
     simp only[List.take_succ_cons,List.take_zero,List.drop_succ_cons,List.drop_zero]
     iterate 5 (apply AutoQ.is;intro V W kW hp;(try simp only[List.forall_mem_cons,List.nil_append,List.cons_append,tab_zero,tab_succ,isV] at hp);simp[wantsG,rhoP,List.lookup,hp,ResG,execOp,bareOp,isV,Below.refl,kW,q8,q80,qi8,hmi,go_sem];rfl)
     intro V W kW hA
     simp only[List.nil_append,List.cons_append,AllT,isV,Nat.reduceAdd] at hA
     obtain⟨e0,e1,e2,e3,e4,-⟩:=hA
     refine TailQ.pure (.bool false) rfl ?_ ?_
     · simp[rhoP,List.lookup,e3,e4,execOp,bareOp]
       rw[show (eqGuard BinOp.eql 35 (Operand.tmp 115) (Operand.tmp 116) (idv x) (idv (a1,B'.st.life,a3))).run Tryz.prog W=.ok () W from by simp[eqGuard,go_sem]]
       simp only[Result.andThen_ok,run_id_no hne]
     refine TailQ.nil ?_
     simp only[putAll,Act.put,List.setIfInBounds_toArray,List.set_cons_succ,List.set_cons_zero,Nat.reduceAdd,updV]
     have krW:=kr8.tr kW
     clear e0 e1 e2 e3 e4 q8 q80 qi8
     go_wp2
     go_roundw
     case rel=>exact⟨m+1,by omega,by go_num,krW⟩
     case measure=>simp[intOf];omega
   · have hmi:¬ (m:Int)<(l.length:Int):=by omega
     have qi9:=fun W (k:K wr W)=>qix W (kr8.tr k)
     have hL9:=Lib.hid (HL.out.st kr8)
     have hO9:=HOX.out.st kr8
     have hi9:=hix.below kr8 hix.lt
     have k9:=kx.tr kr8
     have hst0:(statusB B' (a1,B'.st.life,a3)==0)=false:=by simpa using HST.out
     go_upto_region 34 with (fail)
     refine wp_region_auto 18 [([],[]),([0],[(118,0)]),([],[]),([1,2],[(119,1),(120,2)]),([3],[(121,3)]),([4],[]),([4,5],[(123,5)]),([4],[]),([4,7],[(125,7)]),([4,8],[(126,8)]),([4,6,9],[(124,6),(127,9)]),([4,10],[(122,4),(128,10)]),([11],[(129,11)]),([12],[]),([12],[]),([12,13,14],[(131,13),(132,14)]),([12,15],[(133,15)]),([12,16],[(130,12),(134,16)])] 140 rfl (by kernel_rfl) (by kernel_rfl) (by kernel_rfl) (by kernel_rfl) (by decide) ?_
     simp only[List.take_succ_cons,List.take_zero,List.drop_succ_cons,List.drop_zero]
     iterate 8 (apply AutoQ.is;intro V W kW hp;(try simp only[List.forall_mem_cons,List.nil_append,List.cons_append,tab_zero,tab_succ,isV] at hp);simp[wantsG,rhoP,List.lookup,hp,ResG,execOp,bareOp,isV,Below.refl,kW,qi9,hst0,ne_self_iff_false,go_sem];rfl)
     refine AutoQ.op (stL B'.st.life) (stL_st _) (fun V W kW hp=>?_) ?_
     · (try simp only[List.forall_mem_cons,List.nil_append,List.cons_append,tab_zero,tab_succ,isV] at hp)
       simp[wantsG,rhoP,List.lookup,hp,ResG,execOp,bareOp,go_sem]
       refine (KState (hL9.out.st kW)).mono ?_
       rintro e w4 ⟨vl,vp,va,rfl,-,k4⟩
       exact⟨_,rfl,⟨_,_,_,rfl⟩,k4⟩
     refine AutoQ.is (.int .u64 (B'.st.life:Int)) (fun V W kW hp=>?_) ?_
     · (try simp only[List.forall_mem_cons,List.nil_append,List.cons_append,tab_zero,tab_succ,isV] at hp)
       obtain⟨h4,h8,-⟩:=hp
       obtain⟨x1,x2,x3,ex⟩:=h8
       have hfl:(Instr.field 53 (.agg #[.int .u64 (B'.st.life:Int),x1,x2,x3]) 0).run Tryz.prog W=.ok (.int .u64 (B'.st.life:Int)) W:=by kernel_rfl
       simp[wantsG,rhoP,List.lookup,h4,ex,ResG,execOp,bareOp,isV,Below.refl,kW,hfl]
     iterate 5 (apply AutoQ.is;intro V W kW hp;(try simp only[List.forall_mem_cons,List.nil_append,List.cons_append,tab_zero,tab_succ,isV] at hp);simp[wantsG,rhoP,List.lookup,hp,ResG,execOp,bareOp,isV,Below.refl,kW,qi9,hst0,ne_self_iff_false,go_sem];rfl)
     refine AutoQ.is (.int .i64 (statusB B' (a1,B'.st.life,a3))) (fun V W kW hp=>?_) ?_
     · (try simp only[List.forall_mem_cons,List.nil_append,List.cons_append,tab_zero,tab_succ,isV] at hp)
       simp[wantsG,rhoP,List.lookup,hp,ResG,execOp,bareOp,isV,go_sem]
       refine (KStatus (hL9.out.st kW) (a1,B'.st.life,a3)).mono ?_
       rintro e w4 ⟨rfl,k4⟩
       exact⟨_,rfl,rfl,k4⟩
     iterate 2 (apply AutoQ.is;intro V W kW hp;(try simp only[List.forall_mem_cons,List.nil_append,List.cons_append,tab_zero,tab_succ,isV] at hp);simp[wantsG,rhoP,List.lookup,hp,ResG,execOp,bareOp,isV,Below.refl,kW,qi9,hst0,ne_self_iff_false,go_sem];rfl)
     intro V W kW hA
     simp only[List.nil_append,List.cons_append,AllT,isV,Nat.reduceAdd] at hA
     refine TailQ.nil ?_
     simp only[putAll,Act.put,List.setIfInBounds_toArray,List.set_cons_succ,List.set_cons_zero,Nat.reduceAdd,hA]
     generalize V 8=x8 at *
     clear hA
     have hLW:=hL9.out.st kW
     have hOW:=hO9.st kW
     have kW9:=k9.tr kW
     have qW:=qi9 W kW
     have hzb:=fun k hk=>hOW.blk k hk
     clear hL9 hO9 hi9 k9 qi9 qix kr8 kx
     have hr:=rowY.new (S:=idS) (e:=35) (x:=(a1,B'.st.life,a3)) (v:=.agg (idA (a1,B'.st.life,a3))) (w:=W) (N:=fun k=>True∨(Value.slice Ao l.length co).ownBlock=some k) (fun W u=>rfl) 0 (Nat.zero_le _)
     have kA:K W (W.alloc (.cells (idA (a1,B'.st.life,a3)) 35)):=(K.rf W).al _
     have hO8:=hOW.st kA
     have hL8:=Lib.hid (hLW.st kA)
     have k8:=kW9.tr kA
     have hz8:w.heap.size<=(W.alloc (.cells (idA (a1,B'.st.life,a3)) 35)).heap.size:=k8.size
     clear hOW hLW
     go_wp2_with (at_builtin;refine wpList_push rfl _ _ 51 rfl _ 3 24 TId rfl rfl hO8 _ rfl (a1,B'.st.life,a3) ?p1 ?p2 ?p3 ?_)
     case p1=>exact hr.less fun k _=>.inl trivial
     case p2=>omega
     case p3=>simpa using hz8
     intro v9 w9 hO10 hg10 hat10 hb10
     have hz10:=hO10.blk
     have k10:=k8.trans hb10
     have hL10:=Lib.hid (hL8.out.grow (X':=fun k=>v9.ownBlock=some k) (Z':=fun k=>k<w.heap.size∨v9.ownBlock=some k) (UpN.of_mut (X:=fun k=>k=gi∨(Value.slice Ao l.length co).ownBlock=some k) hg10 fun k e=>.inr e) (fun k h=>h.elim .inr fun h=>.inl (.inr h)) (fun k hk=>by
      rcases hat10 with h|h
      · exact .inl (.inr (h ▸ hk))
      · exact .inr ⟨by rw[h] at hk;injection hk with hk;rw[<- hk];simp,(hz10 k hk).2⟩) (fun k hk=>by
       rcases hk with hk|hk
       · exact .inl (.inl (.inl hk))
       · rcases hat10 with h|h
         · exact .inl (.inl (.inr (h ▸ hk)))
         · exact .inr ⟨by rw[h] at hk;injection hk with hk;rw[<- hk];simp,(hz10 k hk).2⟩))
     have hO11:=Lib.hid hO10
     obtain⟨Av,cv,rfl⟩:=hO10.slice
     clear hr hO8 hL8 hg10 hat10 hb10 hO10 hz10 hzb kW9 k8 hz8
     go_wp2
     go_roundw
     case rel=>exact⟨j+1,g',B',l++[(a1,B'.st.life,a3)],rfl,by omega,by omega,by go_num,HI2.out,by simp;omega,hL10.out,hO11.out,k10⟩
     case measure=>simp[intOf];omega
end
