/-
  The walk of BrokerHomes (layer 20). Conditions: none.
-/
import Derived.Test.YtagfakjifhdpgaaGreatMa33
import Derived.Test.YtagfakjifhdpgaaGreatMc01
import Derived.WalkKit
import Derived.WalkLawsBesides
import Derived.WalkSpells
import Derived.Deep.Draws
import Derived.Deep.AppendLies
import Derived.Maps.AppendAt
import Derived.Laws.CopyOwn
import Derived.Lib.Hide
import Derived.ScopeJumps
import Derived.Laws.IdiomStrings
import Derived.Laws.BytesArg
import Derived.WalkMore
import Derived.Orders
import Derived.Test.YtagfakjifhdpgaaGreatProg
import Derived.BigQuiet
import Derived.Deep.QuietTactic
import Derived.Deep.CutRange
import Derived.Deep.LoopGhost
import Derived.IntWalk
import Derived.Deep.RegionHeld3
import Derived.Deep.DrawnRows
import Derived.Deep.CutBlock
import Derived.Maps.OwnSet
import Derived.Carry
import Derived.Laws.BitsAllLaws
set_option maxRecDepth 100000
set_option maxHeartbeats 16000000
set_option linter.unusedVariables false
set_option linter.unusedSimpArgs false
namespace Go.Proofs.YtagfakjifhdpgaaGreat
open Go Go.RowKit
theorem LStage {Z:Nat->Prop} {g:Nat} {B:Brk} {W:World} (h:Liv Z g B W) :
 Calls Tryz.prog 19 #[.pointer (some ⟨g,0,none⟩)] W fun e w'=>∃ v',e=.returned v'/\lst txS B.txns v' w'/\K W w':=by
 obtain⟨gd,hG,p,hb,hg,-⟩:=h
 obtain rfl:=kg hg
 refine (BStage_calls hb hG.toGoodB).mono ?_
 rintro e w' ⟨v',rfl,hO,k⟩
 exact⟨v',rfl,hO.lst,k⟩
theorem lst_fx0 {α:Type} {S:Shp α} {l:List α} {v:Value} {w w':World} (h:lst S l v w) (k:K w w') {M:Nat->Prop} (hM:∀ k,M k->w.heap.size<=k):Fx M (fun W=>lst S l v W) w' :=
 fun W u=>lst_st h (u.k k hM)
theorem BrokerHomes_walk (v0 v1 v2 v3:Value) (w:World) (r0:repI64 w v0) (r1:repInts w v1) (r2:repInts w v2) (r3:repI64 w v3) :
 Calls Tryz.prog 6 #[v0,v1,v2,v3] w fun e w'=>e=.returned (.bool true)/\Below w.heap.size w w':=by
 obtain⟨me,rfl,hme⟩:=r0
 obtain⟨par,hp,-⟩:=r1
 obtain⟨hom,hh,-⟩:=r2
 obtain⟨cl,rfl,hcl⟩:=r3
 have HP:=Lib.hid hp
 have HH:=Lib.hid hh
 obtain⟨Ap,cp,rfl⟩:=lst_slice hp
 obtain⟨Ah,ch,rfl,hlh,-⟩:=hh
 have C1:=Lib.hid (Awake20_calls w)
 clear hp
 go_enter Tryz.func6,Tryz.ntmps6
 go_wp2_with fail
 refine C1.out.mono ?_
 rintro e w1 ⟨rfl,k1⟩
 clear C1
 by_cases hp20:20<par.length
 · have hq:(20:Int)<(par.length:Int):=by omega
   clear hp20 hlh
   go_wp2
   go_ret
   exact⟨rfl,k1⟩
 have hq:¬ (20:Int)<(par.length:Int):=by omega
 by_cases hh20:20<hom.length
 · have hq2:(20:Int)<(hom.length:Int):=by omega
   clear hp20 hh20 hlh
   go_wp2
   go_ret
   exact⟨rfl,k1⟩
 have hq2:¬ (20:Int)<(hom.length:Int):=by omega
 have C2:=Lib.hid (DNew_ok 60000 w1 (by omega))
 go_wp2_with fail
 refine C2.out.mono ?_
 rintro e w2 ⟨rfl,hd,k2⟩
 have k02:=k1.tr k2
 obtain⟨gd,hgd⟩:∃ gd,gd=w1.heap.size:=⟨_,rfl⟩
 rw[<- hgd] at hd ⊢
 have HGD:=Lib.hid hgd
 clear hgd C2
 have hzw:=k1.size
 by_cases hno:okTr par=false∨inR par me=false∨okHm par hom=false
 · have C3:=Lib.hid (BOpen_no par hom me _ _ (.pointer (some ⟨gd,0,none⟩)) w2 (lst_st HP.out k02) (lst_st HH.out k02) (by omega) (by omega) (.inr ⟨_,rfl⟩) (by
    rcases hno with h|h|h
    · exact .inl h
    · exact .inr (.inl h)
    · exact .inr (.inr (.inr h))))
   have hne:((if okTr par=true then (1:Int) else 120) != 0)=true:=by split <;> decide
   generalize (if okTr par=true then (1:Int) else 120)=cd at *
   clear hd hlh hno
   go_wp2_with fail
   refine C3.out.mono ?_
   rintro e w3 ⟨rfl,k3⟩
   have kF:=k02.tr k3
   clear C3
   go_wp2
   go_ret
   exact⟨rfl,kF⟩
 have ht:okTr par=true:=by cases h:okTr par;exact absurd (.inl h) hno;rfl
 have hm:inR par me=true:=by cases h:inR par me;exact absurd (.inr (.inl h)) hno;rfl
 have ho:okHm par hom=true:=by cases h:okHm par hom;exact absurd (.inr (.inr h)) hno;rfl
 have hdx:∀ k,DkX gd (.slice none 0 0) k->w.heap.size<=k:=fun k hk=>by
  rcases hk with h|h
  · have:=HGD.out;omega
  · simp[Value.ownBlock] at h
 have C3:=Lib.hid (BOpen_calls gd (.slice none 0 0) ⟨[],60000⟩ st0 par hom me _ _ w2 hd (DskG.new (by omega)) (by simp[st0]) (lst_fx0 HP.out k02 hdx) (lst_fx0 HH.out k02 hdx) ht hm ho)
 have hzd:∀ k,k<w.heap.size->¬ DkX gd (.slice none 0 0) k/\k<w2.heap.size:=fun k hk=>⟨fun h=>by have:=hdx k h;omega,by have:=k02.size;omega⟩
 have hmr:0<=me/\me<16:=by
  have h1:=hm
  have h2:=okTr_par ht
  simp only[inR,Bool.and_eq_true,decide_eq_true_eq] at h1
  omega
 clear hno hdx
 go_wp2_with fail
 refine C3.out.mono ?_
 intro e w3 hpo
 unfold OpPost at hpo
 rw[if_pos homes_room] at hpo
 obtain⟨q,hq3⟩:=hpo
 have he:=hq3.ret
 subst he
 obtain⟨hL,u3⟩:=Liv.new (Z:=fun k=>k<w.heap.size) hq3 (GoodB.open_ ht hm ho ((DskG.new (room:=60000) (by omega)).life homes_room)) hzd
 have k03:K w w3:=u3.k k02 fun k hk=>by omega
 generalize q.g=g at *
 have HL:Liv (fun k=>k<w.heap.size) g (bH0 me par hom) w3:=hL
 have hhl:=okHm_len ho
 have HB:Hid (homeB' (bH0 me par hom) cl=(decide (0<=cl)&&decide (cl<(hom.length:Int))&&decide (hom[cl.toNat]?=some me))):=Lib.hid rfl
 have hci:i64ok cl:=hcl
 clear C3 hzd hq3 hL u3 hd ht hm ho
 by_cases h0:0<=cl
 rotate_left
 · have hcc:¬ (0:Int)<=cl:=h0
   have F:=homes_not (m:=me) (p:=par) (hom:=hom) (c:=cl) (by rw[HB.out];simp[h0])
   clear HB
   obtain⟨F1,F2,F3,F4,F5,F6,F7⟩:=F
   have C4:=Lib.hid (LBegin HL cl hci (by show 0+1<4611686018427387904;omega))
   rw[F1] at C4
   generalize (beginB (bH0 me par hom) cl).2.1=i1 at C4
   clear F1
   go_wp2_with fail
   refine C4.out.mono ?_
   rintro e w4 ⟨rfl,hL4,u4⟩
   have k04:K w w4:=u4.k k03 fun k hk=>by omega
   have HL4:Liv (fun k=>k<w.heap.size) g (bH1 me par hom cl) w4:=hL4
   clear C4 hL4 u4 k03 HL
   go_upto_region 15 with (fail)
   have kA:K w4 (w4.alloc (.cells (idA i1) 35)):=(K.rf w4).al _
   have HL5:=HL4.st kA
   have k05:=k04.tr kA
   generalize w4.alloc _=w5 at *
   clear HL4 kA k04
   have C5:=Lib.hid (LSub HL5 cl hci (by omega) 1 (by omega) [] (.slice none 0 0) ⟨none,0,rfl,Reads.nil _ _ _ _⟩ (by simp) (by simp))
   rw[F2] at C5
   generalize (subB (bH1 me par hom cl) cl 1 []).2.1=i2 at C5
   go_wp2_with fail
   refine C5.out.mono ?_
   rintro e w6 ⟨rfl,hL6,u6⟩
   have k06:K w w6:=u6.k k05 fun k hk=>by omega
   have HL6:Liv (fun k=>k<w.heap.size) g (bH2 me par hom cl) w6:=hL6
   clear C5 hL6 u6 k05 HL5
   go_upto_region 16 with (fail)
   have kA:K w6 (w6.alloc (.cells (idA i2) 35)):=(K.rf w6).al _
   have HL7:=HL6.st kA
   have k07:=k06.tr kA
   generalize w6.alloc _=w7 at *
   clear HL6 kA k06
   have C6:=Lib.hid (LUnsub HL7 cl hci (by omega) 1 (by omega))
   rw[F3] at C6
   generalize (unsubB (bH2 me par hom cl) cl 1).2.1=i3 at C6
   go_wp2_with fail
   refine C6.out.mono ?_
   rintro e w8 ⟨rfl,hL8,u8⟩
   have k08:K w w8:=u8.k k07 fun k hk=>by omega
   have HL8:Liv (fun k=>k<w.heap.size) g (bH3 me par hom cl) w8:=hL8
   clear C6 hL8 u8 k07 HL7
   go_upto_region 17 with (fail)
   have kA:K w8 (w8.alloc (.cells (idA i3) 35)):=(K.rf w8).al _
   have HL9:=HL8.st kA
   have k09:=k08.tr kA
   generalize w8.alloc _=w9 at *
   clear HL8 kA k08
   have C7:=Lib.hid (LPoll HL9 cl 0)
   rw[F4] at C7
   go_wp2_with fail
   refine C7.out.mono ?_
   rintro e w10 ⟨v10,rfl,hO10,k10⟩
   obtain⟨A10,c10,rfl⟩:=lst_slice hO10.toY.lst
   have k010:=k09.tr k10
   have C8:=Lib.hid (LStage (HL9.st k10))
   clear C7 hO10 k09 HL9 k10
   go_wp2_with fail
   refine C8.out.mono ?_
   rintro e w11 ⟨v11,rfl,hO11,k11⟩
   obtain⟨A11,c11,h11⟩:=lst_slice hO11
   rw[F5] at h11
   subst h11
   have kF:=k010.tr k11
   clear C8 hO11
   go_wp2
   go_ret
   exact⟨rfl,kF⟩
 by_cases h1:cl<(hom.length:Int)
 rotate_left
 · have F:=homes_not (m:=me) (p:=par) (hom:=hom) (c:=cl) (by rw[HB.out];simp[h1])
   clear HB
   obtain⟨F1,F2,F3,F4,F5,F6,F7⟩:=F
   have C4:=Lib.hid (LBegin HL cl hci (by show 0+1<4611686018427387904;omega))
   rw[F1] at C4
   generalize (beginB (bH0 me par hom) cl).2.1=i1 at C4
   clear F1
   go_wp2_with fail
   refine C4.out.mono ?_
   rintro e w4 ⟨rfl,hL4,u4⟩
   have k04:K w w4:=u4.k k03 fun k hk=>by omega
   have HL4:Liv (fun k=>k<w.heap.size) g (bH1 me par hom cl) w4:=hL4
   clear C4 hL4 u4 k03 HL
   go_upto_region 15 with (fail)
   have kA:K w4 (w4.alloc (.cells (idA i1) 35)):=(K.rf w4).al _
   have HL5:=HL4.st kA
   have k05:=k04.tr kA
   generalize w4.alloc _=w5 at *
   clear HL4 kA k04
   have C5:=Lib.hid (LSub HL5 cl hci (by omega) 1 (by omega) [] (.slice none 0 0) ⟨none,0,rfl,Reads.nil _ _ _ _⟩ (by simp) (by simp))
   rw[F2] at C5
   generalize (subB (bH1 me par hom cl) cl 1 []).2.1=i2 at C5
   go_wp2_with fail
   refine C5.out.mono ?_
   rintro e w6 ⟨rfl,hL6,u6⟩
   have k06:K w w6:=u6.k k05 fun k hk=>by omega
   have HL6:Liv (fun k=>k<w.heap.size) g (bH2 me par hom cl) w6:=hL6
   clear C5 hL6 u6 k05 HL5
   go_upto_region 16 with (fail)
   have kA:K w6 (w6.alloc (.cells (idA i2) 35)):=(K.rf w6).al _
   have HL7:=HL6.st kA
   have k07:=k06.tr kA
   generalize w6.alloc _=w7 at *
   clear HL6 kA k06
   have C6:=Lib.hid (LUnsub HL7 cl hci (by omega) 1 (by omega))
   rw[F3] at C6
   generalize (unsubB (bH2 me par hom cl) cl 1).2.1=i3 at C6
   go_wp2_with fail
   refine C6.out.mono ?_
   rintro e w8 ⟨rfl,hL8,u8⟩
   have k08:K w w8:=u8.k k07 fun k hk=>by omega
   have HL8:Liv (fun k=>k<w.heap.size) g (bH3 me par hom cl) w8:=hL8
   clear C6 hL8 u8 k07 HL7
   go_upto_region 17 with (fail)
   have kA:K w8 (w8.alloc (.cells (idA i3) 35)):=(K.rf w8).al _
   have HL9:=HL8.st kA
   have k09:=k08.tr kA
   generalize w8.alloc _=w9 at *
   clear HL8 kA k08
   have C7:=Lib.hid (LPoll HL9 cl 0)
   rw[F4] at C7
   go_wp2_with fail
   refine C7.out.mono ?_
   rintro e w10 ⟨v10,rfl,hO10,k10⟩
   obtain⟨A10,c10,rfl⟩:=lst_slice hO10.toY.lst
   have k010:=k09.tr k10
   have C8:=Lib.hid (LStage (HL9.st k10))
   clear C7 hO10 k09 HL9 k10
   go_wp2_with fail
   refine C8.out.mono ?_
   rintro e w11 ⟨v11,rfl,hO11,k11⟩
   obtain⟨A11,c11,h11⟩:=lst_slice hO11
   rw[F5] at h11
   subst h11
   have kF:=k010.tr k11
   clear C8 hO11
   go_wp2
   go_ret
   exact⟨rfl,kF⟩
 obtain⟨n,rfl⟩:=Int.eq_ofNat_of_zero_le h0
 have hn:n<hom.length:=by omega
 obtain⟨b,off,rfl,hcell⟩:=ints_at hlh (by omega)
 have cj:=hcell w3 k03 n hn
 have hget:hom[((n:Nat):Int).toNat]?=some hom[n]:=by rw[Int.toNat_natCast];exact List.getElem?_eq_getElem hn
 by_cases h2:hom[n]=me
 · have F:=homes_yes (m:=me) (p:=par) (hom:=hom) (c:=(n:Int)) (by rw[HB.out,hget];simp[h2,hn]) hmr.1 hmr.2 (by omega) (by omega)
   rw[h2] at cj
   clear HB hcell hlh hget h2
   obtain⟨F1,F2,F3,F4,F5,F6,F7⟩:=F
   have C4:=Lib.hid (LBegin HL (n:Int) hci (by show 0+1<4611686018427387904;omega))
   rw[F1] at C4
   generalize (beginB (bH0 me par hom) (n:Int)).2.1=i1 at C4
   clear F1
   go_wp2_with fail
   refine C4.out.mono ?_
   rintro e w4 ⟨rfl,hL4,u4⟩
   have k04:K w w4:=u4.k k03 fun k hk=>by omega
   have HL4:Liv (fun k=>k<w.heap.size) g (bH1 me par hom (n:Int)) w4:=hL4
   clear C4 hL4 u4 k03 HL
   go_upto_region 15 with (fail)
   have kA:K w4 (w4.alloc (.cells (idA i1) 35)):=(K.rf w4).al _
   have HL5:=HL4.st kA
   have k05:=k04.tr kA
   generalize w4.alloc _=w5 at *
   clear HL4 kA k04
   have C5:=Lib.hid (LSub HL5 (n:Int) hci (by omega) 1 (by omega) [] (.slice none 0 0) ⟨none,0,rfl,Reads.nil _ _ _ _⟩ (by simp) (by simp))
   rw[F2] at C5
   generalize (subB (bH1 me par hom (n:Int)) (n:Int) 1 []).2.1=i2 at C5
   go_wp2_with fail
   refine C5.out.mono ?_
   rintro e w6 ⟨rfl,hL6,u6⟩
   have k06:K w w6:=u6.k k05 fun k hk=>by omega
   have HL6:Liv (fun k=>k<w.heap.size) g (bH2 me par hom (n:Int)) w6:=hL6
   clear C5 hL6 u6 k05 HL5
   go_upto_region 16 with (fail)
   have kA:K w6 (w6.alloc (.cells (idA i2) 35)):=(K.rf w6).al _
   have HL7:=HL6.st kA
   have k07:=k06.tr kA
   generalize w6.alloc _=w7 at *
   clear HL6 kA k06
   have C6:=Lib.hid (LUnsub HL7 (n:Int) hci (by omega) 1 (by omega))
   rw[F3] at C6
   generalize (unsubB (bH2 me par hom (n:Int)) (n:Int) 1).2.1=i3 at C6
   go_wp2_with fail
   refine C6.out.mono ?_
   rintro e w8 ⟨rfl,hL8,u8⟩
   have k08:K w w8:=u8.k k07 fun k hk=>by omega
   have HL8:Liv (fun k=>k<w.heap.size) g (bH3 me par hom (n:Int)) w8:=hL8
   clear C6 hL8 u8 k07 HL7
   go_upto_region 17 with (fail)
   have kA:K w8 (w8.alloc (.cells (idA i3) 35)):=(K.rf w8).al _
   have HL9:=HL8.st kA
   have k09:=k08.tr kA
   generalize w8.alloc _=w9 at *
   clear HL8 kA k08
   have C7:=Lib.hid (LPoll HL9 (n:Int) 0)
   rw[F4] at C7
   go_wp2_with fail
   refine C7.out.mono ?_
   rintro e w10 ⟨v10,rfl,hO10,k10⟩
   obtain⟨A10,c10,rfl⟩:=lst_slice hO10.toY.lst
   have k010:=k09.tr k10
   have C8:=Lib.hid (LStage (HL9.st k10))
   clear C7 hO10 k09 HL9 k10
   go_wp2_with fail
   refine C8.out.mono ?_
   rintro e w11 ⟨v11,rfl,hO11,k11⟩
   obtain⟨A11,c11,h11⟩:=lst_slice hO11
   rw[F5] at h11
   subst h11
   have kF:=k010.tr k11
   clear C8 hO11
   go_wp2
   go_ret
   exact⟨rfl,kF⟩
 · have F:=homes_not (m:=me) (p:=par) (hom:=hom) (c:=(n:Int)) (by rw[HB.out,hget];simp[h2])
   have h3:(hom[n]==me)=false:=by simpa using h2
   generalize hom[n]=hv at *
   clear HB hcell hlh hget h2
   obtain⟨F1,F2,F3,F4,F5,F6,F7⟩:=F
   have C4:=Lib.hid (LBegin HL (n:Int) hci (by show 0+1<4611686018427387904;omega))
   rw[F1] at C4
   generalize (beginB (bH0 me par hom) (n:Int)).2.1=i1 at C4
   clear F1
   go_wp2_with fail
   refine C4.out.mono ?_
   rintro e w4 ⟨rfl,hL4,u4⟩
   have k04:K w w4:=u4.k k03 fun k hk=>by omega
   have HL4:Liv (fun k=>k<w.heap.size) g (bH1 me par hom (n:Int)) w4:=hL4
   clear C4 hL4 u4 k03 HL
   go_upto_region 15 with (fail)
   have kA:K w4 (w4.alloc (.cells (idA i1) 35)):=(K.rf w4).al _
   have HL5:=HL4.st kA
   have k05:=k04.tr kA
   generalize w4.alloc _=w5 at *
   clear HL4 kA k04
   have C5:=Lib.hid (LSub HL5 (n:Int) hci (by omega) 1 (by omega) [] (.slice none 0 0) ⟨none,0,rfl,Reads.nil _ _ _ _⟩ (by simp) (by simp))
   rw[F2] at C5
   generalize (subB (bH1 me par hom (n:Int)) (n:Int) 1 []).2.1=i2 at C5
   go_wp2_with fail
   refine C5.out.mono ?_
   rintro e w6 ⟨rfl,hL6,u6⟩
   have k06:K w w6:=u6.k k05 fun k hk=>by omega
   have HL6:Liv (fun k=>k<w.heap.size) g (bH2 me par hom (n:Int)) w6:=hL6
   clear C5 hL6 u6 k05 HL5
   go_upto_region 16 with (fail)
   have kA:K w6 (w6.alloc (.cells (idA i2) 35)):=(K.rf w6).al _
   have HL7:=HL6.st kA
   have k07:=k06.tr kA
   generalize w6.alloc _=w7 at *
   clear HL6 kA k06
   have C6:=Lib.hid (LUnsub HL7 (n:Int) hci (by omega) 1 (by omega))
   rw[F3] at C6
   generalize (unsubB (bH2 me par hom (n:Int)) (n:Int) 1).2.1=i3 at C6
   go_wp2_with fail
   refine C6.out.mono ?_
   rintro e w8 ⟨rfl,hL8,u8⟩
   have k08:K w w8:=u8.k k07 fun k hk=>by omega
   have HL8:Liv (fun k=>k<w.heap.size) g (bH3 me par hom (n:Int)) w8:=hL8
   clear C6 hL8 u8 k07 HL7
   go_upto_region 17 with (fail)
   have kA:K w8 (w8.alloc (.cells (idA i3) 35)):=(K.rf w8).al _
   have HL9:=HL8.st kA
   have k09:=k08.tr kA
   generalize w8.alloc _=w9 at *
   clear HL8 kA k08
   have C7:=Lib.hid (LPoll HL9 (n:Int) 0)
   rw[F4] at C7
   go_wp2_with fail
   refine C7.out.mono ?_
   rintro e w10 ⟨v10,rfl,hO10,k10⟩
   obtain⟨A10,c10,rfl⟩:=lst_slice hO10.toY.lst
   have k010:=k09.tr k10
   have C8:=Lib.hid (LStage (HL9.st k10))
   clear C7 hO10 k09 HL9 k10
   go_wp2_with fail
   refine C8.out.mono ?_
   rintro e w11 ⟨v11,rfl,hO11,k11⟩
   obtain⟨A11,c11,h11⟩:=lst_slice hO11
   rw[F5] at h11
   subst h11
   have kF:=k010.tr k11
   clear C8 hO11
   go_wp2
   go_ret
   exact⟨rfl,kF⟩
section
open Go Go.RowKit Go.ChangeShapes Go.WideShapes Go.ChangeAt
section
variable {H:Type} {enc:TypeId×Value->H} {w:World} {base:Nat} {r:Reach} {b0:Nat} {spare:Nat->Bool} {held:Bool} {v:Value} {d:DataW H} {p:List MemPlace}
theorem repInts_of (hv:Value.okWide Tryz.prog w r b0 31 v) (h:DataW.Trod enc Tryz.prog w base spare held 31 v d p):repInts w v:=by
 obtain⟨A,n,c,css,rfl,h1,h2,h3,h4,h5⟩:=reads_of_slice Tryz.underlying31 1 (by kernel_rfl) (fun cs=>∃ n:Int,cs=[.int .i64 n]/\i64ok n) (fun _ _ _ _ ht=>i64_cells ht) hv h
 obtain⟨l,h6,h7,h8⟩:=list_of_cells (fun n:Int=>[Value.int .i64 n]) i64ok css fun cs hcs=>(h4 cs hcs).2
 have h9:=h5 (by decide)
 subst h1
 rw[<- h6] at h9 h2 ⊢
 exact⟨l,⟨A,c,rfl,⟨l.map intc,each_ints _ _,by rw[h7] at h9;exact h9⟩,h2⟩,h8⟩
end
end
