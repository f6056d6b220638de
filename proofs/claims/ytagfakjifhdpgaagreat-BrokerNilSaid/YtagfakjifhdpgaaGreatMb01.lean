/-
  The walk of BrokerNil (layer 20). Conditions: none.
-/
import Derived.Test.YtagfakjifhdpgaaGreatMa33
import Derived.Test.YtagfakjifhdpgaaGreatMb00
set_option maxRecDepth 100000
set_option maxHeartbeats 16000000
set_option linter.unusedVariables false
set_option linter.unusedSimpArgs false
namespace Go.Proofs.YtagfakjifhdpgaaGreat
open Go Go.RowKit
theorem BrokerNil_walk (v0 v1 v2:Value) (w:World) (r0:repID w v0) (r1:repI64 w v1) (r2:repBytes w v2) :
 Calls Tryz.prog 8 #[v0,v1,v2] w fun e w'=>e=.returned (.bool true)/\Below w.heap.size w w':=by
 obtain⟨a,rfl,-⟩:=r0
 obtain⟨n,rfl,-,-⟩:=r1
 obtain⟨A,c,l,rfl,-⟩:=r2
 have k1:K w (w.alloc (.cells (idA a) 35)):=(K.rf w).al _
 have hb:=Blk.new w 35 (idA a)
 go_enter Tryz.func8,Tryz.ntmps8
 go_upto_region 1 with (fail)
 generalize w.alloc _=w1 at *
 generalize w.heap.size=g at hb ⊢
 have C1:=Lib.hid (Awake20_calls w1)
 go_wp2_with fail
 refine C1.out.mono ?_
 rintro e w2 ⟨rfl,k2⟩
 have k02:=k1.tr k2
 have hb2:=hb.below k2 hb.lt
 have C2:=Lib.hid (NBegin n w2)
 clear C1 hb
 go_wp2_with fail
 refine C2.out.mono ?_
 rintro e w3 ⟨rfl,k3⟩
 clear C2
 go_upto_region 6 with (fail)
 have kA:K w3 (w3.alloc (.cells #[.int .i64 0,.int .u64 0,.int .u64 0] 35)):=(K.rf w3).al _
 have k03:=(k02.tr k3).tr kA
 have hb3:=(hb2.below k3 hb2.lt).below kA (by have:=k3.size;have:=hb2.lt;omega)
 generalize w3.alloc _=w4 at *
 clear kA k3 k02 hb2
 generalize w3.heap.size=x1 at *
 have C3:=Lib.hid (NSub n 0 w4)
 go_wp2_with fail
 refine C3.out.mono ?_
 rintro e w5 ⟨rfl,k5⟩
 clear C3
 go_upto_region 7 with (fail)
 have kA:K w5 (w5.alloc (.cells #[.int .i64 0,.int .u64 0,.int .u64 0] 35)):=(K.rf w5).al _
 have k05:=(k03.tr k5).tr kA
 have hb5:=(hb3.below k5 hb3.lt).below kA (by have:=k5.size;have:=hb3.lt;omega)
 generalize w5.alloc _=w6 at *
 clear kA k5 k03 hb3
 generalize w5.heap.size=x2 at *
 have C4:=Lib.hid (NUnsub n 0 w6)
 go_wp2_with fail
 refine C4.out.mono ?_
 rintro e w7 ⟨rfl,k7⟩
 clear C4
 go_upto_region 8 with (fail)
 have kA:K w7 (w7.alloc (.cells #[.int .i64 0,.int .u64 0,.int .u64 0] 35)):=(K.rf w7).al _
 have k07:=(k05.tr k7).tr kA
 have hb7:=(hb5.below k7 hb5.lt).below kA (by have:=k7.size;have:=hb5.lt;omega)
 generalize w7.alloc _=w8 at *
 clear kA k7 k05 hb5
 generalize w7.heap.size=x3 at *
 have C5:=Lib.hid (NPoll w8 n n)
 go_wp2_with fail
 refine C5.out.mono ?_
 rintro e w9 ⟨rfl,k9⟩
 have k09:=k07.tr k9
 have hb9:=hb7.below k9 hb7.lt
 have C6:=Lib.hid (NState w9)
 clear C5 k07 k9 hb7
 go_wp2_with fail
 refine C6.out.mono ?_
 rintro e w10 ⟨rfl,k10⟩
 clear C6
 go_upto_region 10 with (fail)
 have kA:K w10 (w10.alloc (.cells zSt 53)):=(K.rf w10).al _
 have hs:=Blk.new w10 53 zSt
 have k011:=(k09.tr k10).tr kA
 have hb11:=(hb9.below k10 hb9.lt).below kA (by have:=k10.size;have:=hb9.lt;omega)
 generalize w10.alloc _=w11 at *
 clear kA k10 k09 hb9
 generalize w10.heap.size=x4 at *
 have kE:K w11 ((w11.alloc (.cells #[.int .i64 (-1)] 3)).alloc (.cells #[.int .i64 0] 3)):=((K.rf w11).al _).al _
 have h1:=((ints_new (w:=w11) [-1] 3 (M:=fun _=>False) (fun _ h=>h.elim)).k ((K.rf _).al (.cells #[.int .i64 0] 3))).now
 have hz1:(w11.alloc (.cells #[.int .i64 (-1)] 3)).heap.size=w11.heap.size+1:=by simp
 have h2:=(ints_new (w:=w11.alloc (.cells #[.int .i64 (-1)] 3)) [0] 3 (M:=fun _=>False) (fun _ h=>h.elim)).now
 rw[hz1] at h2
 have C12:=Lib.hid (BOpen_no [-1] [0] 0 (.slice (some ⟨w11.heap.size,0,none⟩) 1 1) (.slice (some ⟨w11.heap.size+1,0,none⟩) 1 1) (.pointer none) ((w11.alloc (.cells #[.int .i64 (-1)] 3)).alloc (.cells #[.int .i64 0] 3)) h1 h2 (by simp) (by simp) (.inl rfl) (.inr (.inr (.inl rfl))))
 rw[show okTr [-1]=true from by decide,if_pos rfl] at C12
 clear h1 h2 hz1
 go_wp2_with fail
 generalize World.alloc (World.alloc w11 _) _=w12 at *
 refine C12.out.mono ?_
 rintro e w13 ⟨rfl,k13⟩
 have k1113:=kE.tr k13
 have k013:=k011.tr k1113
 have hb13:=hb11.below k1113 hb11.lt
 have hs13:=hs.below k1113 hs.lt
 clear C12 kE k13 k1113 k011 hb11 hs
 have q1:=hb13.cells
 have q2:=hs13.cells
 have P1:=Lib.hid fun W=>NPublish W a (.slice none 0 0)
 have P2:=Lib.hid fun W=>NCommit W a
 have P3:=Lib.hid fun W=>NAbort W a
 have P4:=Lib.hid fun W=>NStatus W a
 have P5:=Lib.hid fun W=>NTick W
 have P6:=Lib.hid fun W=>NHandle W n (.slice A l.length c)
 have P7:=Lib.hid fun W=>NWaiting W
 have P8:=Lib.hid fun W=>NStage W
 have kk:=K.rf w13
 have r1:=q1 w13 kk
 go_wp2_with fail
 refine (P1.out w13).mono ?_
 rintro e w14 ⟨rfl,k14⟩
 clear r1
 have r1:=q1 w14 k14
 go_wp2_with fail
 refine (P2.out w14).mono ?_
 rintro e w15 ⟨rfl,k15⟩
 have k15':=k14.tr k15
 clear r1
 have r1:=q1 w15 k15'
 go_wp2_with fail
 refine (P3.out w15).mono ?_
 rintro e w16 ⟨rfl,k16⟩
 have k16':=k15'.tr k16
 clear r1
 have r1:=q1 w16 k16'
 go_wp2_with fail
 refine (P4.out w16).mono ?_
 rintro e w17 ⟨rfl,k17⟩
 have k17':=k16'.tr k17
 clear r1
 go_wp2_with fail
 refine (P5.out w17).mono ?_
 rintro e w18 ⟨rfl,k18⟩
 have k18':=k17'.tr k18
 go_wp2_with fail
 refine (P6.out w18).mono ?_
 rintro e w19 ⟨rfl,k19⟩
 have k19':=k18'.tr k19
 have r2:=q2 w19 k19'
 go_wp2_with fail
 refine (P7.out w19).mono ?_
 rintro e w20 ⟨rfl,k20⟩
 have k20':=k19'.tr k20
 clear r2
 go_wp2_with fail
 refine (P8.out w20).mono ?_
 rintro e w21 ⟨rfl,k21⟩
 have kF:=k013.tr (k20'.tr k21)
 go_wp2
 go_ret
 exact⟨rfl,kF⟩
