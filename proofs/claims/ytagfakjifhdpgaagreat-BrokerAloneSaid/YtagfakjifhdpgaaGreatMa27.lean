/-
  The walk of table.Apply (layer 15). Conditions: lists of at most a million.
-/
import Derived.Test.YtagfakjifhdpgaaGreatMa26
set_option maxRecDepth 100000
set_option maxHeartbeats 16000000
set_option linter.unusedVariables false
set_option linter.unusedSimpArgs false
namespace Go.Proofs.YtagfakjifhdpgaaGreat
open Go Go.RowKit
theorem Ap1_calls (s:Subn) (v:Value) (w:World) (h:sub s v w) :
 Calls Tryz.prog 124 #[v] w fun e w'=>e=.returned (.bool true)/\K w w':=by
 obtain⟨vs,rfl,hf⟩:=h
 obtain⟨A,c,rfl⟩:=flt_slice hf
 have k1:K w (w.alloc (.cells (subA s (.slice A s.f.length c)) 186)):=(K.rf w).al _
 clear hf
 go_enter Tryz.func124,Tryz.ntmps124
 go_wp2
 go_ret
 exact⟨rfl,k1⟩
theorem Ap3_calls (s:Subn) (x:Ent) (v vf ve:Value) (g gf:Nat) (w:World) (h:sub s v w) (hg:Blk w g 42 (entA x vf ve)) (hgf:Blk w gf 196 #[.func (.func 125) #[] #[.pointer (some ⟨g,0,none⟩)]]) :
 Calls Tryz.prog 129 #[v,.pointer (some ⟨gf,0,none⟩)] w fun e w'=>e=.returned (.bool (decide (sideS s x<0)))/\K w w':=by
 have k1:=fun o=>(K.rf w).al o
 have C1:=Lib.hid fun W (k:K w W)=>Side_calls s x v vf ve g W (sub_st h k) (hg.below k hg.lt)
 obtain⟨vs,rfl,hf⟩:=h
 obtain⟨A,c,rfl⟩:=flt_slice hf
 have hb:=Blk.new w 186 (subA s (.slice A s.f.length c))
 replace k1:=k1 (.cells (subA s (.slice A s.f.length c)) 186)
 have hgf1:=hgf.below k1 hgf.lt
 generalize sideS s x=R at *
 clear hf hg hgf
 go_enter Tryz.func129,Tryz.ntmps129
 go_upto_region 1 with (fail)
 generalize w.alloc _=w1 at *
 have qa:=hb.cell
 have qf:=hgf1.cell
 go_wp2_with fail
 refine (C1.out w1 k1).mono ?_
 rintro e w2 ⟨rfl,k2⟩
 have kF:=k1.tr k2
 clear C1 qa qf hb hgf1
 go_wp2
 go_ret
 exact⟨by rfl,kF⟩
theorem Ap4_calls (s:Subn) (x:Ent) (v vf ve:Value) (g gf:Nat) (w:World) (h:sub s v w) (hg:Blk w g 42 (entA x vf ve)) (hgf:Blk w gf 196 #[.func (.func 125) #[] #[.pointer (some ⟨g,0,none⟩)]]) :
 Calls Tryz.prog 130 #[v,.pointer (some ⟨gf,0,none⟩)] w fun e w'=>e=.returned (.bool (decide (0<sideS s x)))/\K w w':=by
 have k1:=fun o=>(K.rf w).al o
 have C1:=Lib.hid fun W (k:K w W)=>Side_calls s x v vf ve g W (sub_st h k) (hg.below k hg.lt)
 obtain⟨vs,rfl,hf⟩:=h
 obtain⟨A,c,rfl⟩:=flt_slice hf
 have hb:=Blk.new w 186 (subA s (.slice A s.f.length c))
 replace k1:=k1 (.cells (subA s (.slice A s.f.length c)) 186)
 have hgf1:=hgf.below k1 hgf.lt
 generalize sideS s x=R at *
 clear hf hg hgf
 go_enter Tryz.func130,Tryz.ntmps130
 go_upto_region 1 with (fail)
 generalize w.alloc _=w1 at *
 have qa:=hb.cell
 have qf:=hgf1.cell
 go_wp2_with fail
 refine (C1.out w1 k1).mono ?_
 rintro e w2 ⟨rfl,k2⟩
 have kF:=k1.tr k2
 clear C1 qa qf hb hgf1
 go_wp2
 go_ret
 exact⟨by rfl,kF⟩
theorem lsf_of {α:Type} {S:Shp α} {l:List α} {v:Value} {w:World} (h:lst S l v w):LsF (fun k=>w.heap.size<=k) S l v w:=by
 obtain⟨A,c,rfl,⟨css,hE,hR⟩,hc⟩:=h
 refine⟨A,c,css,rfl,hc,hR,hE.1,fun h1 h2 b off e hb=>?_,fun W u=>hE.st ⟨u.os,u.tape,u.output,u.size,fun k hk=>u.block k hk (by omega)⟩⟩
 have h0:0<css.flatten.length:=by rw[hE.flen];exact Nat.mul_pos (List.length_pos_iff.2 h1) h2
 obtain⟨b',off',e',hb',-⟩:=hR.2 h0
 rw[e] at e'
 injection e' with e'
 injection e' with e1
 omega
theorem filter_f {l:List Subn} {q:Subn->Bool} (hs:∀ s∈l,s.f.length<=1000000):∀ s∈l.filter q,s.f.length<=1000000:=fun s h=>hs s (List.mem_filter.1 h).1
theorem Apply_calls (l:List Subn) (x:Ent) (v vx:Value) (w:World) (h:lst sbS l v w) (hx:ent x vx w) (hlen:l.length<=400000) (hs:∀ s∈l,s.f.length<=1000000) (hxs:x.f.length<=1000000) :
 Calls Tryz.prog 63 #[v,vx] w fun e w'=>∃ v',e=.returned v'/\OwnY (fun k=>k<w.heap.size) w.heap.size 186 sbS (applyT l x) v' w'/\K w w':=by
 have HR:Hid (applyT l x=if x.kind=2 then l.filter (fun s=>decide (sideS s x<0))++[⟨x.cl,x.sub,x.f⟩]++l.filter (fun s=>decide (0<sideS s x))
  else if x.kind=3 then l.filter (fun s=>decide (sideS s x<0))++l.filter (fun s=>decide (0<sideS s x)) else l):=Lib.hid rfl
 have HL:=Lib.hid (lsf_of h)
 have HS:=Lib.hid hs
 obtain⟨vf,ve,rfl,hf,he⟩:=hx
 have HF:=Lib.hid fun W (k:K w W)=>flt_st _ _ _ _ hf k
 obtain⟨Af,cf,rfl⟩:=flt_slice hf
 obtain⟨Ae,ce,rfl⟩:=lst_slice he
 obtain⟨A,c,rfl⟩:=lst_slice h
 have k1:K w (w.alloc (.cells (entA x (.slice Af x.f.length cf) (.slice Ae x.es.length ce)) 42)):=(K.rf w).al _
 have hb:=Blk.new w 42 (entA x (.slice Af x.f.length cf) (.slice Ae x.es.length ce))
 generalize applyT l x=R at *
 clear h hf he hs
 go_enter Tryz.func63,Tryz.ntmps63
 go_upto_region 1 with (fail)
 generalize w.alloc _=w1 at *
 have hz1:=k1.size
 generalize hga:w.heap.size=lo at hb HL hz1 ⊢
 have HGA:=Lib.hid hga
 clear hga
 have hlo1:=hz1
 have qb:=hb.cell
 by_cases hk:x.kind=2∨x.kind=3
 rotate_left
 · have HRR:Hid (R=l):=Lib.hid (by rw[HR.out,if_neg fun h=>hk (.inl h),if_neg fun h=>hk (.inr h)])
   have hk2:(x.kind != 2)=true:=by simpa using fun h=>hk (.inl h)
   have hk3:(x.kind != 3)=true:=by simpa using fun h=>hk (.inr h)
   have C1:=Lib.hid (KeepS_calls (fun k=>lo<=k) l _ (fun _=>true) 124 #[] w1 (HL.out.st k1) (by omega) (fun _ _=>by rfl) fun W _ s _ u hu=>Ap1_calls s u W hu)
   clear HR hk
   go_wp2_with fail
   refine C1.out.mono ?_
   rintro e w2 ⟨v2,rfl,hO2,k2⟩
   have k02:=k1.tr k2
   rw[show l.filter (fun _=>true)=l by simp] at hO2
   have C2:=Lib.hid (OwnS_calls _ _ l v2 w2 hO2 (by omega) HS.out)
   have hbl:=hO2.blk
   obtain⟨A2,c2,rfl⟩:=hO2.slice
   clear C1 hO2 qb
   go_wp2_with fail
   refine C2.out.mono ?_
   rintro e w3 ⟨rfl,hO3,u3⟩
   have kF:K w w3:=u3.k k02 fun k hk=>by have:=(hbl k hk).1;have:=HGA.out;omega
   have HO:Hid (OwnY (fun k=>k<lo) lo 186 sbS R (.slice A2 l.length c2) w3):=Lib.hid (by rw[HRR.out];exact (hO3.less fun k hk=>Nat.lt_of_lt_of_le hk (Nat.le_trans hlo1 k2.size)).low hlo1)
   clear C2 hO3 u3 hbl
   go_wp2
   go_ret
   exact⟨_,rfl,by rw[HGA.out];exact HO.out,kF⟩
 have hk23:(!(x.kind != 2&&x.kind != 3))=true:=by rcases hk with h|h <;> simp[h]
 have kal:=(K.rf w1).al (.cells #[.func (.func 125) #[] #[.pointer (some ⟨lo,0,none⟩)]] 196)
 have hbf:=Blk.new w1 196 #[.func (.func 125) #[] #[.pointer (some ⟨lo,0,none⟩)]]
 have HK:=Lib.hid hk
 have HB:=Lib.hid hb
 have hst:=store_new Tryz.prog w1 196 .nilFunc (.func (.func 125) #[] #[.pointer (some ⟨lo,0,none⟩)]) rfl
 have hb2:=hb.below kal hb.lt
 have k02:=k1.tr kal
 have hzz:=kal.size
 rcases hk with hk|hk
 · have hk2:(x.kind != 2)=false:=by simp[hk]
   have hk3:(x.kind==2)=true:=by simp[hk]
   clear hk23
   go_upto_region 4 with (fail)
   generalize w1.alloc _=w2 at *
   generalize hgf:w1.heap.size=gf at hbf ⊢
   clear hgf hst
   have C1:=Lib.hid (KeepS_calls (fun k=>lo<=k) l _ (fun s=>decide (sideS s x<0)) 129 #[.pointer (some ⟨gf,0,none⟩)] w2 (HL.out.st k02) (by omega) (fun _ _=>by rfl) fun W k s _ u hu=>Ap3_calls s x u _ _ lo gf W hu (hb2.below k hb2.lt) (hbf.below k hbf.lt))
   clear qb
   go_wp2_with fail
   refine C1.out.mono ?_
   rintro e w3 ⟨v3,rfl,hO3,k3⟩
   have hb3:=hb2.below k3 hb2.lt
   have hbf3:=hbf.below k3 hbf.lt
   have k03:=k02.tr k3
   have hz3:=k3.size
   obtain⟨A3,c3,rfl⟩:=hO3.slice
   have hfl:=List.length_filter_le (fun s=>decide (sideS s x<0)) l
   have q3:=hb3.cell
   clear C1
   have kA:K w3 (w3.alloc (.cells (subA ⟨x.cl,x.sub,x.f⟩ (.slice Af x.f.length cf)) 186)):=(K.rf w3).al _
   have hO4:=hO3.st kA
   have hbl:=hO3.blk
   have hr:=rowY.new (S:=sbS) (e:=186) (x:=⟨x.cl,x.sub,x.f⟩) (v:=.agg (subA ⟨x.cl,x.sub,x.f⟩ (.slice Af x.f.length cf))) (w:=w3) (N:=fun k=>lo<=k) (fun W u=>⟨_,rfl,HF.out W (u.k k03 fun k hk=>by have:=HGA.out;omega)⟩) 0 (Nat.zero_le _)
   go_wp2_with (at_builtin;refine wpList_push rfl _ _ 127 rfl _ 3 40 TSb rfl rfl hO4 _ rfl ⟨x.cl,x.sub,x.f⟩ ?p1 ?p2 ?p3 ?_)
   case p1=>exact hr.less fun k hk=>by rcases hk with hk|hk;exact hk;have:=hbl k hk;omega
   case p2=>omega
   case p3=>exact Nat.le_trans hz3 kA.size
   intro v5 w5 hO5 hg5 hat5 hb5
   have k25:=(k3.tr kA).trans hb5
   have k05:=k02.tr k25
   have hb5':=hb2.below k25 hb2.lt
   have hbf5:=hbf.below k25 hbf.lt
   have hz5:=k25.size
   obtain⟨L5,HL5⟩:∃ L5,Hid (L5=l.filter (fun s=>decide (sideS s x<0))++[(⟨x.cl,x.sub,x.f⟩:Subn)]):=⟨_,Lib.hid rfl⟩
   rw[<- HL5.out] at hO5
   obtain⟨A5,c5,rfl⟩:=hO5.slice
   have C2:=Lib.hid (KeepS_calls (fun k=>lo<=k) l _ (fun s=>decide (0<sideS s x)) 130 #[.pointer (some ⟨gf,0,none⟩)] w5 (HL.out.st k05) (by omega) (fun _ _=>by rfl) fun W k s _ u hu=>Ap4_calls s x u _ _ lo gf W hu (hb5'.below k hb5'.lt) (hbf5.below k hbf5.lt))
   clear hr hO4 hO3 q3 hb3 hbf3 hg5 hat5 hb5
   go_upto_region 7 with (fail)
   go_wp2_with fail
   refine C2.out.mono ?_
   rintro e w6 ⟨v6,rfl,hO6,k6⟩
   have hO5':=hO5.st k6
   have hfl6:=List.length_filter_le (fun s=>decide (0<sideS s x)) l
   have hbl5:=hO5.blk
   have hbl6:=hO6.blk
   have hls6:LsF (fun k=>False∨(Value.slice A5 L5.length c5).ownBlock=some k) sbS (l.filter (fun s=>decide (0<sideS s x))) v6 w6:=hO6.lsf (fun k hk=>.inl (by rcases hk with hk|hk;exact hk.elim;have:=(hbl5 k hk).1;omega)) fun k hk hx=>by
    rcases hx with hx|hx
    · exact hx
    · have:=(hbl5 k hx).2;have:=(hbl6 k hk).1;omega
   have hO7:=hO5'.less (Y':=fun _=>False) fun _ h=>h.elim
   have k06:=k05.tr k6
   have hz6:=k6.size
   have hll:L5.length<=400001:=by rw[HL5.out,List.length_append];simp;omega
   clear C2 hO5 hO5' hO6 hb5' hbf5
   obtain⟨A6,c6,rfl⟩:=hls6.slice
   go_wp2_with (at_builtin;refine wpList_many rfl _ _ 127 rfl _ 3 40 TSb rfl rfl hO7 _ rfl hls6 ?p1 ?p2 ?_)
   case p1=>omega
   case p2=>omega
   intro v8 w8 hO8 hg8 hat8 hb8
   have HRR:Hid (R=L5++l.filter (fun s=>decide (0<sideS s x))):=Lib.hid (by rw[HR.out,HL5.out,if_pos hk])
   rw[<- HRR.out] at hO8
   have k28:Below w2.heap.size w2 w8:=(k25.tr k6).trans hb8
   have k08:=k02.tr k28
   have hRl:R.length<=1000000:=by rw[HRR.out];simp only[List.length_append] at hll ⊢;omega
   have hRs:∀ s∈R,s.f.length<=1000000:=by
    rw[HRR.out,HL5.out]
    intro s hs
    simp only[List.mem_append,List.mem_singleton] at hs
    rcases hs with (hs|rfl)|hs
    · exact filter_f HS.out s hs
    · exact hxs
    · exact filter_f HS.out s hs
   have hbl8:=hO8.blk
   have C3:=Lib.hid (OwnS_calls _ _ R v8 w8 hO8 hRl hRs)
   clear hO7 hls6 hg8 hat8 hb8 hRs
   obtain⟨A8,c8,rfl⟩:=hO8.slice
   go_wp2_with fail
   refine C3.out.mono ?_
   rintro e w9 ⟨rfl,hO9,u9⟩
   have hz8:=k28.size
   have kF:K w w9:=u9.k k08 fun k hk=>by have:=(hbl8 k hk).1;have:=HGA.out;omega
   have HO:Hid (OwnY (fun k=>k<lo) lo 186 sbS R (.slice A8 R.length c8) w9):=Lib.hid ((hO9.less fun k hk=>by omega).low (by omega))
   clear C3 hO9 u9 hbl8 hO8
   go_wp2
   go_ret
   exact⟨_,rfl,by rw[HGA.out];exact HO.out,kF⟩
 · have hk2:(x.kind != 2)=true:=by simp[hk]
   have hk4:(x.kind != 3)=false:=by simp[hk]
   have hk3:(x.kind==2)=false:=by simp[hk]
   clear hk23
   go_upto_region 4 with (fail)
   generalize w1.alloc _=w2 at *
   generalize hgf:w1.heap.size=gf at hbf ⊢
   clear hgf hst
   have C1:=Lib.hid (KeepS_calls (fun k=>lo<=k) l _ (fun s=>decide (sideS s x<0)) 129 #[.pointer (some ⟨gf,0,none⟩)] w2 (HL.out.st k02) (by omega) (fun _ _=>by rfl) fun W k s _ u hu=>Ap3_calls s x u _ _ lo gf W hu (hb2.below k hb2.lt) (hbf.below k hbf.lt))
   clear qb
   go_wp2_with fail
   refine C1.out.mono ?_
   rintro e w3 ⟨v3,rfl,hO3,k3⟩
   have hb3:=hb2.below k3 hb2.lt
   have hbf3:=hbf.below k3 hbf.lt
   have k03:=k02.tr k3
   have hz3:=k3.size
   obtain⟨L5,HL5⟩:∃ L5,Hid (L5=l.filter (fun s=>decide (sideS s x<0))):=⟨_,Lib.hid rfl⟩
   rw[<- HL5.out] at hO3
   obtain⟨A3,c3,rfl⟩:=hO3.slice
   have hfl:=List.length_filter_le (fun s=>decide (sideS s x<0)) l
   have q3:=hb3.cell
   clear C1
   have k05:=k03
   have hbl5:=hO3.blk
   have hO5:=hO3
   generalize A3=A5 at *
   generalize c3=c5 at *
   have hz5:=hz3
   have C2:=Lib.hid (KeepS_calls (fun k=>lo<=k) l _ (fun s=>decide (0<sideS s x)) 130 #[.pointer (some ⟨gf,0,none⟩)] w3 (HL.out.st k05) (by omega) (fun _ _=>by rfl) fun W k s _ u hu=>Ap4_calls s x u _ _ lo gf W hu (hb3.below k hb3.lt) (hbf3.below k hbf3.lt))
   go_upto_region 7 with (fail)
   clear q3
   go_wp2_with fail
   refine C2.out.mono ?_
   rintro e w6 ⟨v6,rfl,hO6,k6⟩
   have hO5':=hO5.st k6
   have hfl6:=List.length_filter_le (fun s=>decide (0<sideS s x)) l
   have hbl6:=hO6.blk
   have hb5':=0
   have hbf5:=0
   have hls6:LsF (fun k=>False∨(Value.slice A5 L5.length c5).ownBlock=some k) sbS (l.filter (fun s=>decide (0<sideS s x))) v6 w6:=hO6.lsf (fun k hk=>.inl (by rcases hk with hk|hk;exact hk.elim;have:=(hbl5 k hk).1;omega)) fun k hk hx=>by
    rcases hx with hx|hx
    · exact hx
    · have:=(hbl5 k hx).2;have:=(hbl6 k hk).1;omega
   have hO7:=hO5'.less (Y':=fun _=>False) fun _ h=>h.elim
   have k06:=k05.tr k6
   have hz6:=k6.size
   have hll:L5.length<=400001:=by rw[HL5.out];omega
   clear C2 hO5 hO5' hO6 hb5' hbf5
   obtain⟨A6,c6,rfl⟩:=hls6.slice
   go_wp2_with (at_builtin;refine wpList_many rfl _ _ 127 rfl _ 3 40 TSb rfl rfl hO7 _ rfl hls6 ?p1 ?p2 ?_)
   case p1=>omega
   case p2=>omega
   intro v8 w8 hO8 hg8 hat8 hb8
   have HRR:Hid (R=L5++l.filter (fun s=>decide (0<sideS s x))):=Lib.hid (by rw[HR.out,HL5.out,if_neg (by omega),if_pos hk])
   rw[<- HRR.out] at hO8
   have k28:Below w2.heap.size w2 w8:=(k3.tr k6).trans hb8
   have k08:=k02.tr k28
   have hRl:R.length<=1000000:=by rw[HRR.out];simp only[List.length_append] at hll ⊢;omega
   have hRs:∀ s∈R,s.f.length<=1000000:=by
    rw[HRR.out,HL5.out]
    intro s hs
    rcases List.mem_append.1 hs with hs|hs
    · exact filter_f HS.out s hs
    · exact filter_f HS.out s hs
   have hbl8:=hO8.blk
   have C3:=Lib.hid (OwnS_calls _ _ R v8 w8 hO8 hRl hRs)
   clear hO7 hls6 hg8 hat8 hb8 hRs
   obtain⟨A8,c8,rfl⟩:=hO8.slice
   go_wp2_with fail
   refine C3.out.mono ?_
   rintro e w9 ⟨rfl,hO9,u9⟩
   have hz8:=k28.size
   have kF:K w w9:=u9.k k08 fun k hk=>by have:=(hbl8 k hk).1;have:=HGA.out;omega
   have HO:Hid (OwnY (fun k=>k<lo) lo 186 sbS R (.slice A8 R.length c8) w9):=Lib.hid ((hO9.less fun k hk=>by omega).low (by omega))
   clear C3 hO9 u9 hbl8 hO8
   go_wp2
   go_ret
   exact⟨_,rfl,by rw[HGA.out];exact HO.out,kF⟩
theorem placeI_calls (a b:Int) (w:World) :
 Calls Tryz.prog 285 #[.int .i64 a,.int .i64 b] w fun e w'=>e=.returned (.int .i64 (ordI a b))/\w=w':=by
 by_cases h1:a<b
 · have HE:Hid (ordI a b=-1):=Lib.hid (by simp[ordI,h1])
   go_enter Tryz.func285,Tryz.ntmps285
   go_wp2
   go_ret
   exact⟨by rw[HE.out];rfl,rfl⟩
 · by_cases h2:b<a
   · have HE:Hid (ordI a b=1):=Lib.hid (by simp[ordI,h1,h2])
     go_enter Tryz.func285,Tryz.ntmps285
     go_wp2
     go_ret
     exact⟨by rw[HE.out];rfl,rfl⟩
   · have HE:Hid (ordI a b=0):=Lib.hid (by simp[ordI,h1,h2])
     go_enter Tryz.func285,Tryz.ntmps285
     go_wp2
     go_ret
     exact⟨by rw[HE.out];rfl,rfl⟩
theorem placeL_calls (a b:Int) (w:World) :
 Calls Tryz.prog 286 #[.int .i64 a,.int .i64 b] w fun e w'=>e=.returned (.int .i64 (ordI a b))/\w=w':=by
 by_cases h1:a<b
 · have HE:Hid (ordI a b=-1):=Lib.hid (by simp[ordI,h1])
   go_enter Tryz.func286,Tryz.ntmps286
   go_wp2
   go_ret
   exact⟨by rw[HE.out];rfl,rfl⟩
 · by_cases h2:b<a
   · have HE:Hid (ordI a b=1):=Lib.hid (by simp[ordI,h1,h2])
     go_enter Tryz.func286,Tryz.ntmps286
     go_wp2
     go_ret
     exact⟨by rw[HE.out];rfl,rfl⟩
   · have HE:Hid (ordI a b=0):=Lib.hid (by simp[ordI,h1,h2])
     go_enter Tryz.func286,Tryz.ntmps286
     go_wp2
     go_ret
     exact⟨by rw[HE.out];rfl,rfl⟩
theorem ltS_gtr (a b:ByteArray):(!(Op.bytesLess a.toList b.toList||a.toList==b.toList))=ltS b a:=by rw[ltS_tri];simp
theorem placeS_calls (a b:ByteArray) (w:World) :
 Calls Tryz.prog 287 #[.string a,.string b] w fun e w'=>e=.returned (.int .i64 (ordS a b))/\w=w':=by
 cases h1:ltS a b
 · have h1':Op.bytesLess a.toList b.toList=false:=h1
   cases h2:ltS b a
   · have h2':(!(a.toList==b.toList))=false:=by have:=ltS_gtr a b;rw[h1',h2] at this;simpa using this
     have HE:Hid (ordS a b=0):=Lib.hid (by simp[ordS,h1,h2])
     clear h1 h2
     go_enter Tryz.func287,Tryz.ntmps287
     go_wp2
     go_ret
     exact⟨by rw[HE.out];rfl,rfl⟩
   · have h2':(!(a.toList==b.toList))=true:=by have:=ltS_gtr a b;rw[h1',h2] at this;simpa using this
     have HE:Hid (ordS a b=1):=Lib.hid (by simp[ordS,h1,h2])
     clear h1 h2
     go_enter Tryz.func287,Tryz.ntmps287
     go_wp2
     go_ret
     exact⟨by rw[HE.out];rfl,rfl⟩
 · have h1':Op.bytesLess a.toList b.toList=true:=h1
   have HE:Hid (ordS a b=-1):=Lib.hid (by simp[ordS,h1])
   clear h1
   go_enter Tryz.func287,Tryz.ntmps287
   go_wp2
   go_ret
   exact⟨by rw[HE.out];rfl,rfl⟩
theorem Order_calls (a b:Vl) (w:World) :
 Calls Tryz.prog 260 #[vv a.1 a.2.1 a.2.2,vv b.1 b.2.1 b.2.2] w fun e w'=>e=.returned (.int .i64 (ordV a b))/\Below w.heap.size w w':=by
 obtain⟨ka,na,sa⟩:=a
 obtain⟨kb,nb,sb⟩:=b
 have hb2:Below w.heap.size w ((w.alloc (.cells #[.int .i64 ka,.int .i64 na,.string sa] 85)).alloc (.cells #[.int .i64 kb,.int .i64 nb,.string sb] 85)):=((Below.refl _ _).alloc (Nat.le_refl _) _).alloc (by simp) _
 have hx:=(Blk.new w 85 #[.int .i64 ka,.int .i64 na,.string sa]).alloc (.cells #[.int .i64 kb,.int .i64 nb,.string sb] 85)
 have hy:=Blk.new (w.alloc (.cells #[.int .i64 ka,.int .i64 na,.string sa] 85)) 85 #[.int .i64 kb,.int .i64 nb,.string sb]
 have HV:Hid (ordV (ka,na,sa) (kb,nb,sb)=if ordI ka kb != 0 then ordI ka kb else if ordI na nb != 0 then ordI na nb else ordS sa sb):=Lib.hid rfl
 go_enter Tryz.func260,Tryz.ntmps260
 go_wp2
 go_step3
 go_wp2_with fail
 go_step3
 generalize hW:((w.alloc (.cells #[.int .i64 ka,.int .i64 na,.string sa] 85)).alloc (.cells #[.int .i64 kb,.int .i64 nb,.string sb] 85))=W at *
 clear hW
 have x0:=hx.cell 0
 have x1:=hx.cell 1
 have x2:=hx.cell 2
 have y0:=hy.cell 0
 have y1:=hy.cell 1
 have y2:=hy.cell 2
 simp at x0 x1 x2 y0 y1 y2
 generalize hr0:ordI ka kb=r0 at *
 generalize hr1:ordI na nb=r1 at *
 generalize hr2:ordS sa sb=r2 at *
 have HR0:=Lib.hid hr0
 have HR1:=Lib.hid hr1
 have HR2:=Lib.hid hr2
 clear hr0 hr1 hr2
 go_wp2_with fail
 go_loop [5,7] (fun t i=>∃ k:Nat,k<=3/\i=.int .i64 (k:Int)/\t=.int .i64 0/\Hid ((1<=k->r0=0)/\(2<=k->r1=0)/\(3<=k->r2=0))) (fun _ i=>3 - (intOf i).toNat)
 case atStart=>exact⟨0,by omega,rfl,rfl,Lib.hid ⟨by omega,by omega,by omega⟩⟩
 case round =>
  obtain⟨k,hk,rfl,rfl,hf⟩:=hrel
  rcases (by omega:k=0∨k=1∨k=2∨k=3) with rfl|rfl|rfl|rfl
  · go_wp2_with fail
    refine (placeI_calls ka kb W).mono ?_
    rintro e w' ⟨rfl,rfl⟩
    rw[HR0.out]
    by_cases h0:r0=0
    · have h0':(r0 != 0)=false:=by simp[h0]
      have HH:=Lib.hid h0
      obtain rfl:=h0
      go_wp2
      go_round
      case rel=>exact⟨1,by omega,rfl,rfl,Lib.hid (by refine⟨?_,?_,?_⟩ <;> first|trivial|(intro _;rfl)|(intro _;exact hf.out.1 (by omega))|(intro _;exact hf.out.2.1 (by omega))|omega)⟩
      case measure=>simp[intOf]
    · have h0':(r0 != 0)=true:=by simp[h0]
      have HE:Hid (ordV (ka,na,sa) (kb,nb,sb)=r0):=by
       have:=HV.out
       rw[if_pos h0'] at this
       exact Lib.hid this
      clear h0
      go_wp2
      try rw[Exit.noGoto_ret]
      go_ret
      exact⟨by rw[HE.out];rfl,hb2⟩
  · go_wp2_with fail
    refine (placeL_calls na nb W).mono ?_
    rintro e w' ⟨rfl,rfl⟩
    rw[HR1.out]
    by_cases h0:r1=0
    · obtain rfl:=h0
      go_wp2
      go_round
      case rel=>exact⟨2,by omega,rfl,rfl,Lib.hid (by refine⟨?_,?_,?_⟩ <;> first|trivial|(intro _;rfl)|(intro _;exact hf.out.1 (by omega))|(intro _;exact hf.out.2.1 (by omega))|omega)⟩
      case measure=>simp[intOf]
    · have h0':(r1 != 0)=true:=by simp[h0]
      have HE:Hid (ordV (ka,na,sa) (kb,nb,sb)=r1):=by
       have:=HV.out
       rw[if_neg (by simp[hf.out.1 (by omega)]),if_pos h0'] at this
       exact Lib.hid this
      clear h0
      go_wp2
      try rw[Exit.noGoto_ret]
      go_ret
      exact⟨by rw[HE.out];rfl,hb2⟩
  · have HE:Hid (ordV (ka,na,sa) (kb,nb,sb)=r2):=by
     have:=HV.out
     rw[if_neg (by simp[hf.out.1 (by omega)]),if_neg (by simp[hf.out.2.1 (by omega)])] at this
     exact Lib.hid this
    go_wp2_with fail
    refine (placeS_calls sa sb W).mono ?_
    rintro e w' ⟨rfl,rfl⟩
    rw[HR2.out]
    by_cases h0:r2=0
    · obtain rfl:=h0
      go_wp2
      go_round
      case rel=>exact⟨3,by omega,rfl,rfl,Lib.hid (by refine⟨?_,?_,?_⟩ <;> first|trivial|(intro _;rfl)|(intro _;exact hf.out.1 (by omega))|(intro _;exact hf.out.2.1 (by omega))|omega)⟩
      case measure=>simp[intOf]
    · have h0':(r2 != 0)=true:=by simp[h0]
      clear h0
      go_wp2
      try rw[Exit.noGoto_ret]
      go_ret
      exact⟨by rw[HE.out];rfl,hb2⟩
  · have HE:Hid (ordV (ka,na,sa) (kb,nb,sb)=0):=by
     have:=HV.out
     rw[if_neg (by simp[hf.out.1 (by omega)]),if_neg (by simp[hf.out.2.1 (by omega)]),hf.out.2.2 (by omega)] at this
     exact Lib.hid this
    go_wp2
    try rw[Exit.noGoto_ret]
    go_ret
    exact⟨by rw[HE.out];rfl,hb2⟩
theorem HasPrefix1_calls (a b:ByteArray) (w:World) :
 Calls Tryz.prog 297 #[.string a,.string b] w fun e w'=>e=.returned (.bool (preB a b))/\w=w':=by
 by_cases hl:b.size<=a.size
 · have hl':(b.size:Int)<=(a.size:Int):=by omega
   have HE:Hid (preB a b=((a.extract 0 b.size).toList==b.toList)):=Lib.hid (by simp[preB,hl])
   go_enter Tryz.func297,Tryz.ntmps297
   go_wp2
   go_ret
   exact⟨by rw[HE.out];rfl,rfl⟩
 · have hl':¬ (b.size:Int)<=(a.size:Int):=by omega
   have HE:Hid (preB a b=false):=Lib.hid (by simp[preB,hl])
   go_enter Tryz.func297,Tryz.ntmps297
   go_wp2
   go_ret
   exact⟨by rw[HE.out];rfl,rfl⟩
theorem HasPrefix_calls (a b:ByteArray) (w:World) :
 Calls Tryz.prog 288 #[.string a,.string b] w fun e w'=>e=.returned (.bool (preB a b))/\w=w':=by
 go_enter Tryz.func288,Tryz.ntmps288
 go_wp2_with fail
 refine (HasPrefix1_calls a b w).mono ?_
 rintro e w' ⟨rfl,rfl⟩
 go_wp2
 go_ret
 exact⟨rfl,rfl⟩
theorem Begins_calls (a b:Vl) (w:World) :
 Calls Tryz.prog 268 #[vv a.1 a.2.1 a.2.2,vv b.1 b.2.1 b.2.2] w fun e w'=>e=.returned (.bool (begV a b))/\Below w.heap.size w w':=by
 obtain⟨ka,na,sa⟩:=a
 obtain⟨kb,nb,sb⟩:=b
 have hb2:Below w.heap.size w ((w.alloc (.cells #[.int .i64 ka,.int .i64 na,.string sa] 85)).alloc (.cells #[.int .i64 kb,.int .i64 nb,.string sb] 85)):=((Below.refl _ _).alloc (Nat.le_refl _) _).alloc (by simp) _
 cases h1:(ka==2)
 · have HE:Hid (begV (ka,na,sa) (kb,nb,sb)=false):=Lib.hid (by simp[begV,h1])
   go_enter Tryz.func268,Tryz.ntmps268
   go_wp2
   go_ret
   exact⟨by rw[HE.out];rfl,hb2⟩
 · cases h2:(kb==2)
   · have HE:Hid (begV (ka,na,sa) (kb,nb,sb)=false):=Lib.hid (by simp[begV,h2])
     go_enter Tryz.func268,Tryz.ntmps268
     go_wp2
     go_ret
     exact⟨by rw[HE.out];rfl,hb2⟩
   · have HE:Hid (begV (ka,na,sa) (kb,nb,sb)=preB sa sb):=Lib.hid (by simp[begV,h1,h2])
     go_enter Tryz.func268,Tryz.ntmps268
     go_wp2_with fail
     refine (HasPrefix_calls sa sb _).mono ?_
     rintro e w' ⟨rfl,rfl⟩
     go_wp2
     go_ret
     exact⟨by rw[HE.out];rfl,hb2⟩
theorem IsC1_calls (g:Nat) (o:Int) (w:World) (h:w.cell? ⟨g,0,none⟩=some (.int .i64 o)) :
 Calls Tryz.prog 261 #[.pointer (some ⟨g,0,none⟩)] w fun e w'=>e=.returned (.bool (o==0))/\w=w':=by
 go_enter Tryz.func261,Tryz.ntmps261
 go_wp2
 go_ret
 exact⟨rfl,rfl⟩
theorem IsC2_calls (g:Nat) (o:Int) (w:World) (h:w.cell? ⟨g,0,none⟩=some (.int .i64 o)) :
 Calls Tryz.prog 262 #[.pointer (some ⟨g,0,none⟩)] w fun e w'=>e=.returned (.bool (o != 0))/\w=w':=by
 go_enter Tryz.func262,Tryz.ntmps262
 go_wp2
 go_ret
 exact⟨rfl,rfl⟩
theorem IsC3_calls (g:Nat) (o:Int) (w:World) (h:w.cell? ⟨g,0,none⟩=some (.int .i64 o)) :
 Calls Tryz.prog 263 #[.pointer (some ⟨g,0,none⟩)] w fun e w'=>e=.returned (.bool (decide (o<0)))/\w=w':=by
 go_enter Tryz.func263,Tryz.ntmps263
 go_wp2
 go_ret
 exact⟨rfl,rfl⟩
theorem IsC4_calls (g:Nat) (o:Int) (w:World) (h:w.cell? ⟨g,0,none⟩=some (.int .i64 o)) :
 Calls Tryz.prog 264 #[.pointer (some ⟨g,0,none⟩)] w fun e w'=>e=.returned (.bool (decide (o<=0)))/\w=w':=by
 go_enter Tryz.func264,Tryz.ntmps264
 go_wp2
 go_ret
 exact⟨rfl,rfl⟩
theorem IsC5_calls (g:Nat) (o:Int) (w:World) (h:w.cell? ⟨g,0,none⟩=some (.int .i64 o)) :
 Calls Tryz.prog 265 #[.pointer (some ⟨g,0,none⟩)] w fun e w'=>e=.returned (.bool (decide (0<o)))/\w=w':=by
 go_enter Tryz.func265,Tryz.ntmps265
 go_wp2
 go_ret
 exact⟨rfl,rfl⟩
theorem IsC6_calls (g:Nat) (o:Int) (w:World) (h:w.cell? ⟨g,0,none⟩=some (.int .i64 o)) :
 Calls Tryz.prog 266 #[.pointer (some ⟨g,0,none⟩)] w fun e w'=>e=.returned (.bool (decide (0<=o)))/\w=w':=by
 go_enter Tryz.func266,Tryz.ntmps266
 go_wp2
 go_ret
 exact⟨rfl,rfl⟩
theorem IsC7_calls (gv gt:Nat) (v:Vl) (t:Tst) (w:World) (hv:Blk w gv 85 #[.int .i64 v.1,.int .i64 v.2.1,.string v.2.2]) (ht:Blk w gt 87 #[.string t.1,.int .i64 t.2.1,.int .i64 t.2.2.1,.int .i64 t.2.2.2.1,.string t.2.2.2.2]) :
 Calls Tryz.prog 267 #[.pointer (some ⟨gv,0,none⟩),.pointer (some ⟨gt,0,none⟩)] w fun e w'=>e=.returned (.bool (begV v t.2.2))/\Below w.heap.size w w':=by
 obtain⟨s,op,k,n,x⟩:=t
 obtain⟨vk,vn,vt⟩:=v
 have v0:=hv.cell 0
 have v1:=hv.cell 1
 have v2:=hv.cell 2
 have t2:=ht.cell 2
 have t3:=ht.cell 3
 have t4:=ht.cell 4
 simp at v0 v1 v2 t2 t3 t4
 go_enter Tryz.func267,Tryz.ntmps267
 go_wp2_with fail
 refine (Begins_calls (vk,vn,vt) (k,n,x) _).mono ?_
 rintro e w1 ⟨rfl,hb⟩
 go_wp2
 go_ret
 exact⟨rfl,hb⟩
theorem Is_calls (t:Tst) (v:Vl) (w:World) :
 Calls Tryz.prog 239 #[tstv t,vv v.1 v.2.1 v.2.2] w fun e w'=>e=.returned (.bool (isT t v))/\Below w.heap.size w w':=by
 obtain⟨s,op,k,n,x⟩:=t
 obtain⟨vk,vn,vt⟩:=v
 have hq:Below w.heap.size w ((w.alloc (.cells #[.string s,.int .i64 op,.int .i64 k,.int .i64 n,.string x] 87)).alloc (.cells #[.int .i64 vk,.int .i64 vn,.string vt] 85)):=((Below.refl _ _).alloc (Nat.le_refl _) _).alloc (by simp) _
 have hx:=(Blk.new w 87 #[.string s,.int .i64 op,.int .i64 k,.int .i64 n,.string x]).alloc (.cells #[.int .i64 vk,.int .i64 vn,.string vt] 85)
 have hy:=Blk.new (w.alloc (.cells #[.string s,.int .i64 op,.int .i64 k,.int .i64 n,.string x] 87)) 85 #[.int .i64 vk,.int .i64 vn,.string vt]
 rw[World.size_alloc] at hy
 have hmm:=@run_makeMap Tryz.prog
 have hzero:∀ W:World,(zeroValue 22).run Tryz.prog W=.ok .nilFunc W:=fun W=>by kernel_rfl
 go_enter Tryz.func239,Tryz.ntmps239
 go_wp2_with fail
 refine (Order_calls (vk,vn,vt) (k,n,x) _).mono ?_
 rintro e w1 ⟨rfl,hb1⟩
 generalize ho:ordV (vk,vn,vt) (k,n,x)=o at *
 have HT:Hid (isT (s,op,k,n,x) (vk,vn,vt)=(if op==8 then true else (vk==k)&&(if op==1 then o==0 else if op==2 then o != 0 else if op==3 then decide (o<0) else if op==4 then decide (o<=0)
  else if op==5 then decide (0<o) else if op==6 then decide (0<=o) else if op==7 then begV (vk,vn,vt) (k,n,x) else false))):=Lib.hid (by rw[<- ho];rfl)
 have hlt:w.heap.size+2<=w1.heap.size:=by have:=hb1.size;simp at this;omega
 have hx1:=((hx.below hb1 hx.lt).alloc (.cells #[.int .i64 o] 3)).alloc (.map #[] 0)
 have hy1:=((hy.below hb1 hy.lt).alloc (.cells #[.int .i64 o] 3)).alloc (.map #[] 0)
 have hz1:=(Blk.new w1 3 #[.int .i64 o]).alloc (.map #[] 0)
 have hb1:Below w.heap.size w ((w1.alloc (.cells #[.int .i64 o] 3)).alloc (.map #[] 0)):=((hq.trans (hb1.mono hq.size)).alloc (by omega) _).alloc (by simp;omega) _
 have ho0:=MapI.new (w1.alloc (.cells #[.int .i64 o] 3))
 simp only[World.size_alloc] at ho0
 clear ho hq hx hy
 go_wp2_with (with_reducible refine wpList_insert _ rfl (.tmp 13) (.const (.int .i64 1)) (.tmp 14) 285 rfl 3 22 Tryz.underlying285 Tryz.underlying3 (w1.heap.size+1) _ rfl ho0 1 rfl _ rfl rfl ?_)
 intro w2 ho1 hg2
 have hb2:Below w.heap.size w w2:=hb1.trans (below_of_mut hg2 (by omega) hb1.size)
 have hx2:=hx1.grown hg2 (by simp;omega)
 have hy2:=hy1.grown hg2 (by simp;omega)
 have hz2:=hz1.grown hg2 (by simp)
 clear ho0 hg2 hb1 hx1 hy1 hz1
 go_wp2_with (with_reducible refine wpList_insert _ rfl (.tmp 13) (.const (.int .i64 2)) (.tmp 15) 285 rfl 3 22 Tryz.underlying285 Tryz.underlying3 (w1.heap.size+1) _ rfl ho1 2 rfl _ rfl rfl ?_)
 intro w3 ho2 hg3
 have hb3:Below w.heap.size w w3:=hb2.trans (below_of_mut hg3 (by omega) hb2.size)
 have hx3:=hx2.grown hg3 (by simp;omega)
 have hy3:=hy2.grown hg3 (by simp;omega)
 have hz3:=hz2.grown hg3 (by simp)
 clear ho1 hg3 hb2 hx2 hy2 hz2
 go_wp2_with (with_reducible refine wpList_insert _ rfl (.tmp 13) (.const (.int .i64 3)) (.tmp 16) 285 rfl 3 22 Tryz.underlying285 Tryz.underlying3 (w1.heap.size+1) _ rfl ho2 3 rfl _ rfl rfl ?_)
 intro w4 ho3 hg4
 have hb4:Below w.heap.size w w4:=hb3.trans (below_of_mut hg4 (by omega) hb3.size)
 have hx4:=hx3.grown hg4 (by simp;omega)
 have hy4:=hy3.grown hg4 (by simp;omega)
 have hz4:=hz3.grown hg4 (by simp)
 clear ho2 hg4 hb3 hx3 hy3 hz3
 go_wp2_with (with_reducible refine wpList_insert _ rfl (.tmp 13) (.const (.int .i64 4)) (.tmp 17) 285 rfl 3 22 Tryz.underlying285 Tryz.underlying3 (w1.heap.size+1) _ rfl ho3 4 rfl _ rfl rfl ?_)
 intro w5 ho4 hg5
 have hb5:Below w.heap.size w w5:=hb4.trans (below_of_mut hg5 (by omega) hb4.size)
 have hx5:=hx4.grown hg5 (by simp;omega)
 have hy5:=hy4.grown hg5 (by simp;omega)
 have hz5:=hz4.grown hg5 (by simp)
 clear ho3 hg5 hb4 hx4 hy4 hz4
 go_wp2_with (with_reducible refine wpList_insert _ rfl (.tmp 13) (.const (.int .i64 5)) (.tmp 18) 285 rfl 3 22 Tryz.underlying285 Tryz.underlying3 (w1.heap.size+1) _ rfl ho4 5 rfl _ rfl rfl ?_)
 intro w6 ho5 hg6
 have hb6:Below w.heap.size w w6:=hb5.trans (below_of_mut hg6 (by omega) hb5.size)
 have hx6:=hx5.grown hg6 (by simp;omega)
 have hy6:=hy5.grown hg6 (by simp;omega)
 have hz6:=hz5.grown hg6 (by simp)
 clear ho4 hg6 hb5 hx5 hy5 hz5
 go_wp2_with (with_reducible refine wpList_insert _ rfl (.tmp 13) (.const (.int .i64 6)) (.tmp 19) 285 rfl 3 22 Tryz.underlying285 Tryz.underlying3 (w1.heap.size+1) _ rfl ho5 6 rfl _ rfl rfl ?_)
 intro w7 ho6 hg7
 have hb7:Below w.heap.size w w7:=hb6.trans (below_of_mut hg7 (by omega) hb6.size)
 have hx7:=hx6.grown hg7 (by simp;omega)
 have hy7:=hy6.grown hg7 (by simp;omega)
 have hz7:=hz6.grown hg7 (by simp)
 clear ho5 hg7 hb6 hx6 hy6 hz6
 go_wp2_with (with_reducible refine wpList_insert _ rfl (.tmp 13) (.const (.int .i64 7)) (.tmp 20) 285 rfl 3 22 Tryz.underlying285 Tryz.underlying3 (w1.heap.size+1) _ rfl ho6 7 rfl _ rfl rfl ?_)
 intro w8 ho7 hg8
 have hb8:Below w.heap.size w w8:=hb7.trans (below_of_mut hg8 (by omega) hb7.size)
 have hx8:=hx7.grown hg8 (by simp;omega)
 have hy8:=hy7.grown hg8 (by simp;omega)
 have hz8:=hz7.grown hg8 (by simp)
 clear ho6 hg8 hb7 hx7 hy7 hz7
 have z0:=hz8.cell 0
 have x1:=hx8.cell 1
 have x2:=hx8.cell 2
 have y0:=hy8.cell 0
 simp at z0 x1 x2 y0
 have hzero:=hzero w8
 by_cases h8:op=8
 · have hb88:(op==8)=true:=by simp[h8]
   have HE:Hid (isT (s,op,k,n,x) (vk,vn,vt)=true):=Lib.hid (by rw[HT.out,hb88];rfl)
   clear h8
   go_wp2
   go_ret
   exact⟨by rw[HE.out];rfl,hb8⟩
 by_cases h17:1<=op/\op<=7
 rotate_left
 · have hb88:(op==8)=false:=by simp[h8]
   have hlk:(Instr.lookup 285 (.map (some (w1.heap.size+1))) (.int .i64 op) true).run Tryz.prog w8=.ok (.tuple #[.nilFunc,.bool false]) w8:=by
    have:=run_look2 Tryz.underlying285 Tryz.underlying3 hzero ho7 op
    rw[this]
    have e:∀ i:Int,1<=i->i<=7->(i==op)=false:=fun i h1 h2=>by simp;omega
    simp[lookI,e]
   have HE:Hid (isT (s,op,k,n,x) (vk,vn,vt)=false):=Lib.hid (by
    rw[HT.out,hb88]
    have e:∀ i:Int,1<=i->i<=7->(op==i)=false:=fun i h1 h2=>by simp;omega
    simp[e])
   clear h8 h17
   go_wp2
   go_ret
   exact⟨by rw[HE.out];rfl,hb8⟩
 rcases (by omega:op=1∨op=2∨op=3∨op=4∨op=5∨op=6∨op=7) with rfl|rfl|rfl|rfl|rfl|rfl|rfl
 · have hlk:(Instr.lookup 285 (.map (some (w1.heap.size+1))) (.int .i64 1) true).run Tryz.prog w8=.ok (.tuple #[Value.func (Fn.func 261) #[] #[Value.pointer (some ⟨w1.heap.size,0,none⟩)],.bool true]) w8 :=
    run_look2 Tryz.underlying285 Tryz.underlying3 hzero ho7 1
   cases hkk:(vk==k)
   · have HE:Hid (isT (s,1,k,n,x) (vk,vn,vt)=false):=Lib.hid (by rw[HT.out,hkk];rfl)
     go_wp2
     go_ret
     exact⟨by rw[HE.out];rfl,hb8⟩
   · have HE:Hid (isT (s,1,k,n,x) (vk,vn,vt)=(o==0)):=Lib.hid (by rw[HT.out,hkk];rfl)
     go_wp2_with fail
     refine (IsC1_calls w1.heap.size o w8 z0).mono ?_
     rintro e w' ⟨rfl,rfl⟩
     have hbe:=hb8
     go_wp2
     go_ret
     exact⟨by rw[HE.out];rfl,hbe⟩
 · have hlk:(Instr.lookup 285 (.map (some (w1.heap.size+1))) (.int .i64 2) true).run Tryz.prog w8=.ok (.tuple #[Value.func (Fn.func 262) #[] #[Value.pointer (some ⟨w1.heap.size,0,none⟩)],.bool true]) w8 :=
    run_look2 Tryz.underlying285 Tryz.underlying3 hzero ho7 2
   cases hkk:(vk==k)
   · have HE:Hid (isT (s,2,k,n,x) (vk,vn,vt)=false):=Lib.hid (by rw[HT.out,hkk];rfl)
     go_wp2
     go_ret
     exact⟨by rw[HE.out];rfl,hb8⟩
   · have HE:Hid (isT (s,2,k,n,x) (vk,vn,vt)=(o != 0)):=Lib.hid (by rw[HT.out,hkk];rfl)
     go_wp2_with fail
     refine (IsC2_calls w1.heap.size o w8 z0).mono ?_
     rintro e w' ⟨rfl,rfl⟩
     have hbe:=hb8
     go_wp2
     go_ret
     exact⟨by rw[HE.out];rfl,hbe⟩
 · have hlk:(Instr.lookup 285 (.map (some (w1.heap.size+1))) (.int .i64 3) true).run Tryz.prog w8=.ok (.tuple #[Value.func (Fn.func 263) #[] #[Value.pointer (some ⟨w1.heap.size,0,none⟩)],.bool true]) w8 :=
    run_look2 Tryz.underlying285 Tryz.underlying3 hzero ho7 3
   cases hkk:(vk==k)
   · have HE:Hid (isT (s,3,k,n,x) (vk,vn,vt)=false):=Lib.hid (by rw[HT.out,hkk];rfl)
     go_wp2
     go_ret
     exact⟨by rw[HE.out];rfl,hb8⟩
   · have HE:Hid (isT (s,3,k,n,x) (vk,vn,vt)=(decide (o<0))):=Lib.hid (by rw[HT.out,hkk];rfl)
     go_wp2_with fail
     refine (IsC3_calls w1.heap.size o w8 z0).mono ?_
     rintro e w' ⟨rfl,rfl⟩
     have hbe:=hb8
     go_wp2
     go_ret
     exact⟨by rw[HE.out];rfl,hbe⟩
 · have hlk:(Instr.lookup 285 (.map (some (w1.heap.size+1))) (.int .i64 4) true).run Tryz.prog w8=.ok (.tuple #[Value.func (Fn.func 264) #[] #[Value.pointer (some ⟨w1.heap.size,0,none⟩)],.bool true]) w8 :=
    run_look2 Tryz.underlying285 Tryz.underlying3 hzero ho7 4
   cases hkk:(vk==k)
   · have HE:Hid (isT (s,4,k,n,x) (vk,vn,vt)=false):=Lib.hid (by rw[HT.out,hkk];rfl)
     go_wp2
     go_ret
     exact⟨by rw[HE.out];rfl,hb8⟩
   · have HE:Hid (isT (s,4,k,n,x) (vk,vn,vt)=(decide (o<=0))):=Lib.hid (by rw[HT.out,hkk];rfl)
     go_wp2_with fail
     refine (IsC4_calls w1.heap.size o w8 z0).mono ?_
     rintro e w' ⟨rfl,rfl⟩
     have hbe:=hb8
     go_wp2
     go_ret
     exact⟨by rw[HE.out];rfl,hbe⟩
 · have hlk:(Instr.lookup 285 (.map (some (w1.heap.size+1))) (.int .i64 5) true).run Tryz.prog w8=.ok (.tuple #[Value.func (Fn.func 265) #[] #[Value.pointer (some ⟨w1.heap.size,0,none⟩)],.bool true]) w8 :=
    run_look2 Tryz.underlying285 Tryz.underlying3 hzero ho7 5
   cases hkk:(vk==k)
   · have HE:Hid (isT (s,5,k,n,x) (vk,vn,vt)=false):=Lib.hid (by rw[HT.out,hkk];rfl)
     go_wp2
     go_ret
     exact⟨by rw[HE.out];rfl,hb8⟩
   · have HE:Hid (isT (s,5,k,n,x) (vk,vn,vt)=(decide (0<o))):=Lib.hid (by rw[HT.out,hkk];rfl)
     go_wp2_with fail
     refine (IsC5_calls w1.heap.size o w8 z0).mono ?_
     rintro e w' ⟨rfl,rfl⟩
     have hbe:=hb8
     go_wp2
     go_ret
     exact⟨by rw[HE.out];rfl,hbe⟩
 · have hlk:(Instr.lookup 285 (.map (some (w1.heap.size+1))) (.int .i64 6) true).run Tryz.prog w8=.ok (.tuple #[Value.func (Fn.func 266) #[] #[Value.pointer (some ⟨w1.heap.size,0,none⟩)],.bool true]) w8 :=
    run_look2 Tryz.underlying285 Tryz.underlying3 hzero ho7 6
   cases hkk:(vk==k)
   · have HE:Hid (isT (s,6,k,n,x) (vk,vn,vt)=false):=Lib.hid (by rw[HT.out,hkk];rfl)
     go_wp2
     go_ret
     exact⟨by rw[HE.out];rfl,hb8⟩
   · have HE:Hid (isT (s,6,k,n,x) (vk,vn,vt)=(decide (0<=o))):=Lib.hid (by rw[HT.out,hkk];rfl)
     go_wp2_with fail
     refine (IsC6_calls w1.heap.size o w8 z0).mono ?_
     rintro e w' ⟨rfl,rfl⟩
     have hbe:=hb8
     go_wp2
     go_ret
     exact⟨by rw[HE.out];rfl,hbe⟩
 · have hlk:(Instr.lookup 285 (.map (some (w1.heap.size+1))) (.int .i64 7) true).run Tryz.prog w8=.ok (.tuple #[Value.func (Fn.func 267) #[] #[Value.pointer (some ⟨w.heap.size+1,0,none⟩),Value.pointer (some ⟨w.heap.size,0,none⟩)],.bool true]) w8 :=
    run_look2 Tryz.underlying285 Tryz.underlying3 hzero ho7 7
   cases hkk:(vk==k)
   · have HE:Hid (isT (s,7,k,n,x) (vk,vn,vt)=false):=Lib.hid (by rw[HT.out,hkk];rfl)
     go_wp2
     go_ret
     exact⟨by rw[HE.out];rfl,hb8⟩
   · have HE:Hid (isT (s,7,k,n,x) (vk,vn,vt)=(begV (vk,vn,vt) (k,n,x))):=Lib.hid (by rw[HT.out,hkk];rfl)
     go_wp2_with fail
     refine (IsC7_calls (w.heap.size+1) w.heap.size (vk,vn,vt) (s,7,k,n,x) w8 hy8 hx8).mono ?_
     rintro e w9 ⟨rfl,hb9⟩
     have hbe:=hb8.trans (hb9.mono hb8.size)
     go_wp2
     go_ret
     exact⟨by rw[HE.out];rfl,hbe⟩
theorem FindC_calls (x:Att) (s:ByteArray) (g:Nat) (w:World) (hg:w.cell? ⟨g,0,none⟩=some (.string s)) :
 Calls Tryz.prog 258 #[attv x,.pointer (some ⟨g,0,none⟩)] w fun e w'=>e=.returned (.bool (isN s x))/\Below w.heap.size w w':=by
 have hgl:g<w.heap.size:=block_lt hg
 obtain⟨a,k,n,t⟩:=x
 go_enter Tryz.func258,Tryz.ntmps258
 go_wp2
 go_ret
 refine⟨?_,(Below.refl _ _).alloc (Nat.le_refl _) _⟩
 show Ending.returned (.bool _)=Ending.returned (.bool _)
 rw[byt_beq];rfl
theorem IndexFunc_calls (A:Option Addr) (c:Nat) (l:List Att) (s:ByteArray) (g:Nat) (w:World) (B:Nat) (hR:Reads w B 4 A l.length (l.flatMap attc)) (hB:B<=w.heap.size) (hlen:l.length<=1000000) (hg:w.cell? ⟨g,0,none⟩=some (.string s)) (r:Int)
 (hr:(∃ k,∃ hk:k<l.length,r=(k:Int)/\isN s l[k]=true/\∀ x∈l.take k,isN s x=false)∨(r=-1/\∀ x∈l,isN s x=false)) :
 Calls Tryz.prog 259 #[.slice A l.length c,.func (Fn.func 258) #[] #[.pointer (some ⟨g,0,none⟩)]] w fun e w'=>e=.returned (.int .i64 r)/\Below w.heap.size w w':=by
 have hgl:g<w.heap.size:=block_lt hg
 have HR:=Lib.hid hr
 have HA:=Lib.hid hR
 clear hr hR
 go_enter Tryz.func259,Tryz.ntmps259
 go_wp2_with fail
 go_loopw [8] (fun i wr=>∃ k:Nat,k<=l.length/\i=.int .i64 (k:Int)/\Hid (∀ x∈l.take k,isN s x=false)/\Below w.heap.size w wr) (fun i _=>l.length - (intOf i).toNat)
 case atStart=>exact⟨0,by omega,rfl,Lib.hid (by simp),Below.refl _ _⟩
 case round =>
  obtain⟨k,hk,rfl,hall,hb⟩:=hrel
  by_cases hlt:k<l.length
  · have hki:(k:Int)<(l.length:Int):=by omega
    obtain⟨b,off,rfl,hbB,hcell⟩:=HA.out.atts (by omega)
    obtain⟨e0,e1,e2,e3⟩:=hcell k hlt
    have d0:=(hb.cell (p:=⟨b,off+k * 4,none⟩) (Nat.lt_of_lt_of_le hbB hB)).trans e0
    have d1:=(hb.cell (p:=⟨b,off+k * 4+1,none⟩) (Nat.lt_of_lt_of_le hbB hB)).trans e1
    have d2:=(hb.cell (p:=⟨b,off+k * 4+2,none⟩) (Nat.lt_of_lt_of_le hbB hB)).trans e2
    have d3:=(hb.cell (p:=⟨b,off+k * 4+3,none⟩) (Nat.lt_of_lt_of_le hbB hB)).trans e3
    have dg:=(hb.cell (p:=⟨g,0,none⟩) hgl).trans hg
    clear e0 e1 e2 e3 hcell
    have hz:=hb.size
    have HF:=Lib.hid (fun h=>find_hit l s k hlt h hall.out)
    have HT:Hid (isN s l[k]=false->∀ x∈l.take (k+1),isN s x=false):=by
     refine Lib.hid fun h x hx=>?_
     rw[List.take_succ_eq_append_getElem hlt] at hx
     rcases List.mem_append.1 hx with hx|hx
     · exact hall.out x hx
     · simp at hx;rw[hx];exact h
    have HK:Hid (isN s l[k]=true->(k:Int)=r):=by
     refine Lib.hid fun h=>?_
     rcases HR.out with ⟨j,hj,rfl,h1,h2⟩|⟨_,h1⟩
     · have:=HF.out h
       have h3:=find_hit l s j hj h1 h2
       have:k=j:=by
        rcases Nat.lt_trichotomy k j with h4|h4|h4
        · have:=h2 l[k] (List.mem_take_iff_getElem.2 ⟨k,by omega,rfl⟩)
          rw[h] at this;cases this
        · exact h4
        · have:=hall.out l[j] (List.mem_take_iff_getElem.2 ⟨j,by omega,rfl⟩)
          rw[h1] at this;cases this
       rw[this]
     · have:=h1 l[k] (List.getElem_mem hlt)
       rw[h] at this;cases this
    clear HF
    generalize l[k]=x at *
    go_wp2_with fail
    refine (FindC_calls x s g wr dg).mono ?_
    rintro e w2 ⟨rfl,hb2⟩
    have hbW:=hb.trans (hb2.mono hz)
    cases hx:isN s x
    · have hrr:=Lib.hid (HT.out hx)
      go_wp2
      go_roundw
      case rel=>exact⟨k+1,by omega,by go_num,hrr,hbW⟩
      case measure=>simp[intOf];omega
    · have HE:=Lib.hid (HK.out hx)
      go_wp2
      go_ret
      exact⟨by rw[<- HE.out];rfl,hbW⟩
  · have hki:¬ (k:Int)<(l.length:Int):=by omega
    have HE:Hid (r=-1):=by
     refine Lib.hid ?_
     rcases HR.out with ⟨j,hj,_,h1,_⟩|⟨h,_⟩
     · have:=hall.out l[j] (List.mem_take_iff_getElem.2 ⟨j,by omega,rfl⟩)
       rw[h1] at this;cases this
     · exact h
    go_wp2
    go_ret
    exact⟨by rw[HE.out];rfl,hb⟩
theorem Find_calls (A:Option Addr) (c:Nat) (l:List Att) (s:ByteArray) (w:World) (B:Nat) (hR:Reads w B 4 A l.length (l.flatMap attc)) (hB:B<=w.heap.size) (hlen:l.length<=1000000) :
 Calls Tryz.prog 238 #[.slice A l.length c,.string s] w fun e w'=>e=.returned (findV l s)/\Below w.heap.size w w':=by
 have hw1:Below w.heap.size w (w.alloc (.cells #[.string s] 9)):=(Below.refl _ _).alloc (Nat.le_refl _) _
 have hw2:Below w.heap.size w ((w.alloc (.cells #[.string s] 9)).alloc (.cells #[.int .i64 0,.int .i64 0,.string { data:=#[] }] 85)):=hw1.alloc (by simp) _
 have hx:=(Blk.new w 9 #[.string s]).alloc (.cells #[.int .i64 0,.int .i64 0,.string { data:=#[] }] 85)
 have hy:=Blk.new (w.alloc (.cells #[.string s] 9)) 85 #[.int .i64 0,.int .i64 0,.string { data:=#[] }]
 have hc0:((w.alloc (.cells #[.string s] 9)).alloc (.cells #[.int .i64 0,.int .i64 0,.string { data:=#[] }] 85)).cell? ⟨w.heap.size,0,none⟩=some (.string s):=hx.cell 0
 have hR2:=hR.below hw2 hB
 rcases first_of s l with ⟨k,hk,h1,h2⟩|h1
 · have hF:=find_hit l s k hk h1 h2
   have HE:Hid (findV l s=.tuple #[vv l[k].2.1 l[k].2.2.1 l[k].2.2.2,.bool true]):=Lib.hid (by simp[findV,hF])
   have HI:=Lib.hid (IndexFunc_calls A c l s w.heap.size _ B hR2 (by simp;omega) hlen hc0 (k:Int) (.inl ⟨k,hk,rfl,h1,h2⟩))
   obtain⟨b,off,rfl,hbB,hcell⟩:=hR.atts (by omega)
   obtain⟨e0,e1,e2,e3⟩:=hcell k hk
   clear hcell hF h1 h2 hc0 hR
   have hkl:(k:Int)<(l.length:Int):=by omega
   generalize l[k]=x at *
   obtain⟨xs,xk,xn,xt⟩:=x
   simp only at e0 e1 e2 e3 HE
   go_enter Tryz.func238,Tryz.ntmps238
   go_wp2_with fail
   refine HI.out.mono ?_
   rintro e w3 ⟨rfl,hb3⟩
   have hbw:=hw2.trans (hb3.mono hw2.size)
   have d1:=(hbw.cell (p:=⟨b,off+k * 4+1,none⟩) (Nat.lt_of_lt_of_le hbB hB)).trans e1
   have d2:=(hbw.cell (p:=⟨b,off+k * 4+2,none⟩) (Nat.lt_of_lt_of_le hbB hB)).trans e2
   have d3:=(hbw.cell (p:=⟨b,off+k * 4+3,none⟩) (Nat.lt_of_lt_of_le hbB hB)).trans e3
   have hy3:=hy.below hb3 (by simp)
   have f0:=hy3.frozen 0
   have f1:=hy3.frozen 1
   have f2:=hy3.frozen 2
   have q0:=hy3.cell 0
   have q1:=hy3.cell 1
   have q2:=hy3.cell 2
   simp at f0 f1 f2 q0 q1 q2
   clear e0 e1 e2 e3 hR2
   go_wp2
   have hz:=((hy3.set_ 0 (.int .i64 xk)).set_ 1 (.int .i64 xn)).set_ 2 (.string xt)
   have g0:=hz.cell 0
   have g1:=hz.cell 1
   have g2:=hz.cell 2
   simp at g0 g1 g2
   refine bodyPost_ret (v:=.tuple #[vv xk xn xt,.bool true]) (by simp[results,Tryz.results238,go_sem,g0,g1,g2]) rfl ⟨by rw[HE.out],?_⟩
   exact ((hbw.setCell (by simp) _).setCell (by simp) _).setCell (by simp) _
 · have hF:=find_miss l s h1
   have HE:Hid (findV l s=.tuple #[vv 0 0 { data:=#[] },.bool false]):=Lib.hid (by simp[findV,hF])
   have HI:=Lib.hid (IndexFunc_calls A c l s w.heap.size _ B hR2 (by simp;omega) hlen hc0 (-1) (.inr ⟨rfl,h1⟩))
   clear hF h1 hc0 hR
   go_enter Tryz.func238,Tryz.ntmps238
   go_wp2_with fail
   refine HI.out.mono ?_
   rintro e w3 ⟨rfl,hb3⟩
   have hbw:=hw2.trans (hb3.mono hw2.size)
   have hy3:=hy.below hb3 (by simp)
   have f0:=hy3.frozen 0
   have f1:=hy3.frozen 1
   have f2:=hy3.frozen 2
   have q0:=hy3.cell 0
   have q1:=hy3.cell 1
   have q2:=hy3.cell 2
   simp at f0 f1 f2 q0 q1 q2
   clear hR2
   go_wp2
   have hz:=((hy3.set_ 0 (.int .i64 0)).set_ 1 (.int .i64 0)).set_ 2 (.string { data:=#[] })
   have g0:=hz.cell 0
   have g1:=hz.cell 1
   have g2:=hz.cell 2
   simp at g0 g1 g2
   refine bodyPost_ret (v:=.tuple #[vv 0 0 { data:=#[] },.bool false]) (by simp[results,Tryz.results238,go_sem,g0,g1,g2]) rfl ⟨by rw[HE.out],?_⟩
   exact ((hbw.setCell (by simp) _).setCell (by simp) _).setCell (by simp) _
section
variable {l la lb:List Att} {b:List UInt8} {v va vb:Value} {w:World}
theorem Find_evt (s:ByteArray) (h:evt l v w) (hlen:l.length<=1000000):Calls Tryz.prog 238 #[v,.string s] w fun e w'=>e=.returned (findV l s)/\Below w.heap.size w w':=by
 obtain⟨A,c,rfl,hR⟩:=h
 exact Find_calls A c l s w _ hR (Nat.le_refl _) hlen
end
