/-
  The walks of filter.Holds and filter.Matches. Conditions: none.
-/
import Derived.Test.YtagfakjifhdpgaaGreatMa27
set_option maxRecDepth 100000
set_option maxHeartbeats 16000000
set_option linter.unusedVariables false
set_option linter.unusedSimpArgs false
namespace Go.Proofs.YtagfakjifhdpgaaGreat
open Go Go.RowKit
theorem findV_cases (e:List Att) (s:ByteArray):(∃ x:Att,e.find? (isN s)=some x/\findV e s=.tuple #[vv x.2.1 x.2.2.1 x.2.2.2,.bool true])∨(e.find? (isN s)=none/\findV e s=.tuple #[vv 0 0 { data:=#[] },.bool false]):=by
 unfold findV
 cases h:e.find? (isN s) with
 | none=>exact .inr ⟨rfl,rfl⟩
 | some x=>exact .inl ⟨x,rfl,rfl⟩
theorem Holds_calls (t:Tst) (e:List Att) (v:Value) (w:World) (he:evt e v w) (hlen:e.length<=1000000) :
 Calls Tryz.prog 196 #[tstv t,v] w fun r w'=>r=.returned (.bool (holdsT t e))/\Below w.heap.size w w':=by
 obtain⟨s,op,k,n,x⟩:=t
 have hb0:Below w.heap.size w (w.alloc (.cells #[.string s,.int .i64 op,.int .i64 k,.int .i64 n,.string x] 87)):=(Below.refl _ _).alloc (Nat.le_refl _) _
 have hx0:=Blk.new w 87 #[.string s,.int .i64 op,.int .i64 k,.int .i64 n,.string x]
 have he0:=evt_st _ _ _ _ he hb0
 rcases findV_cases e s with ⟨y,hf,hv⟩|⟨hf,hv⟩
 · have HF:Hid (∀ W,evt e v W->Calls Tryz.prog 238 #[v,.string s] W fun r w'=>r=.returned (.tuple #[vv y.2.1 y.2.2.1 y.2.2.2,.bool true])/\Below W.heap.size W w'):=Lib.hid fun W h=>by
    have:=Find_evt s h hlen;rwa [hv] at this
   have HE:Hid (holdsT (s,op,k,n,x) e=isT (s,op,k,n,x) y.2):=Lib.hid (by simp only[holdsT,hf])
   clear hf hv
   obtain⟨yn,yk,yv,yt⟩:=y
   simp only at HF HE
   go_enter Tryz.func196,Tryz.ntmps196
   go_wp2_with fail
   refine (HF.out _ he0).mono ?_
   rintro r w1 ⟨rfl,hb1⟩
   have hx1:=(hx0.below hb1 hx0.lt).alloc (.cells #[.int .i64 yk,.int .i64 yv,.string yt] 85)
   have hbw:=hb0.trans (hb1.mono hb0.size)
   have hbw1:Below w.heap.size w (w1.alloc (.cells #[.int .i64 yk,.int .i64 yv,.string yt] 85)):=hbw.alloc hbw.size _
   have x0:(w1.alloc (.cells #[.int .i64 yk,.int .i64 yv,.string yt] 85)).cell? ⟨w.heap.size,0,none⟩=some (.string s):=hx1.cell 0
   have x1:(w1.alloc (.cells #[.int .i64 yk,.int .i64 yv,.string yt] 85)).cell? ⟨w.heap.size,1,none⟩=some (.int .i64 op):=hx1.cell 1
   have x2:(w1.alloc (.cells #[.int .i64 yk,.int .i64 yv,.string yt] 85)).cell? ⟨w.heap.size,2,none⟩=some (.int .i64 k):=hx1.cell 2
   have x3:(w1.alloc (.cells #[.int .i64 yk,.int .i64 yv,.string yt] 85)).cell? ⟨w.heap.size,3,none⟩=some (.int .i64 n):=hx1.cell 3
   have x4:(w1.alloc (.cells #[.int .i64 yk,.int .i64 yv,.string yt] 85)).cell? ⟨w.heap.size,4,none⟩=some (.string x):=hx1.cell 4
   go_upto_region 2 with (fail)
   have hn:=Blk.new w1 85 #[.int .i64 yk,.int .i64 yv,.string yt]
   have n0:=hn.cell 0
   have n1:=hn.cell 1
   have n2:=hn.cell 2
   generalize hw2:w1.alloc (.cells #[.int .i64 yk,.int .i64 yv,.string yt] 85)=w2 at *
   clear hw2 hn hx1
   go_wp2_with fail
   refine (Is_calls (s,op,k,n,x) (yk,yv,yt) _).mono ?_
   rintro r w3 ⟨rfl,hb3⟩
   go_wp2
   go_ret
   exact⟨by rw[HE.out];rfl,hbw1.trans (hb3.mono hbw1.size)⟩
 · have HF:Hid (∀ W,evt e v W->Calls Tryz.prog 238 #[v,.string s] W fun r w'=>r=.returned (.tuple #[vv 0 0 { data:=#[] },.bool false])/\Below W.heap.size W w'):=Lib.hid fun W h=>by
    have:=Find_evt s h hlen;rwa [hv] at this
   have HE:Hid (holdsT (s,op,k,n,x) e=false):=Lib.hid (by simp only[holdsT,hf])
   clear hf hv
   go_enter Tryz.func196,Tryz.ntmps196
   go_wp2_with fail
   refine (HF.out _ he0).mono ?_
   rintro r w1 ⟨rfl,hb1⟩
   have hbw:=hb0.trans (hb1.mono hb0.size)
   go_wp2
   go_ret
   exact⟨by rw[HE.out];rfl,hbw.alloc hbw.size _⟩
theorem matches_take (l:List Tst) (e:List Att) (k:Nat) (h:k<l.length) (ha:∀ t∈l.take k,holdsT t e=true) (hb:holdsT l[k] e=true):∀ t∈l.take (k+1),holdsT t e=true:=by
 intro x hx
 rw[List.take_succ_eq_append_getElem h] at hx
 rcases List.mem_append.1 hx with hx|hx
 · exact ha x hx
 · simp at hx;rw[hx];exact hb
theorem matches_bad (l:List Tst) (e:List Att) (k:Nat) (h:k<l.length) (hb:holdsT l[k] e=false):matchesF l e=false:=by
 unfold matchesF
 rw[List.all_eq_false]
 exact⟨l[k],List.getElem_mem h,by simp[hb]⟩
theorem matches_good (l:List Tst) (e:List Att) (h:∀ t∈l.take l.length,holdsT t e=true):matchesF l e=true:=by
 rw[List.take_length] at h
 exact List.all_eq_true.2 h
theorem Matches_calls (A:Option Addr) (c:Nat) (l:List Tst) (e:List Att) (v:Value) (w:World) (B:Nat) (hR:Reads w B 5 A l.length (l.flatMap tstc)) (hB:B<=w.heap.size) (hll:l.length<=1000000) (he:evt e v w) (hlen:e.length<=1000000) :
 Calls Tryz.prog 122 #[.slice A l.length c,v] w fun r w'=>r=.returned (.bool (matchesF l e))/\Below w.heap.size w w':=by
 have HA:=Lib.hid hR
 have HV:=Lib.hid he
 clear hR he
 go_enter Tryz.func122,Tryz.ntmps122
 go_wp2
 go_step3
 go_wp2_with fail
 go_step3
 go_wp2_with fail
 go_loopw [5,10] (fun m i wr=>∃ k:Nat,k<=l.length/\i=.int .i64 (k:Int)/\m=.bool true/\Hid (∀ t∈l.take k,holdsT t e=true)/\Below w.heap.size w wr) (fun _ i _=>l.length - (intOf i).toNat)
 case atStart=>exact⟨0,by omega,rfl,rfl,Lib.hid (by simp),Below.refl _ _⟩
 case round =>
  obtain⟨k,hk,rfl,rfl,hall,hb⟩:=hrel
  by_cases hlt:k<l.length
  · have hki:(k:Int)<(l.length:Int):=by omega
    obtain⟨b,off,rfl,hbB,hcell⟩:=HA.out.tsts (by omega)
    obtain⟨e0,e1,e2,e3,e4⟩:=hcell k hlt
    have hbw:b<w.heap.size:=Nat.lt_of_lt_of_le hbB hB
    have d0:=(hb.cell (p:=⟨b,off+k * 5,none⟩) hbw).trans e0
    have d1:=(hb.cell (p:=⟨b,off+k * 5+1,none⟩) hbw).trans e1
    have d2:=(hb.cell (p:=⟨b,off+k * 5+2,none⟩) hbw).trans e2
    have d3:=(hb.cell (p:=⟨b,off+k * 5+3,none⟩) hbw).trans e3
    have d4:=(hb.cell (p:=⟨b,off+k * 5+4,none⟩) hbw).trans e4
    have HT:=Lib.hid (matches_take l e k hlt hall.out)
    have HBD:=Lib.hid (matches_bad l e k hlt)
    have hz:=hb.size
    clear e0 e1 e2 e3 e4 hcell
    generalize l[k]=x at *
    obtain⟨xs,xo,xk,xn,xt⟩:=x
    simp only at d0 d1 d2 d3 d4
    have hal:Below wr.heap.size wr (wr.alloc (.cells #[.string xs,.int .i64 xo,.int .i64 xk,.int .i64 xn,.string xt] 87)):=(Below.refl _ _).alloc (Nat.le_refl _) _
    have hev:=Lib.hid (evt_st _ _ _ _ (evt_st _ _ _ _ HV.out hb) hal)
    go_wp2_with fail
    refine (Holds_calls (xs,xo,xk,xn,xt) e v _ hev.out hlen).mono ?_
    rintro r w2 ⟨rfl,hb2⟩
    have hbw2:Below w.heap.size w w2:=(hb.trans (hal.mono hz)).trans (hb2.mono (by simp;omega))
    cases hh:holdsT (xs,xo,xk,xn,xt) e
    · have HE:Hid (matchesF l e=false):=Lib.hid (HBD.out hh)
      clear hh
      go_wp2
      try rw[Exit.noGoto_ret]
      go_ret
      exact⟨by rw[HE.out];rfl,hbw2⟩
    · have hr:=Lib.hid (HT.out hh)
      clear hh
      go_wp2
      go_roundw
      case rel=>exact⟨k+1,by omega,by go_num,by trivial,hr,hbw2⟩
      case measure=>simp[intOf];omega
  · have hki:¬ (k:Int)<(l.length:Int):=by omega
    have HE:Hid (matchesF l e=true):=Lib.hid (matches_good l e (by
     have:=hall.out
     rwa [show k=l.length by omega] at this))
    go_wp2
    try rw[Exit.noGoto_ret]
    go_ret
    exact⟨by rw[HE.out];rfl,hb⟩
theorem IdxS_calls (l:List Subn) (v:Value) (q:Subn->Bool) (f:Nat) (cs:Array Value) (w:World) (h:lst sbS l v w) (hlen:l.length<=1000000) (hf:∀ args W,(callFunc f args).run Tryz.prog W=.ok (.enter f args) W)
 (hC:∀ W,K w W->∀ x∈l,∀ u,sub x u W->Calls Tryz.prog f (#[u]++cs) W fun e W'=>e=.returned (.bool (q x))/\K W W') :
 Calls Tryz.prog 195 #[v,.func (.func f) #[] cs] w fun e w'=>∃ i:Int,e=.returned (.int .i64 i)/\K w w'/\decide (0<=i)=l.any q:=by
 have kk:=K.rf w
 obtain⟨A,c,rfl,h,-⟩:=h
 have HC:=Lib.hid hC
 clear hC
 go_enter Tryz.func195,Tryz.ntmps195
 go_wp2_with fail
 go_loopw [5,8] (fun _ i wr=>∃ k:Nat,k<=l.length/\i=.int .i64 (k:Int)/\Hid ((l.take k).any q=false)/\K w wr) (fun _ i _=>l.length - (intOf i).toNat)
 case atStart=>exact⟨0,by omega,rfl,Lib.hid (by simp),kk⟩
 case round =>
  clear kk
  obtain⟨k,hk,rfl,hall,kr⟩:=hrel
  by_cases hlt:k<l.length
  · have hki:(k:Int)<(l.length:Int):=by omega
    obtain⟨b1,off,cs1,rfl,hcl,hrl,d0,d⟩:=lsr_cells h k hlt (by decide)
    have HB:=Lib.hid (any_take_succ q l k hlt)
    have HA:=Lib.hid (any_of_take q l (k+1))
    have hm:=List.getElem_mem hlt
    generalize l[k]=t at *
    obtain⟨vf,rfl,hf1⟩:=hrl wr kr
    have d0:∀ W,K w W->W.cell? ⟨b1,off+k * 3,none⟩=some (.int .i64 t.cl):=d0
    have d:∀ W,K w W->∀ i,i<3->W.cell? ⟨b1,off+k * 3+i,none⟩=(subA t vf)[i]?:=fun W j hj=>fun hi=>(d W j hj hi).trans Array.getElem?_toList
    have C1:=Lib.hid (HC.out wr kr t hm (.agg (subA t vf)) ⟨vf,rfl,hf1⟩)
    clear hrl hcl hm
    go_wp2_with fail
    refine C1.out.mono ?_
    rintro e w2 ⟨rfl,k2⟩
    have kW:=kr.tr k2
    clear d d0 hf1 C1
    cases hx:q t
    · have hrr:Hid ((l.take (k+1)).any q=false):=Lib.hid (by rw[HB.out,hall.out,hx];rfl)
      go_wp2
      go_roundw
      case rel=>exact⟨k+1,by omega,by go_num,hrr,kW⟩
      case measure=>simp[intOf];omega
    · have HE:Hid (l.any q=true):=Lib.hid (HA.out (by rw[HB.out,hx];simp))
      go_wp2
      go_ret
      exact⟨_,rfl,kW,by rw[HE.out];simp⟩
  · have hki:¬ (k:Int)<(l.length:Int):=by omega
    have HE:Hid (l.any q=false):=Lib.hid (by
     have:=hall.out
     rw[List.take_of_length_le (by omega)] at this
     exact this)
    go_wp2
    go_ret
    exact⟨_,rfl,kr,by rw[HE.out];simp⟩
theorem ContS_calls (l:List Subn) (v:Value) (q:Subn->Bool) (f:Nat) (cs:Array Value) (w:World) (h:lst sbS l v w) (hlen:l.length<=1000000) (hf:∀ args W,(callFunc f args).run Tryz.prog W=.ok (.enter f args) W)
 (hC:∀ W,K w W->∀ x∈l,∀ u,sub x u W->Calls Tryz.prog f (#[u]++cs) W fun e W'=>e=.returned (.bool (q x))/\K W W') :
 Calls Tryz.prog 120 #[v,.func (.func f) #[] cs] w fun e w'=>e=.returned (.bool (l.any q))/\K w w':=by
 have C1:=Lib.hid (IdxS_calls l v q f cs w h hlen hf hC)
 obtain⟨A,c,rfl⟩:=lst_slice h
 clear h hC
 generalize l.any q=R at *
 go_enter Tryz.func120,Tryz.ntmps120
 go_wp2_with fail
 refine C1.out.mono ?_
 rintro e w2 ⟨i,rfl,k2,hR⟩
 have HR:=Lib.hid hR
 clear C1 hR
 go_wp2
 go_ret
 exact⟨by rw[<- HR.out];rfl,k2⟩
theorem Ba1_calls (s:Subn) (c:Int) (v:Value) (g:Nat) (w:World) (h:sub s v w) (hg:Blk w g 3 #[.int .i64 c]) :
 Calls Tryz.prog 116 #[v,.pointer (some ⟨g,0,none⟩)] w fun e w'=>e=.returned (.bool (decide (s.cl=c)))/\K w w':=by
 obtain⟨vs,rfl,hf⟩:=h
 obtain⟨A,d,rfl⟩:=flt_slice hf
 have k1:K w (w.alloc (.cells (subA s (.slice A s.f.length d)) 186)):=(K.rf w).al _
 have q:=hg.cells
 clear hf hg
 go_enter Tryz.func116,Tryz.ntmps116
 go_wp2
 go_ret
 refine⟨?_,k1⟩
 show Ending.returned (.bool _)=Ending.returned (.bool _)
 rfl
theorem Ba3_calls (s:Subn) (e:List Att) (v ve:Value) (g:Nat) (w:World) (h:sub s v w) (hg:Blk w g 45 #[ve]) (he:evt e ve w) (hl:s.f.length<=1000000) (hle:e.length<=1000000) :
 Calls Tryz.prog 121 #[v,.pointer (some ⟨g,0,none⟩)] w fun r w'=>r=.returned (.bool (matchesF s.f e))/\K w w':=by
 obtain⟨vs,rfl,hf⟩:=h
 have hff:=hf
 obtain⟨A,d,rfl,hR⟩:=hf
 have k1:K w (w.alloc (.cells (subA s (.slice A s.f.length d)) 186)):=(K.rf w).al _
 have hb:=Blk.new w 186 (subA s (.slice A s.f.length d))
 have hg1:=hg.below k1 hg.lt
 have C1:=Lib.hid (Matches_calls A d s.f e ve _ _ (hR.below k1 (Nat.le_refl _)) k1.size hl (evt_st _ _ _ _ he k1) hle)
 obtain⟨Ae,ce,rfl⟩:=evt_slice he
 generalize matchesF s.f e=R at *
 clear hff hR he hg
 go_enter Tryz.func121,Tryz.ntmps121
 go_upto_region 1 with (fail)
 generalize w.alloc _=w1 at *
 have q:=hb.cell
 have q2:=hg1.cell
 go_wp2_with fail
 refine C1.out.mono ?_
 rintro r w2 ⟨rfl,k2⟩
 have kF:=k1.tr k2
 clear C1 q q2 hb hg1
 go_wp2
 go_ret
 exact⟨rfl,kF⟩
theorem Ba2_calls (l:List Subn) (e:List Att) (v ve:Value) (g:Nat) (w:World) (h:lst sbS l v w) (hg:Blk w g 127 #[v]) (he:evt e ve w) (hlen:l.length<=1000000) (hl:∀ s∈l,s.f.length<=1000000) (hle:e.length<=1000000) :
 Calls Tryz.prog 119 #[ve,.pointer (some ⟨g,0,none⟩)] w fun r w'=>r=.returned (.bool (anyS l e))/\K w w':=by
 have HR:Hid (anyS l e=l.any fun s=>matchesF s.f e):=Lib.hid rfl
 have HV:=Lib.hid he
 obtain⟨Ae,ce,rfl⟩:=evt_slice he
 have k1:K w (w.alloc (.cells #[.slice Ae e.length ce] 45)):=(K.rf w).al _
 have hb:=Blk.new w 45 #[.slice Ae e.length ce]
 have hg1:=hg.below k1 hg.lt
 have H:=Lib.hid (lst_st h k1)
 have HL:=Lib.hid hl
 obtain⟨A,c,rfl⟩:=lst_slice h
 generalize anyS l e=R at *
 clear h hg he hl
 go_enter Tryz.func119,Tryz.ntmps119
 go_upto_region 1 with (fail)
 generalize w.alloc _=w1 at *
 generalize w.heap.size=gb at hb ⊢
 have C1:=Lib.hid (ContS_calls l _ (fun s=>matchesF s.f e) 121 #[.pointer (some ⟨gb,0,none⟩)] w1 H.out hlen (fun _ _=>by rfl) fun W k s hs u hu=>Ba3_calls s e u _ gb W hu (hb.below k hb.lt) (evt_st _ _ _ _ HV.out (k1.tr k)) (HL.out s hs) hle)
 have q2:=hg1.cell
 go_wp2_with fail
 refine C1.out.mono ?_
 rintro r w2 ⟨rfl,k2⟩
 have kF:=k1.tr k2
 clear C1 q2 hb hg1
 go_wp2
 go_ret
 exact⟨by rw[HR.out];rfl,kF⟩
theorem Batch_calls (l:List Subn) (c:Int) (x:Ent) (v vx:Value) (w:World) (h:lst sbS l v w) (hx:ent x vx w) (hlen:l.length<=1000000) (hs:∀ s∈l,s.f.length<=1000000) (hxs:smallEn x) :
 Calls Tryz.prog 62 #[v,.int .i64 c,vx] w fun e w'=>∃ v',e=.returned v'/\OwnL w.heap.size w.heap.size 45 evS (batchT l c x) v' w'/\K w w':=by
 have HR:Hid (batchT l c x=if x.kind=1 then x.es.filter (anyS (l.filter fun s=>decide (s.cl=c))) else []):=Lib.hid (by unfold batchT ofCl;simp)
 have HL:=Lib.hid (lsf_of h)
 have HS:=Lib.hid hs
 obtain⟨vf,ve,rfl,hf,he⟩:=hx
 have HE:=Lib.hid (lsf_of he)
 obtain⟨Af,cf,rfl⟩:=flt_slice hf
 obtain⟨Ae,ce,rfl⟩:=lst_slice he
 obtain⟨A,d,rfl⟩:=lst_slice h
 have k1:K w ((w.alloc (.cells #[.int .i64 c] 3)).alloc (.cells (entA x (.slice Af x.f.length cf) (.slice Ae x.es.length ce)) 42)):=((K.rf w).al _).al _
 have hb:=(Blk.new w 3 #[.int .i64 c]).alloc (.cells (entA x (.slice Af x.f.length cf) (.slice Ae x.es.length ce)) 42)
 have hc:=Blk.new (w.alloc (.cells #[.int .i64 c] 3)) 42 (entA x (.slice Af x.f.length cf) (.slice Ae x.es.length ce))
 have hz:(w.alloc (.cells #[.int .i64 c] 3)).heap.size=w.heap.size+1:=by simp
 rw[hz] at hc
 generalize batchT l c x=R at *
 clear h hf he hs hz
 go_enter Tryz.func62,Tryz.ntmps62
 go_upto_region 1 with (fail)
 generalize World.alloc (World.alloc w _) _=w1 at *
 have hz1:=k1.size
 generalize hga:w.heap.size=lo at hb hc HL HE hz1 ⊢
 have HGA:=Lib.hid hga
 clear hga
 have q:=hc.cell
 by_cases hk:x.kind=1
 rotate_left
 · have HF:Hid (R=[]):=Lib.hid (by rw[HR.out,if_neg hk])
   have hk2:(x.kind != 1)=true:=by simpa using hk
   clear hk HR
   go_wp2
   go_ret
   exact⟨_,rfl,by rw[HF.out];exact OwnL.nil _ _ _ _ _,k1⟩
 have HF:Hid (R=x.es.filter (anyS (l.filter fun s=>decide (s.cl=c)))):=Lib.hid (by rw[HR.out,if_pos hk])
 have hk2:(x.kind != 1)=false:=by simp[hk]
 have C1:=Lib.hid (KeepS_calls (fun k=>lo<=k) l _ (fun s=>decide (s.cl=c)) 116 #[.pointer (some ⟨lo,0,none⟩)] w1 (HL.out.st k1) hlen (fun _ _=>by rfl) fun W k s _ u hu=>Ba1_calls s c u lo W hu (hb.below k hb.lt))
 clear hk HR
 go_wp2_with fail
 refine C1.out.mono ?_
 rintro e w2 ⟨v2,rfl,hO2,k2⟩
 have hfl:=List.length_filter_le (fun s=>decide (s.cl=c)) l
 have hfs:=filter_f (q:=fun s=>decide (s.cl=c)) HS.out
 generalize l.filter (fun s=>decide (s.cl=c))=l2 at *
 obtain⟨A2,c2,rfl⟩:=hO2.slice
 have hc2:=hc.below k2 hc.lt
 have k02:=k1.tr k2
 have hl2:=hO2.lst
 clear q hc hO2 C1 hb
 go_upto_region 4 with (fail)
 have kA:K w2 (w2.alloc (.cells #[.slice A2 l2.length c2] 127)):=(K.rf w2).al _
 have hb3:=Blk.new w2 127 #[.slice A2 l2.length c2]
 have hc3:=hc2.below kA hc2.lt
 have k03:=k02.tr kA
 have H3:=Lib.hid (lst_st hl2 kA)
 clear hc2 hl2
 generalize w2.alloc _=w3 at *
 generalize w2.heap.size=g3 at hb3 ⊢
 have hE3:=HE.out.st k03
 have HXS:=Lib.hid hxs
 have C2:=Lib.hid (KeepE_calls (fun k=>lo<=k) x.es _ (anyS l2) 119 #[.pointer (some ⟨g3,0,none⟩)] w3 hE3 hxs.2.1 (fun _ _=>by rfl) fun W k e he u hu=>Ba2_calls l2 e _ u g3 W (lst_st H3.out k) (hb3.below k hb3.lt) hu (by omega) hfs (HXS.out.2.2 e he))
 have q3:=hc3.cell
 clear hE3 hxs hfs
 go_wp2_with fail
 refine C2.out.mono ?_
 rintro e w4 ⟨v4,rfl,hO4,k4⟩
 have k04:=k03.tr k4
 have hf4:=List.length_filter_le (anyS l2) x.es
 have hs4:∀ e∈x.es.filter (anyS l2),e.length<=1000000:=fun e he=>HXS.out.2.2 e (List.mem_filter.1 he).1
 have hl4:=hO4.lst
 have C3:=Lib.hid (Events_calls _ v4 w4 hl4 (by have:=HXS.out.2.1;omega) hs4)
 rw[<- HF.out] at C3 hl4
 obtain⟨A4,c4,rfl⟩:=lst_slice hl4
 clear C2 q3 hO4 hs4 hc3 hb3
 go_wp2_with fail
 refine C3.out.mono ?_
 rintro e w5 ⟨v5,rfl,hO5,k5⟩
 have kF:=k04.tr k5
 have hz4:=k04.size
 have HO:Hid (OwnL lo lo 45 evS R v5 w5):=Lib.hid (OwnL.low (OwnL.floor hO5 (by have:=HGA.out;omega)) (by have:=HGA.out;omega))
 obtain⟨A5,c5,rfl⟩:=lst_slice hO5.toY.lst
 clear C3 hO5
 go_wp2
 go_ret
 exact⟨_,rfl,by rw[HGA.out];exact HO.out,kF⟩
theorem fold_succ {α β:Type} (f:β->α->β) (l:List α) (b:β) (j:Nat) (h:j<l.length):(l.take (j+1)).foldl f b=f ((l.take j).foldl f b) l[j]:=by
 rw[List.take_succ_eq_append_getElem h,List.foldl_append];rfl
theorem filter_two {α:Type} (f:α->Int):∀ l:List α,(l.filter fun s=>decide (f s<0)).length+(l.filter fun s=>decide (0<f s)).length<=l.length
 | []=>by simp
 | x :: l=>by
   have:=filter_two f l
   by_cases h1:f x<0
   · have h2:¬ 0<f x:=by omega
     simp[h1,h2];omega
   · by_cases h2:0<f x
     · simp[h1,h2];omega
     · simp[h1,h2];omega
theorem applyT_len (l:List Subn) (x:Ent):(applyT l x).length<=l.length+1:=by
 have:=filter_two (fun s=>sideS s x) l
 unfold applyT
 split
 · simp only[List.length_append,List.length_singleton];omega
 · split
   · simp only[List.length_append];omega
   · omega
def subsO (l:List Subn):Prop:=∀ s∈l,s.f.length<=1000000
theorem applyT_f {l:List Subn} {x:Ent} (h:subsO l) (hx:x.f.length<=1000000):subsO (applyT l x):=by
 unfold applyT
 split
 · intro s hs
   simp only[List.mem_append,List.mem_singleton] at hs
   rcases hs with (hs|rfl)|hs
   · exact filter_f h s hs
   · exact hx
   · exact filter_f h s hs
 · split
   · intro s hs
     rcases List.mem_append.1 hs with hs|hs
     · exact filter_f h s hs
     · exact filter_f h s hs
   · exact h
def subs1 (o:List Subn) (x:Ent):List Subn:=if x.kind=1 then o else applyT o x
theorem subs1_len (l:List Subn) (x:Ent):(subs1 l x).length<=l.length+1:=by
 unfold subs1;split;omega;exact applyT_len l x
theorem subs1_f {l:List Subn} {x:Ent} (h:subsO l) (hx:x.f.length<=1000000):subsO (subs1 l x):=by
 unfold subs1;split;exact h;exact applyT_f h hx
theorem subsT_1 (l:List Ent):subsT l=l.foldl subs1 []:=rfl
theorem subsT_len (l:List Ent):(subsT l).length<=l.length:=by
 rw[subsT_1]
 have key:∀ (l:List Ent) (o:List Subn),(l.foldl subs1 o).length<=o.length+l.length:=by
  intro l
  induction l with
  | nil=>intro o;simp
  | cons x l ih=>intro o;have:=ih (subs1 o x);have:=subs1_len o x;simp only[List.foldl_cons,List.length_cons];omega
 simpa using key l []
theorem subsT_f {l:List Ent} (h:∀ x∈l,smallEn x):subsO (subsT l):=by
 rw[subsT_1]
 have key:∀ (l:List Ent) (o:List Subn),(∀ x∈l,smallEn x)->subsO o->subsO (l.foldl subs1 o):=by
  intro l
  induction l with
  | nil=>intro o _ ho;exact ho
  | cons x l ih=>intro o hl ho;exact ih _ (fun y hy=>hl y (by simp[hy])) (subs1_f ho (hl x (by simp)).1)
 exact key l [] h fun s hs=>by simp at hs
theorem BSubs_calls {M:Nat->Prop} {p:BrW} {B:Brk} {w:World} (h:BrV M p B w) (hG:GoodB B) (n:Nat) (hn:n<=B.st.list.length) :
 Calls Tryz.prog 61 #[.pointer (some ⟨p.g,0,none⟩),.int .i64 (n:Int)] w fun e w'=>∃ v',e=.returned v'/\OwnY (fun k=>k<w.heap.size) w.heap.size 186 sbS (subsT (B.st.list.take n)) v' w'/\K w w':=by
 have hsm:=hG.smallL
 have hln:=hG.dk.len
 have q:=h.blk.cell
 have hl0:=h.dat.now.list
 obtain⟨g,gl,gd,gr,gt,vd,vr,vp,vh,vl,vq,va,vt,vf,vw,kr⟩:=p
 simp only at q hl0
 obtain⟨Al,cl,rfl,hl,hcl⟩:=hl0
 have hll:B.st.list.length<=300000:=by omega
 have HSM:=Lib.hid hsm.1
 have HS1:=Lib.hid (subsT_1 (B.st.list.take n))
 have HSJ:=Lib.hid fun (j:Nat) (hj:j<n)=>fold_succ subs1 B.st.list [] j (by omega)
 have HLJ:=Lib.hid fun (j:Nat)=>subsT_len (B.st.list.take j)
 have HFJ:=Lib.hid fun (j:Nat)=>subsT_f (l:=B.st.list.take j) fun x hx=>hsm.1 x (List.mem_of_mem_take hx)
 simp only[subsT_1] at HLJ HFJ
 generalize subsT (B.st.list.take n)=R at *
 have kk:=K.rf w
 have hO:=OwnY.nil (fun k=>k<w.heap.size) w.heap.size 186 sbS w
 have hn':(n:Int)<=(cl:Int):=by omega
 clear h hG hsm hln
 go_enter Tryz.func61,Tryz.ntmps61
 go_wp2_with fail
 clear q
 go_loopw [5,7,16] (fun o _ i W=>∃ j:Nat,j<=n/\i=.int .i64 (j:Int)/\OwnY (fun k=>k<w.heap.size) w.heap.size 186 sbS ((B.st.list.take j).foldl subs1 []) o W/\K w W) (fun _ _ i _=>n - (intOf i).toNat)
 case atStart=>exact⟨0,by omega,rfl,by simpa using hO,kk⟩
 case round =>
  clear hO kk
  obtain⟨j,hj,rfl,hO,kr⟩:=hrel
  by_cases hlt:j<n
  · have hji:(j:Int)<(n:Int):=by omega
    have hjl:j<B.st.list.length:=by omega
    obtain⟨b1,off,cs,rfl,hcl1,hrl,d0,d⟩:=lsr_cells hl j hjl (by decide)
    have HT:=Lib.hid (HSJ.out j hlt)
    have hsx:=HSM.out _ (List.getElem_mem hjl)
    have hLj:=HLJ.out j
    have hFj:=HFJ.out j
    have hll2:(B.st.list.take j).length<=300000:=by simp;omega
    generalize B.st.list[j]=x at *
    generalize (B.st.list.take j).foldl subs1 []=o1 at *
    obtain⟨vf,ve,rfl,hf,he⟩:=hrl w (K.rf w)
    have HE:Hid (∀ W,K w W->ent x (.agg (entA x vf ve)) W):=Lib.hid fun W k=>⟨_,_,rfl,flt_st _ _ _ _ hf k,lst_st he k⟩
    have q:∀ i,i<8->wr.cell? ⟨b1,off+j * 8+i,none⟩=(entA x vf ve)[i]?:=fun i hi=>(d wr kr i hi).trans Array.getElem?_toList
    have q0:wr.cell? ⟨b1,off+j * 8,none⟩=some (.int .i64 x.kind):=d0 wr kr
    have hx:=Blk.new wr 42 (entA x vf ve)
    have k1:K wr (wr.alloc (.cells (entA x vf ve) 42)):=(K.rf wr).al _
    obtain⟨Af,cf,rfl⟩:=flt_slice hf
    obtain⟨Ae,ce,rfl⟩:=lst_slice he
    clear d d0 hf he hrl hcl1
    go_upto_region 5 with (fail)
    generalize wr.alloc _=w1 at *
    have hO1:=hO.st k1
    have kr1:=kr.tr k1
    clear q q0 hO
    have q:=hx.cell
    obtain⟨Ao,co,rfl⟩:=hO1.slice
    by_cases hk:x.kind=1
    · have HT2:Hid ((B.st.list.take (j+1)).foldl subs1 []=o1):=Lib.hid (by rw[HT.out];unfold subs1;rw[if_pos hk])
      have hk2:(x.kind != 1)=false:=by simp[hk]
      rw[<- HT2.out] at hO1
      clear hk
      go_wp2
      go_roundw
      case rel=>exact⟨j+1,by omega,by go_num,by rw[<- HT2.out];exact hO1,kr1⟩
      case measure=>simp[intOf];omega
    have HT2:Hid ((B.st.list.take (j+1)).foldl subs1 []=applyT o1 x):=Lib.hid (by rw[HT.out];unfold subs1;rw[if_neg hk])
    have hk2:(x.kind != 1)=true:=by simpa using hk
    have C1:=Lib.hid (Apply_calls o1 x _ _ w1 hO1.lst (HE.out w1 kr1) (by omega) hFj hsx.1)
    clear hO1 hk
    go_wp2_with fail
    refine C1.out.mono ?_
    rintro e w2 ⟨v2,rfl,hO2,k2⟩
    have kr2:=kr1.tr k2
    have hz1:=kr1.size
    have hO3:OwnY (fun k=>k<w.heap.size) w.heap.size 186 sbS (applyT o1 x) v2 w2:=(hO2.less fun k hk=>by omega).low hz1
    rw[<- HT2.out] at hO3
    clear C1 hO2 q
    go_wp2
    go_roundw
    case rel=>exact⟨j+1,by omega,by go_num,hO3,kr2⟩
    case measure=>simp[intOf];omega
  · have hji:¬ (j:Int)<(n:Int):=by omega
    obtain rfl:j=n:=by omega
    rw[<- HS1.out] at hO
    go_wp2
    go_ret
    exact⟨_,rfl,hO,kr⟩
theorem run_vote_eq (x y:Vot) (w:World) (d:Nat):(Op.equalIn (d+1+1+1) 138 (.agg (voA x)) (.agg (voA y))).run Tryz.prog w=.ok (decide (x=y)) w:=by
 obtain⟨⟨a,b,c⟩,e⟩:=x
 obtain⟨⟨a',b',c'⟩,e'⟩:=y
 simp[voA,go_sem,toList_iff]
 by_cases h0:a=a' <;> by_cases h4:b=b' <;> by_cases h1:c=c' <;> by_cases h2:e=e' <;> simp[h0,h1,h4,h2] <;> omega
theorem run_vote_eql (x y:Vot) (w:World):(binOp .eql 138 (.agg (voA x)) (.agg (voA y))).run Tryz.prog w=.ok (.bool (decide (x=y))) w:=by
 have h:(Op.equal 138 (.agg (voA x)) (.agg (voA y))).run Tryz.prog w=.ok (decide (x=y)) w:=run_vote_eq x y w 9997
 simp only[binOp,Sem.run_bind,h,Result.andThen_ok,Sem.run_pure]
theorem VIndex_calls (l:List Vot) (a:Vot) (v:Value) (w:World) (h:lst voS l v w) (hlen:l.length<=1000000) :
 Calls Tryz.prog 228 #[v,.agg (voA a)] w fun e w'=>∃ i:Int,e=.returned (.int .i64 i)/\K w w'/\decide (0<=i)=l.any fun v=>decide (v=a):=by
 obtain⟨D,d,rfl,hl,-⟩:=h
 have hx:=Blk.new w 138 (voA a)
 have k1:K w (w.alloc (.cells (voA a) 138)):=(K.rf w).al _
 go_enter Tryz.func228,Tryz.ntmps228
 go_upto_region 1 with (fail)
 generalize w.alloc _=w1 at *
 generalize w.heap.size=g at hx ⊢
 have qx:=hx.cells
 have kk:=K.rf w1
 clear hx
 go_wp2_with fail
 go_loopw [5,8] (fun _ i wr=>∃ j:Nat,j<=l.length/\i=.int .i64 (j:Int)/\Hid ((l.take j).any (fun v=>decide (v=a))=false)/\K w1 wr) (fun _ i _=>l.length - (intOf i).toNat)
 case atStart=>exact⟨0,by omega,rfl,Lib.hid (by simp),kk⟩
 case round =>
  clear kk
  obtain⟨j,hj,rfl,HT,kr⟩:=hrel
  by_cases hlt:j<l.length
  · have hji:(j:Int)<(l.length:Int):=by omega
    obtain⟨b1,o1,cs1,rfl,hcl1,hr1,d0,dd⟩:=lsr_cells hl j hlt (by decide)
    have HB:=Lib.hid (any_take_succ (fun v=>decide (v=a)) l j hlt)
    have HA:=Lib.hid (any_of_take (fun v=>decide (v=a)) l (j+1))
    generalize l[j]=x at *
    obtain rfl:=hr1 w (K.rf w)
    have qr:=fun W (kW:K wr W)=>qx W (kr.tr kW)
    have p0:∀ W,K wr W->W.cell? ⟨b1,o1+j * 4,none⟩=some (.int .i64 x.id.1):=fun W kW=>d0 W (k1.tr (kr.tr kW))
    have p1:∀ W,K wr W->W.cell? ⟨b1,o1+j * 4+1,none⟩=some (.int .u64 (x.id.2.1:Int)):=fun W kW=>dd W (k1.tr (kr.tr kW)) 1 (by decide)
    have p2:∀ W,K wr W->W.cell? ⟨b1,o1+j * 4+2,none⟩=some (.int .u64 (x.id.2.2:Int)):=fun W kW=>dd W (k1.tr (kr.tr kW)) 2 (by decide)
    have p3:∀ W,K wr W->W.cell? ⟨b1,o1+j * 4+3,none⟩=some (.bool x.yes):=fun W kW=>dd W (k1.tr (kr.tr kW)) 3 (by decide)
    clear hcl1 hr1 d0 dd
    go_upto_region 4 with (fail)
    refine wp_region_auto 5 [([],[]),([],[]),([],[]),([1,2],[(12,1),(13,2)]),([3],[(14,3)]),([0,4],[(11,0),(15,4)])] 19 rfl (by kernel_rfl) (by kernel_rfl) (by kernel_rfl) (by kernel_rfl) (by decide) ?_
    simp only[List.take_succ_cons,List.take_zero,List.drop_succ_cons,List.drop_zero]
    iterate 5 (apply AutoQ.is;intro V W kW hp;(try simp only[List.forall_mem_cons,List.nil_append,List.cons_append,tab_zero,tab_succ,isV] at hp);simp[wantsG,rhoP,List.lookup,hp,ResG,execOp,bareOp,isV,Below.refl,kW,p0,p1,p2,p3,qr,hji,go_sem];rfl)
    intro V W kW hA
    simp only[List.nil_append,List.cons_append,AllT,isV,Nat.reduceAdd] at hA
    obtain⟨e0,e1,e2,e3,e4,-⟩:=hA
    have he:=run_vote_eql a x W
    refine TailQ.pure (.bool (decide (a=x))) rfl ?_ ?_
    · simp[rhoP,List.lookup,e0,e4,execOp,bareOp]
      rw[show (eqGuard BinOp.eql 138 (Operand.tmp 11) (Operand.tmp 15) (.agg (voA a)) (.agg (voA x))).run Tryz.prog W=.ok () W from by simp[eqGuard,go_sem]]
      simp only[Result.andThen_ok,he]
    refine TailQ.nil ?_
    simp only[putAll,Act.put,List.setIfInBounds_toArray,List.set_cons_succ,List.set_cons_zero,Nat.reduceAdd,updV]
    have krW:=kr.tr kW
    have hsym:decide (a=x)=decide (x=a):=decide_eq_decide.2 eq_comm
    rw[hsym]
    clear hsym he e0 e1 e2 e3 e4 p0 p1 p2 p3 qr
    generalize hq:decide (x=a)=q at *
    have HQ:=Lib.hid hq
    clear hq
    cases q
    · have HT2:Hid ((l.take (j+1)).any (fun v=>decide (v=a))=false):=Lib.hid (by rw[HB.out,HT.out];rfl)
      go_wp2
      go_roundw
      case rel=>exact⟨j+1,by omega,by go_num,HT2,krW⟩
      case measure=>simp[intOf];omega
    · have HR:Hid (l.any (fun v=>decide (v=a))=true):=Lib.hid (HA.out (by rw[HB.out];simp))
      go_wp2
      go_ret
      exact⟨_,rfl,k1.tr krW,by rw[HR.out];simp⟩
  · have hji:¬ (j:Int)<(l.length:Int):=by omega
    have HR:Hid (l.any (fun v=>decide (v=a))=false):=Lib.hid (by
     have h1:=HT.out
     rw[List.take_of_length_le (by omega)] at h1
     exact h1)
    go_wp2
    go_ret
    exact⟨_,rfl,k1.tr kr,by rw[HR.out];rfl⟩
theorem VContains_calls (l:List Vot) (a:Vot) (v:Value) (w:World) (h:lst voS l v w) (hlen:l.length<=1000000) :
 Calls Tryz.prog 180 #[v,.agg (voA a)] w fun e w'=>e=.returned (.bool (l.any fun v=>decide (v=a)))/\K w w':=by
 have k1:K w (w.alloc (.cells (voA a) 138)):=(K.rf w).al _
 have hx:=Blk.new w 138 (voA a)
 have C1:=Lib.hid fun W (kW:K w W)=>VIndex_calls l a v W (lst_st h kW) hlen
 obtain⟨D,d,rfl⟩:=lst_slice h
 clear h
 go_enter Tryz.func180,Tryz.ntmps180
 go_wp2_with fail
 generalize w.alloc _=w1 at *
 refine (C1.out w1 k1).mono ?_
 rintro e w2 ⟨i,rfl,k2,hi⟩
 have HI:=Lib.hid hi
 clear hi
 go_wp2
 go_ret
 exact⟨by rw[<- HI.out];rfl,k1.tr k2⟩
theorem SaysC_calls (m:Msg) (a:Idn) (y:Bool) (v:Value) (g:Nat) (w:World) (h:msv m v w) (hg:Blk w g 35 #[.int .i64 a.1,.int .u64 (a.2.1:Int),.int .u64 (a.2.2:Int)]) (hl:m.votes.length<=1000000) :
 Calls Tryz.prog 179 #[v,.bool y,.pointer (some ⟨g,0,none⟩)] w fun e w'=>e=.returned (.bool (saidV m a y))/\K w w':=by
 have HR:Hid (saidV m a y=m.votes.any fun v=>decide (v=⟨a,y⟩)):=Lib.hid rfl
 obtain⟨v1,v2,v3,v4,v5,v6,rfl,h1,h2,h3,h4,h5,h6⟩:=h
 have H1:=Lib.hid h1
 obtain⟨A1,c1,rfl⟩:=lst_slice h1
 obtain⟨A2,c2,rfl⟩:=lst_slice h2
 obtain⟨A3,c3,rfl⟩:=lst_slice h3
 obtain⟨A4,c4,rfl⟩:=lst_slice h4
 obtain⟨A5,c5,rfl⟩:=lst_slice h5
 obtain⟨A6,c6,rfl⟩:=lst_slice h6
 generalize hms:msA m (.slice A1 m.votes.length c1) (.slice A2 m.asks.length c2) (.slice A3 m.entries.length c3) (.slice A4 m.prepares.length c4) (.slice A5 m.aborts.length c5) (.slice A6 m.ends.length c6)=ms
 have k1:K w (w.alloc (.cells ms 61)):=(K.rf w).al _
 have hb:=Blk.new w 61 ms
 subst hms
 have hg1:=hg.below k1 hg.lt
 have C1:=Lib.hid (VContains_calls m.votes ⟨a,y⟩ _ _ (lst_st h1 k1) hl)
 generalize saidV m a y=R at *
 clear h1 h2 h3 h4 h5 h6 hg
 go_enter Tryz.func179,Tryz.ntmps179
 go_upto_region 1 with (fail)
 generalize w.alloc _=w1 at *
 have q:=hb.cell
 have q2:=hg1.cell
 go_wp2_with fail
 refine C1.out.mono ?_
 rintro e w2 ⟨rfl,k2⟩
 have kF:=k1.tr k2
 clear C1 q q2 hb hg1
 go_wp2
 go_ret
 exact⟨by rw[HR.out];rfl,kF⟩
theorem Says_calls (kids:List Msg) (a:Idn) (v:Value) (w:World) (h:lst msS kids v w) (hlen:kids.length<=1000000) (hv:∀ m∈kids,m.votes.length<=1000000) :
 Calls Tryz.prog 98 #[v,idv a] w fun e w'=>e=.returned (.int .i64 (saysV kids a))/\K w w':=by
 have HR:Hid (saysV kids a=if kids.any (fun k=>saidV k a false) then 2 else if kids.all (fun k=>saidV k a true) then 1 else 0):=Lib.hid rfl
 obtain⟨A,c,rfl,hl,-⟩:=h
 have HV:=Lib.hid hv
 have k1:K w (w.alloc (.cells #[.int .i64 a.1,.int .u64 (a.2.1:Int),.int .u64 (a.2.2:Int)] 35)):=(K.rf w).al _
 have hb:=Blk.new w 35 #[.int .i64 a.1,.int .u64 (a.2.1:Int),.int .u64 (a.2.2:Int)]
 generalize saysV kids a=R at *
 clear hv
 go_enter Tryz.func98,Tryz.ntmps98
 go_wp2
 go_step3
 generalize w.alloc _=w1 at *
 generalize w.heap.size=ga at hb ⊢
 have kk:=K.rf w1
 go_wp2_with fail
 go_step3
 go_wp2_with fail
 go_loopw [6,8,12] (fun o _ i W=>∃ j:Nat,j<=kids.length/\i=.int .i64 (j:Int)/\(∃ z:Int,o=.int .i64 z/\Hid (z=if (kids.take j).all (fun k=>saidV k a true) then 1 else 0))/\Hid ((kids.take j).any (fun k=>saidV k a false)=false)/\K w1 W) (fun _ _ i _=>kids.length - (intOf i).toNat)
 case atStart=>exact⟨0,by omega,rfl,⟨1,rfl,Lib.hid (by simp)⟩,Lib.hid (by simp),kk⟩
 case round =>
  clear kk
  obtain⟨j,hj,rfl,⟨z,rfl,HZ⟩,HT,kr⟩:=hrel
  by_cases hlt:j<kids.length
  · have hji:(j:Int)<(kids.length:Int):=by omega
    obtain⟨b1,o1,cs1,rfl,hcl1,hr1,d0,dd⟩:=lsr_cells hl j hlt (by decide)
    have HB:=Lib.hid (any_take_succ (fun k=>saidV k a false) kids j hlt)
    have HA:=Lib.hid (any_of_take (fun k=>saidV k a false) kids (j+1))
    have HL:=Lib.hid (all_take_succ (fun k=>saidV k a true) kids j hlt)
    have hmv:=HV.out _ (List.getElem_mem hlt)
    generalize kids[j]=m at *
    have k0r:=k1.tr kr
    obtain⟨v1,v2,v3,v4,v5,v6,rfl,g1,g2,g3,g4,g5,g6⟩:=hr1 w (K.rf w)
    have HM:Hid (∀ W,K w W->msv m (.agg (msA m v1 v2 v3 v4 v5 v6)) W):=Lib.hid fun W k=>⟨_,_,_,_,_,_,rfl,lst_st g1 k,lst_st g2 k,lst_st g3 k,lst_st g4 k,lst_st g5 k,lst_st g6 k⟩
    have q9:∀ i,i<8->wr.cell? ⟨b1,o1+j * 8+i,none⟩=(msA m v1 v2 v3 v4 v5 v6)[i]?:=fun i hi=>(dd wr k0r i hi).trans Array.getElem?_toList
    have q0:wr.cell? ⟨b1,o1+j * 8,none⟩=some (.int .i64 m.kind):=d0 wr k0r
    obtain⟨A1,c1,rfl⟩:=lst_slice g1
    obtain⟨A2,c2,rfl⟩:=lst_slice g2
    obtain⟨A3,c3,rfl⟩:=lst_slice g3
    obtain⟨A4,c4,rfl⟩:=lst_slice g4
    obtain⟨A5,c5,rfl⟩:=lst_slice g5
    obtain⟨A6,c6,rfl⟩:=lst_slice g6
    have k3:K wr (wr.alloc (.cells (msA m (.slice A1 m.votes.length c1) (.slice A2 m.asks.length c2) (.slice A3 m.entries.length c3) (.slice A4 m.prepares.length c4) (.slice A5 m.aborts.length c5) (.slice A6 m.ends.length c6)) 61)):=(K.rf wr).al _
    have hx:=Blk.new wr 61 (msA m (.slice A1 m.votes.length c1) (.slice A2 m.asks.length c2) (.slice A3 m.entries.length c3) (.slice A4 m.prepares.length c4) (.slice A5 m.aborts.length c5) (.slice A6 m.ends.length c6))
    clear dd d0 hcl1 hr1 g1 g2 g3 g4 g5 g6
    go_upto_region 6 with (fail)
    generalize wr.alloc _=w3 at *
    have kr3:=kr.tr k3
    clear q9 q0
    have q8:=hx.cell
    have C1:=Lib.hid fun W (k:K w3 W) y=>SaysC_calls m a y _ ga W (HM.out W (k1.tr (kr3.tr k))) (hb.below (kr3.tr k) hb.lt) hmv
    go_wp2_with fail
    refine (C1.out w3 (K.rf _) false).mono ?_
    rintro e w4 ⟨rfl,k4⟩
    have kr4:=kr3.tr k4
    have hx4:=(hx.below k4 hx.lt).cell
    clear q8
    cases hb0:saidV m a false
    rotate_left
    · have HF:Hid (R=2):=Lib.hid (by rw[HR.out,if_pos (HA.out (by rw[HB.out,hb0];simp))])
      have kF:=k1.tr kr4
      clear HT hb0 HZ
      go_wp2
      rw[Exit.noGoto_ret]
      go_ret
      exact⟨by rw[HF.out];rfl,kF⟩
    have HT2:Hid ((kids.take (j+1)).any (fun k=>saidV k a false)=false):=Lib.hid (by rw[HB.out,HT.out,hb0];rfl)
    clear hb0
    go_wp2_with fail
    refine (C1.out w4 k4 true).mono ?_
    rintro e w5 ⟨rfl,k5⟩
    have kr5:=kr4.tr k5
    clear hx4 C1
    cases hb1:saidV m a true
    · have HZ2:Hid ((0:Int)=if (kids.take (j+1)).all (fun k=>saidV k a true) then 1 else 0):=Lib.hid (by rw[HL.out,hb1];simp)
      clear hb1
      go_wp2
      go_roundw
      case rel=>exact⟨j+1,by omega,by go_num,⟨0,rfl,HZ2⟩,HT2,kr5⟩
      case measure=>simp[intOf];omega
    · have HZ2:Hid (z=if (kids.take (j+1)).all (fun k=>saidV k a true) then 1 else 0):=Lib.hid (by rw[HL.out,hb1,HZ.out];simp)
      clear hb1
      go_wp2
      go_roundw
      case rel=>exact⟨j+1,by omega,by go_num,⟨z,rfl,HZ2⟩,HT2,kr5⟩
      case measure=>simp[intOf];omega
  · have hji:¬ (j:Int)<(kids.length:Int):=by omega
    have HF:Hid (R=z):=Lib.hid (by
     have h1:=HT.out
     have h2:=HZ.out
     rw[List.take_of_length_le (by omega)] at h1 h2
     rw[HR.out,h1,h2];rfl)
    have kF:=k1.tr kr
    go_wp2
    go_ret
    exact⟨by rw[HF.out];rfl,kF⟩
