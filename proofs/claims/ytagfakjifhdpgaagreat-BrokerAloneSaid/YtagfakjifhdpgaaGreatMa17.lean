/-
  The walks of wal's Force, Rewrite, Records, Open (layer 10). Conditions: at most two hundred thousand records; what a disk holds are frames, and last.
-/
import Derived.Test.YtagfakjifhdpgaaGreatMa16
set_option maxRecDepth 100000
set_option maxHeartbeats 16000000
set_option linter.unusedVariables false
set_option linter.unusedSimpArgs false
namespace Go.Proofs.YtagfakjifhdpgaaGreat
open Go Go.RowKit
theorem apL_len (l:List UInt8) (rs:List (List UInt8)) (room:Nat):(apL l rs room).2=0∨(apL l rs room).1=l:=by
 unfold apL apD
 split
 · split
   · exact .inl rfl
   · exact .inr rfl
 · exact .inr rfl
theorem WForce_calls (gl gd:Nat) (vh vr v:Value) (l:List UInt8) (room:Nat) (rs:List (List UInt8)) (w:World) (h:LgV gl gd vh vr l l.length room w) (hv:Fx (LgX gl gd vh vr) (fun W=>lst byS rs v W) w) (hrs:rs.length<=200000) (hb:∀ b∈rs,b.length<=1000000000) :
 Calls Tryz.prog 208 #[.pointer (some ⟨gl,0,none⟩),v] w fun e w'=>∃ vh' vr',e=.returned (.int .i64 (apL l rs room).2)/\LgV gl gd vh' vr' (apL l rs room).1 (apL l rs room).1.length room w'/\LgU gl gd vh vr vh' vr' w w':=by
 have C1:=Lib.hid (WAppend_calls gl gd vh vr v l l.length room rs w h hv hrs hb)
 have HL:=Lib.hid (apL_len l rs room)
 obtain⟨A,c,rfl⟩:=lst_slice hv.now
 generalize apL l rs room=R at *
 clear h hv hb
 go_enter Tryz.func208,Tryz.ntmps208
 go_wp2_with fail
 refine C1.out.mono ?_
 rintro e w1 ⟨vh1,vr1,rfl,h1,u1⟩
 by_cases h0:R.2=0
 · have H1:=Lib.hid h1
   have q:=h1.blk.cell
   have C2:=Lib.hid (DSync_calls gd vh1 R.1 l.length room w1 h1.dk)
   have HU:=Lib.hid u1
   have H0:=Lib.hid h0
   rw[h0]
   clear h0 h1 u1 C1
   go_wp2_with fail
   refine C2.out.mono ?_
   rintro e w2 ⟨rfl,hd2,hu2⟩
   obtain⟨hL2,hU2⟩:=H1.out.disk hd2 hu2 (Nat.le_refl _)
   have hUU:=HU.out.tr hU2
   clear q hd2 hu2 hU2
   go_wp2
   go_ret
   first
   | exact⟨_,_,by rw[H0.out];rfl,hL2,hUU⟩
   | exact⟨by rw[H0.out];rfl,_,_,hL2,hUU⟩
 · have hne:(R.2 != 0)=true:=by simpa using h0
   have h1':LgV gl gd vh1 vr1 R.1 R.1.length room w1:=by
    have:=HL.out.resolve_left h0
    rw[this] at h1 ⊢
    exact h1
   clear h1 C1
   go_wp2
   go_ret
   first
   | exact⟨_,_,rfl,h1',u1⟩
   | exact⟨rfl,_,_,h1',u1⟩
def rwL (l:List UInt8) (rs:List (List UInt8)) (room:Nat):List UInt8×Int:=if rs.all okFr then swD l (frames rs) room else (l,30)
theorem WRewrite_calls (gl gd:Nat) (vh vr v:Value) (l:List UInt8) (room:Nat) (rs:List (List UInt8)) (w:World) (h:LgV gl gd vh vr l l.length room w) (hv:Fx (LgX gl gd vh vr) (fun W=>lst byS rs v W) w) (hrs:rs.length<=200000) (hb:∀ b∈rs,b.length<=1000000000) :
 Calls Tryz.prog 84 #[.pointer (some ⟨gl,0,none⟩),v] w fun e w'=>∃ vh' vr',e=.returned (.int .i64 (rwL l rs room).2)/\((rwL l rs room).2=0->LgV gl gd vh' vr' (rwL l rs room).1 (rwL l rs room).1.length room w')/\DkV gd vh' (rwL l rs room).1 (rwL l rs room).1.length room w'/\LgU gl gd vh vr vh' vr' w w':=by
 have HA:Hid (rwL l rs room=if rs.all okFr then swD l (frames rs) room else (l,30)):=Lib.hid rfl
 have HD:Hid (swD l (frames rs) room=if (frames rs).length<=room then (frames rs,0) else (l,90)):=Lib.hid rfl
 have HF:Hid (framedR rs=if rs.all okFr then (frames rs,0) else ([],30)):=Lib.hid rfl
 generalize rwL l rs room=R at *
 have C1:=Lib.hid (WFramed_calls rs v w hv.now hrs hb)
 have hfl:(framedR rs).1.length<=1000000000:=by
  rw[HF.out]
  split
  · rename_i ho
    have:=framesR_len rs
    rw[framesR_ok ho] at this
    simp only
    omega
  · simp
 have H:=Lib.hid h
 have HV:=Lib.hid hv
 have HRB:=Lib.hid hb
 obtain⟨A,c,rfl⟩:=lst_slice hv.now
 have q:=h.blk.cells
 clear h hv hb
 go_enter Tryz.func84,Tryz.ntmps84
 go_wp2_with fail
 refine C1.out.mono ?_
 rintro e w1 ⟨v1,rfl,ho1,k1⟩
 generalize framedR rs=F at *
 cases hok:rs.all okFr
 · have HFF:Hid (F=([],30)):=Lib.hid (by rw[HF.out,if_neg (by rw[hok];decide)])
   have HRR:Hid (R=(l,30)):=Lib.hid (by rw[HA.out,if_neg (by rw[hok];decide)])
   rw[HFF.out]
   have HH:Hid (((30:Int)=0->LgV gl gd vh vr l l.length room w1)/\DkV gd vh l l.length room w1/\LgU gl gd vh vr vh vr w w1):=Lib.hid ⟨fun e=>absurd e (by decide),(H.out.st k1).dk,LgU.rf k1⟩
   clear hok ho1 hfl
   go_wp2
   go_ret
   exact⟨vh,vr,by rw[HRR.out];rfl,by rw[HRR.out];exact HH.out⟩
 have HFF:Hid (F=(frames rs,0)):=Lib.hid (by rw[HF.out,if_pos hok])
 have HRR:Hid (R=swD l (frames rs) room):=Lib.hid (by rw[HA.out,if_pos hok])
 rw[HFF.out] at ho1 hfl ⊢
 have H1:=Lib.hid (H.out.st k1)
 obtain⟨A1,c1,rfl,-⟩:=ho1.slice
 have C2:=Lib.hid (DSwap_calls gd vh _ l (frames rs) room w1 H1.out.dk (sl_own ho1) hfl)
 have q1:=q w1 k1
 clear hok q
 go_wp2_with fail
 refine C2.out.mono ?_
 rintro e w2 ⟨vh2,rfl,hd2,hu2⟩
 obtain⟨a1,a2,a3⟩:=H1.out.apart
 have hx2:=H1.out.blk.upn hu2.up a1
 obtain⟨n,xs,hnl,hrow⟩:=H1.out.row
 replace hrow:=row_upn hrow hu2.up a2
 have HU2:Hid (LgU gl gd vh vr vh2 vr w w2):=Lib.hid ((LgU.rf k1).tr ⟨hu2.up.more fun k hk=>.inr (.inr hk),fun k hk=>by
  rcases hk with hk|hk|hk
  · exact .inl (.inl hk)
  · exact .inl (.inr (.inl hk))
  · exact (hu2.new k hk).imp (fun h=>.inr (.inr h)) id⟩)
 have hV2:Fx (LgX gl gd vh2 vr) (fun W=>lst byS rs (.slice A rs.length c) W) w2:=HV.out.to HU2.out.up (fun _ h=>h) fun k hk hx=>(HU2.out.new k hx).resolve_right (by omega)
 clear hu2 ho1 q1 HA HF C1 C2
 by_cases hfit:(frames rs).length<=room
 rotate_left
 · have HDD:Hid (swD l (frames rs) room=(l,90)):=Lib.hid (by rw[HD.out,if_neg hfit])
   rw[HDD.out] at hd2 ⊢
   have HH:Hid (((90:Int)=0->LgV gl gd vh2 vr l l.length room w2)/\DkV gd vh2 l l.length room w2/\LgU gl gd vh vr vh2 vr w w2):=Lib.hid ⟨fun e=>absurd e (by decide),hd2,HU2.out⟩
   clear hfit hd2
   go_wp2
   go_ret
   exact⟨vh2,vr,by rw[HRR.out,HDD.out];rfl,by rw[HRR.out,HDD.out];exact HH.out⟩
 have HDD:Hid (swD l (frames rs) room=(frames rs,0)):=Lib.hid (by rw[HD.out,if_pos hfit])
 rw[HDD.out] at hd2 ⊢
 have C3:=Lib.hid (WCopies_calls rs _ w2 hV2.now hrs HRB.out)
 have HD2:=Lib.hid hd2
 have q:=hx2.cells
 have hgl:=hx2.lt
 clear hfit HD hV2 HV hd2
 go_wp2_with fail
 refine C3.out.mono ?_
 rintro e w3 ⟨v3,rfl,hO3,k3⟩
 obtain⟨css,hr3,hcl3,hE3⟩:=hO3
 have hx3:=hx2.below k3 hgl
 have hne3:v3.ownBlock≠some gl:=fun e=>by have:=(hr3.lt gl e).1;omega
 have hgd:gl≠gd:=fun e=>a1 (.inl e)
 have hvg:vh2.ownBlock≠some gl:=fun e=>by
  obtain⟨cur,h1⟩:=row_blk HD2.out.own e
  exact absurd (h1.unlike hx2) (by decide)
 have u9:UpN (fun k=>k=gl) w3 (w3.setCell ⟨gl,1,none⟩ v3):=UpN.set1 (X:=fun k=>k=gl) rfl 1 _
 have hd3:=HD2.out.st k3
 have hV:LgV gl gd vh2 v3 (frames rs) (frames rs).length room (w3.setCell ⟨gl,1,none⟩ v3) :=
  ⟨⟨hd3.blk.upn u9 fun e=>hgd e.symm,row_upn hd3.own u9 fun k hk e=>hvg (by rw[hk,e]),hd3.len,hd3.room⟩,hx3.set_ 1 v3,_,_,frames_cnt rs,row_base (Nat.zero_le _) (row_upn hr3 u9 fun k hk e=>hne3 (by rw[hk,e]))⟩
 have hU:LgU gl gd vh vr vh2 v3 w (w3.setCell ⟨gl,1,none⟩ v3):=by
  refine HU2.out.tr ⟨(UpN.of_k k3 _).tr (UpN.set1 (.inl rfl) 1 _),fun k hk=>?_⟩
  rcases hk with hk|hk|hk
  · exact .inl (.inl hk)
  · exact .inr (hr3.lt k hk).1
  · exact .inl (.inr (.inr hk))
 have HH:Hid (((0:Int)=0->LgV gl gd vh2 v3 (frames rs) (frames rs).length room (w3.setCell ⟨gl,1,none⟩ v3))/\DkV gd vh2 (frames rs) (frames rs).length room (w3.setCell ⟨gl,1,none⟩ v3)/\LgU gl gd vh vr vh2 v3 w (w3.setCell ⟨gl,1,none⟩ v3)):=Lib.hid ⟨fun _=>hV,hV.dk,hU⟩
 obtain⟨A3,c3,rfl⟩:=lst_slice (OwnY.lst ⟨css,hr3,hcl3,hE3⟩)
 have q3:=hx3.cell
 have z3:=hx3.frozen
 clear q hx2 hx3 hd3 hV hU hr3 hE3 u9 hrow
 go_wp2
 go_ret
 exact⟨_,_,by rw[HRR.out,HDD.out];rfl,by rw[HRR.out,HDD.out];exact⟨fun _=>HH.out.1 (by first|trivial|rfl),HH.out.2⟩⟩
theorem WRecords_calls (gl:Nat) (vd vr:Value) (rs:List (List UInt8)) (w:World) (hx:Blk w gl 227 #[vd,vr]) (hv:lst byS rs vr w) (hrs:rs.length<=200000) (hb:∀ b∈rs,b.length<=1000000000) :
 Calls Tryz.prog 82 #[.pointer (some ⟨gl,0,none⟩)] w fun e w'=>∃ v',e=.returned v'/\OwnY (fun k=>k<w.heap.size) w.heap.size 62 byS rs v' w'/\K w w':=by
 have C1:=Lib.hid (WCopies_calls rs vr w hv hrs hb)
 obtain⟨A,c,rfl⟩:=lst_slice hv
 have q:=hx.cell
 clear hv
 go_enter Tryz.func82,Tryz.ntmps82
 go_wp2_with fail
 refine C1.out.mono ?_
 rintro e w1 ⟨v1,rfl,hO,k1⟩
 go_wp2
 go_ret
 exact⟨_,rfl,hO,k1⟩
theorem WOpen_calls (gd:Nat) (vh:Value) (rs:List (List UInt8)) (room:Nat) (w:World) (h:DkV gd vh (frames rs) (frames rs).length room w) (hok:∀ b∈rs,okFr b=true) :
 Calls Tryz.prog 80 #[.pointer (some ⟨gd,0,none⟩)] w fun e w'=>∃ gl vr,e=.returned (.tuple #[.pointer (some ⟨gl,0,none⟩),.int .i64 0])/\w.heap.size<=gl/\Blk w' gl 227 #[.pointer (some ⟨gd,0,none⟩),vr]/\OwnY (fun k=>k<w.heap.size) w.heap.size 62 byS rs vr w'/\DkV gd vh (frames rs) (frames rs).length room w'/\UpN (DkX gd vh) w w':=by
 have hlr:=h.len
 have hrr:=h.room
 have C1:=Lib.hid (DRead_calls gd vh (frames rs) (frames rs).length room w h)
 have H:=Lib.hid h
 clear h
 go_enter Tryz.func80,Tryz.ntmps80
 go_wp2_with fail
 refine C1.out.mono ?_
 rintro e w1 ⟨v1,rfl,ho1,k1⟩
 have hsl:∃ A c,v1=.slice A (frames rs).length c/\Reads w1 w1.heap.size 1 A (frames rs).length (bys (frames rs))/\(frames rs).length<=c:=by
  have ho1':w1.ownsRow w.heap.size 5 1 v1 (frames rs).length (bys (frames rs)):=ho1
  have ho2:=ho1'
  rcases ho1'.2 with ⟨rfl,h0⟩|⟨g,cap,cur,rfl,-,-,h1,-⟩
  · exact⟨_,_,by rw[h0],by rw[h0] at ho2 ⊢;exact Reads.of_own ho2,by omega⟩
  · exact⟨_,_,rfl,Reads.of_own ho2,h1⟩
 obtain⟨A1,c1,rfl,hR1,hlc1⟩:=hsl
 have C2:=Lib.hid (FScan_calls rs _ w1 A1 c1 rfl hR1 hlc1 (by omega) hok)
 clear C1 ho1 hok
 go_wp2_with fail
 refine C2.out.mono ?_
 rintro e w2 ⟨v2,rfl,hO2,k2⟩
 have k02:=k1.tr k2
 have C3:=Lib.hid (DCut_calls gd vh (frames rs) (frames rs).length room w2 (H.out.st k02))
 have HO2:=Lib.hid hO2
 clear C2 hO2
 go_wp2_with fail
 refine C3.out.mono ?_
 rintro e w3 ⟨rfl,hd3,hu3⟩
 have hDX:=H.out.lt
 have hz1:=k1.size
 have hO3:OwnY (fun k=>k<w.heap.size) w.heap.size 62 byS rs v2 w3:=((HO2.out.less fun k hk=>Nat.lt_of_lt_of_le hk hz1).up hu3.up (fun k hk=>hDX k hk) (fun k hk=>by have:=hDX k hk;omega)).low hz1
 have hz3:w.heap.size<=w3.heap.size:=Nat.le_trans k02.size hu3.up.size
 have ka:=(K.rf w3).al (.cells #[.pointer (some ⟨gd,0,none⟩),v2] 227)
 have hb:=Blk.new w3 227 #[.pointer (some ⟨gd,0,none⟩),v2]
 have hO4:=hO3.st ka
 have hd4:=hd3.st ka
 have hu4:UpN (DkX gd vh) w (w3.alloc (.cells #[.pointer (some ⟨gd,0,none⟩),v2] 227)):=((UpN.of_k k02 _).tr hu3.up).tr (UpN.of_k ka _)
 clear hO3 hd3 hu3 ka HO2 C3
 obtain⟨A2,c2,rfl⟩:=hO4.slice
 go_wp2
 go_ret2
 exact⟨_,_,rfl,hz3,hb,hO4,hd4,hu4⟩
theorem stoR_0 (base:Nat) (w:World):StoR base st0 (.slice none 0 0) (.slice none 0 0) (.slice none 0 0) [] [] w :=
 ⟨World.ownsRow_nil _ _ _ _,World.ownsRow_nil _ _ _ _,World.ownsRow_nil _ _ _ _,fun b h=>by simp[Value.ownBlock] at h,rfl,rfl,fun _ _=>⟨Each.nil _ _,Each.nil _ _⟩⟩
theorem StoR.base {base base':Nat} {s:Stt} {vl vp va:Value} {c1 c2:List (List Value)} {W:World} (h:StoR base s vl vp va c1 c2 W) (hb:base'<=base):StoR base' s vl vp va c1 c2 W :=
 ⟨row_base hb h.l,row_base hb h.p,row_base hb h.a,h.ne,h.len1,h.len2,fun W' u=>h.el W' (u.more fun k e=>e.imp (fun h=>by omega) id)⟩
theorem All_own (l:List (List UInt8)) (v:Value) (w:World) (h:lst byS l v w) (hlen:l.length<=800000) (hb:∀ b∈l,b.length<=1000000000) :
 Calls Tryz.prog 81 #[v] w fun e w'=>∃ vl vp va c1 c2,e=.returned (.tuple #[.agg (stA (allS l).1 vl vp va),.int .i64 (allS l).2])/\StoR w.heap.size (allS l).1 vl vp va c1 c2 w'/\K w w':=by
 obtain⟨D,d,rfl,hl,-⟩:=h
 have HL:=Lib.hid hl
 generalize ho:allS l=o
 have HO:=Lib.hid ho
 obtain⟨so,co⟩:=o
 clear ho
 have HB:=Lib.hid hb
 have hr0:=(Blk.new w 53 zSt).alloc (.cells zSt 53)
 have hs0:=Blk.new (w.alloc (.cells zSt 53)) 53 zSt
 have k0:K w ((w.alloc (.cells zSt 53)).alloc (.cells zSt 53)):=((K.rf w).al _).al _
 rw[World.size_alloc] at hs0
 clear hl hb
 go_enter Tryz.func81,Tryz.ntmps81
 go_wp2
 go_step3
 go_wp2_with fail
 go_step3
 generalize World.alloc (World.alloc w _) _=w0 at *
 generalize hgp:w.heap.size=gp at hr0 hs0 ⊢
 obtain⟨base,hbase⟩:∃ b,b=gp+1:=⟨_,rfl⟩
 have HS0:=Lib.hid (show Sto base (gp+1) st0 w0 from ⟨_,_,_,_,_,StoV.empty hs0 (by omega) (World.ownsRow_nil _ _ _ _)⟩)
 have hlow:base<=w0.heap.size:=by have:=hs0.lt;omega
 have kk:Below base w0 w0:=Below.refl _ _
 clear hs0
 go_wp2_with fail
 go_loopw [5,7,8,9,12] (fun f _ _ _ i W=>∃ j:Nat,j<=l.length/\i=.int .i64 (j:Int)/\f=.int .i64 0/\Hid ((allG st0 (l.take j)).2=0)/\Hid (Sto base (gp+1) (allG st0 (l.take j)).1 W)/\Below base w0 W) (fun _ _ _ _ i _=>l.length - (intOf i).toNat)
 case atStart=>exact⟨0,by omega,rfl,rfl,Lib.hid (by simp[allG]),Lib.hid (by simpa [allG] using HS0.out),kk⟩
 case round =>
  clear kk HS0
  obtain⟨j,hj,rfl,rfl,HZ,HSj,kb⟩:=hrel
  have kr:K w wr:=k0.trans (kb.mono (by omega))
  by_cases hlt:j<l.length
  · have hji:(j:Int)<(l.length:Int):=by omega
    obtain⟨b1,off,cs,rfl,hcl,hrl,d0,-⟩:=lsr_cells HL.out j hlt (by decide)
    have HN:=Lib.hid (allG_next hlt HZ.out)
    have HBD:=Lib.hid (fun c=>allS_bad hlt HZ.out (c:=c))
    have hbl:=HB.out _ (List.getElem_mem hlt)
    have hsz:=allG_len (l.take j) st0
    simp only[List.length_take,show st0.list.length=0 from rfl,show st0.prom.length=0 from rfl,show st0.ab.length=0 from rfl] at hsz
    generalize l[j]=b at *
    generalize (allG st0 (l.take j)).1=s at *
    obtain⟨vb,rfl,hsl⟩:=hrl wr kr
    have hv:∃ A c,vb=.slice A b.length c:=by obtain⟨A,c,h,_⟩:=hsl;exact⟨A,c,h⟩
    obtain⟨Ab,cb,rfl⟩:=hv
    have q0:wr.cell? ⟨b1,off+j,none⟩=some (.slice Ab b.length cb):=by
     have:=d0 wr kr
     simpa [byS] using this
    have C1:=Lib.hid (Unpack_calls b _ wr hsl hbl)
    clear hrl hcl d0 hsl
    go_wp2_with fail
    refine C1.out.mono ?_
    rintro e w2 ⟨v',rfl,hrc,k2⟩
    have HRC:=Lib.hid hrc
    obtain⟨vf,ve,rfl,hf,he⟩:=hrc w2 (UpB.rf _ _ _)
    obtain⟨Af,cf,rfl⟩:=flt_slice hf
    obtain⟨Ae,ce,rfl⟩:=lst_slice he
    have hx3:=Blk.new w2 219 (recA (decRecX b) (.slice Af (decRecX b).e.f.length cf) (.slice Ae (decRecX b).e.es.length ce))
    have k3:K w2 (w2.alloc (.cells (recA (decRecX b) (.slice Af (decRecX b).e.f.length cf) (.slice Ae (decRecX b).e.es.length ce)) 219)):=(K.rf w2).al _
    have kr3:=k2.tr k3
    have hone:Hid (oneG s b=if decRecC b=0 then stepS s (decRecX b) else (s,decRecC b)):=Lib.hid rfl
    have HDR:=Lib.hid (@decRecC_ok b)
    clear hrc hf he C1 q0
    generalize decRecC b=c at *
    by_cases hc:c=0
    · subst hc
      obtain⟨x,hx1,hx2⟩:=HDR.out rfl
      have HFX:=Lib.hid (decRec_fit hx1)
      have HOX:=Lib.hid (okRec_small (decRec_back hx1).2)
      rw[hx2] at hone HRC hx3 k3 kr3 ⊢
      clear hx1 hx2 HDR
      go_upto_region 8 with (fail)
      generalize w2.alloc _=w3 at *
      generalize w2.heap.size=g8 at hx3 ⊢
      obtain⟨vl,vp,va,c1,c2,hS⟩:=HSj.out
      have hV:=hS.st kr3
      have hgw:=hS.blk.lt
      have hOn:OnH base (gp+1) s x vl vp va (.agg (recA x (.slice Af x.e.f.length cf) (.slice Ae x.e.es.length ce))) c1 c2 w3 :=
       ⟨hV,fun W u=>HRC.out W ((UpB.of_k k3 _ _).tr (u.upB fun k h1 _ _ e=>by
        rcases e with e|e|e|e
        · omega
        · have:=(hS.rowl e).2.1;omega
        · have:=(hS.rowp e).2.1;omega
        · have:=(hS.rowa e).2.1;omega)),by have:=kb.size;have:=kr3.size;omega,⟨by omega,by omega,by omega⟩,HOX.out,HFX.out⟩
      have C2:=Lib.hid (On_calls w3 hOn)
      have q3:=hx3.cell
      have kb3:=kb.trans (kr3.mono (Nat.le_trans hlow kb.size))
      clear hOn hV hS HSj HRC hx3 k3
      go_wp2_with fail
      refine C2.out.mono ?_
      rintro e w4 ⟨rfl,hS4,hb4⟩
      have HS4:=Lib.hid hS4
      have kb4:=kb3.trans hb4
      have hone2:=hone.out.trans (if_pos (by simp))
      have HONE:=Lib.hid hone2
      clear hS4 q3 C2 hone hone2
      generalize stepS s x=o at *
      obtain⟨s',e'⟩:=o
      by_cases he':e'=0
      · subst he'
        have HN2:Hid ((allG st0 (l.take (j+1))).2=0):=Lib.hid (by rw[HN.out,HONE.out])
        have HS5:Hid (Sto base (gp+1) (allG st0 (l.take (j+1))).1 w4):=Lib.hid (by rw[HN.out,HONE.out];exact HS4.out)
        go_wp2
        go_roundw
        case rel=>exact⟨j+1,by omega,by go_num,rfl,HN2,HS5,kb4⟩
        case measure=>simp[intOf];omega
      · have HQ:=HBD.out e' (by rw[HONE.out]) he'
        rw[HO.out] at HQ
        obtain⟨rfl,rfl⟩:=Prod.mk.inj HQ
        clear HQ HBD HN HS4
        have hr9:=(hr0.below kb4 (by omega))
        have z:=hr9.frozen
        have qz:=hr9.cell
        have kw9:=k0.trans (kb4.mono (by omega))
        clear hr0 hlt hji
        go_wp2
        have hr91:Blk (World.setCell (World.setCell (World.setCell (World.setCell w4 _ _) _ _) _ _) _ _) gp 53 zSt:=(((hr9.set_ 0 (.int .u64 0)).set_ 1 (.slice none 0 0)).set_ 2 (.slice none 0 0)).set_ 3 (.slice none 0 0)
        have kS:=K.set (K.set (K.set (K.set kw9 (r:=gp) (by omega) 0 (.int .u64 0)) (r:=gp) (by omega) 1 (.slice none 0 0)) (r:=gp) (by omega) 2 (.slice none 0 0)) (r:=gp) (by omega) 3 (.slice none 0 0)
        clear z qz hr9
        generalize World.setCell (World.setCell (World.setCell (World.setCell w4 _ _) _ _) _ _) _ _=W9 at *
        have e9:=hr91.cell
        try rw[Exit.noGoto_ret]
        refine bodyPost_ret (v:=.tuple #[.agg zSt,.int .i64 co]) (by simp[results,Tryz.results81,go_sem,e9]) rfl ?_
        exact⟨_,_,_,_,_,rfl,stoR_0 _ _,kS⟩
    · have HQ:=HBD.out c (by rw[hone.out,if_neg hc]) hc
      rw[HO.out] at HQ
      obtain⟨rfl,rfl⟩:=Prod.mk.inj HQ
      have kb3:=kb.trans (kr3.mono (Nat.le_trans hlow kb.size))
      go_upto_region 7 with (fail)
      generalize w2.alloc _=w3 at *
      clear HQ HBD HN HSj hx3 k3 HRC
      have hr9:=(hr0.below kb3 (by omega))
      have z:=hr9.frozen
      have qz:=hr9.cell
      have kw9:=k0.trans (kb3.mono (by omega))
      clear hr0 hlt hji
      go_wp2
      have hr91:Blk (World.setCell (World.setCell (World.setCell (World.setCell w3 _ _) _ _) _ _) _ _) gp 53 zSt:=(((hr9.set_ 0 (.int .u64 0)).set_ 1 (.slice none 0 0)).set_ 2 (.slice none 0 0)).set_ 3 (.slice none 0 0)
      have kS:=K.set (K.set (K.set (K.set kw9 (r:=gp) (by omega) 0 (.int .u64 0)) (r:=gp) (by omega) 1 (.slice none 0 0)) (r:=gp) (by omega) 2 (.slice none 0 0)) (r:=gp) (by omega) 3 (.slice none 0 0)
      clear z qz hr9
      generalize World.setCell (World.setCell (World.setCell (World.setCell w3 _ _) _ _) _ _) _ _=W9 at *
      have e9:=hr91.cell
      try rw[Exit.noGoto_ret]
      refine bodyPost_ret (v:=.tuple #[.agg zSt,.int .i64 co]) (by simp[results,Tryz.results81,go_sem,e9]) rfl ?_
      exact⟨_,_,_,_,_,rfl,stoR_0 _ _,kS⟩
  · have hji:¬ (j:Int)<(l.length:Int):=by omega
    have HQ:=HZ.out
    rw[List.take_of_length_le (by omega)] at HQ HSj
    have HQ:=allS_good HQ
    rw[HO.out] at HQ
    obtain⟨hso,rfl⟩:=Prod.mk.inj HQ
    rw[<- hso] at HSj
    obtain⟨vl,vp,va,c1',c2',hS4⟩:=HSj.out
    obtain⟨⟨El,fl,rfl⟩,⟨Ep,fp,rfl⟩,Ea,fa,rfl⟩:=hS4.slices
    have q:=hS4.blk.cell
    have hr9:=hr0.below kb (by omega)
    have z:=hr9.frozen
    have qz:=hr9.cell
    have HR:=Lib.hid hS4.r
    clear hS4 HSj hr0 HQ HZ hlt HO hso
    go_wp2
    have hr91:Blk (World.setCell (World.setCell (World.setCell (World.setCell wr _ _) _ _) _ _) _ _) gp 53 (stA so (.slice El so.list.length fl) (.slice Ep so.prom.length fp) (.slice Ea so.ab.length fa)):=(((hr9.set_ 0 (.int .u64 (so.life:Int))).set_ 1 (.slice El so.list.length fl)).set_ 2 (.slice Ep so.prom.length fp)).set_ 3 (.slice Ea so.ab.length fa)
    have kS:=K.set (K.set (K.set (K.set kr (r:=gp) (by omega) 0 (.int .u64 (so.life:Int))) (r:=gp) (by omega) 1 (.slice El so.list.length fl)) (r:=gp) (by omega) 2 (.slice Ep so.prom.length fp)) (r:=gp) (by omega) 3 (.slice Ea so.ab.length fa)
    have uS:=(((UpN.setF (X:=fun k=>k<base) (g:=gp) (i:=0) (by omega) wr (.int .u64 (so.life:Int))).tr (UpN.setF (X:=fun k=>k<base) (g:=gp) (i:=1) (by omega) _ (.slice El so.list.length fl))).tr (UpN.setF (X:=fun k=>k<base) (g:=gp) (i:=2) (by omega) _ (.slice Ep so.prom.length fp))).tr (UpN.setF (X:=fun k=>k<base) (g:=gp) (i:=3) (by omega) _ (.slice Ea so.ab.length fa))
    clear q z qz hr9
    generalize World.setCell (World.setCell (World.setCell (World.setCell wr _ _) _ _) _ _) _ _=W9 at *
    have e9:=hr91.cell
    try rw[Exit.noGoto_ret]
    refine bodyPost_ret (v:=.tuple #[.agg (stA so (.slice El so.list.length fl) (.slice Ep so.prom.length fp) (.slice Ea so.ab.length fa)),.int .i64 0]) (by simp[results,Tryz.results81,go_sem,e9]) rfl ?_
    exact⟨_,_,_,_,_,rfl,(HR.out.low uS).base (by omega),kS⟩
def owB (lo:Nat) (l:List UInt8) (v:Value) (w:World):Prop:=Own w lo 5 v l
theorem owB_st (lo:Nat) (l:List UInt8):∀ v w w',owB lo l v w->Below w.heap.size w w'->owB lo l v w':=fun _ _ _ h k=>row_below h k
theorem Pack_new (x:Rec) (v:Value) (w:World) (h:rcd x v w) (hfit:fitRec x) :
 Calls Tryz.prog 166 #[v] w fun e w' =>
  ∃ v',e=.returned (.tuple #[v',.int .i64 (chkRec x)])/\Own w' w.heap.size 5 v' (encRecR x)/\K w w':=by
 have HC:=Lib.hid fun W h=>May_calls x v W h
 have h':=h
 obtain⟨vf,ve,rfl,hf,he⟩:=h
 have hx:=Blk.new w 219 (recA x vf ve)
 have k1:K w (w.alloc (.cells (recA x vf ve) 219)):=(K.rf w).al _
 have HEn:=Lib.hid (rcd_al h')
 clear h'
 obtain⟨hik,hin,hfe,hib,hil,his⟩:=hfit
 cases hok:okRec x
 · have HE:Hid (chkRec x=110):=Lib.hid (by simp[chkRec,hok])
   have HR:Hid (encRecR x=[]):=Lib.hid (by simp[encRecR,hok])
   rw[hok] at HC
   clear hok
   go_enter Tryz.func166,Tryz.ntmps166
   go_wp2_with fail
   generalize w.alloc _=w1 at *
   refine (HC.out _ (HEn.out _ k1)).mono ?_
   rintro e w2 ⟨rfl,k2⟩
   go_wp2
   go_ret2
   exact⟨_,by rw[HE.out];rfl,by rw[HR.out];exact World.ownsRow_nil _ _ _ _,k1.tr k2⟩
 have HE:Hid (chkRec x=0):=Lib.hid (by simp[chkRec,hok])
 have HR:Hid (encRecR x=encRec x):=Lib.hid (by simp[encRecR,hok])
 have hkk:=okRec_kind hok
 rw[hok] at HC
 have H1:=Lib.hid fun h=>encRec_1 (x:=x) h
 have H2:=Lib.hid fun h=>encRec_23 (x:=x) h
 have H4:=Lib.hid fun h=>encRec_45 (x:=x) h
 clear hok
 obtain⟨k,n,x,b,l,s⟩:=x
 simp only at hx k1 hf he hik hin hfe hib hil his hkk HE HR HC HEn H1 H2 H4 ⊢
 generalize encRecR ⟨k,n,x,b,l,s⟩=R at *
 generalize encRec ⟨k,n,x,b,l,s⟩=E at *
 generalize chkRec ⟨k,n,x,b,l,s⟩=C at *
 have he0:∀ W,K w W->ent x (.agg (entA x vf ve)) W:=fun W k=>⟨vf,ve,rfl,flt_st _ _ _ _ hf k,lst_st he k⟩
 have hk5:k=1∨(k=2∨k=3)∨k=4∨k=5:=by omega
 have hoe:k=2∨k=3->okEn x=true:=by
  intro hk
  rcases hkk with h|h|h
  · omega
  · exact h.2.1
  · omega
 clear hkk
 go_enter Tryz.func166,Tryz.ntmps166
 go_wp2_with fail
 generalize w.alloc _=w1 at *
 have hz1:=k1.size
 obtain⟨lo,HLO⟩:∃ lo,Hid (lo=w.heap.size):=⟨_,Lib.hid rfl⟩
 rw[<- HLO.out] at hz1
 have HG:Hid (∀ W,K w W->lo<=W.heap.size):=Lib.hid fun W k=>by rw[HLO.out];exact k.size
 generalize w.heap.size=g at hx ⊢
 have qx:=hx.cells
 refine (HC.out _ (HEn.out _ k1)).mono ?_
 rintro e w2 ⟨rfl,k2⟩
 clear hf he HC HEn
 go_upto_region 3 with (fail)
 have qx2:=fun W (kW:K w2 W)=>qx W (k2.tr kW)
 have hz2:lo<=w2.heap.size:=Nat.le_trans hz1 k2.size
 have p0:=packN_len (kindN k) (kindN_lt k)
 have p1:=packN_len n hin
 refine wp_region_K [isV (.pointer (some ⟨g,0,none⟩)),
  isV (.int .i64 (k)),
  isV (.int .u64 (kindN k:Nat)),
  sl (packN (kindN k)),
  isV (.pointer (some ⟨g,1,none⟩)),
  isV (.int .u64 (n:Int)),
  owB lo (packN (kindN k)++packN n),
  owB lo (packN (kindN k)++packN n)]
  [([],[]),([0],[(10,0)]),([1],[(11,1)]),([2],[(12,2)]),([],[]),([4],[(14,4)]),([3,5],[(13,3),(15,5)]),([6],[(16,6)])] 42 rfl (by kernel_rfl) (by kernel_rfl) (by kernel_rfl) ?st3 ?ow3 ?_
 case st3 =>
  simp only[List.forall_mem_cons]
  and_intros
  all_goals first|exact isV_st _|exact sl_st _|exact owB_st _ _|exact anyV_st|simp
 case ow3 =>
  simp only[OwedQ]
  and_intros
  all_goals try trivial
  all_goals
   intro V W kW hp
   try simp only[List.forall_mem_cons,tab_zero,tab_succ,isV] at hp
   try simp[wantsG,rhoP,List.lookup,hp,tab_zero,tab_succ,ResG,execOp,bareOp,isV,Below.refl,kW,qx2,go_sem]
  · exact u64_wrap k
  · refine (Number_sl (kindN k) (sl_nil W) (kindN_lt k) (by simp)).mono ?_
    rintro e w'' ⟨v',rfl,ho,hb⟩
    rw[List.nil_append] at ho
    exact⟨v',rfl,sl_own ho,hb⟩
  · refine (Number_sl n hp.1 hin (by omega)).mono ?_
    rintro e w'' ⟨v',rfl,ho,hb⟩
    exact⟨v',rfl,row_base (Nat.le_trans hz2 kW.size) ho,hb⟩
 intro V w3 k3 hp
 have h7:=hp 7 (by simp)
 simp only[tab_zero,tab_succ] at h7
 clear hp
 simp only[putAll,Act.put,List.setIfInBounds_toArray,List.set_cons_succ,List.set_cons_zero]
 generalize V 7=v3 at *
 have h7o:=Lib.hid h7
 replace h7:=sl_own h7
 clear qx2
 have hl3:(packN (kindN k)++packN n).length<=100:=by simp;omega
 have k03:=k1.tr (k2.tr k3)
 replace k2:=k2.tr k3
 clear k3
 generalize packN (kindN k)++packN n=b3 at *
 obtain hk1|hk23|hk45:=hk5
 · subst hk1
   have h7p:=h7o.out
   rw[<- H1.out rfl,<- HR.out] at h7p
   have h7p:=Lib.hid h7p
   clear H1 H2 H4
   go_wp2
   go_ret2
   exact⟨_,by rw[HE.out];rfl,by rw[<- HLO.out];exact h7p.out,k03⟩
 · have hokx:=hoe hk23
   have HRR:=Lib.hid (HR.out.trans (H2.out hk23))
   have hc1:=chkEn_good hokx
   have hc2:encEnR x=encEn x:=by simp[encEnR,hokx]
   have hne1:(chkEn x != 0)=false:=by rw[hc1];rfl
   have hlx:=encEn_len hokx hfe
   clear H1 H2 H4 HR
   go_upto_region 5 with (fail)
   rcases hk23 with rfl|rfl
   all_goals
    go_wp2_with fail
    refine (NEncode_calls x _ _ (he0 _ k03) hfe).mono ?_
    rintro e w4 ⟨v4,rfl,ho4,k4⟩
    rw[hc2] at ho4
    have h4:=sl_own ho4
    have h74:=sl_st _ _ _ _ h7 k4
    replace k03:=k03.tr k4
    clear ho4 h7
    go_wp2_with fail
    refine (Bytes_sl h74 h4 (by omega) (by omega)).mono ?_
    rintro e w5 ⟨v5,rfl,ho5,k5⟩
    have kb5:=k03
    rw[<- HRR.out] at ho5
    have h5:=Lib.hid (show owB lo R v5 w5 from row_base (HG.out _ kb5) ho5)
    replace k03:=k03.tr k5
    clear h74 h4 ho5
    go_wp2
    go_ret2
    exact⟨_,by rw[HE.out];rfl,by rw[<- HLO.out];exact h5.out,k03⟩
 · have HRR:=Lib.hid (HR.out.trans (H4.out hk45))
   clear H1 H2 H4 HR
   go_upto_region 5 with (fail)
   rcases hk45 with rfl|rfl
   all_goals
    go_wp2_with fail
    refine (Nnumber_calls _ _ (b,l,s) _ h7 (by omega) ⟨hib,hil,his⟩).mono ?_
    rintro e w4 ⟨v4,rfl,ho4,k4⟩
    have kb5:=k03
    rw[<- HRR.out] at ho4
    have h4:=Lib.hid (show owB lo R v4 w4 from row_base (HG.out _ kb5) ho4)
    replace k03:=k03.tr k4
    clear ho4 h7
    go_wp2
    go_ret2
    exact⟨_,by rw[HE.out];rfl,by rw[<- HLO.out];exact h4.out,k03⟩
theorem Records_new (s:Stt) (v:Value) (w:World) (h:stv s v w) (hz:s.list.length<=300000/\s.prom.length<=300000/\s.ab.length<=300000) (hok:∀ r∈recsS s,okRec r=true/\fitRec r) :
 Calls Tryz.prog 83 #[v] w fun e w'=>∃ v',e=.returned (.tuple #[v',.int .i64 0])/\OwnL w.heap.size w.heap.size 62 byS ((recsS s).map encRec) v' w'/\K w w':=by
 obtain⟨vl,vp,va,rfl,hl,hp,ha⟩:=h
 obtain⟨Al,cl,rfl,hl,-⟩:=hl
 obtain⟨Ap,cp,rfl,hp,-⟩:=hp
 obtain⟨Aa,ca,rfl,ha,-⟩:=ha
 have hx0:=Blk.new w 53 (stA s (.slice Al s.list.length cl) (.slice Ap s.prom.length cp) (.slice Aa s.ab.length ca))
 have k1:K w (w.alloc (.cells (stA s (.slice Al s.list.length cl) (.slice Ap s.prom.length cp) (.slice Aa s.ab.length ca)) 53)):=(K.rf w).al _
 have HL:=Lib.hid hl
 have HP:=Lib.hid hp
 have HA:=Lib.hid ha
 have HOK:=Lib.hid hok
 have H1L:=rec1_len s.life
 obtain⟨R1,hR1⟩:∃ R,R=rec1 s.life:=⟨_,rfl⟩
 have hS:recsS s=R1++recL s.list++recP s.prom++recB s.ab:=by rw[hR1];rfl
 generalize recsS s=RS at *
 have HS:=Lib.hid hS
 have HR1:=Lib.hid hR1
 rw[<- hR1] at H1L
 clear hl hp ha hok hR1 hS
 go_enter Tryz.func83,Tryz.ntmps83
 go_upto_region 2 with (fail)
 generalize w.alloc _=w1 at *
 generalize hgp:w.heap.size=gp at hx0 ⊢
 obtain⟨base,hbase⟩:∃ b,Hid (b=w1.heap.size):=⟨_,Lib.hid rfl⟩
 have qp:=hx0.cells
 have kk:=K.rf w1
 have qz:=hx0.cell
 clear hx0
 go_upto_if 18 with (fail)
 go_cut [4] from 18 to 24 (fun v4 W=>Hid (OwnL base 0 219 recS R1 v4 W)/\K w1 W)
 case first =>
  by_cases h0:s.life=0
  · have HQ:Hid (R1=[]):=Lib.hid (by rw[HR1.out,rec1,if_pos h0])
    have h0i:((s.life:Int) != 0)=false:=by rw[h0];rfl
    clear h0
    go_wp2
    go_meet
    case rel=>exact⟨Lib.hid (by rw[HQ.out];exact OwnL.nil _ _ _ _ _),kk⟩
  · have HQ:Hid (R1=[⟨1,s.life,ent0,0,0,0⟩]):=Lib.hid (by rw[HR1.out,rec1,if_neg h0])
    have h0i:((s.life:Int) != 0)=true:=by simp;omega
    have kA:K w1 (w1.alloc (.cells (recA ⟨1,s.life,ent0,0,0,0⟩ (.slice none 0 0) (.slice none 0 0)) 219)):=(K.rf w1).al _
    have hbase2:base<=(w1.alloc (.cells (recA ⟨1,s.life,ent0,0,0,0⟩ (.slice none 0 0) (.slice none 0 0)) 219)).heap.size:=by rw[hbase.out];exact kA.size
    clear h0
    go_wp2_with (at_builtin;refine wpList_app rfl _ _ 233 rfl base 219 _ 13 136 TRec (.slice none 0 0) 0 [] rfl (World.ownsRow_nil _ _ _ _) (w1.heap.size+1) _ 1 1 (recA ⟨1,s.life,ent0,0,0,0⟩ (.slice none 0 0) (.slice none 0 0)).toList rfl ?c1 ?c2 ?c3 hbase2 ?_)
    case c1=>exact Reads.new w1 (recA ⟨1,s.life,ent0,0,0,0⟩ (.slice none 0 0) (.slice none 0 0)).toList 219 13 1 rfl
    case c2=>and_intros <;> rfl
    case c3=>omega
    intro v9 w9 hown9 hg9 hat9 hb9
    have k9:K w1 w9:=kA.trans (hb9.mono (by rw[hbase.out];exact Nat.le_refl _))
    have hO9:OwnL base 0 219 recS R1 v9 w9:=by
     rw[HQ.out]
     exact OwnL.snoc (S:=recS) (l:=[]) (css:=[]) (lo:=0) rfl (fun w' u=>Each.nil _ _) hown9 hg9 (by rw[World.size_alloc];exact hat9) (fun w' u=>⟨_,_,rfl,⟨none,0,rfl,Reads.nil _ _ _ _⟩,lst_nil _ _⟩)
    have HO9:=Lib.hid hO9
    clear hown9 hg9 hat9 hb9 hO9 hbase2 kA
    go_wp2
    go_meet
    case rel=>exact⟨HO9,k9⟩
 case rest =>
 obtain⟨HO0,kk⟩:=hcut
 clear qz
 go_wp2_with fail
 go_loopw [4,5,6,28] (fun v4 _ _ i W=>∃ j:Nat,j<=s.list.length/\i=.int .i64 (j:Int)/\Hid (OwnL base 0 219 recS (R1++recL (s.list.take j)) v4 W)/\K w1 W) (fun _ _ _ i _=>s.list.length - (intOf i).toNat)
 case atStart=>exact⟨0,by omega,rfl,Lib.hid (by simpa [recL] using HO0.out),kk⟩
 case round =>
  clear kk HO0
  obtain⟨j,hj,rfl,HOj,kr⟩:=hrel
  by_cases hlt:j<s.list.length
  · have hji:(j:Int)<(s.list.length:Int):=by omega
    obtain⟨b1,off,cs,rfl,hcl1,hrl,d0,d⟩:=lsr_cells HL.out j hlt (by decide)
    have HT:=Lib.hid (recL_snoc s.list j hlt)
    have HLN:Hid ((R1++recL (s.list.take j)).length<=900001):=Lib.hid (by simp only[List.length_append,recL_len,List.length_take];omega)
    generalize s.list[j]=x at *
    have kwr:=k1.tr kr
    obtain⟨vf,ve,rfl,hf,he⟩:=hrl w (K.rf w)
    have HEN:Hid (∀ W,K w W->ent x (.agg (entA x vf ve)) W):=Lib.hid fun W k=>by
     obtain⟨vf',ve',e,h1,h2⟩:=hrl W k
     simp at e
     obtain⟨rfl,rfl⟩:=e
     exact⟨_,_,rfl,h1,h2⟩
    have d0:wr.cell? ⟨b1,off+j * 8,none⟩=some (.int .i64 x.kind):=d0 wr kwr
    have d:∀ i,i<8->wr.cell? ⟨b1,off+j * 8+i,none⟩=(entA x vf ve)[i]?:=fun i hi=>(d wr kwr i hi).trans Array.getElem?_toList
    obtain⟨Af,cf,rfl⟩:=flt_slice hf
    obtain⟨Ae,ce,rfl⟩:=lst_slice he
    have he5:=Blk.new wr 42 (entA x (.slice Af x.f.length cf) (.slice Ae x.es.length ce))
    have k5:K wr (wr.alloc (.cells (entA x (.slice Af x.f.length cf) (.slice Ae x.es.length ce)) 42)):=(K.rf wr).al _
    clear hrl hcl1 hf he
    go_upto_region 7 with (fail)
    clear d d0
    have hO5:=HOj.out.st k5
    generalize wr.alloc _=w5 at *
    generalize wr.heap.size=ge at he5 ⊢
    replace kr:=kr.tr k5
    have kw5:=k1.tr kr
    have q5:=he5.cell
    have hvc:=hO5.blk
    obtain⟨css,hown,hcl,hEa⟩:=hO5
    have hln:=HLN.out
    generalize hRJ:R1++recL (s.list.take j)=RJ at *
    have hRJ:=Lib.hid hRJ
    have kA:K w5 (w5.alloc (.cells (recA ⟨2,j,x,0,0,0⟩ (.slice Af x.f.length cf) (.slice Ae x.es.length ce)) 219)):=(K.rf w5).al _
    have hbase2:base<=(w5.alloc (.cells (recA ⟨2,j,x,0,0,0⟩ (.slice Af x.f.length cf) (.slice Ae x.es.length ce)) 219)).heap.size:=by rw[hbase.out];exact Nat.le_trans kr.size kA.size
    have hvc2:=fun k e=>(hvc k e).1
    simp only[hbase.out] at hvc2
    have hrb:=Lib.hid fun k e=>Nat.le_trans k1.size (hvc2 k e)
    clear HOj k5 he5 hvc hvc2
    go_wp2_with (at_builtin;refine wpList_app rfl _ _ 233 rfl base 219 _ 13 136 TRec _ _ _ rfl (World.ownsRow.alloc hown _) (w5.heap.size+1) _ 1 1 (recA ⟨2,j,x,0,0,0⟩ (.slice Af x.f.length cf) (.slice Ae x.es.length ce)).toList rfl ?c1 ?c2 ?c3 hbase2 ?_)
    case c1=>exact Reads.new w5 (recA ⟨2,j,x,0,0,0⟩ (.slice Af x.f.length cf) (.slice Ae x.es.length ce)).toList 219 13 1 rfl
    case c2=>and_intros <;> rfl
    case c3=>omega
    intro v9 w9 hown9 hg9 hat9 hb9
    have k9:K w1 w9:=(kr.tr kA).trans (hb9.mono (by rw[hbase.out];exact Nat.le_refl _))
    have HO9:Hid (OwnL base 0 219 recS (R1++recL (s.list.take (j+1))) v9 w9):=Lib.hid (by
     rw[HT.out,<- List.append_assoc,hRJ.out]
     exact OwnL.snoc (S:=recS) (lo:=0) hcl (fun w' u=>hEa w' (UpB.tr (UpB.of_k kA _ _) u)) hown9 hg9 (by rw[World.size_alloc];exact hat9) (fun w' u=>rcd_of (k:=2) (n:=j) (a:=(0,0,0)) (HEN.out w' ((UpB.tr (UpB.of_k kA _ _) u).k kw5 hrb.out))))
    clear hown9 hg9 hat9 hb9 hown hEa hbase2 kA q5
    go_wp2
    go_roundw
    case rel=>exact⟨j+1,by omega,by go_num,HO9,k9⟩
    case measure=>simp[intOf];omega
  · have hji:¬ (j:Int)<(s.list.length:Int):=by omega
    rw[List.take_of_length_le (by omega)] at HOj
    have HO0:=HOj
    have kk:=kr
    clear HOj kr hj hlt
    go_wp2_with fail
    clear hji
    go_loopw [4,8,44] (fun v4 _ i W=>∃ j:Nat,j<=s.prom.length/\i=.int .i64 (j:Int)/\Hid (OwnL base 0 219 recS (R1++recL s.list++recP (s.prom.take j)) v4 W)/\K w1 W) (fun _ _ i _=>s.prom.length - (intOf i).toNat)
    case atStart=>exact⟨0,by omega,rfl,Lib.hid (by simpa [recP] using HO0.out),kk⟩
    case round =>
     clear kk HO0
     obtain⟨j,hj,rfl,HOj,kr⟩:=hrel
     by_cases hlt:j<s.prom.length
     · have hji:(j:Int)<(s.prom.length:Int):=by omega
       obtain⟨b1,off,cs,rfl,hcl1,hrl,d0,d⟩:=lsr_cells HP.out j hlt (by decide)
       have HT:=Lib.hid (recP_snoc s.prom j hlt)
       have HLN:Hid ((R1++recL s.list++recP (s.prom.take j)).length<=900001):=Lib.hid (by simp only[List.length_append,recL_len,recP_len,List.length_take];omega)
       generalize s.prom[j]=x at *
       have kwr:=k1.tr kr
       obtain⟨vf,ve,rfl,hf,he⟩:=hrl w (K.rf w)
       have HEN:Hid (∀ W,K w W->ent x (.agg (entA x vf ve)) W):=Lib.hid fun W k=>by
        obtain⟨vf',ve',e,h1,h2⟩:=hrl W k
        simp at e
        obtain⟨rfl,rfl⟩:=e
        exact⟨_,_,rfl,h1,h2⟩
       have d0:wr.cell? ⟨b1,off+j * 8,none⟩=some (.int .i64 x.kind):=d0 wr kwr
       have d:∀ i,i<8->wr.cell? ⟨b1,off+j * 8+i,none⟩=(entA x vf ve)[i]?:=fun i hi=>(d wr kwr i hi).trans Array.getElem?_toList
       obtain⟨Af,cf,rfl⟩:=flt_slice hf
       obtain⟨Ae,ce,rfl⟩:=lst_slice he
       have he5:=Blk.new wr 42 (entA x (.slice Af x.f.length cf) (.slice Ae x.es.length ce))
       have k5:K wr (wr.alloc (.cells (entA x (.slice Af x.f.length cf) (.slice Ae x.es.length ce)) 42)):=(K.rf wr).al _
       clear hrl hcl1 hf he
       go_upto_region 12 with (fail)
       clear d d0
       have hO5:=HOj.out.st k5
       generalize wr.alloc _=w5 at *
       generalize wr.heap.size=ge at he5 ⊢
       replace kr:=kr.tr k5
       have kw5:=k1.tr kr
       have q5:=he5.cell
       have hvc:=hO5.blk
       obtain⟨css,hown,hcl,hEa⟩:=hO5
       have hln:=HLN.out
       generalize hRJ:R1++recL s.list++recP (s.prom.take j)=RJ at *
       have hRJ:=Lib.hid hRJ
       have kA:K w5 (w5.alloc (.cells (recA ⟨3,0,x,0,0,0⟩ (.slice Af x.f.length cf) (.slice Ae x.es.length ce)) 219)):=(K.rf w5).al _
       have hbase2:base<=(w5.alloc (.cells (recA ⟨3,0,x,0,0,0⟩ (.slice Af x.f.length cf) (.slice Ae x.es.length ce)) 219)).heap.size:=by rw[hbase.out];exact Nat.le_trans kr.size kA.size
       have hvc2:=fun k e=>(hvc k e).1
       simp only[hbase.out] at hvc2
       have hrb:=Lib.hid fun k e=>Nat.le_trans k1.size (hvc2 k e)
       clear HOj k5 he5 hvc hvc2
       go_wp2_with (at_builtin;refine wpList_app rfl _ _ 233 rfl base 219 _ 13 136 TRec _ _ _ rfl (World.ownsRow.alloc hown _) (w5.heap.size+1) _ 1 1 (recA ⟨3,0,x,0,0,0⟩ (.slice Af x.f.length cf) (.slice Ae x.es.length ce)).toList rfl ?c1 ?c2 ?c3 hbase2 ?_)
       case c1=>exact Reads.new w5 (recA ⟨3,0,x,0,0,0⟩ (.slice Af x.f.length cf) (.slice Ae x.es.length ce)).toList 219 13 1 rfl
       case c2=>and_intros <;> rfl
       case c3=>omega
       intro v9 w9 hown9 hg9 hat9 hb9
       have k9:K w1 w9:=(kr.tr kA).trans (hb9.mono (by rw[hbase.out];exact Nat.le_refl _))
       have HO9:Hid (OwnL base 0 219 recS (R1++recL s.list++recP (s.prom.take (j+1))) v9 w9):=Lib.hid (by
        rw[HT.out,<- List.append_assoc,hRJ.out]
        exact OwnL.snoc (S:=recS) (lo:=0) hcl (fun w' u=>hEa w' (UpB.tr (UpB.of_k kA _ _) u)) hown9 hg9 (by rw[World.size_alloc];exact hat9) (fun w' u=>rcd_of (k:=3) (n:=0) (a:=(0,0,0)) (HEN.out w' ((UpB.tr (UpB.of_k kA _ _) u).k kw5 hrb.out))))
       clear hown9 hg9 hat9 hb9 hown hEa hbase2 kA q5
       go_wp2
       go_roundw
       case rel=>exact⟨j+1,by omega,by go_num,HO9,k9⟩
       case measure=>simp[intOf];omega
     · have hji:¬ (j:Int)<(s.prom.length:Int):=by omega
       rw[List.take_of_length_le (by omega)] at HOj
       have HO0:=HOj
       have kk:=kr
       clear HOj kr hj hlt
       go_wp2_with fail
       clear hji
       go_loopw [4,10,57] (fun v4 _ i W=>∃ j:Nat,j<=s.ab.length/\i=.int .i64 (j:Int)/\Hid (OwnL base 0 219 recS (R1++recL s.list++recP s.prom++recB (s.ab.take j)) v4 W)/\K w1 W) (fun _ _ i _=>s.ab.length - (intOf i).toNat)
       case atStart=>exact⟨0,by omega,rfl,Lib.hid (by simpa [recB] using HO0.out),kk⟩
       case round =>
        clear kk HO0
        obtain⟨j,hj,rfl,HOj,kr⟩:=hrel
        by_cases hlt:j<s.ab.length
        · have hji:(j:Int)<(s.ab.length:Int):=by omega
          obtain⟨b1,off,cs,rfl,hcl1,hrl,d0,d⟩:=lsr_cells HA.out j hlt (by decide)
          have HT:=Lib.hid (recB_snoc s.ab j hlt)
          have HLN:Hid ((R1++recL s.list++recP s.prom++recB (s.ab.take j)).length<=900001):=Lib.hid (by simp only[List.length_append,recL_len,recP_len,recB_len,List.length_take];omega)
          generalize s.ab[j]=x at *
          have kwr:=k1.tr kr
          obtain rfl:=hrl w (K.rf w)
          have d0:wr.cell? ⟨b1,off+j * 3,none⟩=some (.int .i64 x.1):=d0 wr kwr
          have d:∀ i,i<3->wr.cell? ⟨b1,off+j * 3+i,none⟩=(#[.int .i64 x.1,.int .u64 (x.2.1:Int),.int .u64 (x.2.2:Int)]:Array Value)[i]?:=fun i hi=>(d wr kwr i hi).trans Array.getElem?_toList
          have he5:=Blk.new wr 35 #[.int .i64 x.1,.int .u64 (x.2.1:Int),.int .u64 (x.2.2:Int)]
          have k5:K wr (wr.alloc (.cells #[.int .i64 x.1,.int .u64 (x.2.1:Int),.int .u64 (x.2.2:Int)] 35)):=(K.rf wr).al _
          clear hrl hcl1
          go_upto_region 17 with (fail)
          clear d d0
          have hO5:=HOj.out.st k5
          generalize wr.alloc _=w5 at *
          generalize wr.heap.size=ge at he5 ⊢
          replace kr:=kr.tr k5
          have kw5:=k1.tr kr
          have q5:=he5.cell
          have hvc:=hO5.blk
          obtain⟨css,hown,hcl,hEa⟩:=hO5
          have hln:=HLN.out
          generalize hRJ:R1++recL s.list++recP s.prom++recB (s.ab.take j)=RJ at *
          have hRJ:=Lib.hid hRJ
          have kA:K w5 (w5.alloc (.cells (recA ⟨4,0,ent0,x.1,x.2.1,x.2.2⟩ (.slice none 0 0) (.slice none 0 0)) 219)):=(K.rf w5).al _
          have hbase2:base<=(w5.alloc (.cells (recA ⟨4,0,ent0,x.1,x.2.1,x.2.2⟩ (.slice none 0 0) (.slice none 0 0)) 219)).heap.size:=by rw[hbase.out];exact Nat.le_trans kr.size kA.size
          have hvc2:=fun k e=>(hvc k e).1
          simp only[hbase.out] at hvc2
          have hrb:=Lib.hid fun k e=>Nat.le_trans k1.size (hvc2 k e)
          clear HOj k5 he5 hvc hvc2
          go_wp2_with (at_builtin;refine wpList_app rfl _ _ 233 rfl base 219 _ 13 136 TRec _ _ _ rfl (World.ownsRow.alloc hown _) (w5.heap.size+1) _ 1 1 (recA ⟨4,0,ent0,x.1,x.2.1,x.2.2⟩ (.slice none 0 0) (.slice none 0 0)).toList rfl ?c1 ?c2 ?c3 hbase2 ?_)
          case c1=>exact Reads.new w5 (recA ⟨4,0,ent0,x.1,x.2.1,x.2.2⟩ (.slice none 0 0) (.slice none 0 0)).toList 219 13 1 rfl
          case c2=>and_intros <;> rfl
          case c3=>omega
          intro v9 w9 hown9 hg9 hat9 hb9
          have k9:K w1 w9:=(kr.tr kA).trans (hb9.mono (by rw[hbase.out];exact Nat.le_refl _))
          have HO9:Hid (OwnL base 0 219 recS (R1++recL s.list++recP s.prom++recB (s.ab.take (j+1))) v9 w9):=Lib.hid (by
           rw[HT.out,<- List.append_assoc,hRJ.out]
           exact OwnL.snoc (S:=recS) (lo:=0) hcl (fun w' u=>hEa w' (UpB.tr (UpB.of_k kA _ _) u)) hown9 hg9 (by rw[World.size_alloc];exact hat9) (fun w' u=>⟨_,_,rfl,⟨none,0,rfl,Reads.nil _ _ _ _⟩,lst_nil _ _⟩))
          clear hown9 hg9 hat9 hb9 hown hEa hbase2 kA q5
          go_wp2
          go_roundw
          case rel=>exact⟨j+1,by omega,by go_num,HO9,k9⟩
          case measure=>simp[intOf];omega
        · have hji:¬ (j:Int)<(s.ab.length:Int):=by omega
          rw[List.take_of_length_le (by omega)] at HOj
          have HO0:=HOj
          have kk:=kr
          clear HOj kr hj hlt
          rw[<- HS.out] at HO0
          have hln:RS.length<=900001:=by rw[HS.out];simp only[List.length_append,recL_len,recP_len,recB_len];omega
          obtain⟨A4,c4,rfl,hls,-⟩:=HO0.out.lst
          have HR:=Lib.hid hls
          clear HO0 hls HL HP HA
          generalize wr=w2 at *
          have k2:=kk
          obtain⟨b2,hb2⟩:∃ b,Hid (b=w2.heap.size):=⟨_,Lib.hid rfl⟩
          have HB0:Hid (OwnL b2 b2 62 byS ([]:List (List UInt8)) (.slice none 0 0) w2):=Lib.hid (OwnL.nil _ _ _ _ _)
          go_wp2_with fail
          clear hji
          go_loopw [11,13,14,15,69] (fun o _ _ _ i W=>∃ j:Nat,j<=RS.length/\i=.int .i64 (j:Int)/\Hid (OwnL b2 b2 62 byS ((RS.take j).map encRec) o W)/\K w2 W) (fun _ _ _ _ i _=>RS.length - (intOf i).toNat)
          case atStart=>exact⟨0,by omega,rfl,HB0,K.rf _⟩
          case round =>
           clear kk HB0
           obtain⟨j,hj,rfl,HOj,kr⟩:=hrel
           by_cases hlt:j<RS.length
           · have hji:(j:Int)<(RS.length:Int):=by omega
             obtain⟨b1,off,cs,rfl,hcl1,hrl,d0,d⟩:=lsr_cells HR.out j hlt (by decide)
             have HT:Hid ((RS.take (j+1)).map encRec=(RS.take j).map encRec++[encRec RS[j]]):=Lib.hid (by rw[List.take_succ_eq_append_getElem hlt,List.map_append];rfl)
             have HLN:Hid (((RS.take j).map encRec).length<=900001):=Lib.hid (by simp only[List.length_map,List.length_take];omega)
             obtain⟨hok,hfit⟩:=HOK.out _ (List.getElem_mem hlt)
             generalize RS[j]=r at *
             obtain⟨vf,ve,rfl,hf,he⟩:=hrl w2 (K.rf w2)
             have HRC:Hid (∀ W,K w2 W->rcd r (.agg (recA r vf ve)) W):=Lib.hid fun W k=>by
              obtain⟨vf',ve',e,h1,h2⟩:=hrl W k
              simp at e
              obtain⟨rfl,rfl⟩:=e
              exact⟨_,_,rfl,h1,h2⟩
             have d0:wr.cell? ⟨b1,off+j * 13,none⟩=some (.int .i64 r.kind):=d0 wr kr
             have d:∀ i,i<13->wr.cell? ⟨b1,off+j * 13+i,none⟩=(recA r vf ve)[i]?:=fun i hi=>(d wr kr i hi).trans Array.getElem?_toList
             obtain⟨Af,cf,rfl⟩:=flt_slice hf
             obtain⟨Ae,ce,rfl⟩:=lst_slice he
             have he5:=Blk.new wr 219 (recA r (.slice Af r.e.f.length cf) (.slice Ae r.e.es.length ce))
             have k5:K wr (wr.alloc (.cells (recA r (.slice Af r.e.f.length cf) (.slice Ae r.e.es.length ce)) 219)):=(K.rf wr).al _
             have hc:chkRec r=0:=by simp[chkRec,hok]
             have hE:encRecR r=encRec r:=by simp[encRecR,hok]
             have C1:=Lib.hid fun W (kW:K w2 W)=>Pack_new r _ W (HRC.out W kW) hfit
             simp only[hc,hE] at C1
             clear hrl hcl1 hf he hok hfit hc hE
             go_upto_region 23 with (fail)
             clear d d0
             have hO5:=HOj.out.st k5
             generalize wr.alloc _=w5 at *
             generalize wr.heap.size=ge at he5 ⊢
             replace kr:=kr.tr k5
             have q5:=he5.cell
             clear HOj k5 he5
             have HO5:=Lib.hid hO5
             clear hO5
             go_wp2_with fail
             have HB5:Hid (b2<=w5.heap.size):=Lib.hid (by rw[hb2.out];exact kr.size)
             refine (C1.out w5 kr).mono ?_
             rintro e w6 ⟨vb,rfl,hob,k6⟩
             have hO6:=HO5.out.st k6
             replace kr:=kr.tr k6
             obtain⟨Ab,cb,rfl⟩:∃ A c,vb=.slice A (encRec r).length c:=by obtain⟨A,c,h,_⟩:=sl_own hob;exact⟨A,c,h⟩
             have hvc:=hO6.blk
             obtain⟨css,hown,hcl,hEa⟩:=hO6
             have hln2:=HLN.out
             have HOB:=Lib.hid hob
             have hwn:=fun k e=>row_blk hown (g:=k) e
             generalize (RS.take j).map encRec=RJ at *
             have kA:K w6 (w6.alloc (.cells #[.slice Ab (encRec r).length cb] 62)):=(K.rf w6).al _
             have hbase2:b2<=(w6.alloc (.cells #[.slice Ab (encRec r).length cb] 62)).heap.size:=by rw[hb2.out];exact Nat.le_trans kr.size kA.size
             have HWN:=Lib.hid hwn
             clear hvc C1 HO5 hob hwn
             go_wp2_with (at_builtin;refine wpList_app rfl _ _ 153 rfl b2 62 _ 1 24 TBy _ _ _ rfl (World.ownsRow.alloc hown _) (w6.heap.size+1) _ 1 1 [.slice Ab (encRec r).length cb] rfl ?c1 ?c2 ?c3 hbase2 ?_)
             case c1=>exact Reads.new w6 [.slice Ab (encRec r).length cb] 62 1 1 rfl
             case c2=>intro u hu;simp at hu;subst hu;rfl
             case c3=>omega
             intro v9 w9 hown9 hg9 hat9 hb9
             have k9:K w2 w9:=(kr.tr kA).trans (hb9.mono (by rw[hb2.out];exact Nat.le_refl _))
             have HO9:Hid (OwnL b2 b2 62 byS ((RS.take (j+1)).map encRec) v9 w9):=Lib.hid (by
              rw[HT.out]
              exact OwnL.snoc (S:=byS) (lo:=b2) hcl (fun w' u=>hEa w' (UpB.tr (UpB.of_k kA _ _) u)) hown9 hg9 (by rw[World.size_alloc];exact hat9) (fun w' u=>by
                    have ho:=HOB.out
                    have u':=(UpB.of_k kA b2 _).tr u
                    exact⟨_,rfl,sl_own (row_keep ho fun k h1 h2 h3=>u'.block k (Nat.le_trans HB5.out h1) h2 (fun e=>by
                     obtain⟨c1,b1⟩:=HWN.out k e.symm
                     obtain⟨c2,b2⟩:=row_blk ho h3
                     exact absurd (b1.unlike b2) (by decide)))⟩))
             clear hown9 hg9 hat9 hb9 hown hEa hbase2 kA q5
             go_wp2
             go_roundw
             case rel=>exact⟨j+1,by omega,by go_num,HO9,k9⟩
             case measure=>simp[intOf];omega
           · have hji:¬ (j:Int)<(RS.length:Int):=by omega
             rw[List.take_of_length_le (by omega)] at HOj
             have hzF:gp<=b2:=by rw[<- hgp,hb2.out];exact Nat.le_trans k1.size k2.size
             have HOF:=Lib.hid (OwnL.low (OwnL.floor HOj.out hzF) hzF)
             have HGP:=Lib.hid hgp
             clear hzF
             have kF:=k1.tr (k2.tr kr)
             clear HOj hlt hj HR
             go_wp2
             go_ret2
             first|exact⟨_,rfl,HOF.out,kF⟩|exact⟨_,rfl,by rw[HGP.out];exact HOF.out,kF⟩
