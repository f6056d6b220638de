/-
  The walks of the reader's methods Bytes and Value: what each returns, how the reader stands behind it, and that nothing else that was there is changed.
-/
import Derived.Test.YtagfakjifhdpgaaGreatMa00
import Derived.ProofKit
import Derived.OpenShut
import Derived.ShutString
import Derived.ChangeOld
import Derived.Below
import Derived.Lib.SmallJoins
import Derived.Deep.Slices
import Derived.Deep.Fields
import Derived.Deep.CutRange
import Derived.Deep.LoopGhost
set_option maxRecDepth 100000
set_option maxHeartbeats 16000000
set_option linter.unusedVariables false
set_option linter.unusedSimpArgs false
namespace Go.Proofs.YtagfakjifhdpgaaGreat
open Go Go.RowKit
def rdB (most:Int) (l:List UInt8) (wr:Bool):List UInt8×List UInt8×Bool :=
 if (rdN l wr).2.2||decide (most<0)||decide (most.toNat<(rdN l wr).1)||decide ((rdN l wr).2.1.length<(rdN l wr).1) then ([],(rdN l wr).2.1,true)
 else ((rdN l wr).2.1.take (rdN l wr).1,(rdN l wr).2.1.drop (rdN l wr).1,false)
theorem rdN_len (l:List UInt8) (wr:Bool):(rdN l wr).2.1.length<=l.length:=by
 unfold rdN
 split
 · simp
 · split
   · simp
   · simp;omega
theorem rdN_lt (l:List UInt8) (wr:Bool):(rdN l wr).1<18446744073709551616:=by
 unfold rdN
 split
 · simp
 · rename_i b r
   split
   · simp
   · rename_i hq
     simp at hq
     have h1:=ofBe_lt (r.take b.toNat)
     have h2:(r.take b.toNat).length<=8:=by simp;omega
     have h3:256 ^ (r.take b.toNat).length<=256 ^ 8:=Nat.pow_le_pow_right (by decide) h2
     show ofBe (r.take b.toNat)<_
     omega
theorem Rd.wrongly {w:World} {g:Nat} {l:List UInt8} {wr:Bool} (h:Rd w g l wr):Went g l true w (w.setCell ⟨g,1,none⟩ (.bool true)):=by
 obtain⟨A,c,hb,hr,h1,h2⟩:=h
 refine⟨⟨A,c,hb.set_ 1 _,?_,h1,h2⟩,mut_set (mut_refl _ _) rfl _⟩
 exact hr.keep fun k hk=>Below.heap_setCell w _ _ k (by simp;omega)
theorem RBytes_calls (g:Nat) (l:List UInt8) (wr:Bool) (most:Int) (w:World) (h:Rd w g l wr) (hl:l.length<=1000000000) (hm0:-9223372036854775808<=most) (hm1:most<=9223372036854775807) :
 Calls Tryz.prog 206 #[.pointer (some ⟨g,0,none⟩),.int .i64 most] w fun e w' =>
  ∃ v,e=.returned v/\Own w' w.heap.size 5 v (rdB most l wr).1/\Went g (rdB most l wr).2.1 (rdB most l wr).2.2 w w':=by
 have hnum:=RNumber_calls g l wr w h
 have hlen:=rdN_len l wr
 have hlt:=rdN_lt l wr
 unfold rdB
 generalize rdN l wr=R at *
 obtain⟨n,l1,w1⟩:=R
 simp only at hnum hlen hlt ⊢
 have HN:=Lib.hid hnum
 clear hnum h
 by_cases hbad:(w1||decide (most<0)||decide (most.toNat<n)||decide (l1.length<n))=true
 · rw[hbad]
   have hfin:∀ W,Rd W g l1 w1->w.grownBy W (some g)->Own (W.setCell ⟨g,1,none⟩ (.bool true)) w.heap.size 5 (.slice none 0 0) []/\Went g l1 true w (W.setCell ⟨g,1,none⟩ (.bool true)):=by
    intro W hrd hgr
    obtain⟨h1,h2⟩:=hrd.wrongly
    exact⟨World.ownsRow_nil _ _ _ _,h1,mut_trans hgr h2⟩
   cases w1
   · by_cases h1:most<0
     · go_enter Tryz.func206,Tryz.ntmps206
       go_wp2
       refine wp_scope_fwd 0 rfl ?_
       go_wp2_with fail
       refine HN.out.mono ?_
       rintro e w2 ⟨rfl,hrd,hgr⟩
       obtain⟨h9,h10⟩:=hfin w2 hrd hgr
       obtain⟨A,c,hb,hr,hc1,hc2⟩:=hrd
       have hx0:=hb.cell 0
       have hx1:=hb.cell 1
       have hf1:=hb.frozen 1
       simp at hx0 hx1
       go_wp2
       go_step3
       refine⟨rfl,?_⟩
       go_wp2
       rw[Exit.noGoto_ret]
       go_ret
       exact⟨_,rfl,h9,h10⟩
     · by_cases h2:most.toNat<n
       · obtain⟨m,rfl⟩:=Int.eq_ofNat_of_zero_le (show 0<=most by omega)
         have h2':(m:Int)<(n:Int):=by omega
         go_enter Tryz.func206,Tryz.ntmps206
         go_wp2
         refine wp_scope_fwd 0 rfl ?_
         go_wp2_with fail
         refine HN.out.mono ?_
         rintro e w2 ⟨rfl,hrd,hgr⟩
         obtain⟨h9,h10⟩:=hfin w2 hrd hgr
         obtain⟨A,c,hb,hr,hc1,hc2⟩:=hrd
         have hx0:=hb.cell 0
         have hx1:=hb.cell 1
         have hf1:=hb.frozen 1
         simp at hx0 hx1
         go_wp2
         go_step3
         refine⟨rfl,?_⟩
         go_wp2
         rw[Exit.noGoto_ret]
         go_ret
         exact⟨_,rfl,h9,h10⟩
       · have h3:l1.length<n:=by simpa [h1,h2] using hbad
         obtain⟨m,rfl⟩:=Int.eq_ofNat_of_zero_le (show 0<=most by omega)
         have h2':¬ (m:Int)<(n:Int):=by omega
         have h3':(l1.length:Int)<(n:Int):=by omega
         go_enter Tryz.func206,Tryz.ntmps206
         go_wp2
         refine wp_scope_fwd 0 rfl ?_
         go_wp2_with fail
         refine HN.out.mono ?_
         rintro e w2 ⟨rfl,hrd,hgr⟩
         obtain⟨h9,h10⟩:=hfin w2 hrd hgr
         obtain⟨A,c,hb,hr,hc1,hc2⟩:=hrd
         have hx0:=hb.cell 0
         have hx1:=hb.cell 1
         have hf1:=hb.frozen 1
         simp at hx0 hx1
         go_wp2
         go_step3
         refine⟨rfl,?_⟩
         go_wp2
         rw[Exit.noGoto_ret]
         go_ret
         exact⟨_,rfl,h9,h10⟩
   · go_enter Tryz.func206,Tryz.ntmps206
     go_wp2
     refine wp_scope_fwd 0 rfl ?_
     go_wp2_with fail
     refine HN.out.mono ?_
     rintro e w2 ⟨rfl,hrd,hgr⟩
     obtain⟨h9,h10⟩:=hfin w2 hrd hgr
     obtain⟨A,c,hb,hr,hc1,hc2⟩:=hrd
     have hx0:=hb.cell 0
     have hx1:=hb.cell 1
     have hf1:=hb.frozen 1
     simp at hx0 hx1
     go_wp2
     go_step3
     refine⟨rfl,?_⟩
     go_wp2
     rw[Exit.noGoto_ret]
     go_ret
     exact⟨_,rfl,h9,h10⟩
 · have hbad:(w1||decide (most<0)||decide (most.toNat<n)||decide (l1.length<n))=false:=by simpa using hbad
   rw[hbad]
   simp at hbad
   obtain⟨⟨⟨rfl,h1⟩,h2⟩,h3⟩:=hbad
   obtain⟨m,rfl⟩:=Int.eq_ofNat_of_zero_le h1
   simp at h2
   have h2':(n:Int)<=(m:Int):=by omega
   have h3':(n:Int)<=(l1.length:Int):=by omega
   go_enter Tryz.func206,Tryz.ntmps206
   go_wp2
   go_step3
   go_wp2_with fail
   refine HN.out.mono ?_
   rintro e w2 ⟨rfl,⟨A,c,hb,hr,hc1,hc2⟩,hgr⟩
   have hx0:=hb.cell 0
   have hx1:=hb.cell 1
   simp at hx0 hx1
   go_wp2_with fail
   refine (own_calls A n c (l1.take n) 0 w2 g (hr.pre n h3) (Nat.le_of_lt hb.lt) (by omega) (by omega) (by omega)).mono ?_
   rintro e w3 ⟨g3,cap3,rfl,ho,hb3,_,_⟩
   have hb':=hb.below hb3 hb.lt
   have hr':=hr.below hb3 (Nat.le_of_lt hb.lt)
   have hy0:=hb'.cell 0
   have hf0:=hb'.frozen 0
   simp at hy0
   have hfin:∀ (A':Option Addr) (c':Nat),(n<l1.length->A'=A.map (·.add n))->l1.length - n<=c'->c'<=c ->
    Own (w3.setCell ⟨g,0,none⟩ (.slice A' (l1.length - n) c')) w.heap.size 5 (.slice (some ⟨g3,0,none⟩) n cap3) (l1.take n)/\Went g (l1.drop n) false w (w3.setCell ⟨g,0,none⟩ (.slice A' (l1.length - n) c')):=by
    intro A' c' hA h4 h5
    refine⟨?_,⟨A',c',?_,?_,by simpa using h4,by omega⟩,mut_set (mut_trans hgr (mut_of_below hb3 _)) rfl _⟩
    · have h6:=ownsRow_setCell_below (a:=⟨g,0,none⟩) ho hb.lt (.slice A' (l1.length - n) c')
      refine own_base hgr.size ?_ rfl
      unfold Own
      rw[show (l1.take n).length=n by simp;omega]
      exact h6
    · have h7:=hb'.set_ 0 (.slice A' (l1.length - n) c')
      simpa using h7
    · have h8:=hr'.post (A':=A') n hA
      rw[List.length_drop]
      exact h8.keep fun k hk=>Below.heap_setCell w3 _ _ k (by simp;omega)
   go_wp2
   all_goals
    go_ret
    refine⟨_,rfl,hfin _ _ (fun hlt2=>?_) (by omega) (by omega)⟩
    first|rfl|omega
def toI64 (n:Nat):Int:=((n:Int)+9223372036854775808) % 18446744073709551616 - 9223372036854775808
def rdVn (k n:Nat):Int:=if k=1 then unfoldI n else toI64 n
def rdV (l:List UInt8) (wr:Bool):(Int×Int×List UInt8)×List UInt8×Bool :=
 let a:=rdN l wr
 let b:=rdN a.2.1 a.2.2
 let s:=rdB 40 b.2.1 b.2.2
 if decide (3<a.1)||s.2.2||!(okV a.1 (rdVn a.1 b.1) ⟨s.1.toArray⟩) then ((0,0,[]),s.2.1,true)
 else ((a.1,rdVn a.1 b.1,s.1),s.2.1,false)
theorem rdB_len (most:Int) (l:List UInt8) (wr:Bool):(rdB most l wr).2.1.length<=l.length:=by
 have:=rdN_len l wr
 unfold rdB
 split
 · exact this
 · simp;omega
abbrev vd (d:Int×Int×List UInt8):Value:=vv d.1 d.2.1 ⟨d.2.2.toArray⟩
theorem Rd.below {w w':World} {g B:Nat} {l:List UInt8} {wr:Bool} (h:Rd w g l wr) (hb:Below B w w') (hg:g<B):Rd w' g l wr:=by
 obtain⟨A,c,hk,hr,h1,h2⟩:=h
 exact⟨A,c,hk.below hb hg,hr.below hb (by omega),h1,h2⟩
theorem Rd.lt {w:World} {g:Nat} {l:List UInt8} {wr:Bool} (h:Rd w g l wr):g<w.heap.size:=by obtain⟨_,_,hb,_⟩:=h;exact hb.lt
theorem RValue_calls (g:Nat) (l:List UInt8) (wr:Bool) (w:World) (h:Rd w g l wr) (hl:l.length<=1000000000) :
 Calls Tryz.prog 270 #[.pointer (some ⟨g,0,none⟩)] w fun e w' =>
  e=.returned (vd (rdV l wr).1)/\Went g (rdV l wr).2.1 (rdV l wr).2.2 w w':=by
 have hg:=h.lt
 have c1:=fun W (hW:Rd W g l wr)=>RNumber_calls g l wr W hW
 have c2:=fun W (hW:Rd W g (rdN l wr).2.1 (rdN l wr).2.2)=>RNumber_calls g _ _ W hW
 have c3:=fun W (hW:Rd W g (rdN (rdN l wr).2.1 (rdN l wr).2.2).2.1 (rdN (rdN l wr).2.1 (rdN l wr).2.2).2.2)=>RBytes_calls g _ _ 40 W hW (by have:=rdN_len l wr;have:=rdN_len (rdN l wr).2.1 (rdN l wr).2.2;omega) (by omega) (by omega)
 have b1:=rdN_lt l wr
 have b2:=rdN_lt (rdN l wr).2.1 (rdN l wr).2.2
 simp only[rdV]
 generalize rdN l wr=a at *
 obtain⟨k,l1,w1⟩:=a
 simp only at *
 generalize rdN l1 w1=a at *
 obtain⟨n,l2,w2⟩:=a
 simp only at *
 generalize rdB 40 l2 w2=a at *
 obtain⟨s,l3,w3⟩:=a
 simp only at *
 have C1:=Lib.hid c1
 have C2:=Lib.hid c2
 have C3:=Lib.hid c3
 clear c1 c2 c3
 have hW0:Below w.heap.size w (w.alloc (.cells #[.int .i64 0,.int .i64 0,.string { data:=#[] }] 85)):=(Below.refl _ _).alloc (Nat.le_refl _) _
 have hx0:=Blk.new w 85 #[.int .i64 0,.int .i64 0,.string { data:=#[] }]
 have h0:=h.below hW0 hg
 clear h
 go_enter Tryz.func270,Tryz.ntmps270
 go_wp2
 refine wp_scope_fwd 0 rfl ?_
 go_wp2_with fail
 refine (C1.out _ h0).mono ?_
 rintro e W1 ⟨rfl,hr1,hg1⟩
 have hx1:=hx0.grown hg1 (by simp;omega)
 clear hx0 h0
 go_wp2_with fail
 refine (C2.out _ hr1).mono ?_
 rintro e W2 ⟨rfl,hr2,hg2⟩
 have hx2:=hx1.grown hg2 (by simp;omega)
 clear hx1 hr1
 go_wp2_with fail
 refine (C3.out _ hr2).mono ?_
 rintro e W3 ⟨v3,rfl,ho3,hr3,hg3⟩
 have hx3:=hx2.grown hg3 (by simp;omega)
 clear hx2 hr2
 obtain⟨A3,k3,rfl,hR3⟩:=ho3.slice
 have hst:=run_str (P:=Tryz.prog) W3 62 9 5 Tryz.underlying62 Tryz.underlying5 Tryz.underlying9 _ A3 _ k3 s hR3
 clear ho3
 by_cases h3:3<k
 · have h3':(3:Int)<(k:Int):=by omega
   have hr4:=hr3.below (Below.alloc (Below.refl _ W3) (Nat.le_refl _) (.cells #[.int .i64 0,.int .i64 (wrap64 (n:Int)),.string { data:=s.toArray }] 85)) hr3.lt
   have hx4:=hx3.alloc (.cells #[.int .i64 0,.int .i64 (wrap64 (n:Int)),.string { data:=s.toArray }] 85)
   have hgr:w.grownBy (W3.alloc (.cells #[.int .i64 0,.int .i64 (wrap64 (n:Int)),.string { data:=s.toArray }] 85)) (some g):=mut_alloc (mut_trans (mut_trans (mut_trans (mut_alloc (mut_refl _ _) _) hg1) hg2) hg3) _
   go_wp2
   generalize W3.alloc _=W4 at *
   have hif:(if (decide (3<k)||w3||!(okV (k:Int) (rdVn k n) ⟨s.toArray⟩))=true then (((0,0,[]),l3,true):(Int×Int×List UInt8)×List UInt8×Bool) else (((k:Int),rdVn k n,s),l3,false))=((0,0,[]),l3,true):=by simp[h3]
   go_step3
   refine⟨rfl,?_⟩
   have hy0:=hx4.cell 0
   have hy1:=hx4.cell 1
   have hy2:=hx4.cell 2
   have hz0:=hx4.frozen 0
   have hz1:=hx4.frozen 1
   have hz2:=hx4.frozen 2
   simp at hy0 hy1 hy2
   obtain⟨A4,c4,hb4,_⟩:=id hr4
   have hq1:=hb4.cell 1
   have hf1:=hb4.frozen 1
   simp at hq1
   go_wp2
   have hx5:=(((hx4.far (p:=⟨g,1,none⟩) (by simp;omega) (.bool true)).set_ 0 (.int .i64 0)).set_ 1 (.int .i64 0)).set_ 2 (.string { data:=#[] })
   have e0:=hx5.cell 0
   have e1:=hx5.cell 1
   have e2:=hx5.cell 2
   simp at e0 e1 e2
   have hw:=hr4.wrongly
   rw[Exit.noGoto_ret]
   refine bodyPost_ret (v:=vd (0,0,[])) (by simp[results,Tryz.results270,go_sem,e0,e1,e2]) rfl ?_
   rw[hif]
   refine⟨rfl,?_,?_⟩
   · exact Rd.below (B:=w.heap.size) hw.1 ((((Below.refl _ _).setCell (by simp) _).setCell (by simp) _).setCell (by simp) _) hg
   · exact mut_new (mut_new (mut_new (mut_trans hgr hw.2) (by simp) _) (by simp) _) (by simp) _
 · have h3':¬ (3:Int)<(k:Int):=by omega
   have hk3:(k:Int)<=3:=by omega
   generalize hN:rdVn k n=N at *
   have HN:=Lib.hid hN
   clear hN
   by_cases h1:k=1
   · have h1':((k:Int)==1)=true:=by simp;omega
     have HU:Hid (unfoldI n=N):=by rw[<- HN.out];exact Lib.hid (by simp[rdVn,h1])
     clear h1
     have hr4:=hr3.below (Below.alloc (Below.refl _ W3) (Nat.le_refl _) (.cells #[.int .i64 (k:Int),.int .i64 N,.string { data:=s.toArray }] 85)) hr3.lt
     have hx4:=hx3.alloc (.cells #[.int .i64 (k:Int),.int .i64 N,.string { data:=s.toArray }] 85)
     have hgr:w.grownBy (W3.alloc (.cells #[.int .i64 (k:Int),.int .i64 N,.string { data:=s.toArray }] 85)) (some g):=mut_alloc (mut_trans (mut_trans (mut_trans (mut_alloc (mut_refl _ _) _) hg1) hg2) hg3) _
     cases hw3:w3
     · subst hw3
       obtain⟨A5,c5,hb5,_⟩:=id hr3
       have hq1:=fun o=>(hb5.alloc o).cell 1
       simp at hq1
       go_wp2_with fail
       refine (unfold_calls n _ b2).mono ?_
       rintro e w' ⟨rfl,rfl⟩
       rw[HU.out]
       go_wp2_with fail
       refine (Check_calls k N ⟨s.toArray⟩ _).mono ?_
       rintro e W5 ⟨rfl,hb6⟩
       have hr4:=hr4.below hb6 (by have:=hr3.lt;simp;omega)
       have hx4:=hx4.below hb6 hx4.lt
       have hgr:=mut_trans hgr (mut_of_below hb6 _)
       have hv6:=(Blk.new W3 85 #[.int .i64 (k:Int),.int .i64 N,.string { data:=s.toArray }]).below hb6 (by simp)
       have hz3:=hx3.lt
       have hb7:=hb6.size
       simp only[World.size_alloc] at hb7
       clear hb6
       by_cases hok:okV (k:Int) N ⟨s.toArray⟩=true
       · have hch:(chk (k:Int) N ⟨s.toArray⟩ != 0)=false:=by simp[chk,hok]
         have hy0:=hx4.cell 0
         have hy1:=hx4.cell 1
         have hy2:=hx4.cell 2
         have hz0:=hx4.frozen 0
         have hz1:=hx4.frozen 1
         have hz2:=hx4.frozen 2
         have hv0:=hv6.cell 0
         have hv1:=hv6.cell 1
         have hv2:=hv6.cell 2
         simp at hy0 hy1 hy2 hv0 hv1 hv2
         go_wp2
         have hx5:=((hx4.set_ 0 (.int .i64 (k:Int))).set_ 1 (.int .i64 N)).set_ 2 (.string { data:=s.toArray })
         have e0:=hx5.cell 0
         have e1:=hx5.cell 1
         have e2:=hx5.cell 2
         simp at e0 e1 e2
         simp only[Exit.jump]
         refine bodyPost_ret (v:=vd (k,N,s)) (by simp[results,Tryz.results270,go_sem,e0,e1,e2]) rfl ?_
         have hif:(if (decide (3<k)||false||!(okV (k:Int) N ⟨s.toArray⟩))=true then (((0,0,[]),l3,true):(Int×Int×List UInt8)×List UInt8×Bool) else (((k:Int),N,s),l3,false))=(((k:Int),N,s),l3,false):=by simp[h3,hok]
         rw[HN.out,hif]
         refine⟨rfl,?_,?_⟩
         · exact Rd.below (B:=w.heap.size) hr4 ((((Below.refl _ _).setCell (by simp) _).setCell (by simp) _).setCell (by simp) _) hg
         · exact mut_new (mut_new (mut_new hgr (by simp) _) (by simp) _) (by simp) _
       · have hok:okV (k:Int) N ⟨s.toArray⟩=false:=by simpa using hok
         have hch:(chk (k:Int) N ⟨s.toArray⟩ != 0)=true:=by simp[chk,hok]
         have hv0:=hv6.cell 0
         have hv1:=hv6.cell 1
         have hv2:=hv6.cell 2
         simp at hv0 hv1 hv2
         go_wp2
         have hif:(if (decide (3<k)||false||!(okV (k:Int) N ⟨s.toArray⟩))=true then (((0,0,[]),l3,true):(Int×Int×List UInt8)×List UInt8×Bool) else (((k:Int),N,s),l3,false))=((0,0,[]),l3,true):=by simp[hok]
         go_step3
         refine⟨rfl,?_⟩
         have hy0:=hx4.cell 0
         have hy1:=hx4.cell 1
         have hy2:=hx4.cell 2
         have hz0:=hx4.frozen 0
         have hz1:=hx4.frozen 1
         have hz2:=hx4.frozen 2
         simp at hy0 hy1 hy2
         obtain⟨A4,c4,hb4,_⟩:=id hr4
         have hq1:=hb4.cell 1
         have hf1:=hb4.frozen 1
         simp at hq1
         go_wp2
         have hx5:=(((hx4.far (p:=⟨g,1,none⟩) (by simp;omega) (.bool true)).set_ 0 (.int .i64 0)).set_ 1 (.int .i64 0)).set_ 2 (.string { data:=#[] })
         have e0:=hx5.cell 0
         have e1:=hx5.cell 1
         have e2:=hx5.cell 2
         simp at e0 e1 e2
         have hw:=hr4.wrongly
         rw[Exit.noGoto_ret]
         refine bodyPost_ret (v:=vd (0,0,[])) (by simp[results,Tryz.results270,go_sem,e0,e1,e2]) rfl ?_
         rw[HN.out,hif]
         refine⟨rfl,?_,?_⟩
         · exact Rd.below (B:=w.heap.size) hw.1 ((((Below.refl _ _).setCell (by simp) _).setCell (by simp) _).setCell (by simp) _) hg
         · exact mut_new (mut_new (mut_new (mut_trans hgr hw.2) (by simp) _) (by simp) _) (by simp) _
     · subst hw3
       obtain⟨A5,c5,hb5,_⟩:=id hr3
       have hq1:=fun o=>(hb5.alloc o).cell 1
       simp at hq1
       go_wp2_with fail
       refine (unfold_calls n _ b2).mono ?_
       rintro e w' ⟨rfl,rfl⟩
       rw[HU.out]
       go_wp2_with fail
       go_wp2
       generalize W3.alloc _=W4 at *
       have hif:(if (decide (3<k)||true||!(okV (k:Int) N ⟨s.toArray⟩))=true then (((0,0,[]),l3,true):(Int×Int×List UInt8)×List UInt8×Bool) else (((k:Int),N,s),l3,false))=((0,0,[]),l3,true):=by simp
       go_step3
       refine⟨rfl,?_⟩
       have hy0:=hx4.cell 0
       have hy1:=hx4.cell 1
       have hy2:=hx4.cell 2
       have hz0:=hx4.frozen 0
       have hz1:=hx4.frozen 1
       have hz2:=hx4.frozen 2
       simp at hy0 hy1 hy2
       obtain⟨A4,c4,hb4,_⟩:=id hr4
       have hq1:=hb4.cell 1
       have hf1:=hb4.frozen 1
       simp at hq1
       go_wp2
       have hx5:=(((hx4.far (p:=⟨g,1,none⟩) (by simp;omega) (.bool true)).set_ 0 (.int .i64 0)).set_ 1 (.int .i64 0)).set_ 2 (.string { data:=#[] })
       have e0:=hx5.cell 0
       have e1:=hx5.cell 1
       have e2:=hx5.cell 2
       simp at e0 e1 e2
       have hw:=hr4.wrongly
       rw[Exit.noGoto_ret]
       refine bodyPost_ret (v:=vd (0,0,[])) (by simp[results,Tryz.results270,go_sem,e0,e1,e2]) rfl ?_
       rw[HN.out,hif]
       refine⟨rfl,?_,?_⟩
       · exact Rd.below (B:=w.heap.size) hw.1 ((((Below.refl _ _).setCell (by simp) _).setCell (by simp) _).setCell (by simp) _) hg
       · exact mut_new (mut_new (mut_new (mut_trans hgr hw.2) (by simp) _) (by simp) _) (by simp) _
   · have h1':((k:Int)==1)=false:=by simp;omega
     have HU:Hid (wrap64 (n:Int)=N):=by rw[<- HN.out];exact Lib.hid (by simp[rdVn,h1,toI64,wrap64])
     clear h1
     have hr4:=hr3.below (Below.alloc (Below.refl _ W3) (Nat.le_refl _) (.cells #[.int .i64 (k:Int),.int .i64 N,.string { data:=s.toArray }] 85)) hr3.lt
     have hx4:=hx3.alloc (.cells #[.int .i64 (k:Int),.int .i64 N,.string { data:=s.toArray }] 85)
     have hgr:w.grownBy (W3.alloc (.cells #[.int .i64 (k:Int),.int .i64 N,.string { data:=s.toArray }] 85)) (some g):=mut_alloc (mut_trans (mut_trans (mut_trans (mut_alloc (mut_refl _ _) _) hg1) hg2) hg3) _
     cases hw3:w3
     · subst hw3
       obtain⟨A5,c5,hb5,_⟩:=id hr3
       have hq1:=fun o=>(hb5.alloc o).cell 1
       simp at hq1
       go_wp2_with fail
       simp only[HU.out]
       refine (Check_calls k N ⟨s.toArray⟩ _).mono ?_
       rintro e W5 ⟨rfl,hb6⟩
       have hr4:=hr4.below hb6 (by have:=hr3.lt;simp;omega)
       have hx4:=hx4.below hb6 hx4.lt
       have hgr:=mut_trans hgr (mut_of_below hb6 _)
       have hv6:=(Blk.new W3 85 #[.int .i64 (k:Int),.int .i64 N,.string { data:=s.toArray }]).below hb6 (by simp)
       have hz3:=hx3.lt
       have hb7:=hb6.size
       simp only[World.size_alloc] at hb7
       clear hb6
       by_cases hok:okV (k:Int) N ⟨s.toArray⟩=true
       · have hch:(chk (k:Int) N ⟨s.toArray⟩ != 0)=false:=by simp[chk,hok]
         have hy0:=hx4.cell 0
         have hy1:=hx4.cell 1
         have hy2:=hx4.cell 2
         have hz0:=hx4.frozen 0
         have hz1:=hx4.frozen 1
         have hz2:=hx4.frozen 2
         have hv0:=hv6.cell 0
         have hv1:=hv6.cell 1
         have hv2:=hv6.cell 2
         simp at hy0 hy1 hy2 hv0 hv1 hv2
         go_wp2
         have hx5:=((hx4.set_ 0 (.int .i64 (k:Int))).set_ 1 (.int .i64 N)).set_ 2 (.string { data:=s.toArray })
         have e0:=hx5.cell 0
         have e1:=hx5.cell 1
         have e2:=hx5.cell 2
         simp at e0 e1 e2
         simp only[Exit.jump]
         refine bodyPost_ret (v:=vd (k,N,s)) (by simp[results,Tryz.results270,go_sem,e0,e1,e2]) rfl ?_
         have hif:(if (decide (3<k)||false||!(okV (k:Int) N ⟨s.toArray⟩))=true then (((0,0,[]),l3,true):(Int×Int×List UInt8)×List UInt8×Bool) else (((k:Int),N,s),l3,false))=(((k:Int),N,s),l3,false):=by simp[h3,hok]
         rw[HN.out,hif]
         refine⟨rfl,?_,?_⟩
         · exact Rd.below (B:=w.heap.size) hr4 ((((Below.refl _ _).setCell (by simp) _).setCell (by simp) _).setCell (by simp) _) hg
         · exact mut_new (mut_new (mut_new hgr (by simp) _) (by simp) _) (by simp) _
       · have hok:okV (k:Int) N ⟨s.toArray⟩=false:=by simpa using hok
         have hch:(chk (k:Int) N ⟨s.toArray⟩ != 0)=true:=by simp[chk,hok]
         have hv0:=hv6.cell 0
         have hv1:=hv6.cell 1
         have hv2:=hv6.cell 2
         simp at hv0 hv1 hv2
         go_wp2
         have hif:(if (decide (3<k)||false||!(okV (k:Int) N ⟨s.toArray⟩))=true then (((0,0,[]),l3,true):(Int×Int×List UInt8)×List UInt8×Bool) else (((k:Int),N,s),l3,false))=((0,0,[]),l3,true):=by simp[hok]
         go_step3
         refine⟨rfl,?_⟩
         have hy0:=hx4.cell 0
         have hy1:=hx4.cell 1
         have hy2:=hx4.cell 2
         have hz0:=hx4.frozen 0
         have hz1:=hx4.frozen 1
         have hz2:=hx4.frozen 2
         simp at hy0 hy1 hy2
         obtain⟨A4,c4,hb4,_⟩:=id hr4
         have hq1:=hb4.cell 1
         have hf1:=hb4.frozen 1
         simp at hq1
         go_wp2
         have hx5:=(((hx4.far (p:=⟨g,1,none⟩) (by simp;omega) (.bool true)).set_ 0 (.int .i64 0)).set_ 1 (.int .i64 0)).set_ 2 (.string { data:=#[] })
         have e0:=hx5.cell 0
         have e1:=hx5.cell 1
         have e2:=hx5.cell 2
         simp at e0 e1 e2
         have hw:=hr4.wrongly
         rw[Exit.noGoto_ret]
         refine bodyPost_ret (v:=vd (0,0,[])) (by simp[results,Tryz.results270,go_sem,e0,e1,e2]) rfl ?_
         rw[HN.out,hif]
         refine⟨rfl,?_,?_⟩
         · exact Rd.below (B:=w.heap.size) hw.1 ((((Below.refl _ _).setCell (by simp) _).setCell (by simp) _).setCell (by simp) _) hg
         · exact mut_new (mut_new (mut_new (mut_trans hgr hw.2) (by simp) _) (by simp) _) (by simp) _
     · subst hw3
       obtain⟨A5,c5,hb5,_⟩:=id hr3
       have hq1:=fun o=>(hb5.alloc o).cell 1
       simp at hq1
       go_wp2_with fail
       simp only[HU.out]
       go_wp2
       generalize W3.alloc _=W4 at *
       have hif:(if (decide (3<k)||true||!(okV (k:Int) N ⟨s.toArray⟩))=true then (((0,0,[]),l3,true):(Int×Int×List UInt8)×List UInt8×Bool) else (((k:Int),N,s),l3,false))=((0,0,[]),l3,true):=by simp
       go_step3
       refine⟨rfl,?_⟩
       have hy0:=hx4.cell 0
       have hy1:=hx4.cell 1
       have hy2:=hx4.cell 2
       have hz0:=hx4.frozen 0
       have hz1:=hx4.frozen 1
       have hz2:=hx4.frozen 2
       simp at hy0 hy1 hy2
       obtain⟨A4,c4,hb4,_⟩:=id hr4
       have hq1:=hb4.cell 1
       have hf1:=hb4.frozen 1
       simp at hq1
       go_wp2
       have hx5:=(((hx4.far (p:=⟨g,1,none⟩) (by simp;omega) (.bool true)).set_ 0 (.int .i64 0)).set_ 1 (.int .i64 0)).set_ 2 (.string { data:=#[] })
       have e0:=hx5.cell 0
       have e1:=hx5.cell 1
       have e2:=hx5.cell 2
       simp at e0 e1 e2
       have hw:=hr4.wrongly
       rw[Exit.noGoto_ret]
       refine bodyPost_ret (v:=vd (0,0,[])) (by simp[results,Tryz.results270,go_sem,e0,e1,e2]) rfl ?_
       rw[HN.out,hif]
       refine⟨rfl,?_,?_⟩
       · exact Rd.below (B:=w.heap.size) hw.1 ((((Below.refl _ _).setCell (by simp) _).setCell (by simp) _).setCell (by simp) _) hg
       · exact mut_new (mut_new (mut_new (mut_trans hgr hw.2) (by simp) _) (by simp) _) (by simp) _
section
open Go Go.RowKit Go.ChangeShapes Go.WideShapes Go.ChangeAt
open Go.ChangeMaps (open_string shut_string)
set_option linter.unusedVariables false
def i64ok (n:Int):Prop:=-9223372036854775808<=n/\n<=9223372036854775807
theorem flatten_len {α:Type} (C:Nat):∀ (css:List (List α)),(∀ cs∈css,cs.length=C)->css.flatten.length=css.length * C
 | [],_=>by simp
 | c :: css,h=>by
   simp only[List.flatten_cons,List.length_append,List.length_cons]
   rw[h c (by simp),flatten_len C css fun cs hcs=>h cs (by simp[hcs]),Nat.succ_mul]
   omega
theorem flatten_at {α:Type} (C:Nat):∀ (css:List (List α)),(∀ cs∈css,cs.length=C)->∀ i j,i<css.length->j<C->css.flatten[i * C+j]?=(css[i]?.getD [])[j]?
 | [],_,i,j,hi,_=>by simp at hi
 | c :: css,h,i,j,hi,hj=>by
   have hc:=h c (by simp)
   cases i with
   | zero=>simp;rw[List.getElem?_append_left (by omega)]
   | succ i =>
     rw[List.flatten_cons,List.getElem?_append_right (by rw[hc,Nat.succ_mul];omega)]
     simp only[List.getElem?_cons_succ]
     rw[<- flatten_at C css (fun cs hcs=>h cs (by simp[hcs])) i j (by simpa using hi) hj]
     congr 1
     rw[hc,Nat.succ_mul]
     omega
section
variable {H:Type} {enc:TypeId×Value->H} {w:World} {base:Nat} {r:Reach} {b0:Nat} {spare:Nat->Bool} {held:Bool} {v:Value} {d:DataW H} {p:List MemPlace}
end
end
section
open Go Go.RowKit Go.ChangeShapes Go.WideShapes Go.ChangeAt
open Go.ChangeMaps (open_string shut_string)
abbrev Att:=ByteArray×Int×Int×ByteArray
abbrev attc (x:Att):List Value:=[.string x.1,.int .i64 x.2.1,.int .i64 x.2.2.1,.string x.2.2.2]
section
variable {H:Type} {enc:TypeId×Value->H} {w:World} {base:Nat} {r:Reach} {b0:Nat} {spare:Nat->Bool} {held:Bool} {v:Value} {d:DataW H} {p:List MemPlace}
end
end
def okCh (b:UInt8):Bool:=(decide (97<=b.toNat)&&decide (b.toNat<=122))||(decide (48<=b.toNat)&&decide (b.toNat<=57))
def okName (s:ByteArray):Bool:=decide (1<=s.size)&&decide (s.size<=16)&&(byt s).all okCh
theorem all_take (l:List UInt8) (k:Nat) (h:k<l.length):(l.take (k+1)).all okCh=((l.take k).all okCh&&okCh l[k]):=by
 rw[List.take_succ_eq_append_getElem h,List.all_append];simp
theorem all_not (l:List UInt8) (k:Nat) (h:k<l.length) (hb:okCh l[k]=false):l.all okCh=false:=by
 rw[List.all_eq_false]
 exact⟨l[k],List.getElem_mem h,by simp[hb]⟩
theorem Name_calls (s:ByteArray) (w:World) :
 Calls Tryz.prog 169 #[.string s] w fun e w'=>e=.returned (.bool (okName s))/\w=w':=by
 by_cases h1:s.size<1
 · have h1':(s.size:Int)<1:=by omega
   have hn:Hid (okName s=false):=Lib.hid (by simp[okName];omega)
   go_enter Tryz.func169,Tryz.ntmps169
   go_wp2
   go_ret
   exact⟨by rw[hn.out];rfl,rfl⟩
 have h1':¬ (s.size:Int)<1:=by omega
 by_cases h16:16<s.size
 · have h16':(16:Int)<(s.size:Int):=by omega
   have hn:Hid (okName s=false):=Lib.hid (by simp[okName];omega)
   go_enter Tryz.func169,Tryz.ntmps169
   go_wp2
   go_ret
   exact⟨by rw[hn.out];rfl,rfl⟩
 have h16':¬ (16:Int)<(s.size:Int):=by omega
 have hlen:(byt s).length=s.size:=by show s.data.toList.length=s.data.size;simp
 go_enter Tryz.func169,Tryz.ntmps169
 go_wp2_with fail
 go_loopw [15] (fun i wr=>∃ k:Nat,k<=s.size/\i=.int .i64 (k:Int)/\Hid (((byt s).take k).all okCh=true)/\wr=w) (fun i _=>s.size - (intOf i).toNat)
 case atStart=>exact⟨0,by omega,rfl,Lib.hid (by simp),rfl⟩
 case round =>
  obtain⟨k,hk,rfl,hall,rfl⟩:=hrel
  by_cases hlt:k<s.size
  · have hki:(k:Int)<(s.size:Int):=by omega
    have hkb:k<(byt s).length:=by omega
    have hT:=Lib.hid (all_take (byt s) k hkb)
    have hF:=Lib.hid (all_not (byt s) k hkb)
    have hget:s[k]=(byt s)[k]:=by simp[byt];rfl
    generalize (byt s)[k]=x at *
    have hx256:x.toNat<256:=x.toNat_lt
    go_upto_if 34 with (fail)
    all_goals
     go_wp2
     all_goals first
      | (go_ret
         have hx:okCh x=false:=by simp[okCh];omega
         exact⟨by rw[show okName s=false by simp[okName,hF.out hx]];rfl,rfl⟩)
      | (have hx:okCh x=true:=by simp[okCh];omega
         have hr:Hid (((byt s).take (k+1)).all okCh=true):=Lib.hid (by rw[hT.out,hall.out,hx];rfl)
         go_roundw
         case rel=>exact⟨k+1,by omega,by go_num,hr,by trivial⟩
         case measure=>simp[intOf];omega)
  · have hki:¬ (k:Int)<(s.size:Int):=by omega
    have hks:k=s.size:=by omega
    have hn:Hid (okName s=true):=by
     have:=hall.out
     rw[hks,<- hlen,List.take_length] at this
     exact Lib.hid (by simp only[okName,this];simp;omega)
    clear hks
    go_wp2
    go_ret
    exact⟨by rw[hn.out];rfl,rfl⟩
theorem lt_longN' (n:Nat):n<256 ^ longN n:=by
 induction n using Nat.strongRecOn with
 | _ n ih =>
   rcases Nat.eq_zero_or_pos n with h|h
   · subst h;simp[longN_zero]
   · rw[longN_pos n h,Nat.pow_succ]
     have:=ih (n / 256) (by omega)
     omega
theorem longN_ge (n:Nat) (h:0<n):256 ^ (longN n - 1)<=n:=by
 induction n using Nat.strongRecOn with
 | _ n ih =>
   rw[longN_pos n h]
   simp only[Nat.add_sub_cancel]
   rcases Nat.eq_zero_or_pos (n / 256) with h1|h1
   · rw[h1,longN_zero];simp;omega
   · have h2:=ih (n / 256) (by omega) h1
     have h3:longN (n / 256)=(longN (n / 256) - 1)+1:=by
      have:=longN_pos (n / 256) h1;omega
     rw[h3,Nat.pow_succ]
     omega
theorem longN_eq (n k:Nat) (h1:n<256 ^ (k+1)) (h2:256 ^ k<=n):longN n=k+1:=by
 have h3:=longN_lt (k+1) n h1
 rcases Nat.lt_or_ge (longN n) (k+1) with h|h
 · exfalso
   have h4:=lt_longN' n
   have h5:256 ^ longN n<=256 ^ k:=Nat.pow_le_pow_right (by decide) (by omega)
   omega
 · omega
theorem ofBe_cons (b:UInt8) (l:List UInt8):ofBe (b :: l)=b.toNat * 256 ^ l.length+ofBe l:=by
 have key:∀ (l:List UInt8) (a:Nat),l.foldl (fun n (b:UInt8)=>n * 256+b.toNat) a=a * 256 ^ l.length+ofBe l:=by
  intro l
  induction l with
  | nil=>intro a;simp[ofBe]
  | cons x l ih =>
    intro a
    simp only[List.foldl_cons,List.length_cons,ofBe]
    rw[ih,ih (0 * 256+x.toNat),Nat.pow_succ]
    have:(a * 256+x.toNat) * 256 ^ l.length=a * (256 ^ l.length * 256)+x.toNat * 256 ^ l.length:=by
     rw[Nat.add_mul,Nat.mul_assoc,Nat.mul_comm 256]
    rw[Nat.zero_mul,Nat.zero_add,this]
    omega
 have:=key l b.toNat
 simpa [ofBe] using this
theorem ofBe_be (k:Nat):∀ n,ofBe (be k n)=n % 256 ^ k:=by
 induction k with
 | zero=>intro n;simp[be,ofBe,Nat.mod_one]
 | succ k ih =>
   intro n
   rw[be,ofBe_cons,ih,be_length,Nat.pow_succ,Nat.mod_mul]
   simp
   rw[Nat.mul_comm,Nat.add_comm]
theorem be_mod (k:Nat):∀ n m,n % 256 ^ k=m % 256 ^ k->be k n=be k m:=by
 induction k with
 | zero=>intro n m _;rfl
 | succ k ih =>
   intro n m h
   have hp:0<256 ^ k:=Nat.pow_pos (by decide)
   have e:∀ x:Nat,x % 256 ^ (k+1)=256 ^ k * (x / 256 ^ k % 256)+x % 256 ^ k:=by
    intro x;rw[Nat.pow_succ,Nat.mod_mul,Nat.add_comm]
   rw[e n,e m] at h
   have l1:=Nat.mod_lt n hp
   have l2:=Nat.mod_lt m hp
   have h1:n / 256 ^ k % 256=m / 256 ^ k % 256:=by
    have a1:(256 ^ k * (n / 256 ^ k % 256)+n % 256 ^ k) / 256 ^ k=n / 256 ^ k % 256:=by
     rw[Nat.mul_add_div hp,Nat.div_eq_of_lt l1,Nat.add_zero]
    have a2:(256 ^ k * (m / 256 ^ k % 256)+m % 256 ^ k) / 256 ^ k=m / 256 ^ k % 256:=by
     rw[Nat.mul_add_div hp,Nat.div_eq_of_lt l2,Nat.add_zero]
    rw[<- a1,<- a2,h]
   have h2:n % 256 ^ k=m % 256 ^ k:=by rw[h1] at h;omega
   rw[be,be,ih n m h2]
   congr 1
   apply UInt8.toNat_inj.1
   simpa using h1
theorem be_ofBe:∀ l:List UInt8,be l.length (ofBe l)=l
 | []=>rfl
 | b :: l=>by
   have h1:=ofBe_lt l
   have hp:0<256 ^ l.length:=Nat.pow_pos (by decide)
   rw[List.length_cons,be,ofBe_cons]
   have e1:(b.toNat * 256 ^ l.length+ofBe l) / 256 ^ l.length=b.toNat:=by
    rw[Nat.mul_comm,Nat.mul_add_div hp,Nat.div_eq_of_lt h1,Nat.add_zero]
   rw[e1]
   have e2:be l.length (b.toNat * 256 ^ l.length+ofBe l)=be l.length (ofBe l):=be_mod _ _ _ (by simp)
   rw[e2,be_ofBe l]
   simp
theorem rdN_pack (n:Nat) (h:n<18446744073709551616) (rest:List UInt8):rdN (packN n++rest) false=(n,rest,false):=by
 have h8:=longN_lt 8 n (by omega)
 have hb:(UInt8.ofNat (longN n)).toNat=longN n:=by simp;omega
 have hlen:=be_length (longN n) n
 have e1:(be (longN n) n++rest).take (longN n)=be (longN n) n:=by rw[<- hlen];simp[hlen]
 have e2:(be (longN n) n++rest).drop (longN n)=rest:=by rw[<- hlen];simp[hlen]
 have hhead:0<longN n->¬ (be (longN n) n++rest).head?=some 0:=by
  intro h0 hh
  have hn0:0<n:=by
   rcases Nat.eq_zero_or_pos n with h1|h1
   · subst h1;rw[longN_zero] at h0;omega
   · exact h1
  have hg:=longN_ge n hn0
  have hl:=lt_longN' n
  obtain⟨k,hk⟩:∃ k,longN n=k+1:=⟨longN n - 1,by omega⟩
  rw[hk] at hh hg hl
  simp only[be,List.cons_append,List.head?_cons,Option.some.injEq,Nat.add_sub_cancel] at hh hg
  have hz:n / 256 ^ k % 256=0:=by
   have:=congrArg UInt8.toNat hh
   simpa using this
  have hp:0<256 ^ k:=Nat.pow_pos (by decide)
  have hq1:n / 256 ^ k<256:=by
   rw[Nat.pow_succ] at hl
   exact Nat.div_lt_of_lt_mul hl
  have hq0:0<n / 256 ^ k:=Nat.div_pos hg hp
  omega
 have hq:(false||decide (8<(UInt8.ofNat (longN n)).toNat)||decide ((be (longN n) n++rest).length<(UInt8.ofNat (longN n)).toNat)||(decide (0<(UInt8.ofNat (longN n)).toNat)&&(be (longN n) n++rest).head?==some 0))=false:=by
  rw[hb]
  simp only[Bool.false_or,Bool.or_eq_false_iff,decide_eq_false_iff_not,Bool.and_eq_false_iff]
  refine⟨⟨by omega,by simp[hlen]⟩,?_⟩
  by_cases h0:0<longN n
  · right
    exact beq_eq_false_iff_ne.2 (hhead h0)
  · left;exact h0
 unfold packN
 simp only[List.cons_append,rdN]
 rw[hq,hb,e1,e2,ofBe_be,Nat.mod_eq_of_lt (lt_longN' n)]
 rfl
theorem rdN_back {l:List UInt8} {wr:Bool} (h:(rdN l wr).2.2=false):l=packN (rdN l wr).1++(rdN l wr).2.1/\wr=false:=by
 match l with
 | []=>simp[rdN] at h
 | b :: r =>
   simp only[rdN] at h ⊢
   split at h
   · simp at h
   · rename_i hq
     rw[if_neg hq]
     simp only[Bool.or_eq_true,not_or,Bool.not_eq_true,Bool.and_eq_false_iff,decide_eq_false_iff_not] at hq
     obtain⟨⟨⟨h0,h8⟩,hl⟩,hx⟩:=hq
     refine⟨?_,h0⟩
     have hlen:(r.take b.toNat).length=b.toNat:=by simp;omega
     have hk:longN (ofBe (r.take b.toNat))=b.toNat:=by
      rcases Nat.eq_zero_or_pos b.toNat with hb|hb
      · rw[hb];simp[ofBe,longN_zero]
      · obtain⟨k,hk⟩:∃ k,b.toNat=k+1:=⟨b.toNat - 1,by omega⟩
        rw[hk] at hlen hx ⊢
        match r,hlen,hx with
        | [],hlen,_=>simp at hlen
        | x :: r',hlen,hx =>
          have hx0:x≠0:=by
           rintro rfl
           simp at hx
          have hx1:0<x.toNat:=by
           rcases Nat.eq_zero_or_pos x.toNat with h|h
           · exact absurd (UInt8.toNat_inj.1 (show x.toNat=(0:UInt8).toNat from h)) hx0
           · exact h
          simp only[List.take_succ_cons,List.length_cons,Nat.add_right_cancel_iff] at hlen ⊢
          have hlt:=ofBe_lt (x :: r'.take k)
          simp only[List.length_cons,hlen] at hlt
          refine longN_eq _ k hlt ?_
          rw[ofBe_cons,hlen]
          have:1 * 256 ^ k<=x.toNat * 256 ^ k:=Nat.mul_le_mul_right _ hx1
          omega
     have e1:=be_ofBe (r.take b.toNat)
     rw[hlen] at e1
     unfold packN
     rw[hk,e1,List.cons_append,List.take_append_drop]
     simp
theorem rdB_pack (most:Int) (b:List UInt8) (hb:b.length<18446744073709551616) (hm:(b.length:Int)<=most) (rest:List UInt8):rdB most (packN b.length++b++rest) false=(b,rest,false):=by
 rw[List.append_assoc]
 unfold rdB
 rw[rdN_pack b.length hb]
 have hq:(false||decide (most<0)||decide (most.toNat<b.length)||decide ((b++rest).length<b.length))=false:=by
  simp;omega
 simp only
 rw[hq]
 simp
theorem rdB_back {most:Int} {l:List UInt8} {wr:Bool} (h:(rdB most l wr).2.2=false) :
 l=packN (rdB most l wr).1.length++(rdB most l wr).1++(rdB most l wr).2.1/\((rdB most l wr).1.length:Int)<=most/\wr=false:=by
 unfold rdB at h ⊢
 split at h
 · simp at h
 · rename_i hq
   rw[if_neg hq]
   simp at hq
   obtain⟨⟨⟨h0,h1⟩,h2⟩,h3⟩:=hq
   obtain⟨e1,e2⟩:=rdN_back h0
   have hlen:((rdN l wr).2.1.take (rdN l wr).1).length=(rdN l wr).1:=by simp;omega
   refine⟨?_,?_,e2⟩
   · simp only
     rw[hlen,List.append_assoc,List.take_append_drop]
     exact e1
   · simp only
     rw[hlen]
     omega
theorem unfold_fold (n:Int) (h0:-9223372036854775808<=n) (h1:n<=9223372036854775807):unfoldI (foldI n)=n:=by
 unfold foldI unfoldI
 split <;> split <;> omega
theorem fold_unfold (n:Nat) (h:n<18446744073709551616):foldI (unfoldI n)=n/\-9223372036854775808<=unfoldI n/\unfoldI n<=9223372036854775807:=by
 unfold foldI unfoldI
 split <;> split <;> omega
theorem toI64_mod (n:Int) (h0:-9223372036854775808<=n) (h1:n<=9223372036854775807):toI64 (n % 18446744073709551616).toNat=n:=by
 unfold toI64;omega
theorem mod_toI64 (n:Nat) (h:n<18446744073709551616):(toI64 n % 18446744073709551616).toNat=n/\-9223372036854775808<=toI64 n/\toI64 n<=9223372036854775807:=by
 unfold toI64;omega
theorem okV_kind {k n:Int} {s:ByteArray} (h:okV k n s=true):(k=1∨k=2∨k=3)/\s.size<=40:=by
 unfold okV at h
 split at h
 · rename_i hk
   rw[ByteArray.toList_eq] at h
   simp at hk h
   refine⟨.inl hk,?_⟩
   show s.data.size<=40
   simp[h]
 · split at h
   · rename_i hk
     simp at hk h
     exact⟨.inr (.inl hk),by omega⟩
   · split at h
     · rename_i hk
       rw[ByteArray.toList_eq] at h
       simp at hk h
       refine⟨.inr (.inr hk),?_⟩
       show s.data.size<=40
       simp[h.2]
     · simp at h
theorem rdVn_num (k n:Int) (hk:k=1∨k=2∨k=3) (h0:-9223372036854775808<=n) (h1:n<=9223372036854775807):rdVn (kindN k) (numV k n)=n:=by
 unfold rdVn numV kindN
 rcases hk with rfl|rfl|rfl
 · simp;exact unfold_fold n h0 h1
 · simp;exact toI64_mod n h0 h1
 · simp;exact toI64_mod n h0 h1
theorem rdV_pack (k n:Int) (s:ByteArray) (hok:okV k n s=true) (h0:-9223372036854775808<=n) (h1:n<=9223372036854775807) (rest:List UInt8) :
 rdV (packV k n s++rest) false=((k,n,byt s),rest,false):=by
 obtain⟨hk,hs⟩:=okV_kind hok
 have hkn:=kindN_lt k
 have hnn:=numV_lt k n h0 h1
 have hsl:(byt s).length=s.size:=by simp
 unfold rdV packV
 rw[List.append_assoc,List.append_assoc,rdN_pack _ hkn]
 simp only
 rw[rdN_pack _ hnn]
 simp only
 rw[<- hsl,rdB_pack 40 (byt s) (by omega) (by omega)]
 simp only
 rw[rdVn_num k n hk h0 h1]
 have hkk:(kindN k:Int)=k:=by unfold kindN;omega
 have hk3:¬ 3<kindN k:=by omega
 rw[hkk]
 have hsb:(⟨(byt s).toArray⟩:ByteArray)=s:=by cases s;simp
 rw[hsb,hok]
 simp[hk3]
theorem rdV_back {l:List UInt8} {wr:Bool} (h:(rdV l wr).2.2=false) :
 l = packV (rdV l wr).1.1 (rdV l wr).1.2.1 ⟨(rdV l wr).1.2.2.toArray⟩++(rdV l wr).2.1/\okV (rdV l wr).1.1 (rdV l wr).1.2.1 ⟨(rdV l wr).1.2.2.toArray⟩=true/\wr=false /\
   -9223372036854775808<=(rdV l wr).1.2.1/\(rdV l wr).1.2.1<=9223372036854775807:=by
 simp only[rdV] at h ⊢
 split at h
 · simp at h
 · rename_i hq
   rw[if_neg hq]
   simp only[Bool.or_eq_true,not_or,decide_eq_true_eq,Bool.not_eq_true,Bool.not_eq_eq_eq_not] at hq
   obtain⟨⟨hk,hw⟩,hok⟩:=hq
   have l1:=rdN_lt l wr
   have l2:=rdN_lt (rdN l wr).2.1 (rdN l wr).2.2
   obtain⟨e3,e3m,w2⟩:=rdB_back hw
   obtain⟨e2,w1⟩:=rdN_back w2
   obtain⟨e1,w0⟩:=rdN_back w1
   have hok':okV ((rdN l wr).1:Int) (rdVn (rdN l wr).1 (rdN (rdN l wr).2.1 (rdN l wr).2.2).1) ⟨(rdB 40 (rdN (rdN l wr).2.1 (rdN l wr).2.2).2.1 (rdN (rdN l wr).2.1 (rdN l wr).2.2).2.2).1.toArray⟩=true:=by simpa using hok
   have hkd:=(okV_kind hok').1
   simp only
   generalize (rdB 40 (rdN (rdN l wr).2.1 (rdN l wr).2.2).2.1 (rdN (rdN l wr).2.1 (rdN l wr).2.2).2.2)=c at *
   generalize rdN (rdN l wr).2.1 (rdN l wr).2.2=b at *
   generalize rdN l wr=a at *
   obtain⟨k,l1',w1'⟩:=a
   obtain⟨n,l2',w2'⟩:=b
   obtain⟨s,l3',w3'⟩:=c
   simp only at *
   have hkk:kindN (k:Int)=k:=by unfold kindN;omega
   have hnn:numV (k:Int) (rdVn k n)=n/\-9223372036854775808<=rdVn k n/\rdVn k n<=9223372036854775807:=by
    unfold numV rdVn
    by_cases h1:k=1
    · subst h1;simp;exact fold_unfold n l2
    · rw[if_neg (by omega),if_neg h1];exact mod_toI64 n l2
   refine⟨?_,hok',w0,hnn.2⟩
   unfold packV
   rw[hkk,hnn.1,e1,e2,e3]
   simp[ByteArray.size,byt]
