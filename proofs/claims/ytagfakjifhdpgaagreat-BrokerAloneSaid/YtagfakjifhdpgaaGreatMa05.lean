/-
  The walk of event.Check (layer 4). Conditions: none.
-/
import Derived.Test.YtagfakjifhdpgaaGreatMa04
set_option maxRecDepth 100000
set_option maxHeartbeats 16000000
set_option linter.unusedVariables false
set_option linter.unusedSimpArgs false
namespace Go.Proofs.YtagfakjifhdpgaaGreat
open Go Go.RowKit
theorem ECheck_calls (A:Option Addr) (c:Nat) (l:List Att) (w:World) (B:Nat) (hR:Reads w B 4 A l.length (l.flatMap attc)) (hB:B<=w.heap.size) :
 Calls Tryz.prog 88 #[.slice A l.length c] w fun e w'=>e=.returned (.int .i64 (chkE l))/\Below w.heap.size w w':=by
 by_cases h1:l.length<1
 · have h1':(l.length:Int)<1:=by omega
   have HE:Hid (chkE l=40):=Lib.hid (by simp[chkE,okE,show ¬ 1<=l.length by omega])
   clear hR
   generalize l.length=n at *
   go_enter Tryz.func88,Tryz.ntmps88
   go_wp2
   go_step3
   go_wp2
   rw[Exit.noGoto_ret]
   go_ret
   exact⟨by rw[HE.out];rfl,Below.refl _ _⟩
 have h1':¬ (l.length:Int)<1:=by omega
 by_cases h16:16<l.length
 · have h16':(16:Int)<(l.length:Int):=by omega
   have HE:Hid (chkE l=40):=Lib.hid (by simp[chkE,okE];omega)
   clear hR
   generalize l.length=n at *
   go_enter Tryz.func88,Tryz.ntmps88
   go_wp2
   go_step3
   go_wp2
   rw[Exit.noGoto_ret]
   go_ret
   exact⟨by rw[HE.out];rfl,Below.refl _ _⟩
 have h16':¬ (16:Int)<(l.length:Int):=by omega
 obtain⟨b,off,rfl,hbB,hcell⟩:=hR.atts (by omega)
 have HC:=Lib.hid hcell
 clear hcell hR
 go_enter Tryz.func88,Tryz.ntmps88
 go_wp2
 go_step3
 go_wp2_with fail
 go_step3
 go_wp2_with fail
 go_loopw [3,16] (fun m i wr=>∃ k:Nat,k<=l.length/\m=.int .i64 (k:Int)/\i=.int .i64 (k:Int)/\Hid (okL none (l.take k)=true)/\Below w.heap.size w wr) (fun _ i _=>l.length - (intOf i).toNat)
 case atStart=>exact⟨0,by omega,rfl,rfl,Lib.hid (by simp[okL]),Below.refl _ _⟩
 case round =>
  obtain⟨k,hk,rfl,rfl,hall,hb⟩:=hrel
  by_cases hlt:k<l.length
  · have hki:(k:Int)<(l.length:Int):=by omega
    obtain⟨e0,e1,e2,e3⟩:=HC.out k hlt
    have d0:=(hb.cell (p:=⟨b,off+k * 4,none⟩) (Nat.lt_of_lt_of_le hbB hB)).trans e0
    have d1:=(hb.cell (p:=⟨b,off+k * 4+1,none⟩) (Nat.lt_of_lt_of_le hbB hB)).trans e1
    have d2:=(hb.cell (p:=⟨b,off+k * 4+2,none⟩) (Nat.lt_of_lt_of_le hbB hB)).trans e2
    have d3:=(hb.cell (p:=⟨b,off+k * 4+3,none⟩) (Nat.lt_of_lt_of_le hbB hB)).trans e3
    clear e0 e1 e2 e3
    have hz:=hb.size
    have hzz:b<wr.heap.size:=by omega
    have hbad:Hid (okL none (l.take (k+1))=false->chkE l=40):=Lib.hid (okE_bad l (k+1))
    have hend:∀ W,Below wr.heap.size wr W->Below w.heap.size w W:=fun W h=>hb.trans (h.mono hz)
    have hend:=Lib.hid hend
    rcases Nat.eq_zero_or_pos k with h0|h0
    · have hT:Hid (okL none (l.take (k+1))=okA l[k]):=by subst h0;exact Lib.hid (okL_zero l hlt)
      have hk0:¬ (0:Int)<(k:Int):=by omega
      have hd0:decide (0<k)=false:=by simp;omega
      clear h0
      generalize l[k]=x at *
      obtain⟨s,vk,vn,vs⟩:=x
      simp only at d0 d1 d2 d3
      go_wp2_with fail
      refine (Name_calls s _).mono ?_
      rintro e w' ⟨rfl,rfl⟩
      cases hn:okName s
      · go_wp2
        rw[Exit.noGoto_ret]
        go_ret
        exact⟨by rw[hbad.out (by rw[hT.out];simp[okA,hn])];rfl,hend.out _ ((Below.refl _ _).alloc (Nat.le_refl _) _)⟩
      · go_wp2_with fail
        refine (Check_calls vk vn vs _).mono ?_
        rintro e w2 ⟨rfl,hb2⟩
        have hbx:Below wr.heap.size wr w2:=((Below.refl _ _).alloc (Nat.le_refl _) _).trans (hb2.mono (by simp))
        have hx2:=(Blk.new wr 90 #[.string s,.int .i64 vk,.int .i64 vn,.string vs]).below hb2 (by simp)
        clear hb2
        cases hv:okV vk vn vs
        · have hch:(chk vk vn vs != 0)=true:=by simp[chk,hv]
          go_wp2
          rw[Exit.noGoto_ret]
          go_ret
          exact⟨by rw[hbad.out (by rw[hT.out];simp[okA,hv])];rfl,hend.out _ hbx⟩
        · have hch:(chk vk vn vs != 0)=false:=by simp[chk,hv]
          have q0:=hx2.cell 0
          simp at q0
          go_wp2_with fail
          go_quiet (fail)
          have hr:Hid (okL none (l.take (k+1))=true):=Lib.hid (by rw[hT.out];simp[okA,hn,hv])
          go_wp2
          go_roundw
          case rel=>exact⟨k+1,by omega,by go_num,by go_num,hr,hend.out _ (below_drewN hbx _)⟩
          case measure=>simp[intOf];omega
    · have hk0:(0:Int)<(k:Int):=by omega
      have hd0:decide (0<k)=true:=by simp;omega
      have hkp:k - 1<l.length:=by omega
      have hT:Hid (okL none (l.take (k+1))=(okL none (l.take k)&&(okA l[k]&&ltS l[k - 1].1 l[k].1))):=by
       refine Lib.hid ?_
       obtain⟨j,rfl⟩:∃ j,k=j+1:=⟨k - 1,by omega⟩
       exact okL_succ l j hlt
      obtain⟨e0,_⟩:=HC.out (k - 1) hkp
      have p0:=(hb.cell (p:=⟨b,off+(k - 1) * 4,none⟩) (Nat.lt_of_lt_of_le hbB hB)).trans e0
      clear e0
      generalize l[k - 1].1=y at *
      generalize l[k]=x at *
      obtain⟨s,vk,vn,vs⟩:=x
      simp only at d0 d1 d2 d3 hT
      go_wp2_with fail
      refine (Name_calls s _).mono ?_
      rintro e w' ⟨rfl,rfl⟩
      cases hn:okName s
      · go_wp2
        rw[Exit.noGoto_ret]
        go_ret
        exact⟨by rw[hbad.out (by rw[hT.out];simp[okA,hn])];rfl,hend.out _ ((Below.refl _ _).alloc (Nat.le_refl _) _)⟩
      · go_wp2_with fail
        refine (Check_calls vk vn vs _).mono ?_
        rintro e w2 ⟨rfl,hb2⟩
        have hbx:Below wr.heap.size wr w2:=((Below.refl _ _).alloc (Nat.le_refl _) _).trans (hb2.mono (by simp))
        have hx2:=(Blk.new wr 90 #[.string s,.int .i64 vk,.int .i64 vn,.string vs]).below hb2 (by simp)
        clear hb2
        cases hv:okV vk vn vs
        · have hch:(chk vk vn vs != 0)=true:=by simp[chk,hv]
          go_wp2
          rw[Exit.noGoto_ret]
          go_ret
          exact⟨by rw[hbad.out (by rw[hT.out];simp[okA,hv])];rfl,hend.out _ hbx⟩
        · have hch:(chk vk vn vs != 0)=false:=by simp[chk,hv]
          have q0:=hx2.cell 0
          simp at q0
          have p1:w2.cell? ⟨b,off+(k - 1) * 4,none⟩=some (.string y):=(hbx.cell hzz).trans p0
          have hw1:IntKind.i64.wrap ((k:Int) - 1)=(k:Int) - 1:=IntWalk.i64_in _ (by omega)
          have hp1:(1:Int)<=(k:Int):=by omega
          have hp2:((k:Int) - 1).toNat=k - 1:=by omega
          have hp3:(k:Int) - 1<(l.length:Int):=by omega
          have hbk:b<w2.heap.size:=by have:=hbx.size;omega
          cases hls:ltS y s
          · have hls':(!(Op.bytesLess y.toList s.toList))=true:=by unfold ltS at hls;simp[hls]
            have HB:Hid (chkE l=40):=Lib.hid (hbad.out (by rw[hT.out];simp[okA,hls]))
            go_wp2_with fail
            go_quiet (fail)
            go_wp2
            rw[Exit.noGoto_ret]
            go_ret
            exact⟨by rw[HB.out];rfl,hend.out _ (below_drewN hbx _)⟩
          · have hls':(!(Op.bytesLess y.toList s.toList))=false:=by unfold ltS at hls;simp[hls]
            have hr:Hid (okL none (l.take (k+1))=true):=Lib.hid (by rw[hT.out,hall.out];simp[okA,hn,hv,hls])
            go_wp2_with fail
            go_quiet (fail)
            clear hw1 hp2
            go_wp2
            go_roundw
            case rel=>exact⟨k+1,by omega,by go_num,by go_num,hr,hend.out _ (below_drewN hbx _)⟩
            case measure=>simp[intOf];omega
  · have hki:¬ (k:Int)<(l.length:Int):=by omega
    have hkl:k=l.length:=by omega
    have HE:Hid (chkE l=0):=Lib.hid (okE_good l (by omega) (by omega) (by have:=hall.out;rwa [hkl] at this))
    clear hkl
    go_wp2
    try rw[Exit.noGoto_ret]
    go_ret
    exact⟨by rw[HE.out];rfl,hb⟩
section
variable {l la lb:List Att} {b:List UInt8} {v va vb:Value} {w:World}
theorem ECheck_evt (h:evt l v w):Calls Tryz.prog 88 #[v] w fun e w'=>e=.returned (.int .i64 (chkE l))/\Below w.heap.size w w':=by
 obtain⟨A,c,rfl,hR⟩:=h
 exact ECheck_calls A c l w _ hR (Nat.le_refl _)
end
theorem Home_calls (a:Idn) (w:World) :
 Calls Tryz.prog 199 #[idv a] w fun e w'=>e=.returned (.bool (homeB a.1))/\K w w':=by
 obtain⟨b,l,s⟩:=a
 have hb:K w (w.alloc (.cells #[.int .i64 b,.int .u64 (l:Int),.int .u64 (s:Int)] 35)):=(K.rf w).al _
 go_enter Tryz.func199,Tryz.ntmps199
 go_wp2
 all_goals
  go_ret
  refine⟨?_,hb⟩
  show Ending.returned (.bool _)=Ending.returned (.bool _)
  congr 2
  unfold homeB
  simp
  try omega
def emptyEn (x:Ent):Bool:=decide (x=ent0)
theorem emptyEn_iff (x:Ent):emptyEn x=(decide (x.kind=0)&&(decide (x.br=0)&&decide (x.life=0)&&decide (x.ser=0))&&decide (x.cl=0)&&decide (x.sub=0)&&x.f.isEmpty&&x.es.isEmpty):=by
 obtain⟨k,b,l,s,c,u,f,es⟩:=x
 simp only[emptyEn,ent0,Ent.mk.injEq]
 cases f <;> cases es <;> simp[Bool.and_assoc]
theorem Empty_calls (x:Ent) (v:Value) (w:World) (h:ent x v w) :
 Calls Tryz.prog 249 #[v] w fun e w'=>e=.returned (.bool (emptyEn x))/\K w w':=by
 obtain⟨vf,ve,rfl,hf,he⟩:=h
 obtain⟨A,c,rfl⟩:=flt_slice hf
 obtain⟨D,d,rfl⟩:=lst_slice he
 clear hf he
 obtain⟨k,b,l,s,cl,u,f,es⟩:=x
 simp only
 go_enter Tryz.func249,Tryz.ntmps249
 go_wp2
 all_goals
  go_ret
  refine⟨?_,(K.rf w).al _⟩
  rw[emptyEn_iff]
  show Ending.returned (.bool _)=Ending.returned (.bool _)
  simp_all [len0']
theorem chkEn_bad {x:Ent} (h:okEn x=false):chkEn x=110:=by simp[chkEn,h]
theorem chkEn_good {x:Ent} (h:okEn x=true):chkEn x=0:=by simp[chkEn,h]
theorem chkE_eq (l:List Att):(chkE l==0)=okE l:=by unfold chkE;cases okE l <;> rfl
theorem chkF_eq (l:List Tst):(chkF l==0)=okF l:=by unfold chkF;cases okF l <;> rfl
theorem all_take_succ {α:Type} (p:α->Bool) (l:List α) (k:Nat) (h:k<l.length):(l.take (k+1)).all p=((l.take k).all p&&p l[k]):=by
 rw[List.take_succ_eq_append_getElem h,List.all_append];simp
theorem all_take_bad {α:Type} (p:α->Bool) (l:List α) (k:Nat) (h:(l.take k).all p=false):l.all p=false:=by
 cases hl:l.all p with
 | false=>rfl
 | true =>
   rw[List.all_eq_true] at hl
   rw[List.all_eq_false] at h
   obtain⟨x,hx,hp⟩:=h
   exact absurd (hl x (List.mem_of_mem_take hx)) hp
theorem NCheck_calls (x:Ent) (v:Value) (w:World) (h:ent x v w) :
 Calls Tryz.prog 136 #[v] w fun e w'=>e=.returned (.int .i64 (chkEn x))/\K w w':=by
 obtain⟨vf,ve,rfl,hf,he⟩:=h
 obtain⟨A,c,rfl⟩:=flt_slice hf
 obtain⟨D,d,e0,he,hd⟩:=he
 obtain rfl:=e0
 obtain⟨k,b,l,s,cl,u,f,es⟩:=x
 simp only at hf he hd ⊢
 have hx:=Blk.new w 42 (entA ⟨k,b,l,s,cl,u,f,es⟩ (.slice A f.length c) (.slice D es.length d))
 have k1:K w (w.alloc (.cells (entA ⟨k,b,l,s,cl,u,f,es⟩ (.slice A f.length c) (.slice D es.length d)) 42)):=(K.rf w).al _
 have hg:w.heap.size<(w.alloc (.cells (entA ⟨k,b,l,s,cl,u,f,es⟩ (.slice A f.length c) (.slice D es.length d)) 42)).heap.size:=by simp
 generalize hchk:chkEn ⟨k,b,l,s,cl,u,f,es⟩=E
 go_enter Tryz.func136,Tryz.ntmps136
 go_wp2_with fail
 generalize w.alloc _=w1 at *
 generalize w.heap.size=g at hx hg ⊢
 have qx:=hx.cells
 have hf1:=flt_st _ _ _ _ hf k1
 have he1:=lsr_st he k1
 clear hf he
 refine (Home_calls (b,l,s) w1).mono ?_
 rintro e w2 ⟨rfl,k2⟩
 have k02:=k1.tr k2
 cases hh:homeB b
 · have HE:Hid (E=110):=Lib.hid (by rw[<- hchk];exact chkEn_bad (by simp[okEn,hh]))
   clear hchk
   go_wp2
   go_ret
   exact⟨by rw[HE.out];rfl,k02⟩
 by_cases hc0:cl<0
 · have HE:Hid (E=110):=Lib.hid (by rw[<- hchk];exact chkEn_bad (by simp[okEn];omega))
   clear hchk
   go_wp2
   go_ret
   exact⟨by rw[HE.out];rfl,k02⟩
 by_cases hc1:32<=cl
 · have HE:Hid (E=110):=Lib.hid (by rw[<- hchk];exact chkEn_bad (by simp[okEn];omega))
   clear hchk
   go_wp2
   go_ret
   exact⟨by rw[HE.out];rfl,k02⟩
 by_cases hk1:k=1
 · subst hk1
   have HE:Hid (E=if (decide (u=0)&&f.isEmpty&&decide (es.length<=8)&&es.all okE)=true then 0 else 110):=Lib.hid (by
    rw[<- hchk];simp[chkEn,okEn,hh,show 0<=cl by omega,show cl<32 by omega])
   clear hchk
   go_upto_region 8 with (fail)
   go_cut [3] from 27 to 41 (fun v wc=>v=.bool (decide (u=0)&&f.isEmpty&&decide (es.length<=8))/\wc=w2)
   case first =>
    have e1:((u:Int)==0)=decide (u=0):=by
     by_cases h:u=0
     · subst h;rfl
     · simp[h]
    have e2:=len0' f
    by_cases hu:u=0
    rotate_left
    · have hu':((u:Int)==0)=false:=by simpa using hu
      go_wp2
      go_meet
      case rel=>simp[hu]
    subst hu
    by_cases hfe:f=[]
    rotate_left
    · have hu':((f.length:Int)==0)=false:=by rw[len0'];simpa using hfe
      go_wp2
      go_meet
      case rel=>simp[hfe]
    subst hfe
    by_cases h8:es.length<=8
    · have h8':(es.length:Int)<=8:=by omega
      go_wp2
      go_meet
      case rel=>simp[h8]
    · have h8':¬ (es.length:Int)<=8:=by omega
      go_wp2
      go_meet
      case rel=>simp[h8]
   case rest =>
   obtain⟨rfl,rfl⟩:=hcut
   have h8:Hid ((decide (u=0)&&f.isEmpty&&decide (es.length<=8))=true->es.length<=8):=Lib.hid (by simp)
   generalize (decide (u=0)&&f.isEmpty&&decide (es.length<=8))=m0 at *
   go_wp2_with fail
   go_loopw [3,4] (fun mv iv wr=>∃ (m:Bool) (j:Nat),mv=.bool m/\iv=.int .i64 (j:Int)/\j<=es.length/\Hid (m=(m0&&(es.take j).all okE))/\K w1 wr) (fun _ i _=>es.length - (intOf i).toNat)
   case atStart=>exact⟨m0,0,rfl,rfl,by omega,Lib.hid (by simp),k2⟩
   case round =>
    obtain⟨m,j,rfl,rfl,hj,hm,kr⟩:=hrel
    cases m
    · have HB:Hid (E=110):=Lib.hid (by
       rw[HE.out,if_neg]
       have hm:=hm.out
       cases m0
       · simp
       · simp only[Bool.true_and] at hm
         have:=all_take_bad okE es j hm.symm
         rw[this];simp)
      go_wp2
      go_ret
      exact⟨by rw[HB.out];rfl,k1.tr kr⟩
    have h88:es.length<=8:=h8.out (by have:=hm.out.symm;simp only[Bool.and_eq_true] at this;exact this.1)
    by_cases hlt:j<es.length
    · have hji:(j:Int)<(es.length:Int):=by omega
      obtain⟨b1,off,cs,rfl,hb1,hcl,⟨ve,rfl,hev⟩,hcell⟩:=lsr_at he1 j hlt (by decide)
      have d0:wr.cell? ⟨b1,off+j,none⟩=some ve:=by
       have:=hcell 0 (by decide)
       rw[kr.cell (by simpa using hb1)]
       simpa [evS] using this
      have hevr:=evt_st _ _ _ _ hev kr
      go_wp2_with fail
      refine (ECheck_evt hevr).mono ?_
      rintro e w3 ⟨rfl,k3⟩
      have e3:=chkE_eq es[j]
      go_wp2
      go_roundw
      case rel=>exact⟨okE es[j],j+1,rfl,by go_num,by omega,Lib.hid (by rw[all_take_succ okE es j hlt,<- Bool.and_assoc,<- hm.out];rfl),kr.tr k3⟩
      case measure=>simp[intOf];omega
    · have hji:¬ (j:Int)<(es.length:Int):=by omega
      have HB:Hid (E=0):=Lib.hid (by
       have hm:=hm.out
       rw[List.take_of_length_le (by omega)] at hm
       rw[HE.out,if_pos hm.symm])
      go_wp2
      go_ret
      exact⟨by rw[HB.out];rfl,k1.tr kr⟩
 by_cases hk3:k=3
 · subst hk3
   have HE:Hid (E=if (f.isEmpty&&es.isEmpty)=true then 0 else 110):=Lib.hid (by
    rw[<- hchk];simp[chkEn,okEn,hh,show 0<=cl by omega,show cl<32 by omega])
   clear hchk
   cases hfe:f.isEmpty
   · have e2:((f.length:Int)==0)=false:=by rw[len0',hfe]
     have HB:Hid (E=110):=Lib.hid (by rw[HE.out,hfe];rfl)
     go_wp2
     go_ret
     exact⟨by rw[HB.out];rfl,k02⟩
   obtain rfl:f=[]:=by simpa using hfe
   cases hee:es.isEmpty
   · have e3:((es.length:Int)==0)=false:=by rw[len0',hee]
     have HB:Hid (E=110):=Lib.hid (by rw[HE.out,hee];rfl)
     go_wp2
     go_ret
     exact⟨by rw[HB.out];rfl,k02⟩
   obtain rfl:es=[]:=by simpa using hee
   have HB:Hid (E=0):=Lib.hid (by rw[HE.out];rfl)
   clear hee hfe
   go_wp2_with fail
   refine (FCheck_flt (flt_st _ _ _ _ hf1 k2)).mono ?_
   rintro e w3 ⟨rfl,k3⟩
   rw[show chkF []=0 from rfl]
   go_wp2
   go_ret
   exact⟨by rw[HB.out];rfl,k02.tr k3⟩
 by_cases hk2:k=2
 · subst hk2
   have HE:Hid (E=if (es.isEmpty&&okF f)=true then 0 else 110):=Lib.hid (by
    rw[<- hchk];simp[chkEn,okEn,hh,show 0<=cl by omega,show cl<32 by omega])
   clear hchk
   cases hee:es.isEmpty
   · have e3:((es.length:Int)==0)=false:=by rw[len0',hee]
     have HB:Hid (E=110):=Lib.hid (by rw[HE.out,hee];rfl)
     go_wp2
     go_ret
     exact⟨by rw[HB.out];rfl,k02⟩
   obtain rfl:es=[]:=by simpa using hee
   clear hee
   go_wp2_with fail
   refine (FCheck_flt (flt_st _ _ _ _ hf1 k2)).mono ?_
   rintro e w3 ⟨rfl,k3⟩
   have e3:=chkF_eq f
   cases hok:okF f
   · have HB:Hid (E=110):=Lib.hid (by rw[HE.out,hok];rfl)
     rw[hok] at e3
     clear HE
     go_wp2
     go_ret
     exact⟨by rw[HB.out];rfl,k02.tr k3⟩
   · have HB:Hid (E=0):=Lib.hid (by rw[HE.out,hok];rfl)
     rw[hok] at e3
     clear HE
     go_wp2
     go_ret
     exact⟨by rw[HB.out];rfl,k02.tr k3⟩
 have HE:Hid (E=110):=Lib.hid (by
  rw[<- hchk];exact chkEn_bad (by simp[okEn,hk1,hk2,hk3]))
 clear hchk
 have g1:(k==1)=false:=by simpa using hk1
 have g2:(k==2)=false:=by simpa using hk2
 have g3:(k==3)=false:=by simpa using hk3
 clear hk1 hk2 hk3
 go_wp2
 go_ret
 exact⟨by rw[HE.out];rfl,k02⟩
theorem wp_region_K {P:Program} {Q:Exit->Act->World->Prop} {id:Nat} {ops:Array Oper} {a0:Act} {w:World} (l:List (Value->World->Prop)) (pl:List (List Nat×List (Nat×Nat)))
 (n:Nat) (hn:a0.tmps.size=n) (hm:P.follows .mixedOrders=true) (hok:regionOk ops n=true) (hpl:planOk ops pl=true)
 (st:∀ f∈l,∀ v w w',f v w->Below w.heap.size w w'->f v w')
 (owed:OwedQ P a0 (K w) (tab l) 0 ops.toList pl)
 (fin:∀ (V:Nat->Value) (W:World),K w W->(∀ j,j<ops.size->tab l j (V j) W)->Q .normal (putAll V ops.toList 0 a0) W) :
 (Code.region id ops true).wp P Q a0 w :=
 wp_region_grow (K w) l pl n hn hm hok hpl (fun _ _ h k=>h.tr k) (K.rf w).drew st owed fin
def encId (a:Idn):List UInt8:=packN (kindN a.1)++(packN a.2.1++packN a.2.2)
theorem Nnumber_calls (l:List UInt8) (v:Value) (a:Idn) (w:World) (h:sl l v w) (hl:l.length<=900000000) (hf:fitI a) :
 Calls Tryz.prog 202 #[v,idv a] w fun e w'=>∃ v',e=.returned v'/\Own w' w.heap.size 5 v' (l++encId a)/\K w w':=by
 obtain⟨A,c,rfl,hR⟩:=h
 obtain⟨b,li,se⟩:=a
 obtain⟨h0,h1,h2⟩:=hf
 simp only at h0 h1 h2
 have p0:=packN_len (kindN b) (kindN_lt b)
 have p1:=packN_len li h1
 have p2:=packN_len se h2
 have hx:=Blk.new w 35 #[.int .i64 b,.int .u64 (li:Int),.int .u64 (se:Int)]
 have k1:K w (w.alloc (.cells #[.int .i64 b,.int .u64 (li:Int),.int .u64 (se:Int)] 35)):=(K.rf w).al _
 have hR1:=(hR.below k1 (Nat.le_refl _)).more k1.size
 go_enter Tryz.func202,Tryz.ntmps202
 go_wp2_with fail
 generalize w.alloc _=w1 at *
 have qx:=hx.cells
 rw[u64_wrap b]
 refine (Number_calls A _ c l (kindN b) (kindN_lt b) w1 _ hR1 (Nat.le_refl _) (by omega)).mono ?_
 rintro e w2 ⟨v2,rfl,ho2,k2⟩
 obtain⟨A2,c2,rfl,hR2⟩:=(sl_own ho2)
 have hl2:(l++packN (kindN b)).length<=900000009:=by simp;omega
 generalize hm2:(l++packN (kindN b)).length=m2 at *
 clear hm2
 go_wp2_with fail
 refine (Number_calls A2 m2 c2 _ li h1 w2 _ hR2 (Nat.le_refl _) (by omega)).mono ?_
 rintro e w3 ⟨v3,rfl,ho3,k3⟩
 replace k2:=k2.tr k3
 obtain⟨A3,c3,rfl,hR3⟩:=(sl_own ho3)
 have hl3:(l++packN (kindN b)++packN li).length<=900000018:=by simp;omega
 generalize hm3:(l++packN (kindN b)++packN li).length=m3 at *
 clear hm3
 go_wp2_with fail
 refine (Number_calls A3 m3 c3 _ se h2 w3 _ hR3 (Nat.le_refl _) (by omega)).mono ?_
 rintro e w4 ⟨v4,rfl,ho4,k4⟩
 have kk:=k1.tr (k2.tr k4)
 go_wp2
 go_ret
 refine⟨_,rfl,own_base ?_ ho4 (by simp[encId]),kk⟩
 exact Nat.le_trans k1.size k2.size
theorem Small_calls (g:Nat) (l:List UInt8) (wr:Bool) (n:Nat) (w:World) (h:Rd w g l wr) (hn:n<=1000000) :
 Calls Tryz.prog 215 #[.pointer (some ⟨g,0,none⟩),.int .i64 (n:Int)] w fun e w'=>e=.returned (.int .i64 ((min (rdN l wr).1 n:Nat):Int))/\Went g (rdN l wr).2.1 (rdN l wr).2.2 w w':=by
 have C1:=Lib.hid (RNumber_calls g l wr w h)
 have hlt:=rdN_lt l wr
 clear h
 generalize rdN l wr=a at *
 obtain⟨x,l1,wr1⟩:=a
 simp only at C1 hlt ⊢
 by_cases hx:n<x
 · have hx':(n:Int)<(x:Int):=by omega
   rw[show min x n=n by omega]
   go_enter Tryz.func215,Tryz.ntmps215
   go_wp2_with fail
   refine C1.out.mono ?_
   rintro e w1 ⟨rfl,hw⟩
   go_wp2
   go_ret
   exact⟨rfl,hw⟩
 · have hx':¬ (n:Int)<(x:Int):=by omega
   rw[show min x n=x by omega]
   go_enter Tryz.func215,Tryz.ntmps215
   go_wp2_with fail
   refine C1.out.mono ?_
   rintro e w1 ⟨rfl,hw⟩
   go_wp2
   go_ret
   exact⟨rfl,hw⟩
theorem Blk.went {w w':World} {g b:Nat} {t:TypeId} {cs:Array Value} {l:List UInt8} {wr:Bool} (h:Blk w b t cs) (k:Went g l wr w w') (hne:b≠g):Blk w' b t cs:=h.grown k.2 (by simpa using hne)
theorem Rd.al {w:World} {g:Nat} {l:List UInt8} {wr:Bool} (h:Rd w g l wr) (o:Obj):Rd (w.alloc o) g l wr:=h.below ((K.rf w).al o) h.lt
theorem Rd.set {w:World} {g b:Nat} {l:List UInt8} {wr:Bool} (h:Rd w g l wr) (hb:g<b) (i:Nat) (u:Value):Rd (w.setCell ⟨b,i,none⟩ u) g l wr:=h.below (Below.setCell (Below.refl b w) (Nat.le_refl _) u) hb
def rdId:Rdr Idn:=fun l wr =>
 (((min (rdN l wr).1 16:Nat),(rdN (rdN l wr).2.1 (rdN l wr).2.2).1,(rdN (rdN (rdN l wr).2.1 (rdN l wr).2.2).2.1 (rdN (rdN l wr).2.1 (rdN l wr).2.2).2.2).1),
   (rdN (rdN (rdN l wr).2.1 (rdN l wr).2.2).2.1 (rdN (rdN l wr).2.1 (rdN l wr).2.2).2.2).2)
theorem ReadID_calls (g:Nat) (l:List UInt8) (wr:Bool) (w:World) (h:Rd w g l wr) :
 Calls Tryz.prog 216 #[.pointer (some ⟨g,0,none⟩)] w fun e w'=>e=.returned (idv (rdId l wr).1)/\Went g (rdId l wr).2.1 (rdId l wr).2.2 w w':=by
 have hgl:=h.lt
 have hr0:=Blk.new w 35 #[.int .i64 0,.int .u64 0,.int .u64 0]
 have hm0:w.grownBy (w.alloc (.cells #[.int .i64 0,.int .u64 0,.int .u64 0] 35)) (some g):=mut_alloc (mut_refl w _) _
 have h0:=h.al (.cells #[.int .i64 0,.int .u64 0,.int .u64 0] 35)
 have hz1:w.heap.size<(w.alloc (.cells #[.int .i64 0,.int .u64 0,.int .u64 0] 35)).heap.size:=by simp
 have C1:=fun W hW=>Small_calls g l wr 16 W hW (by omega)
 unfold rdId
 generalize rdN l wr=a at *
 obtain⟨x,l1,wr1⟩:=a
 simp only at C1 ⊢
 have C2:=RNumber_calls g l1 wr1
 generalize rdN l1 wr1=a at *
 obtain⟨y,l2,wr2⟩:=a
 simp only at C2 ⊢
 have C3:=RNumber_calls g l2 wr2
 generalize rdN l2 wr2=a at *
 obtain⟨z,l3,wr3⟩:=a
 simp only at C3 ⊢
 replace C1:=Lib.hid C1
 replace C2:=Lib.hid C2
 replace C3:=Lib.hid C3
 go_enter Tryz.func216,Tryz.ntmps216
 go_wp2_with fail
 generalize w.alloc _=w1 at *
 refine (C1.out w1 h0).mono ?_
 rintro e w2 ⟨rfl,hw2⟩
 have hr2:=hr0.went hw2 (by omega)
 have hm2:=mut_trans hm0 hw2.2
 have hz2:=hw2.2.size
 have hn2:=hw2.1
 clear hw2 hr0 hm0 h0 h
 go_wp2_with fail
 have hx3:=Blk.new w2 35 #[.int .i64 ((min x 16:Nat):Int),.int .u64 0,.int .u64 0]
 have hr3:=hr2.alloc (.cells #[.int .i64 ((min x 16:Nat):Int),.int .u64 0,.int .u64 0] 35)
 have hn3:=hn2.al (.cells #[.int .i64 ((min x 16:Nat):Int),.int .u64 0,.int .u64 0] 35)
 have hm3:=mut_alloc hm2 (.cells #[.int .i64 ((min x 16:Nat):Int),.int .u64 0,.int .u64 0] 35)
 have hz3:w2.heap.size<(w2.alloc (.cells #[.int .i64 ((min x 16:Nat):Int),.int .u64 0,.int .u64 0] 35)).heap.size:=by simp
 clear hn2 hr2 hm2
 generalize w2.alloc _=w3 at *
 generalize hh:w2.heap.size=h at *
 clear hh
 refine (C2.out w3 hn3).mono ?_
 rintro e w4 ⟨rfl,hw4⟩
 have hx4:=hx3.went hw4 (by omega)
 have hr4:=hr3.went hw4 (by omega)
 have hm4:=mut_trans hm3 hw4.2
 have hn4:=hw4.1
 have hz4:=hw4.2.size
 have q1:=hx4.cell 1
 have z1:=hx4.frozen 1
 simp at q1
 clear hw4 hx3 hr3 hm3 hn3
 go_upto_region 3 with (fail)
 have hx5:=hx4.set_ 1 (.int .u64 (y:Int))
 have hr5:=hr4.far (p:=⟨h,1,none⟩) (by simp;omega) (.int .u64 (y:Int))
 have hm5:=mut_new hm4 (p:=⟨h,1,none⟩) (by simp;omega) (.int .u64 (y:Int))
 have hn5:=hn4.set (b:=h) (by omega) 1 (.int .u64 (y:Int))
 have hz5:w4.heap.size<=(w4.setCell ⟨h,1,none⟩ (.int .u64 (y:Int))).heap.size:=by simp[World.setCell]
 clear hx4 hr4 hm4 hn4 q1 z1
 generalize w4.setCell _ _=w5 at *
 go_wp2_with fail
 refine (C3.out w5 hn5).mono ?_
 rintro e w6 ⟨rfl,hw6⟩
 have hx6:=hx5.went hw6 (by omega)
 have hr6:=hr5.went hw6 (by omega)
 have hm6:=mut_trans hm5 hw6.2
 have hn6:=hw6.1
 have hz6:=hw6.2.size
 have q0:=hx6.cell 0
 have q1:=hx6.cell 1
 have q2:=hx6.cell 2
 have z2:=hx6.frozen 2
 simp at q0 q1 q2
 clear hw6 hx5 hr5 hm5 hn5
 go_upto_region 4 with (fail)
 have hx7:=hx6.set_ 2 (.int .u64 (z:Int))
 have hr7:=hr6.far (p:=⟨h,2,none⟩) (by simp;omega) (.int .u64 (z:Int))
 have hm7:=mut_new hm6 (p:=⟨h,2,none⟩) (by simp;omega) (.int .u64 (z:Int))
 have hn7:=hn6.set (b:=h) (by omega) 2 (.int .u64 (z:Int))
 have hz7:w6.heap.size<=(w6.setCell ⟨h,2,none⟩ (.int .u64 (z:Int))).heap.size:=by simp[World.setCell]
 clear hx6 hr6 hm6 hn6 q0 q1 q2 z2
 generalize w6.setCell _ _=w7 at *
 have q0:=hx7.cell 0
 have q1:=hx7.cell 1
 have q2:=hx7.cell 2
 simp at q0 q1 q2
 have r0:=hr7.cell 0
 have r1:=hr7.cell 1
 have r2:=hr7.cell 2
 have y0:=hr7.frozen 0
 have y1:=hr7.frozen 1
 have y2:=hr7.frozen 2
 simp at r0 r1 r2
 go_wp2
 have hr8:=((hr7.set_ 0 (.int .i64 ((min x 16:Nat):Int))).set_ 1 (.int .u64 (y:Int))).set_ 2 (.int .u64 (z:Int))
 have e0:=hr8.cell 0
 have e1:=hr8.cell 1
 have e2:=hr8.cell 2
 simp at e0 e1 e2
 refine bodyPost_ret (v:=idv ((min x 16:Nat),y,z)) (by simp[results,Tryz.results216,go_sem,e0,e1,e2]) rfl ?_
 refine⟨rfl,?_,?_⟩
 · exact ((hn7.set (by omega) _ _).set (by omega) _ _).set (by omega) _ _
 · exact mut_new (mut_new (mut_new hm7 (by simp) _) (by simp) _) (by simp) _
theorem chkEn_eq (x:Ent):(chkEn x==0)=okEn x:=by unfold chkEn;cases okEn x <;> rfl
theorem May_calls (x:Rec) (v:Value) (w:World) (h:rcd x v w) :
 Calls Tryz.prog 217 #[v] w fun e w'=>e=.returned (.bool (okRec x))/\K w w':=by
 obtain⟨vf,ve,rfl,hf,he⟩:=h
 obtain⟨k,n,x,b,l,s⟩:=x
 simp only at hf he
 have hx:=Blk.new w 219 (recA ⟨k,n,x,b,l,s⟩ vf ve)
 have k1:K w (w.alloc (.cells (recA ⟨k,n,x,b,l,s⟩ vf ve) 219)):=(K.rf w).al _
 have HO:Hid (okRec ⟨k,n,x,b,l,s⟩=if k=1 then emptyEn x&&noId ⟨k,n,x,b,l,s⟩ else if k=2 then okEn x&&noId ⟨k,n,x,b,l,s⟩ else if k=3 then decide (n=0)&&okEn x&&noId ⟨k,n,x,b,l,s⟩
  else if k=4∨k=5 then homeB b&&decide (n=0)&&emptyEn x else false):=Lib.hid rfl
 have HN:Hid (noId ⟨k,n,x,b,l,s⟩=(decide (b=0)&&decide (l=0)&&decide (s=0))):=Lib.hid rfl
 generalize okRec ⟨k,n,x,b,l,s⟩=R at *
 have he0:∀ W,K w W->ent x (.agg (entA x vf ve)) W:=fun W k=>⟨vf,ve,rfl,flt_st _ _ _ _ hf k,lst_st he k⟩
 clear hf he
 go_enter Tryz.func217,Tryz.ntmps217
 go_upto_region 1 with (fail)
 generalize w.alloc _=w1 at *
 generalize w.heap.size=g at hx ⊢
 have qx:=hx.cells
 have kk:=K.rf w1
 generalize noId ⟨k,n,x,b,l,s⟩=m at *
 go_cut [0,3] from 4 to 7 (fun _ v wc=>v=.bool m/\wc=w1)
 case first =>
  go_wp2
  all_goals
   go_meet
   case rel=>(refine⟨?_,rfl⟩;rw[HN.out];clear qx HO;simp_all)
 case rest =>
 obtain⟨rfl,rfl⟩:=hcut
 clear HN
 by_cases hk1:k=1
 · subst hk1
   rw[if_pos rfl] at HO
   go_wp2_with fail
   refine (Empty_calls x _ _ (he0 _ k1)).mono ?_
   rintro e w2 ⟨rfl,k2⟩
   have k02:=k1.tr k2
   cases he:emptyEn x
   · have HR:Hid (R=false):=Lib.hid (by rw[HO.out,he];rfl)
     clear HO
     go_wp2
     go_ret
     exact⟨by rw[HR.out];rfl,k02⟩
   · have HR:Hid (R=m):=Lib.hid (by rw[HO.out,he];rfl)
     clear HO
     go_wp2
     go_ret
     exact⟨by rw[HR.out];rfl,k02⟩
 by_cases hk3:k=3
 · subst hk3
   rw[if_neg (by decide),if_neg (by decide),if_pos rfl] at HO
   by_cases hn:n=0
   rotate_left
   · have hn':((n:Int) != 0)=true:=by simpa using hn
     have HR:Hid (R=false):=Lib.hid (by rw[HO.out];simp[hn])
     clear HO
     go_wp2
     go_ret
     exact⟨by rw[HR.out];rfl,k1⟩
   subst hn
   have hn':(((0:Nat):Int) != 0)=false:=by simp
   go_wp2_with fail
   refine (NCheck_calls x _ _ (he0 _ k1)).mono ?_
   rintro e w2 ⟨rfl,k2⟩
   have k02:=k1.tr k2
   have e3:=chkEn_eq x
   cases he:okEn x
   · have HR:Hid (R=false):=Lib.hid (by rw[HO.out,he];rfl)
     clear HO
     go_wp2
     go_ret
     exact⟨by rw[HR.out];rfl,k02⟩
   · have HR:Hid (R=m):=Lib.hid (by rw[HO.out,he];rfl)
     clear HO
     go_wp2
     go_ret
     exact⟨by rw[HR.out];rfl,k02⟩
 by_cases hk2:k=2
 · subst hk2
   rw[if_neg (by decide),if_pos rfl] at HO
   go_wp2_with fail
   refine (NCheck_calls x _ _ (he0 _ k1)).mono ?_
   rintro e w2 ⟨rfl,k2⟩
   have k02:=k1.tr k2
   have e3:=chkEn_eq x
   cases he:okEn x
   · have HR:Hid (R=false):=Lib.hid (by rw[HO.out,he];rfl)
     clear HO
     go_wp2
     go_ret
     exact⟨by rw[HR.out];rfl,k02⟩
   · have HR:Hid (R=m):=Lib.hid (by rw[HO.out,he];rfl)
     clear HO
     go_wp2
     go_ret
     exact⟨by rw[HR.out];rfl,k02⟩
 have g1:(k==1)=false:=by simpa using hk1
 have g2:(k==2)=false:=by simpa using hk2
 have g3:(k==3)=false:=by simpa using hk3
 rw[if_neg hk1,if_neg hk2,if_neg hk3] at HO
 clear hk1 hk2 hk3
 have four:(k=4∨k=5)∨(¬ k=4/\¬ k=5):=by omega
 rcases four with h45|⟨h4,h5⟩
 · rw[if_pos h45] at HO
   have hor:(k==4||k==5)=true:=by simpa using h45
   go_upto_region 6 with (fail)
   rcases h45 with rfl|rfl
   all_goals
    clear hor
    go_wp2_with fail
    refine (Home_calls (b,l,s) _).mono ?_
    rintro e w2 ⟨rfl,k2⟩
    have k02:=k1.tr k2
    cases hh:homeB b
    · have HR:Hid (R=false):=Lib.hid (by rw[HO.out,hh];rfl)
      clear HO
      go_wp2
      go_ret
      exact⟨by rw[HR.out];rfl,k02⟩
    by_cases hn:n=0
    rotate_left
    · have hn':((n:Int)==0)=false:=by simpa using hn
      have HR:Hid (R=false):=Lib.hid (by rw[HO.out];simp[hn])
      clear HO
      go_wp2
      go_ret
      exact⟨by rw[HR.out];rfl,k02⟩
    subst hn
    have hn':(((0:Nat):Int)==0)=true:=by simp
    have HR:Hid (R=emptyEn x):=Lib.hid (by rw[HO.out,hh];simp)
    go_wp2_with fail
    refine (Empty_calls x _ _ (he0 _ k02)).mono ?_
    rintro e w3 ⟨rfl,k3⟩
    replace k02:=k02.tr k3
    go_wp2
    go_ret
    exact⟨by rw[HR.out];rfl,k02⟩
 · have HR:Hid (R=false):=Lib.hid (by rw[HO.out,if_neg (by omega)])
   have g4:(k==4)=false:=by simpa using h4
   have g5:(k==5)=false:=by simpa using h5
   clear HO h4 h5
   go_wp2
   go_ret
   exact⟨by rw[HR.out];rfl,k1⟩
theorem Encode_calls (A:Option Addr) (c:Nat) (l:List Att) (w:World) (B:Nat) (hR:Reads w B 4 A l.length (l.flatMap attc)) (hB:B<=w.heap.size) (hi:∀ x∈l,i64ok x.2.1/\i64ok x.2.2.1) :
 Calls Tryz.prog 203 #[.slice A l.length c] w fun e w' =>
  ∃ v',e=.returned (.tuple #[v',.int .i64 (chkE l)])/\Own w' w.heap.size 5 v' (encR l)/\Below w.heap.size w w':=by
 have hch:=Lib.hid (ECheck_calls A c l w B hR hB)
 cases hok:okE l
 · have HE:Hid (chkE l=40):=Lib.hid (by simp[chkE,hok])
   have HR:Hid (encR l=[]):=Lib.hid (by simp[encR,hok])
   clear hok
   have hne:(chkE l != 0)=true:=by rw[HE.out];rfl
   go_enter Tryz.func203,Tryz.ntmps203
   go_wp2_with fail
   refine hch.out.mono ?_
   rintro e w1 ⟨rfl,hb1⟩
   go_wp2
   go_ret2
   exact⟨_,rfl,by rw[HR.out];exact World.ownsRow_nil _ _ _ _,hb1⟩
 · have HE:Hid (chkE l=0):=Lib.hid (by simp[chkE,hok])
   have HR:Hid (encR l=encE l):=Lib.hid (by simp[encR,hok])
   have hne:(chkE l != 0)=false:=by rw[HE.out];rfl
   obtain⟨h1,h16,hL⟩:=okE_parts hok
   have HLN:=Lib.hid fun k=>encP_len l k hok hi
   have HA:=Lib.hid (okL_all hL)
   have HI:=Lib.hid hi
   have HS:=Lib.hid (encP_succ l)
   have HRd:=Lib.hid hR
   clear hok hL hi hR
   go_enter Tryz.func203,Tryz.ntmps203
   go_wp2_with fail
   refine hch.out.mono ?_
   rintro e w1 ⟨rfl,hb1⟩
   go_wp2_with fail
   refine (Number_calls none 0 0 [] l.length (by omega) w1 0 (Reads.nil _ _ _ _) (by omega) (by omega)).mono ?_
   rintro e w2 ⟨v2,rfl,ho2,hb2⟩
   have hb12:=hb1.trans (hb2.mono hb1.size)
   rw[List.nil_append] at ho2
   have ho:=own_base hb1.size ho2 rfl
   clear ho2 hb1 hb2
   go_wp2_with fail
   go_loopw [5,19] (fun o i wr=>∃ k:Nat,k<=l.length/\i=.int .i64 (k:Int)/\Own wr w.heap.size 5 o (packN l.length++(l.take k).flatMap encA)/\Below w.heap.size w wr) (fun _ i _=>l.length - (intOf i).toNat)
   case atStart=>exact⟨0,by omega,rfl,by simpa using ho,hb12⟩
   case round =>
    obtain⟨k,hk,rfl,hok,hb⟩:=hrel
    by_cases hlt:k<l.length
    · have hki:(k:Int)<(l.length:Int):=by omega
      obtain⟨b,off,rfl,hbB,hcell⟩:=HRd.out.atts (by omega)
      obtain⟨e0,e1,e2,e3⟩:=hcell k hlt
      have d0:=(hb.cell (p:=⟨b,off+k * 4,none⟩) (Nat.lt_of_lt_of_le hbB hB)).trans e0
      have d1:=(hb.cell (p:=⟨b,off+k * 4+1,none⟩) (Nat.lt_of_lt_of_le hbB hB)).trans e1
      have d2:=(hb.cell (p:=⟨b,off+k * 4+2,none⟩) (Nat.lt_of_lt_of_le hbB hB)).trans e2
      have d3:=(hb.cell (p:=⟨b,off+k * 4+3,none⟩) (Nat.lt_of_lt_of_le hbB hB)).trans e3
      clear e0 e1 e2 e3 hcell
      have hz:=hb.size
      have hsz:=okA_sizes (HA.out _ (List.getElem_mem hlt))
      have hii:=(HI.out _ (List.getElem_mem hlt)).2
      have HSk:=Lib.hid (HS.out k hlt)
      have hlk:=HLN.out k
      generalize l[k]=x at *
      obtain⟨s,vk,vn,vs⟩:=x
      simp only at d0 d1 d2 d3 hsz hii HSk
      obtain⟨hs16,hs40⟩:=hsz
      generalize (l.take k).flatMap encA=T at *
      obtain⟨A1,c1,rfl,hR1⟩:=hok.slice
      have hlm:(packN l.length++T).length<=2000:=hlk
      generalize hm1:(packN l.length++T).length=m1 at hR1 hlk ⊢
      clear hm1 hok
      have hcv:=fun W=>run_bytes_of_string (P:=Tryz.prog) W 9 62 5 s Tryz.underlying9 Tryz.underlying62 Tryz.underlying5
      go_wp2_with fail
      have hx0:=Blk.new wr 90 #[.string s,.int .i64 vk,.int .i64 vn,.string vs]
      have hbx:Below wr.heap.size wr ((wr.alloc (.cells #[.string s,.int .i64 vk,.int .i64 vn,.string vs] 90)).alloc (.cells (bytesRow s (grownCap (wr.alloc (.cells #[.string s,.int .i64 vk,.int .i64 vn,.string vs] 90)) s.size 0 5)) 5 ((bytesRow s (grownCap (wr.alloc (.cells #[.string s,.int .i64 vk,.int .i64 vn,.string vs] 90)) s.size 0 5)).size,(bytesRow s (grownCap (wr.alloc (.cells #[.string s,.int .i64 vk,.int .i64 vn,.string vs] 90)) s.size 0 5)).size+1))).drew:=(((Below.refl _ _).alloc (Nat.le_refl _) _).alloc (by simp) _).drew
      have hR2:=(hR1.below hbx (Nat.le_refl _)).more (B':=wr.heap.size+1+1) (by omega)
      refine (Bytes_calls A1 _ m1 c1 s.size _ _ (byt s) _ (wr.heap.size+1+1) hR2 (Reads.conv' _ s _ _ _ (wr.heap.size+1) (by simp)) (by simp) (by omega) (by omega)).mono ?_
      rintro e w3 ⟨v3,rfl,ho3,hb3⟩
      have hx1:=((hx0.alloc (.cells (bytesRow s (grownCap (wr.alloc (.cells #[.string s,.int .i64 vk,.int .i64 vn,.string vs] 90)) s.size 0 5)) 5 ((bytesRow s (grownCap (wr.alloc (.cells #[.string s,.int .i64 vk,.int .i64 vn,.string vs] 90)) s.size 0 5)).size,(bytesRow s (grownCap (wr.alloc (.cells #[.string s,.int .i64 vk,.int .i64 vn,.string vs] 90)) s.size 0 5)).size+1))).drew).below hb3 (by simp;omega)
      have hbw:Below wr.heap.size wr w3:=hbx.trans (hb3.mono (by simp;omega))
      have q1:=hx1.cell 1
      have q2:=hx1.cell 2
      have q3:=hx1.cell 3
      simp at q1 q2 q3
      clear hbx hb3 hR1 hR2 hx0 hcv
      have ho3:Own w3 wr.heap.size 5 v3 (packN l.length++T++(packN s.size++byt s)):=own_base (by simp;omega) ho3 (by rw[show (byt s).length=s.size from by simp,List.append_assoc (packN l.length++T)])
      obtain⟨A3,c3,rfl,hR3⟩:=ho3.slice
      have hpl:=packN_len s.size (by omega)
      have hss:s.data.size<=16:=hs16
      have hHm:=Lib.hid (rfl:(packN l.length++T++(packN s.size++byt s)).length=(packN l.length++T++(packN s.size++byt s)).length)
      have hm3:(packN l.length++T++(packN s.size++byt s)).length<=3000:=by
       simp only[List.length_append] at hlm ⊢
       simp;omega
      generalize (packN l.length++T++(packN s.size++byt s)).length=m3 at *
      clear ho3
      go_wp2_with fail
      refine (Value_calls A3 m3 c3 _ vk vn vs w3 w3.heap.size hR3 (Nat.le_refl _) (by omega) (by omega) hii.1 hii.2).mono ?_
      rintro e w4 ⟨v4,rfl,ho4,hb4⟩
      have hbn:Below w.heap.size w w4:=(hb.trans (hbw.mono hz)).trans (hb4.mono (Nat.le_trans hz hbw.size))
      have ho4:=own_base (Nat.le_trans hz hbw.size) ho4 rfl
      rw[<- HSk.out] at ho4
      go_wp2
      go_roundw
      case rel=>exact⟨k+1,by omega,by go_num,ho4,hbn⟩
      case measure=>simp[intOf];omega
    · have hki:¬ (k:Int)<(l.length:Int):=by omega
      have ho:Own wr w.heap.size 5 u5 (encR l):=by
       rw[HR.out];unfold encE
       rwa [List.take_of_length_le (by omega)] at hok
      clear hok
      go_wp2
      go_ret2
      exact⟨_,by rw[HE.out];rfl,ho,hb⟩
section
variable {l la lb:List Att} {b:List UInt8} {v va vb:Value} {w:World}
theorem Encode_evt (h:evt l v w) (hi:∀ x∈l,i64ok x.2.1/\i64ok x.2.2.1):Calls Tryz.prog 203 #[v] w fun e w' =>
 ∃ v',e=.returned (.tuple #[v',.int .i64 (chkE l)])/\Own w' w.heap.size 5 v' (encR l)/\Below w.heap.size w w':=by
 obtain⟨A,c,rfl,hR⟩:=h
 exact Encode_calls A c l w _ hR (Nat.le_refl _) hi
end
theorem packV_len {k n:Int} {s:ByteArray} (h0:-9223372036854775808<=n) (h1:n<=9223372036854775807) (hs:s.size<=40):(packV k n s).length<=67:=by
 have h1:=packN_len (kindN k) (kindN_lt _)
 have h2:=packN_len (numV k n) (numV_lt _ _ h0 (by assumption))
 have h3:=packN_len s.size (by omega)
 have h4:s.data.size<=40:=hs
 simp[packV];omega
def encTV (t:Tst):List UInt8:=if t.2.1==8 then [] else packV t.2.2.1 t.2.2.2.1 t.2.2.2.2
theorem okT_x {t:Tst} (h:okT t=true):t.2.2.2.2.size<=40:=by
 obtain⟨_,_,_,h8,hn⟩:=okT_parts h
 by_cases e:t.2.1=8
 · have:=h8 e
   rw[this];decide
 · exact (okV_kind (hn e)).2
theorem encTV_len {t:Tst} (h:okT t=true) (hf:fitT t):(encTV t).length<=67:=by
 have hx:=okT_x h
 unfold encTV
 split
 · simp
 · exact packV_len hf.2.2.1 hf.2.2.2 hx
theorem encT_ln {t:Tst} (h:okT t=true) (hf:fitT t):(encT t).length<=101:=by
 obtain⟨hs,_,_,_,_⟩:=okT_parts h
 have h1:=encTV_len h hf
 have h2:=packN_len t.1.size (by omega)
 have h3:=packN_len (kindN t.2.1) (kindN_lt _)
 have e1:t.1.data.size<=16:=hs
 unfold encT
 unfold encTV at h1
 simp only[List.length_append]
 simp only[byt,Array.length_toList]
 omega
theorem encTs_len (l:List Tst) (hk:∀ x∈l,(encT x).length<=101):(l.flatMap encT).length<=101 * l.length:=by
 induction l with
 | nil=>simp
 | cons y l ih =>
   have h1:=ih fun x hx=>hk x (by simp[hx])
   have h2:=hk y (by simp)
   simp only[List.flatMap_cons,List.length_append,List.length_cons]
   omega
theorem encFP_len (l:List Tst) (k:Nat) (hl:okF l=true) (hi:∀ x∈l,fitT x):(packN l.length++(l.take k).flatMap encT).length<=1000:=by
 obtain⟨h2,h3⟩:=okF_parts hl
 have h4:=packN_len l.length (by omega)
 have h5:=encTs_len (l.take k) fun x hx=>encT_ln (h3 x (List.mem_of_mem_take hx)) (hi x (List.mem_of_mem_take hx))
 have h6:(l.take k).length<=8:=by simp;omega
 simp only[List.length_append];omega
theorem encFP_succ (l:List Tst) (k:Nat) (h:k<l.length):packN l.length++(l.take (k+1)).flatMap encT=packN l.length++(l.take k).flatMap encT++(packN l[k].1.size++byt l[k].1)++packN (kindN l[k].2.1)++encTV l[k]:=by
 rw[List.take_succ_eq_append_getElem h,List.flatMap_append,List.flatMap_cons,List.flatMap_nil,List.append_nil]
 simp only[encT,encTV,List.append_assoc]
theorem FEncode_calls (A:Option Addr) (c:Nat) (l:List Tst) (w:World) (B:Nat) (hR:Reads w B 5 A l.length (l.flatMap tstc)) (hB:B<=w.heap.size) (hi:∀ x∈l,fitT x) :
 Calls Tryz.prog 204 #[.slice A l.length c] w fun e w' =>
  ∃ v',e=.returned (.tuple #[v',.int .i64 (chkF l)])/\Own w' w.heap.size 5 v' (encFR l)/\Below w.heap.size w w':=by
 have hch:=Lib.hid (FCheck_calls A c l w B hR hB)
 cases hok:okF l
 · have HE:Hid (chkF l=50):=Lib.hid (by simp[chkF,hok])
   have HR:Hid (encFR l=[]):=Lib.hid (by simp[encFR,hok])
   clear hok
   have hne:(chkF l != 0)=true:=by rw[HE.out];rfl
   go_enter Tryz.func204,Tryz.ntmps204
   go_wp2_with fail
   refine hch.out.mono ?_
   rintro e w1 ⟨rfl,hb1⟩
   go_wp2
   go_ret2
   exact⟨_,rfl,by rw[HR.out];exact World.ownsRow_nil _ _ _ _,hb1⟩
 · have HE:Hid (chkF l=0):=Lib.hid (by simp[chkF,hok])
   have HR:Hid (encFR l=encF l):=Lib.hid (by simp[encFR,hok])
   have hne:(chkF l != 0)=false:=by rw[HE.out];rfl
   obtain⟨h8,hL⟩:=okF_parts hok
   have HLN:=Lib.hid fun k=>encFP_len l k hok hi
   have HA:=Lib.hid hL
   have HI:=Lib.hid hi
   have HS:=Lib.hid (encFP_succ l)
   have HRd:=Lib.hid hR
   clear hok hL hi hR
   go_enter Tryz.func204,Tryz.ntmps204
   go_wp2_with fail
   refine hch.out.mono ?_
   rintro e w1 ⟨rfl,hb1⟩
   go_wp2_with fail
   refine (Number_calls none 0 0 [] l.length (by omega) w1 0 (Reads.nil _ _ _ _) (by omega) (by omega)).mono ?_
   rintro e w2 ⟨v2,rfl,ho2,hb2⟩
   have hb12:=hb1.trans (hb2.mono hb1.size)
   rw[List.nil_append] at ho2
   have ho:=own_base hb1.size ho2 rfl
   clear ho2 hb1 hb2
   go_wp2_with fail
   go_loopw [5,19] (fun o i wr=>∃ k:Nat,k<=l.length/\i=.int .i64 (k:Int)/\Own wr w.heap.size 5 o (packN l.length++(l.take k).flatMap encT)/\Below w.heap.size w wr) (fun _ i _=>l.length - (intOf i).toNat)
   case atStart=>exact⟨0,by omega,rfl,by simpa using ho,hb12⟩
   case round =>
    obtain⟨k,hk,rfl,hok,hb⟩:=hrel
    by_cases hlt:k<l.length
    · have hki:(k:Int)<(l.length:Int):=by omega
      obtain⟨b,off,rfl,hbB,hcell⟩:=HRd.out.tsts (by omega)
      obtain⟨e0,e1,e2,e3,e4⟩:=hcell k hlt
      have d0:=(hb.cell (p:=⟨b,off+k * 5,none⟩) (Nat.lt_of_lt_of_le hbB hB)).trans e0
      have d1:=(hb.cell (p:=⟨b,off+k * 5+1,none⟩) (Nat.lt_of_lt_of_le hbB hB)).trans e1
      have d2:=(hb.cell (p:=⟨b,off+k * 5+2,none⟩) (Nat.lt_of_lt_of_le hbB hB)).trans e2
      have d3:=(hb.cell (p:=⟨b,off+k * 5+3,none⟩) (Nat.lt_of_lt_of_le hbB hB)).trans e3
      have d4:=(hb.cell (p:=⟨b,off+k * 5+4,none⟩) (Nat.lt_of_lt_of_le hbB hB)).trans e4
      clear e0 e1 e2 e3 e4 hcell
      have hz:=hb.size
      have hokt:=HA.out _ (List.getElem_mem hlt)
      have hpt:=okT_parts hokt
      have hx40:=okT_x hokt
      have hii:=(HI.out _ (List.getElem_mem hlt)).2
      have HVL:=Lib.hid (encTV_len hokt (HI.out _ (List.getElem_mem hlt)))
      have HSk:=Lib.hid (HS.out k hlt)
      have hlk:=HLN.out k
      clear hokt
      generalize l[k]=x at *
      obtain⟨s,op,vk,vn,vs⟩:=x
      simp only at d0 d1 d2 d3 d4 hpt hx40 hii HSk
      obtain⟨hs16,ho1,ho8,-,-⟩:=hpt
      generalize (l.take k).flatMap encT=T at *
      obtain⟨A1,c1,rfl,hR1⟩:=hok.slice
      have hlm:(packN l.length++T).length<=1000:=hlk
      generalize hm1:(packN l.length++T).length=m1 at hR1 hlk ⊢
      clear hm1 hok
      have hcv:=fun W=>run_bytes_of_string (P:=Tryz.prog) W 9 62 5 s Tryz.underlying9 Tryz.underlying62 Tryz.underlying5
      go_wp2_with fail
      have hx0:=Blk.new wr 87 #[.string s,.int .i64 op,.int .i64 vk,.int .i64 vn,.string vs]
      have hbx:Below wr.heap.size wr ((wr.alloc (.cells #[.string s,.int .i64 op,.int .i64 vk,.int .i64 vn,.string vs] 87)).alloc (.cells (bytesRow s (grownCap (wr.alloc (.cells #[.string s,.int .i64 op,.int .i64 vk,.int .i64 vn,.string vs] 87)) s.size 0 5)) 5 ((bytesRow s (grownCap (wr.alloc (.cells #[.string s,.int .i64 op,.int .i64 vk,.int .i64 vn,.string vs] 87)) s.size 0 5)).size,(bytesRow s (grownCap (wr.alloc (.cells #[.string s,.int .i64 op,.int .i64 vk,.int .i64 vn,.string vs] 87)) s.size 0 5)).size+1))).drew:=(((Below.refl _ _).alloc (Nat.le_refl _) _).alloc (by simp) _).drew
      have hR2:=(hR1.below hbx (Nat.le_refl _)).more (B':=wr.heap.size+1+1) (by omega)
      refine (Bytes_calls A1 _ m1 c1 s.size _ _ (byt s) _ (wr.heap.size+1+1) hR2 (Reads.conv' _ s _ _ _ (wr.heap.size+1) (by simp)) (by simp) (by omega) (by omega)).mono ?_
      rintro e w3 ⟨v3,rfl,ho3,hb3⟩
      have hx1:=((hx0.alloc (.cells (bytesRow s (grownCap (wr.alloc (.cells #[.string s,.int .i64 op,.int .i64 vk,.int .i64 vn,.string vs] 87)) s.size 0 5)) 5 ((bytesRow s (grownCap (wr.alloc (.cells #[.string s,.int .i64 op,.int .i64 vk,.int .i64 vn,.string vs] 87)) s.size 0 5)).size,(bytesRow s (grownCap (wr.alloc (.cells #[.string s,.int .i64 op,.int .i64 vk,.int .i64 vn,.string vs] 87)) s.size 0 5)).size+1))).drew).below hb3 (by simp;omega)
      have hbw:Below wr.heap.size wr w3:=hbx.trans (hb3.mono (by simp;omega))
      have hgt:wr.heap.size<w3.heap.size:=Nat.lt_of_lt_of_le (by simp;omega) hb3.size
      have q1:=hx1.cell 1
      have q2:=hx1.cell 2
      have q3:=hx1.cell 3
      have q4:=hx1.cell 4
      simp at q1 q2 q3 q4
      clear hbx hb3 hR1 hR2 hx0 hcv
      have ho3:Own w3 wr.heap.size 5 v3 (packN l.length++T++(packN s.size++byt s)):=own_base (by simp;omega) ho3 (by rw[show (byt s).length=s.size from by simp,List.append_assoc (packN l.length++T)])
      obtain⟨A3,c3,rfl,hR3⟩:=ho3.slice
      have hpl:=packN_len s.size (by omega)
      have hss:s.data.size<=16:=hs16
      have hm3:(packN l.length++T++(packN s.size++byt s)).length<=1100:=by
       simp only[List.length_append] at hlm ⊢
       simp;omega
      have hm4:(packN l.length++T++(packN s.size++byt s)++packN (kindN op)).length<=1200:=by
       have:=packN_len (kindN op) (kindN_lt op)
       simp only[List.length_append] at hm3 ⊢
       omega
      generalize (packN l.length++T++(packN s.size++byt s)).length=m3 at hR3 hm3 ⊢
      clear ho3
      have hz3:=hbw.size
      go_wp2_with fail
      have hN:=Number_calls A3 m3 c3 _ (kindN op) (kindN_lt op) w3 w3.heap.size hR3 (Nat.le_refl _) (by omega)
      rw[show ((kindN op:Nat):Int)=op by unfold kindN;omega] at hN
      refine hN.mono ?_
      rintro e w4 ⟨v4,rfl,ho4,hb4⟩
      have hx2:=hx1.below hb4 hgt
      have r1:=hx2.cell 1
      have r2:=hx2.cell 2
      have r3:=hx2.cell 3
      have r4:=hx2.cell 4
      simp at r1 r2 r3 r4
      clear q1 q2 q3 q4 hx1 hx2 hR3
      have hbn:Below w.heap.size w w4:=(hb.trans (hbw.mono hz)).trans (hb4.mono (Nat.le_trans hz hbw.size))
      have hz4:=hbn.size
      have ho4:=own_base (Nat.le_trans hz hbw.size) ho4 rfl
      by_cases hop:op=8
      · subst hop
        have ho4:Own w4 w.heap.size 5 v4 (packN l.length++(l.take (k+1)).flatMap encT):=by
         rw[HSk.out];simpa [encTV] using ho4
        go_wp2
        go_roundw
        case rel=>exact⟨k+1,by omega,by go_num,ho4,hbn⟩
        case measure=>simp[intOf];omega
      · obtain⟨A4,c4,rfl,hR4⟩:=ho4.slice
        generalize (packN l.length++T++(packN s.size++byt s)++packN (kindN op)).length=m4 at hR4 hm4 ⊢
        clear ho4
        go_wp2_with fail
        refine (Value_calls A4 m4 c4 _ vk vn vs w4 w4.heap.size hR4 (Nat.le_refl _) (by omega) (by omega) hii.2.1 hii.2.2).mono ?_
        rintro e w5 ⟨v5,rfl,ho5,hb5⟩
        have hbn5:Below w.heap.size w w5:=hbn.trans (hb5.mono hz4)
        have ho5:=own_base hz4 ho5 rfl
        have ho5:Own w5 w.heap.size 5 v5 (packN l.length++(l.take (k+1)).flatMap encT):=by
         rw[HSk.out];simpa [encTV,hop] using ho5
        go_wp2
        go_roundw
        case rel=>exact⟨k+1,by omega,by go_num,ho5,hbn5⟩
        case measure=>simp[intOf];omega
    · have hki:¬ (k:Int)<(l.length:Int):=by omega
      have ho:Own wr w.heap.size 5 u5 (encFR l):=by
       rw[HR.out];unfold encF
       rwa [List.take_of_length_le (by omega)] at hok
      clear hok
      go_wp2
      go_ret2
      exact⟨_,by rw[HE.out];rfl,ho,hb⟩
theorem FEncode_flt {l:List Tst} {v:Value} {w:World} (h:flt l v w) (hi:∀ x∈l,fitT x):Calls Tryz.prog 204 #[v] w fun e w' =>
 ∃ v',e=.returned (.tuple #[v',.int .i64 (chkF l)])/\Own w' w.heap.size 5 v' (encFR l)/\Below w.heap.size w w':=by
 obtain⟨A,c,rfl,hR⟩:=h
 exact FEncode_calls A c l w _ hR (Nat.le_refl _) hi
