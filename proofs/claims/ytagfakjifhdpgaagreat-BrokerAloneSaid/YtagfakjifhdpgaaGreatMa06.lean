/-
  The walk of entry.Encode (layer 11). Conditions: none.
-/
import Derived.Test.YtagfakjifhdpgaaGreatMa05
set_option maxRecDepth 100000
set_option maxHeartbeats 16000000
set_option linter.unusedVariables false
set_option linter.unusedSimpArgs false
namespace Go.Proofs.YtagfakjifhdpgaaGreat
open Go Go.RowKit
theorem Number_sl {l:List UInt8} {v:Value} {w:World} (n:Nat) (h:sl l v w) (hn:n<18446744073709551616) (hl:l.length<=1000000000) :
 Calls Tryz.prog 68 #[v,.int .u64 (n:Int)] w fun e w'=>∃ v',e=.returned v'/\Own w' w.heap.size 5 v' (l++packN n)/\K w w':=by
 obtain⟨A,c,rfl,hR⟩:=h
 exact Number_calls A _ c l n hn w _ hR (Nat.le_refl _) hl
theorem Bytes_sl {l b:List UInt8} {v u:Value} {w:World} (h:sl l v w) (k:sl b u w) (hl:l.length<=1000000000) (hb:b.length<=1000000000) :
 Calls Tryz.prog 143 #[v,u] w fun e w'=>∃ v',e=.returned v'/\Own w' w.heap.size 5 v' (l++packB b)/\K w w':=by
 obtain⟨A,c,rfl,hR⟩:=h
 obtain⟨D,d,rfl,hS⟩:=k
 refine (Bytes_calls A D _ c _ d l b w _ hR hS (Nat.le_refl _) hl hb).mono ?_
 rintro e w' ⟨v',rfl,ho,hk⟩
 exact⟨v',rfl,own_base (Nat.le_refl _) ho (by simp[packB]),hk⟩
theorem sl_nil (w:World):sl [] (.slice none 0 0) w:=⟨none,0,rfl,Reads.nil _ _ _ _⟩
def encEnR (x:Ent):List UInt8:=if okEn x then encEn x else []
theorem encHd_len (x:Ent) (h:fitEn x):(encHd x).length<=54:=by
 obtain⟨_,_,_,h1,h2,h3,_⟩:=h
 have g1:=packN_len (kindN x.kind) (kindN_lt _)
 have g2:=packN_len (kindN x.br) (kindN_lt _)
 have g3:=packN_len x.life h1
 have g4:=packN_len x.ser h2
 have g5:=packN_len (kindN x.cl) (kindN_lt _)
 have g6:=packN_len x.sub h3
 unfold encHd;simp only[List.length_append];omega
def encUp (x:Ent) (k:Nat):List UInt8:=encHd x++packN x.es.length++(x.es.take k).flatMap fun e=>packB (encE e)
theorem encUp_succ (x:Ent) (k:Nat) (h:k<x.es.length):encUp x (k+1)=encUp x k++packB (encE x.es[k]):=by
 unfold encUp
 rw[List.take_succ_eq_append_getElem h,List.flatMap_append,List.flatMap_cons,List.flatMap_nil,List.append_nil]
 simp only[List.append_assoc]
theorem encUp_len (x:Ent) (k:Nat) (hf:fitEn x) (h8:x.es.length<=8) (hok:∀ e∈x.es,okE e=true):(encUp x k).length<=20000:=by
 have h0:=encHd_len x hf
 have h1:=packN_len x.es.length (by omega)
 have h2:=encEs_most (x.es.take k) fun e he=>⟨hok e (List.mem_of_mem_take he),hf.2.2.2.2.2.2.2 e (List.mem_of_mem_take he)⟩
 have h3:(x.es.take k).length<=8:=by simp;omega
 unfold encUp;simp only[List.length_append];omega
theorem NEncode_calls (x:Ent) (v:Value) (w:World) (h:ent x v w) (hfit:fitEn x) :
 Calls Tryz.prog 142 #[v] w fun e w' =>
  ∃ v',e=.returned (.tuple #[v',.int .i64 (chkEn x)])/\Own w' w.heap.size 5 v' (encEnR x)/\K w w':=by
 have HC:=Lib.hid fun W h=>NCheck_calls x v W h
 have h':=h
 obtain⟨vf,ve,rfl,hf,he⟩:=h
 have hx:=Blk.new w 42 (entA x vf ve)
 have k1:K w (w.alloc (.cells (entA x vf ve) 42)):=(K.rf w).al _
 have HEn:=Lib.hid (ent_al h')
 have HF:=Lib.hid hfit
 have HXL:=Lib.hid (encHd_len x hfit)
 obtain⟨hik,hib,hic,hil,his,hiu,hift,hife⟩:=hfit
 clear h'
 cases hok:okEn x
 · have HE:Hid (chkEn x=110):=Lib.hid (chkEn_bad hok)
   have HR:Hid (encEnR x=[]):=Lib.hid (by simp[encEnR,hok])
   have hne:(chkEn x != 0)=true:=by rw[HE.out];rfl
   clear hok
   go_enter Tryz.func142,Tryz.ntmps142
   go_wp2_with fail
   generalize w.alloc _=w1 at *
   refine (HC.out _ (HEn.out _ k1)).mono ?_
   rintro e w2 ⟨rfl,k2⟩
   go_wp2
   go_ret2
   exact⟨_,rfl,by rw[HR.out];exact World.ownsRow_nil _ _ _ _,k1.tr k2⟩
 have HE:Hid (chkEn x=0):=Lib.hid (chkEn_good hok)
 have HR:Hid (encEnR x=encEn x):=Lib.hid (by simp[encEnR,hok])
 have hne:(chkEn x != 0)=false:=by rw[HE.out];rfl
 obtain⟨-,-,hkk⟩:=okEn_parts hok
 have HH:Hid (encHd x=packN (kindN x.kind)++encId (x.br,x.life,x.ser)++packN (kindN x.cl)++packN x.sub):=Lib.hid (by simp[encHd,encId])
 have h8:x.kind=1->x.es.length<=8/\∀ e∈x.es,okE e=true:=by
  intro hk
  rcases hkk with h|h|h
  · exact h.2.2.2
  · omega
  · omega
 have hf2:x.kind=2->okF x.f=true:=by
  intro hk
  rcases hkk with h|h|h
  · omega
  · omega
  · exact h.2.2
 have hk3:x.kind=1∨x.kind=2∨x.kind=3:=by omega
 have H1:=Lib.hid fun h=>encEn_1 (x:=x) h
 have H2:=Lib.hid fun h=>encEn_2 (x:=x) h
 have H3:=Lib.hid fun h1 h2=>encEn_3 (x:=x) h1 h2
 have HU:=Lib.hid (encUp_succ x)
 have HUL:=Lib.hid fun k h=>encUp_len x k HF.out (h8 h).1 (h8 h).2
 have HU0:Hid (encUp x 0=encHd x++packN x.es.length):=Lib.hid (by simp[encUp])
 have HUE:Hid (encUp x x.es.length=encHd x++packN x.es.length++x.es.flatMap fun e=>packB (encE e)):=Lib.hid (by simp[encUp])
 clear hok hkk HF
 obtain⟨k,b,l,s,cl,u,f,es⟩:=x
 simp only at hx k1 hf he hik hib hic hil his hiu hift hife h8 hf2 hk3 HH H1 H2 H3 HU HUL HU0 HUE hne HE HR HC HEn HXL ⊢
 generalize encHd ⟨k,b,l,s,cl,u,f,es⟩=hd at *
 generalize encUp ⟨k,b,l,s,cl,u,f,es⟩=up at *
 generalize encEnR ⟨k,b,l,s,cl,u,f,es⟩=R at *
 generalize encEn ⟨k,b,l,s,cl,u,f,es⟩=E at *
 generalize chkEn ⟨k,b,l,s,cl,u,f,es⟩=C at *
 go_enter Tryz.func142,Tryz.ntmps142
 go_wp2_with fail
 generalize w.alloc _=w1 at *
 generalize w.heap.size=g at hx ⊢
 have qx:=hx.cells
 have hf1:=flt_st _ _ _ _ hf k1
 have he1:=lst_st he k1
 refine (HC.out _ (HEn.out _ k1)).mono ?_
 rintro e w2 ⟨rfl,k2⟩
 clear hf he HC HEn
 go_upto_region 4 with (fail)
 have qx2:=fun W (kW:K w2 W)=>qx W (k2.tr kW)
 have p0:=packN_len (kindN k) (kindN_lt k)
 have pi0:(encId (b,l,s)).length<=27:=by
  have g2:=packN_len (kindN b) (kindN_lt b)
  have g3:=packN_len l hil
  have g4:=packN_len s his
  simp only[encId,List.length_append];omega
 refine wp_region_K [isV (.pointer (some ⟨g,0,none⟩)),
  isV (.int .i64 (k)),
  isV (.int .u64 (kindN k:Nat)),
  sl (packN (kindN k)),
  isV (.pointer (some ⟨g,1,none⟩)),
  isV (idv (b,l,s)),
  sl (packN (kindN k)++encId (b,l,s)),
  sl (packN (kindN k)++encId (b,l,s))]
  [([],[]),([0],[(17,0)]),([1],[(18,1)]),([2],[(19,2)]),([],[]),([4],[(21,4)]),([3,5],[(20,3),(22,5)]),([6],[(23,6)])] 75 rfl (by kernel_rfl) (by kernel_rfl) (by kernel_rfl) ?st4 ?ow4 ?_
 case st4 =>
  simp only[List.forall_mem_cons]
  and_intros
  all_goals first|exact isV_st _|exact sl_st _|exact anyV_st|simp
 case ow4 =>
  simp only[OwedQ]
  and_intros
  all_goals try trivial
  all_goals
   intro V W kW hp
   try simp only[List.forall_mem_cons,tab_zero,tab_succ,isV] at hp
   try simp[wantsG,rhoP,List.lookup,hp,tab_zero,tab_succ,ResG,execOp,bareOp,isV,Below.refl,kW,qx2,go_sem]
  · exact u64_wrap k
  · refine (Number_sl (kindN k) (sl_nil W) (kindN_lt k) (by simp)).mono ?_
    rintro e w'' ⟨v',rfl,ho,hb⟩
    rw[List.nil_append] at ho
    exact⟨v',rfl,sl_own ho,hb⟩
  · refine (Nnumber_calls _ _ (b,l,s) W hp.1 (by omega) ⟨hib,hil,his⟩).mono ?_
    rintro e w'' ⟨v',rfl,ho,hb⟩
    exact⟨v',rfl,sl_own ho,hb⟩
 intro V w3 k3 hp
 have h7:=hp 7 (by simp)
 simp only[tab_zero,tab_succ] at h7
 clear hp
 simp only[putAll,Act.put,List.setIfInBounds_toArray,List.set_cons_succ,List.set_cons_zero]
 generalize V 7=v3 at *
 replace k2:=k2.tr k3
 clear qx2 k3
 have hl3:(packN (kindN k)++encId (b,l,s)).length<=100:=by simp;omega
 generalize packN (kindN k)++encId (b,l,s)=b3 at *
 go_wp2_with fail
 rw[u64_wrap cl]
 refine (Number_sl (kindN cl) h7 (kindN_lt cl) (by omega)).mono ?_
 rintro e w4 ⟨v4,rfl,ho4,k4⟩
 have h4:=sl_own ho4
 replace k2:=k2.tr k4
 have hl4:(b3++packN (kindN cl)).length<=110:=by
  have:=packN_len (kindN cl) (kindN_lt cl)
  simp;omega
 generalize b3++packN (kindN cl)=b4 at *
 clear ho4 k4 h7
 go_wp2_with fail
 refine (Number_sl u h4 hiu (by omega)).mono ?_
 rintro e w5 ⟨v5,rfl,ho5,k5⟩
 rw[<- HH.out] at ho5
 have h5:=sl_own ho5
 have hrow:=own_base (base:=w.heap.size) (Nat.le_trans k1.size k2.size) ho5 rfl
 replace k2:=k2.tr k5
 have k05:=k1.tr k2
 clear k5 h4 hl4 hl3 HH
 obtain rfl|rfl|rfl:=hk3
 · obtain⟨h8,hall⟩:=h8 rfl
   obtain⟨D,d,rfl,hes,hd⟩:=he1
   have hl5:=HXL.out
   go_wp2_with fail
   refine (Number_sl es.length h5 (by omega) (by omega)).mono ?_
   rintro e w6 ⟨v6,rfl,ho6,k6⟩
   rw[<- HU0.out] at ho6
   have hrow6:=own_base (base:=w.heap.size) (Nat.le_trans k1.size k2.size) ho6 rfl
   replace k2:=k2.tr k6
   clear h5 hrow ho6 k6 k05
   go_wp2_with fail
   go_loopw [5,7,8,9,46] (fun o _ _ _ i wr=>∃ j:Nat,j<=es.length/\i=.int .i64 (j:Int)/\Own wr w.heap.size 5 o (up j)/\K w1 wr) (fun _ _ _ _ i _=>es.length - (intOf i).toNat)
   case atStart=>exact⟨0,by omega,rfl,hrow6,k2⟩
   case round =>
    obtain⟨j,hj,rfl,hown,kr⟩:=hrel
    by_cases hlt:j<es.length
    · have hji:(j:Int)<(es.length:Int):=by omega
      obtain⟨b1,off,cs,rfl,hb1,hcl,⟨ve,rfl,hev⟩,hcell⟩:=lsr_at hes j hlt (by decide)
      have d0:wr.cell? ⟨b1,off+j,none⟩=some ve:=by
       have:=hcell 0 (by decide)
       rw[kr.cell (by simpa using hb1)]
       simpa [evS] using this
      have hevr:=evt_st _ _ _ _ hev kr
      have hs:=HU.out j hlt
      have hoke:=hall _ (List.getElem_mem hlt)
      have hfe:=hife _ (List.getElem_mem hlt)
      have hl9:=HUL.out j (by trivial)
      have hle:=encE_len hoke hfe
      generalize es[j]=ej at *
      have hc1:chkE ej=0:=by simp[chkE,hoke]
      have hc2:encR ej=encE ej:=by simp[encR,hoke]
      have hne1:(chkE ej != 0)=false:=by rw[hc1];rfl
      have HS:=Lib.hid hs
      clear hs hcell
      go_wp2_with fail
      refine (Encode_evt hevr hfe).mono ?_
      rintro e w7 ⟨v7,rfl,ho7,k7⟩
      rw[hc2] at ho7
      have h7:=sl_own ho7
      have h57:=sl_st _ _ _ _ (sl_own hown) k7
      have kr7:=kr.tr k7
      clear ho7 hown hevr hev
      go_wp2_with fail
      refine (Bytes_sl h57 h7 (by omega) (by omega)).mono ?_
      rintro e w8 ⟨v8,rfl,ho8,k8⟩
      rw[<- HS.out] at ho8
      have hrow8:=own_base (base:=w.heap.size) (Nat.le_trans k1.size kr7.size) ho8 rfl
      replace kr7:=kr7.tr k8
      clear h57 h7 ho8
      go_wp2
      go_roundw
      case rel=>exact⟨j+1,by omega,by go_num,hrow8,kr7⟩
      case measure=>simp[intOf];omega
    · have hji:¬ (j:Int)<(es.length:Int):=by omega
      obtain rfl:j=es.length:=by omega
      have hfin:Own wr w.heap.size 5 u5 R:=by
       rw[HR.out,H1.out (by trivial),<- List.append_assoc,<- HUE.out];exact hown
      clear hown
      go_wp2
      go_ret2
      exact⟨_,by rw[HE.out];rfl,hfin,k1.tr kr⟩
 · have hokf:=hf2 rfl
   have hl5:=HXL.out
   have hc1:chkF f=0:=by simp[chkF,hokf]
   have hc2:encFR f=encF f:=by simp[encFR,hokf]
   have hne1:(chkF f != 0)=false:=by rw[hc1];rfl
   have hlf:=encF_most hokf hift
   have HIF:=Lib.hid hift
   clear hift
   go_wp2_with fail
   refine (FEncode_flt (flt_st _ _ _ _ hf1 k2) HIF.out).mono ?_
   rintro e w6 ⟨v6,rfl,ho6,k6⟩
   rw[hc2] at ho6
   have h6:=sl_own ho6
   have h56:=sl_st _ _ _ _ h5 k6
   replace k2:=k2.tr k6
   clear ho6 h5
   go_wp2_with fail
   refine (Bytes_sl h56 h6 (by omega) (by omega)).mono ?_
   rintro e w7 ⟨v7,rfl,ho7,k7⟩
   rw[<- H2.out (by trivial)] at ho7
   rw[<- HR.out] at ho7
   have hrow7:=own_base (base:=w.heap.size) (Nat.le_trans k1.size k2.size) ho7 rfl
   replace k2:=k2.tr k7
   clear h56 h6 ho7
   go_wp2
   go_ret2
   exact⟨_,by rw[HE.out];rfl,hrow7,k1.tr k2⟩
 · have hfin:Own w5 w.heap.size 5 v5 R:=by
    rw[HR.out,H3.out (by decide) (by decide)];exact hrow
   clear hrow h5
   go_wp2
   go_ret2
   exact⟨_,by rw[HE.out];rfl,hfin,k05⟩
theorem Decode_calls (A:Option Addr) (n c:Nat) (b:List UInt8) (w:World) (B:Nat) (hR:Reads w B 1 A n (bys b)) (hB:B<=w.heap.size) (hn:n<=1000000000) :
 Calls Tryz.prog 242 #[.slice A n c] w fun e w' =>
  ∃ v',e=.returned (.tuple #[v',.int .i64 (decC b)])/\OwnE w' w.heap.size v' (decL b)/\Below w.heap.size w w':=by
 have hbl:b.length=n:=by simpa using hR.len
 have hle:b.length<=1000000000:=by omega
 clear hbl
 go_enter Tryz.func242,Tryz.ntmps242
 go_wp2_with fail
 refine (New_calls A n c b w B hR hB hn).mono ?_
 rintro e w1 ⟨g,rfl,hg,hr1,hb1⟩
 go_wp2_with fail
 refine (RNumber_calls g b false w1 hr1).mono ?_
 rintro e w2 ⟨rfl,hr2,hg2⟩
 have hgl:=hr1.lt
 have hz2:=hg2.size
 have hbw:Below w.heap.size w w2:=hb1.trans (below_of_mut hg2 hg hb1.size)
 have hlt:=rdN_lt b false
 have hle2:=rdN_len b false
 have HD:Hid (decE b=if decide ((rdN b false).1<=16)&&!(rdAs (rdN b false).1 (rdN b false).2.1 (rdN b false).2.2).2.2&&(rdAs (rdN b false).1 (rdN b false).2.1 (rdN b false).2.2).2.1.isEmpty&&okE (rdAs (rdN b false).1 (rdN b false).2.1 (rdN b false).2.2).1 then some (rdAs (rdN b false).1 (rdN b false).2.1 (rdN b false).2.2).1 else none):=Lib.hid rfl
 generalize rdN b false=a at *
 obtain⟨m,l,bad⟩:=a
 simp only at hr2 hlt hle2 HD ⊢
 clear hr1 hb1 hR
 by_cases h16:m<=16
 rotate_left
 · have h16':(16:Int)<(m:Int):=by omega
   have HE:Hid (decC b=40):=Lib.hid (by have:=HD.out;simp[h16] at this;simp[decC,this])
   have HL:Hid (decL b=[]):=Lib.hid (by have:=HD.out;simp[h16] at this;simp[decL,this])
   go_wp2
   go_ret2
   exact⟨_,by rw[HE.out];rfl,by rw[HL.out];exact World.ownsRow_nil _ _ _ _,hbw⟩
 have h16':¬ (16:Int)<(m:Int):=by omega
 go_wp2_with fail
 go_loopw [6,7,15] (fun v _ i wk=>∃ k:Nat,k<=m/\i=.int .u64 (k:Int)/\OwnE wk w1.heap.size v (rdAs k l bad).1/\Rd wk g (rdAs k l bad).2.1 (rdAs k l bad).2.2/\Below w.heap.size w wk/\w1.heap.size<=wk.heap.size) (fun _ _ i _=>m - (intOf i).toNat)
 case atStart=>exact⟨0,by omega,rfl,World.ownsRow_nil _ _ _ _,hr2,hbw,hz2⟩
 case round =>
  obtain⟨k,hk,rfl,hown,hrd,hb,hz⟩:=hrel
  by_cases hlt:k<m
  · have hki:(k:Int)<(m:Int):=by omega
    have hlk:=rdAs_len k l bad
    have hfit:∀ s,rdAs k l bad=s->rdAs (k+1) l bad=(s.1++[(rdA s.2.1 s.2.2).1],(rdA s.2.1 s.2.2).2):=fun s e=>by subst e;rfl
    generalize hs:rdAs k l bad=s at *
    have hfit:=hfit s rfl
    obtain⟨ats,lk,wk⟩:=s
    simp only at hown hrd hlk
    obtain⟨hlk1,hlk2⟩:=hlk
    have HLK:=Lib.hid hlk2
    have hasl:ats.length<=16:=by omega
    clear hlk2
    have C1:=Lib.hid (RBytes_calls g lk wk 16 wr hrd (by omega) (by omega) (by omega))
    have hl1:=rdB_len 16 lk wk
    have HF:Hid (rdAs (k+1) l bad=(ats++[((⟨(rdB 16 lk wk).1.toArray⟩,(rdV (rdB 16 lk wk).2.1 (rdB 16 lk wk).2.2).1.1,(rdV (rdB 16 lk wk).2.1 (rdB 16 lk wk).2.2).1.2.1,⟨(rdV (rdB 16 lk wk).2.1 (rdB 16 lk wk).2.2).1.2.2.toArray⟩):Att)],(rdV (rdB 16 lk wk).2.1 (rdB 16 lk wk).2.2).2)):=Lib.hid hfit
    clear hfit hs
    have hl2:=rdV_len (rdB 16 lk wk).2.1 (rdB 16 lk wk).2.2
    have C2:Hid (∀ W,Rd W g (rdB 16 lk wk).2.1 (rdB 16 lk wk).2.2->Calls Tryz.prog 270 #[.pointer (some ⟨g,0,none⟩)] W fun e w'=>e=.returned (vd (rdV (rdB 16 lk wk).2.1 (rdB 16 lk wk).2.2).1)/\Went g (rdV (rdB 16 lk wk).2.1 (rdB 16 lk wk).2.2).2.1 (rdV (rdB 16 lk wk).2.1 (rdB 16 lk wk).2.2).2.2 W w'):=Lib.hid fun W hW=>RValue_calls g _ _ W hW (by omega)
    generalize rdB 16 lk wk=sb at *
    obtain⟨nm,lb,wb⟩:=sb
    simp only at C1 C2 HF hl1 hl2
    generalize rdV lb wb=sv at *
    obtain⟨⟨vk,vn,vt⟩,lv,wv⟩:=sv
    simp only[vd] at C2 HF hl2
    have hgz:g<wr.heap.size:=by omega
    go_wp2_with fail
    refine C1.out.mono ?_
    rintro e w3 ⟨v3,rfl,ho3,hr3,hg3⟩
    have hst:=str (sl_own ho3)
    have hz3:=hg3.size
    have hown3:=row_mut hown hg3 hgl
    have hb3:Below w.heap.size w w3:=hb.trans (below_of_mut hg3 hg hb.size)
    clear hown hrd hg3 hb C1
    go_wp2_with fail
    refine (C2.out _ hr3).mono ?_
    rintro e w4 ⟨rfl,hr4,hg4⟩
    have hz4:=hg4.size
    have hown4:=row_mut hown3 hg4 hgl
    have hb4:Below w.heap.size w w4:=hb3.trans (below_of_mut hg4 hg hb3.size)
    clear hown3 hr3 hg4 hb3 C2 hst ho3
    go_wp2_with (at_builtin;refine wpList_app rfl _ _ 45 rfl w1.heap.size 90 _ 4 48 TE _ _ _ rfl (World.ownsRow.alloc hown4 _) (w4.heap.size+1) _ 1 1 (attc (⟨nm.toArray⟩,vk,vn,⟨vt.toArray⟩)) rfl ?c1 ?c2 ?c3 ?c5 ?_)
    case c1=>exact Reads.new w4 (attc (⟨nm.toArray⟩,vk,vn,⟨vt.toArray⟩)) 90 4 1 rfl
    case c2=>exact attc_one _
    case c3=>omega
    case c5=>simp;omega
    intro v5 w5 hown5 hg5 hat5 hb5
    have hown6:OwnE w5 w1.heap.size v5 (rdAs (k+1) l bad).1:=by
     rw[HF.out]
     unfold OwnE
     simpa [List.flatMap_append] using hown5
    have hr5:Rd w5 g (rdAs (k+1) l bad).2.1 (rdAs (k+1) l bad).2.2:=by
     rw[HF.out]
     exact (hr4.below (Below.alloc (Below.refl _ _) (Nat.le_refl _) _) hr4.lt).below hb5 hgl
    have hbw5:Below w.heap.size w w5:=(hb4.alloc hb4.size _).trans (hb5.mono (by omega))
    have hz5:w1.heap.size<=w5.heap.size:=by have:=hb5.size;simp at this;omega
    clear hown5 hg5 hat5 hb5 hr4 hown4 hb4
    go_wp2
    go_roundw
    case rel=>exact⟨k+1,by omega,by go_num,hown6,hr5,hbw5,hz5⟩
    case measure=>simp[intOf];omega
  · have hki:¬ (k:Int)<(m:Int):=by omega
    obtain rfl:k=m:=by omega
    clear hlt hk
    have hlk:=(rdAs_len k l bad).2
    generalize rdAs k l bad=s at *
    obtain⟨ats,lk,wk⟩:=s
    simp only at hown hrd HD hlk
    have HLK:=Lib.hid hlk
    clear hlk
    have hcomp:∀ x:Bool,x=(!wk&&lk.isEmpty&&okE ats)->Hid (decC b=(if x then 0 else 40))/\Hid (decL b=if x then ats else []):=by
     intro x hx
     have h:=HD.out
     rw[show (decide (k<=16))=true by simp;omega] at h
     cases x with
     | true=>rw[Bool.true_and,<- hx] at h;exact⟨Lib.hid (by simp[decC,h]),Lib.hid (by simp[decL,h])⟩
     | false=>rw[Bool.true_and,<- hx] at h;exact⟨Lib.hid (by simp[decC,h]),Lib.hid (by simp[decL,h])⟩
    have HCO:=Lib.hid hcomp
    clear hcomp
    go_wp2_with fail
    refine (Done_calls g _ _ wr hrd).mono ?_
    rintro e w' ⟨rfl,rfl⟩
    cases hd:(!wk&&lk.isEmpty)
    · obtain⟨HE,HL⟩:=HCO.out false (by rw[hd];rfl)
      go_wp2
      go_ret2
      exact⟨_,by rw[HE.out];rfl,by rw[HL.out];exact World.ownsRow_nil _ _ _ _,hb⟩
    · obtain⟨A',c',rfl,hR',_,_⟩:=hown.slice
      have hrow:=row_base (Nat.le_trans hg (Nat.le_of_lt hgl)) hown
      go_wp2_with fail
      refine (ECheck_calls A' c' ats wr wr.heap.size hR' (Nat.le_refl _)).mono ?_
      rintro e w6 ⟨rfl,hb6⟩
      have hbw6:=hb.trans (hb6.mono hb.size)
      have hrow6:=row_below hrow hb6
      cases hok:okE ats
      · have hne:(chkE ats != 0)=true:=by simp[chkE,hok]
        obtain⟨HE,HL⟩:=HCO.out false (by rw[hd,hok];rfl)
        go_wp2
        go_ret2
        exact⟨_,by rw[HE.out];rfl,by rw[HL.out];exact World.ownsRow_nil _ _ _ _,hbw6⟩
      · have hne:(chkE ats != 0)=false:=by simp[chkE,hok]
        obtain⟨HE,HL⟩:=HCO.out true (by rw[hd,hok];rfl)
        go_wp2
        go_ret2
        exact⟨_,by rw[HE.out];rfl,by rw[HL.out];exact hrow6,hbw6⟩
section
variable {l la lb:List Att} {b:List UInt8} {v va vb:Value} {w:World}
theorem Decode_sl (h:sl b v w) (hn:b.length<=1000000000):Calls Tryz.prog 242 #[v] w fun e w' =>
 ∃ v',e=.returned (.tuple #[v',.int .i64 (decC b)])/\OwnE w' w.heap.size v' (decL b)/\Below w.heap.size w w':=by
 obtain⟨A,c,rfl,hR⟩:=h
 exact Decode_calls A _ c b w _ hR (Nat.le_refl _) hn
end
