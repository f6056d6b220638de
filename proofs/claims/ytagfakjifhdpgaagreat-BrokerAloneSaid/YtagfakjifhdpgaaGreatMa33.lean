/-
  The walk of broker's Poll (layer 20). Conditions: none.
-/
import Derived.Test.YtagfakjifhdpgaaGreatMa32
set_option maxRecDepth 100000
set_option maxHeartbeats 16000000
set_option linter.unusedVariables false
set_option linter.unusedSimpArgs false
namespace Go.Proofs.YtagfakjifhdpgaaGreat
open Go Go.RowKit
theorem pollG_cons (c:Int) (x:Ent) (r:List Ent) (s:List Subn) (n:Nat):pollG c (x :: r) s n=if batchT s c x=[] then pollG c r (subs1 s x) (n+1) else (batchT s c x,n+1):=rfl
theorem BPoll_calls {M:Nat->Prop} {p:BrW} {B:Brk} {w:World} (h:BrV M p B w) (hG:GoodB B) (c fr:Int) :
 Calls Tryz.prog 24 #[.pointer (some ⟨p.g,0,none⟩),.int .i64 c,.int .i64 fr] w fun e w'=>∃ v',e=.returned (.tuple #[v',.int .i64 (pollB B c fr).2.1,.int .i64 (pollB B c fr).2.2])/\OwnL w.heap.size w.heap.size 45 evS (pollB B c fr).1 v' w'/\K w w':=by
 have hsm:=hG.smallL
 have hln:=hG.dk.len
 have q:=h.q
 have hl0:=h.dat.now.list
 have HP:Hid (pollB B c fr=if homeB' B c then (if 0<=fr/\fr<=(B.st.list.length:Int) then ((pollG c (B.st.list.drop fr.toNat) (subsT (B.st.list.take fr.toNat)) fr.toNat).1,((pollG c (B.st.list.drop fr.toNat) (subsT (B.st.list.take fr.toNat)) fr.toNat).2:Int),0) else ([],0,1)) else ([],0,200)):=Lib.hid rfl
 have C1:=Lib.hid (BHome_calls h hG c)
 have C2:=Lib.hid fun W (k:K w W) n hn=>BSubs_calls (h.st k) hG n hn
 obtain⟨g,gl,gd,gr,gt,vd,vr,vp,vh,vl,vq,va,vt,vf,vw,kr⟩:=p
 simp only at q hl0 C1 C2
 obtain⟨Al,cl,rfl,hl,hcl⟩:=hl0
 have hll:B.st.list.length<=300000:=by omega
 have HSM:=Lib.hid hsm.1
 generalize pollB B c fr=R at *
 generalize hHB:homeB' B c=HB at *
 have kk:=K.rf w
 clear h hG hsm hln hHB
 go_enter Tryz.func24,Tryz.ntmps24
 go_wp2_with fail
 refine C1.out.mono ?_
 rintro e w1 ⟨rfl,k1⟩
 clear C1
 cases HB
 · have HF:Hid (R=([],0,200)):=Lib.hid (by rw[HP.out];rfl)
   clear HP
   go_wp2
   go_ret3
   exact⟨_,by rw[HF.out];rfl,by rw[HF.out];exact OwnL.nil _ _ _ _ _,k1⟩
 have q1:=q w1 k1
 by_cases hfr:0<=fr/\fr<=(B.st.list.length:Int)
 rotate_left
 · have HF:Hid (R=([],0,1)):=Lib.hid (by rw[HP.out,if_pos rfl,if_neg hfr])
   have hc:fr<0∨(¬ fr<0/\(B.st.list.length:Int)<fr):=by omega
   clear HP hfr
   rcases hc with hc|⟨hc,hc2⟩
   · go_wp2
     go_ret3
     exact⟨_,by rw[HF.out];rfl,by rw[HF.out];exact OwnL.nil _ _ _ _ _,k1⟩
   · go_wp2
     go_ret3
     exact⟨_,by rw[HF.out];rfl,by rw[HF.out];exact OwnL.nil _ _ _ _ _,k1⟩
 obtain⟨n,rfl⟩:=Int.eq_ofNat_of_zero_le hfr.1
 have hn:n<=B.st.list.length:=by omega
 have HF:Hid (R=((pollG c (B.st.list.drop n) (subsT (B.st.list.take n)) n).1,((pollG c (B.st.list.drop n) (subsT (B.st.list.take n)) n).2:Int),0)):=Lib.hid (by rw[HP.out,if_pos rfl,if_pos hfr];rfl)
 have hL0:=subsT_len (B.st.list.take n)
 have hF0:=subsT_f (l:=B.st.list.take n) fun x hx=>HSM.out x (List.mem_of_mem_take hx)
 have hlt0:(B.st.list.take n).length=n:=by simp;omega
 have hh1:¬ ((n:Int)<0):=by omega
 have hh2:¬ ((B.st.list.length:Int)<(n:Int)):=by omega
 have C3:=Lib.hid (C2.out w1 k1 n hn)
 clear HP hfr
 go_upto_region 8 with (fail)
 go_wp2_with fail
 refine C3.out.mono ?_
 rintro e w2 ⟨v2,rfl,hO2,k2⟩
 have hO2':OwnY (fun k=>k<w.heap.size) w.heap.size 186 sbS (subsT (B.st.list.take n)) v2 w2:=(hO2.less fun k hk=>by have:=k1.size;omega).low k1.size
 generalize subsT (B.st.list.take n)=s0 at *
 have k02:=k1.tr k2
 clear C3 C2 q1 hO2
 go_wp2_with fail
 have HS0:Hid (∃ s m,n<=m/\m<=B.st.list.length/\s0=s/\m=n/\True):=Lib.hid ⟨s0,n,Nat.le_refl _,hn,rfl,rfl,trivial⟩
 have hG0:Hid (R=((pollG c (B.st.list.drop n) s0 n).1,((pollG c (B.st.list.drop n) s0 n).2:Int),0)):=HF
 clear HS0 HF
 go_loopw [10,11,12,13] (fun o i _ _ W=>∃ (m:Nat) (s:List Subn),m<=B.st.list.length/\i=.int .i64 (m:Int)/\s.length<=m/\subsO s/\OwnY (fun k=>k<w.heap.size) w.heap.size 186 sbS s o W/\K w W/\Hid (R=((pollG c (B.st.list.drop m) s m).1,((pollG c (B.st.list.drop m) s m).2:Int),0))) (fun _ i _ _ _=>B.st.list.length - (intOf i).toNat)
 case atStart=>exact⟨n,s0,hn,rfl,by omega,hF0,hO2',k02,hG0⟩
 case round =>
  clear hO2' k02 hG0 hF0 hL0
  obtain⟨m,s,hm,rfl,hsl,hsf,hO,kr,HG⟩:=hrel
  by_cases hlt:m<B.st.list.length
  · have hji:(m:Int)<(B.st.list.length:Int):=by omega
    obtain⟨b1,off,cs,rfl,hcl1,hrl,d0,d⟩:=lsr_cells hl m hlt (by decide)
    have hsx:=HSM.out _ (List.getElem_mem hlt)
    have HG2:Hid (R=((if batchT s c B.st.list[m]=[] then pollG c (B.st.list.drop (m+1)) (subs1 s B.st.list[m]) (m+1) else (batchT s c B.st.list[m],m+1)).1,((if batchT s c B.st.list[m]=[] then pollG c (B.st.list.drop (m+1)) (subs1 s B.st.list[m]) (m+1) else (batchT s c B.st.list[m],m+1)).2:Int),0)):=Lib.hid (by
     rw[HG.out,List.drop_eq_getElem_cons hlt,pollG_cons])
    generalize B.st.list[m]=x at *
    obtain⟨vf,ve,rfl,hf,he⟩:=hrl w (K.rf w)
    have HE:Hid (∀ W,K w W->ent x (.agg (entA x vf ve)) W):=Lib.hid fun W k=>⟨_,_,rfl,flt_st _ _ _ _ hf k,lst_st he k⟩
    have q9:∀ i,i<8->wr.cell? ⟨b1,off+m * 8+i,none⟩=(entA x vf ve)[i]?:=fun i hi=>(d wr kr i hi).trans Array.getElem?_toList
    have q0:wr.cell? ⟨b1,off+m * 8,none⟩=some (.int .i64 x.kind):=d0 wr kr
    have hx:=Blk.new wr 42 (entA x vf ve)
    have k1':K wr (wr.alloc (.cells (entA x vf ve) 42)):=(K.rf wr).al _
    have qg:=q wr kr
    obtain⟨Af,cf,rfl⟩:=flt_slice hf
    obtain⟨Ae,ce,rfl⟩:=lst_slice he
    clear d d0 hf he hrl hcl1 HG
    go_upto_region 13 with (fail)
    generalize wr.alloc _=w1' at *
    have hO1:=hO.st k1'
    have kr1:=kr.tr k1'
    clear q9 q0 hO qg
    have q8:=hx.cell
    have C1:=Lib.hid (Batch_calls s c x _ _ w1' hO1.lst (HE.out w1' kr1) (by omega) hsf hsx)
    obtain⟨Ao,co,rfl⟩:=hO1.slice
    go_wp2_with fail
    refine C1.out.mono ?_
    rintro e w4 ⟨v4,rfl,hO4,k4⟩
    have kr4:=kr1.tr k4
    have hz1:=kr1.size
    have HO4:Hid (OwnL w.heap.size w.heap.size 45 evS (batchT s c x) v4 w4):=Lib.hid (OwnL.low (OwnL.floor hO4 hz1) hz1)
    have hO5:=hO1.st k4
    have hx4:=(hx.below k4 hx.lt).cell
    obtain⟨A4,c4,rfl⟩:=lst_slice hO4.toY.lst
    clear C1 hO4 hO1 q8 hx
    by_cases hbt:batchT s c x=[]
    rotate_left
    · have hpos:=List.length_pos_iff.2 hbt
      have HF:Hid (R=(batchT s c x,((m+1:Nat):Int),0)):=Lib.hid (by rw[HG2.out,if_neg hbt])
      have hgt:(0:Int)<((batchT s c x).length:Int):=by omega
      have hw:IntKind.i64.wrap ((m:Int)+1)=(m:Int)+1:=IntWalk.i64_in _ (by omega)
      clear hbt HG2
      generalize batchT s c x=bt at *
      go_wp2
      go_ret3
      exact⟨_,by rw[HF.out];rfl,by rw[HF.out];exact HO4.out,kr4⟩
    have HF:Hid (R=((pollG c (B.st.list.drop (m+1)) (subs1 s x) (m+1)).1,((pollG c (B.st.list.drop (m+1)) (subs1 s x) (m+1)).2:Int),0)):=Lib.hid (by rw[HG2.out,if_pos hbt])
    rw[hbt]
    clear HG2 HO4 hbt
    by_cases hk:x.kind=1
    · have HF2:Hid (R=((pollG c (B.st.list.drop (m+1)) s (m+1)).1,((pollG c (B.st.list.drop (m+1)) s (m+1)).2:Int),0)):=Lib.hid (by rw[HF.out,show subs1 s x=s from if_pos hk])
      have hk2:(x.kind != 1)=false:=by simp[hk]
      clear hk HF
      go_wp2
      go_roundw
      case rel=>exact⟨m+1,s,by omega,by go_num,by omega,hsf,hO5,kr4,HF2⟩
      case measure=>simp[intOf];omega
    have hk2:(x.kind != 1)=true:=by simpa using hk
    have hs1:subs1 s x=applyT s x:=if_neg hk
    have hl1:=subs1_len s x
    have hf1:=subs1_f (x:=x) hsf hsx.1
    have C3:=Lib.hid (Apply_calls s x _ _ w4 hO5.lst (HE.out w4 kr4) (by omega) hsf hsx.1)
    rw[<- hs1] at C3
    clear hk hs1 hO5
    go_wp2_with fail
    refine C3.out.mono ?_
    rintro e w5 ⟨v5,rfl,hO6,k5⟩
    have kr5:=kr4.tr k5
    have hz4:=kr4.size
    have hO7:OwnY (fun k=>k<w.heap.size) w.heap.size 186 sbS (subs1 s x) v5 w5:=(hO6.less fun k hk=>by omega).low hz4
    clear C3 hO6 hx4
    go_wp2
    go_roundw
    case rel=>exact⟨m+1,subs1 s x,by omega,by go_num,by omega,hf1,hO7,kr5,HF⟩
    case measure=>simp[intOf];omega
  · have hji:¬ (m:Int)<(B.st.list.length:Int):=by omega
    obtain rfl:m=B.st.list.length:=by omega
    have HF:Hid (R=([],(B.st.list.length:Int),0)):=Lib.hid (by rw[HG.out,List.drop_length];rfl)
    clear HG hO
    go_wp2
    go_ret3
    exact⟨_,by rw[HF.out];rfl,by rw[HF.out];exact OwnL.nil _ _ _ _ _,kr⟩
def LivX (X Z:Nat->Prop) (g gd:Nat) (B:Brk) (W:World):Prop:=Good2 B/\∃ p,BrV (fun k=>X k∨BrX p k) p B W/\p.key=(g,gd)/\∀ k,Z k->¬ BrX p k/\k<W.heap.size
abbrev LivK (Z:Nat->Prop) (g gd:Nat) (B:Brk) (W:World):Prop:=LivX (fun _=>False) Z g gd B W
section
variable {X X' Z Z':Nat->Prop} {g gd:Nat} {B B':Brk} {W W':World}
theorem LivX.more (h:LivX X Z g gd B W) (k:K W W') (hX:∀ k,X' k->X k∨(W.heap.size<=k/\k<W'.heap.size)) (hZ:∀ k,Z' k->Z k∨(W.heap.size<=k/\k<W'.heap.size)):LivX X' Z' g gd B W':=by
 obtain⟨hG,p,hb,hg,hz⟩:=h
 refine⟨hG,p,hb.far (X:=fun _=>False) (UpN.of_k k _) (fun _ h=>h.elim) (fun _ h=>h.elim) (fun j hj hx=>hx.elim (fun h=>.inl ((hX j h).resolve_right (by omega))) .inr) (fun _ h=>.inr h) (fun j hj=>?_),hg,fun j hj=>?_⟩
 · rcases hj with h|h
   · rcases hX j h with h|h
     · exact Nat.lt_of_lt_of_le (hb.low j (.inl h)) k.size
     · exact h.2
   · exact Nat.lt_of_lt_of_le (hb.low j (.inr h)) k.size
 · rcases hZ j hj with h|h
   · exact⟨(hz j h).1,Nat.lt_of_lt_of_le (hz j h).2 k.size⟩
   · exact⟨fun hx=>by have:=hb.low j (hb.sub j hx);omega,h.2⟩
theorem LivX.st (h:LivX X Z g gd B W) (k:K W W'):LivX X Z g gd B W':=h.more k (fun _ h=>.inl h) fun _ h=>.inl h
theorem LivX.n {p:BrW} (hZ:∀ k,Z k->¬ BrX p k/\k<W.heap.size) (hg:p.key=(g,gd)) (hG:Good2 B') (h:BrN (fun k=>X k∨BrX p k) p B' W W'):LivX X Z g gd B' W'/\UpN (fun k=>¬ Z k) W W':=by
 obtain⟨p',h1,h2,h3,h4⟩:=h
 refine⟨⟨hG,p',h1.less (fun _ h=>.inr h) (fun _ h=>h.elim (fun h=>.inl (.inl h)) .inr),h3.trans hg,fun k hk=>⟨fun hx=>?_,Nat.lt_of_lt_of_le (hZ k hk).2 h2.size⟩⟩,h2.more fun k hk hz=>(hZ k hz).1 hk⟩
 rcases h4 k hx with h|h
 · exact (hZ k hk).1 h
 · have:=(hZ k hk).2;omega
theorem LivX.call {f:FuncId} {args:Array Value} {r:Value} (h:LivX X Z g gd B W) (hc:∀ p,BrV (fun k=>X k∨BrX p k) p B W->p.key=(g,gd)->Calls Tryz.prog f args W fun e w'=>e=.returned r/\BrN (fun k=>X k∨BrX p k) p B' W w') (hG:Good2 B') :
 Calls Tryz.prog f args W fun e w'=>e=.returned r/\LivX X Z g gd B' w'/\UpN (fun k=>¬ Z k) W w':=by
 obtain⟨-,p,hb,hg,hz⟩:=h
 exact (hc p hb hg).mono fun e w' h=>⟨h.1,LivX.n hz hg hG h.2⟩
theorem KBegin (h:LivX X Z g gd B W) (c:Int) (hc:i64ok c) (hn:B.calls+1<4611686018427387904) :
 Calls Tryz.prog 12 #[.pointer (some ⟨g,0,none⟩),.int .i64 c] W fun e w'=>e=.returned (.tuple #[idv (beginB B c).2.1,.int .i64 (beginB B c).2.2])/\LivX X Z g gd (beginB B c).1 w'/\UpN (fun k=>¬ Z k) W w' :=
 h.call (fun p hb e=>kg e ▸ BBegin_calls hb h.1.toGoodB c hc) (h.1.begin hn hc)
theorem KSub (h:LivX X Z g gd B W) (c:Int) (hc:i64ok c) (hn:B.calls+1<4611686018427387904) (n:Nat) (hn':n<18446744073709551616) (f:List Tst) (vf:Value) (hf:flt f vf W) (hfit:∀ t∈f,fitT t) (hfl:f.length<=1000000) :
 Calls Tryz.prog 23 #[.pointer (some ⟨g,0,none⟩),.int .i64 c,.int .u64 (n:Int),vf] W fun e w'=>e=.returned (.tuple #[idv (subB B c n f).2.1,.int .i64 (subB B c n f).2.2])/\LivX X Z g gd (subB B c n f).1 w'/\UpN (fun k=>¬ Z k) W w' :=
 h.call (fun p hb e=>kg e ▸ BSub_calls hb h.1.toGoodB c hc n hn' f vf hf hfit hfl) (h.1.ask hn (by simp[i64ok]) hc hn' hfit)
theorem KPublish (h:LivX X Z g gd B W) (a:Idn) (ha:fitI a) (ev:List Att) (u:Value) (hu:evt ev u W) (hev:ev.length<=1000000) (hf:∀ x∈ev,fitA x) :
 Calls Tryz.prog 14 #[.pointer (some ⟨g,0,none⟩),idv a,u] W fun e w'=>e=.returned (.int .i64 (keepB B (publishT B.txns a ev)).2)/\LivX X Z g gd (keepB B (publishT B.txns a ev)).1 w'/\UpN (fun k=>¬ Z k) W w' :=
 h.call (fun p hb e=>kg e ▸ BPublish_calls hb h.1.toGoodB a ev u hu hev hf) (h.1.publish hf ha)
theorem KCommit (h:LivX X Z g gd B W) (a:Idn) (ha:fitI a) :
 Calls Tryz.prog 15 #[.pointer (some ⟨g,0,none⟩),idv a] W fun e w'=>e=.returned (.int .i64 (keepB B (commitT B.txns a)).2)/\LivX X Z g gd (keepB B (commitT B.txns a)).1 w'/\UpN (fun k=>¬ Z k) W w' :=
 h.call (fun p hb e=>kg e ▸ BCommit_calls hb h.1.toGoodB a) (h.1.commit ha)
theorem KTick (h:LivX X Z g gd B W) (hr:rootB B=true) (hk:kidsB B=[]) :
 Calls Tryz.prog 16 #[.pointer (some ⟨g,0,none⟩)] W fun e w'=>e=.returned (.slice none 0 0)/\LivX X Z g gd (workB B) w'/\UpN (fun k=>¬ Z k) W w' :=
 h.call (fun p hb e=>kg e ▸ BTick_solo hb h.1.toGoodB hr hk) h.1.work
theorem KStatus (h:LivX X Z g gd B W) (a:Idn) :
 Calls Tryz.prog 22 #[.pointer (some ⟨g,0,none⟩),idv a] W fun e w'=>e=.returned (.int .i64 (statusB B a))/\K W w':=by
 obtain⟨hG,p,hb,hg,-⟩:=h
 obtain rfl:=kg hg
 exact BStatus_calls hb hG.toGoodB a
theorem KPoll (h:LivX X Z g gd B W) (c fr:Int) :
 Calls Tryz.prog 24 #[.pointer (some ⟨g,0,none⟩),.int .i64 c,.int .i64 fr] W fun e w'=>∃ v',e=.returned (.tuple #[v',.int .i64 (pollB B c fr).2.1,.int .i64 (pollB B c fr).2.2])/\OwnL W.heap.size W.heap.size 45 evS (pollB B c fr).1 v' w'/\K W w':=by
 obtain⟨hG,p,hb,hg,-⟩:=h
 obtain rfl:=kg hg
 exact BPoll_calls hb hG.toGoodB c fr
theorem KState (h:LivX X Z g gd B W) :
 Calls Tryz.prog 18 #[.pointer (some ⟨g,0,none⟩)] W fun e w'=>∃ vl vp va,e=.returned (.agg (stA B.st vl vp va))/\stF (fun k=>k<W.heap.size) B.st vl vp va w'/\K W w':=by
 obtain⟨hG,p,hb,hg,-⟩:=h
 obtain rfl:=kg hg
 exact BState_calls hb hG.toGoodB
theorem LivX.new {gd:Nat} {vh:Value} {e:Ending} {q:BrW} (h:OpOk gd vh B W e W' q) (hG:Good2 B) (hX:∀ k,X k->k<W.heap.size) (hZ:∀ k,Z k->¬ DkX gd vh k/\k<W.heap.size):LivX X Z q.g gd B W'/\UpN (fun k=>¬ Z k) W W':=by
 refine⟨⟨hG,q,h.br.less (fun _ h=>.inr h) (fun k h=>h.imp (hX k) id),(by unfold BrW.key;rw[h.dd]),fun k hk=>⟨fun hx=>?_,Nat.lt_of_lt_of_le (hZ k hk).2 h.up.size⟩⟩,h.up.more fun k hk hz=>(hZ k hz).1 hk⟩
 rcases h.new k hx with h|h
 · exact (hZ k hk).1 h
 · have:=(hZ k hk).2;omega
end
theorem GoodB.open_ {me:Int} {p hom:List Int} {d:Dsk} {s:Stt} (ht:okTr p=true) (hm:inR p me=true) (hh:okHm p hom=true) (hd:DskG d s):Good2 (openB me p hom d s) :=
 ⟨⟨ht,hm,hh,hd,OkT.nil,by simp[openB],by simp[openB],by simp[openB],by simp[openB],by simp[openB],by simp[openB]⟩,OpK.nil⟩
def Liv (Z:Nat->Prop) (g:Nat) (B:Brk) (W:World):Prop:=∃ gd,LivK Z g gd B W
section
variable {Z Z':Nat->Prop} {g:Nat} {B B':Brk} {W W':World}
theorem Liv.st (h:Liv Z g B W) (k:K W W'):Liv Z g B W':=h.elim fun gd h=>⟨gd,h.st k⟩
theorem Liv.more (h:Liv Z g B W) (k:K W W') (hZ:∀ k,Z' k->Z k∨(W.heap.size<=k/\k<W'.heap.size)):Liv Z' g B W':=h.elim fun gd h=>⟨gd,h.more k (fun _ h=>.inl h) hZ⟩
theorem LBegin (h:Liv Z g B W) (c:Int) (hc:i64ok c) (hn:B.calls+1<4611686018427387904) :
 Calls Tryz.prog 12 #[.pointer (some ⟨g,0,none⟩),.int .i64 c] W fun e w'=>e=.returned (.tuple #[idv (beginB B c).2.1,.int .i64 (beginB B c).2.2])/\Liv Z g (beginB B c).1 w'/\UpN (fun k=>¬ Z k) W w' :=
 h.elim fun gd h=>(KBegin h c hc hn).mono fun _ _ h=>⟨h.1,⟨gd,h.2.1⟩,h.2.2⟩
theorem LSub (h:Liv Z g B W) (c:Int) (hc:i64ok c) (hn:B.calls+1<4611686018427387904) (n:Nat) (hn':n<18446744073709551616) (f:List Tst) (vf:Value) (hf:flt f vf W) (hfit:∀ t∈f,fitT t) (hfl:f.length<=1000000) :
 Calls Tryz.prog 23 #[.pointer (some ⟨g,0,none⟩),.int .i64 c,.int .u64 (n:Int),vf] W fun e w'=>e=.returned (.tuple #[idv (subB B c n f).2.1,.int .i64 (subB B c n f).2.2])/\Liv Z g (subB B c n f).1 w'/\UpN (fun k=>¬ Z k) W w' :=
 h.elim fun gd h=>(KSub h c hc hn n hn' f vf hf hfit hfl).mono fun _ _ h=>⟨h.1,⟨gd,h.2.1⟩,h.2.2⟩
theorem LPublish (h:Liv Z g B W) (a:Idn) (ha:fitI a) (ev:List Att) (u:Value) (hu:evt ev u W) (hev:ev.length<=1000000) (hf:∀ x∈ev,fitA x) :
 Calls Tryz.prog 14 #[.pointer (some ⟨g,0,none⟩),idv a,u] W fun e w'=>e=.returned (.int .i64 (keepB B (publishT B.txns a ev)).2)/\Liv Z g (keepB B (publishT B.txns a ev)).1 w'/\UpN (fun k=>¬ Z k) W w' :=
 h.elim fun gd h=>(KPublish h a ha ev u hu hev hf).mono fun _ _ h=>⟨h.1,⟨gd,h.2.1⟩,h.2.2⟩
theorem LCommit (h:Liv Z g B W) (a:Idn) (ha:fitI a) :
 Calls Tryz.prog 15 #[.pointer (some ⟨g,0,none⟩),idv a] W fun e w'=>e=.returned (.int .i64 (keepB B (commitT B.txns a)).2)/\Liv Z g (keepB B (commitT B.txns a)).1 w'/\UpN (fun k=>¬ Z k) W w' :=
 h.elim fun gd h=>(KCommit h a ha).mono fun _ _ h=>⟨h.1,⟨gd,h.2.1⟩,h.2.2⟩
theorem LTick (h:Liv Z g B W) (hr:rootB B=true) (hk:kidsB B=[]) :
 Calls Tryz.prog 16 #[.pointer (some ⟨g,0,none⟩)] W fun e w'=>e=.returned (.slice none 0 0)/\Liv Z g (workB B) w'/\UpN (fun k=>¬ Z k) W w' :=
 h.elim fun gd h=>(KTick h hr hk).mono fun _ _ h=>⟨h.1,⟨gd,h.2.1⟩,h.2.2⟩
theorem LStatus (h:Liv Z g B W) (a:Idn) :
 Calls Tryz.prog 22 #[.pointer (some ⟨g,0,none⟩),idv a] W fun e w'=>e=.returned (.int .i64 (statusB B a))/\K W w' :=
 h.elim fun _ h=>KStatus h a
theorem LPoll (h:Liv Z g B W) (c fr:Int) :
 Calls Tryz.prog 24 #[.pointer (some ⟨g,0,none⟩),.int .i64 c,.int .i64 fr] W fun e w'=>∃ v',e=.returned (.tuple #[v',.int .i64 (pollB B c fr).2.1,.int .i64 (pollB B c fr).2.2])/\OwnL W.heap.size W.heap.size 45 evS (pollB B c fr).1 v' w'/\K W w' :=
 h.elim fun _ h=>KPoll h c fr
theorem LState (h:Liv Z g B W) :
 Calls Tryz.prog 18 #[.pointer (some ⟨g,0,none⟩)] W fun e w'=>∃ vl vp va,e=.returned (.agg (stA B.st vl vp va))/\stF (fun k=>k<W.heap.size) B.st vl vp va w'/\K W w' :=
 h.elim fun _ h=>KState h
theorem Liv.new {gd:Nat} {vh:Value} {e:Ending} {q:BrW} (h:OpOk gd vh B W e W' q) (hG:Good2 B) (hZ:∀ k,Z k->¬ DkX gd vh k/\k<W.heap.size):Liv Z q.g B W'/\UpN (fun k=>¬ Z k) W W':=(LivX.new h hG (fun _ h=>h.elim) hZ).imp (fun h=>⟨gd,h⟩) id
end
abbrev fA20:List Tst:=[(⟨#[112]⟩,8,0,0,⟨#[]⟩)]
abbrev eA20:List Att:=[(⟨#[112]⟩,1,5,⟨#[]⟩)]
def dA20:Dsk:=⟨recsS (lifeS st0),10000⟩
def bA0:Brk:=openB 0 [-1] [0] dA20 (lifeS st0)
def bA1:Brk:=(subB bA0 0 7 fA20).1
def bA2:Brk:=(beginB bA1 0).1
def bA3:Brk:=(keepB bA2 (publishT bA2.txns (0,1,2) eA20)).1
def bA4:Brk:=(keepB bA3 (commitT bA3.txns (0,1,2))).1
def bA5:Brk:=workB bA4
theorem a20_0:dkLen (recsS (lifeS st0))<=10000:=by decide +kernel
theorem a20_1:(subB bA0 0 7 fA20).2=((0,1,1),0):=by decide +kernel
theorem a20_2:(beginB bA1 0).2=((0,1,2),0):=by decide +kernel
theorem a20_3:(keepB bA2 (publishT bA2.txns (0,1,2) eA20)).2=0:=by decide +kernel
theorem a20_4:(keepB bA3 (commitT bA3.txns (0,1,2))).2=0:=by decide +kernel
theorem a20_5:statusB bA4 (0,1,2)=2:=by decide +kernel
theorem a20_6:statusB bA5 (0,1,1)=3/\statusB bA5 (0,1,2)=3:=by decide +kernel
theorem a20_7:pollB bA5 0 0=([eA20],2,0):=by decide +kernel
theorem a20_8:pollB bA5 0 2=([],2,0):=by decide +kernel
theorem a20_9:bA5.st.life=1:=by decide +kernel
theorem a20_r:rootB bA4=true/\kidsB bA4=[]:=by decide +kernel
theorem a20_c:bA0.calls+1<4611686018427387904/\bA1.calls+1<4611686018427387904:=by decide +kernel
theorem VInt_calls (n:Int) (w:World):Calls Tryz.prog 33 #[.int .i64 n] w fun e w'=>e=.returned (.agg #[.int .i64 1,.int .i64 n,.string ⟨#[]⟩])/\K w w':=by
 have hr:=Blk.new w 85 #[.int .i64 0,.int .i64 0,.string ⟨#[]⟩]
 have k1:K w (w.alloc (.cells #[.int .i64 0,.int .i64 0,.string ⟨#[]⟩] 85)):=(K.rf w).al _
 go_enter Tryz.func33,Tryz.ntmps33
 go_upto_region 1 with (fail)
 generalize w.alloc _=w1 at *
 generalize hg:w.heap.size=g at hr ⊢
 have HG:=Lib.hid hg
 clear hg
 have q:=hr.cell
 have z:=hr.frozen
 go_wp2
 have hr9:Blk (World.setCell (World.setCell (World.setCell w1 _ _) _ _) _ _) g 85 #[.int .i64 1,.int .i64 n,.string ⟨#[]⟩]:=((hr.set_ 0 (.int .i64 1)).set_ 1 (.int .i64 n)).set_ 2 (.string ⟨#[]⟩)
 have k9:=K.set (K.set (K.set k1 (r:=g) (by have:=HG.out;omega) 0 (.int .i64 1)) (r:=g) (by have:=HG.out;omega) 1 (.int .i64 n)) (r:=g) (by have:=HG.out;omega) 2 (.string ⟨#[]⟩)
 clear q z
 generalize World.setCell (World.setCell (World.setCell w1 _ _) _ _) _ _=W9 at *
 have e9:=hr9.cell
 refine bodyPost_ret (v:=.agg #[.int .i64 1,.int .i64 n,.string ⟨#[]⟩]) (by simp[results,Tryz.results33,go_sem,e9]) rfl ?_
 exact⟨rfl,k9⟩
theorem ints_new {w:World} (l:List Int) (T:TypeId) {M:Nat->Prop} (hM:∀ k,M k->k<w.heap.size):Fx M (fun W=>lst inS l (.slice (some ⟨w.heap.size,0,none⟩) l.length l.length) W) (w.alloc (.cells (l.map fun n=>Value.int .i64 n).toArray T)):=by
 intro W u
 have hb:=(Blk.new w T (l.map fun n=>Value.int .i64 n).toArray).upn u fun h=>by have:=hM _ h;omega
 refine⟨_,_,rfl,⟨l.map intc,each_ints _ _,by rw[ints_flat];simp[inS],fun _=>⟨_,0,rfl,hb.lt,fun j u hu=>?_⟩⟩,Nat.le_refl _⟩
 rw[ints_flat] at hu
 rw[Nat.zero_add,hb.cell j,List.getElem?_toArray]
 exact hu
theorem tst_new (w:World) (t:Tst) (T:TypeId):flt [t] (.slice (some ⟨w.heap.size,0,none⟩) 1 1) (w.alloc (.cells (tstc t).toArray T)) :=
 ⟨_,_,rfl,by simpa using (Reads.new w (tstc t) T 5 1 rfl).more (by simp)⟩
theorem att_new (w:World) (t:Att) (T:TypeId):evt [t] (.slice (some ⟨w.heap.size,0,none⟩) 1 1) (w.alloc (.cells (attc t).toArray T)) :=
 ⟨_,_,rfl,by simpa using (Reads.new w (attc t) T 4 1 rfl).more (by simp)⟩
theorem Blk.z {Z:Nat->Prop} {W W':World} {g:Nat} {t:TypeId} {cs:Array Value} (h:Blk W g t cs) (u:UpN (fun k=>¬ Z k) W W') (hz:Z g):Blk W' g t cs:=h.upn u fun hn=>hn hz
theorem field_life (a b c d:Value) (W:World):(Instr.field 53 (.agg #[a,b,c,d]) 0).run Tryz.prog W=.ok a W:=by kernel_rfl
theorem Awake20_calls (w:World):Calls Tryz.prog 9 #[] w fun e w'=>e=.returned (.bool true)/\K w w':=by
 have C1:=Lib.hid (DNew_ok 10000 w (by omega))
 go_enter Tryz.func9,Tryz.ntmps9
 go_wp2_with fail
 refine C1.out.mono ?_
 rintro e w1 ⟨rfl,hd,k1⟩
 clear C1
 obtain⟨gd,hgd⟩:∃ gd,gd=w.heap.size:=⟨_,rfl⟩
 rw[<- hgd] at hd ⊢
 have HGD:=Lib.hid hgd
 clear hgd
 have kA:K w1 ((w1.alloc (.cells #[.int .i64 (-1)] 3)).alloc (.cells #[.int .i64 0] 3)):=((K.rf w1).al _).al _
 have hdx:=hd.lt
 have h1:Fx (DkX gd (.slice none 0 0)) (fun W=>lst inS [-1] (.slice (some ⟨w1.heap.size,0,none⟩) 1 1) W) ((w1.alloc (.cells #[.int .i64 (-1)] 3)).alloc (.cells #[.int .i64 0] 3)):=(ints_new [-1] 3 hdx).k ((K.rf _).al _)
 have hz1:(w1.alloc (.cells #[.int .i64 (-1)] 3)).heap.size=w1.heap.size+1:=by simp
 have h2:Fx (DkX gd (.slice none 0 0)) (fun W=>lst inS [0] (.slice (some ⟨w1.heap.size+1,0,none⟩) 1 1) W) ((w1.alloc (.cells #[.int .i64 (-1)] 3)).alloc (.cells #[.int .i64 0] 3)):=by
  have:=ints_new (w:=w1.alloc (.cells #[.int .i64 (-1)] 3)) [0] 3 (M:=DkX gd (.slice none 0 0)) fun k hk=>by rw[hz1];have:=hdx k hk;omega
  rw[hz1] at this
  exact this
 have C2:=Lib.hid (BOpen_calls gd (.slice none 0 0) ⟨[],10000⟩ st0 [-1] [0] 0 _ _ _ (hd.st kA) (DskG.new (by omega)) (by simp[st0]) h1 h2 (by decide) (by decide) (by decide))
 have hzd:∀ k,k<w.heap.size->¬ DkX gd (.slice none 0 0) k/\k<((w1.alloc (.cells #[.int .i64 (-1)] 3)).alloc (.cells #[.int .i64 0] 3)).heap.size:=fun k hk=>⟨fun h=>by
  rcases h with h|h
  · have:=HGD.out;omega
  · simp[Value.ownBlock] at h,by have:=k1.size;have:=kA.size;omega⟩
 have hgl:gd<w1.heap.size:=hd.lt gd (.inl rfl)
 have k02:=k1.tr kA
 clear hd h1 h2 hz1 hdx
 go_wp2_with fail
 generalize World.alloc (World.alloc w1 _) _=w2 at *
 refine C2.out.mono ?_
 intro e w3 hp
 unfold OpPost at hp
 rw[if_pos a20_0] at hp
 obtain⟨q,hq⟩:=hp
 have he:=hq.ret
 subst he
 obtain⟨hL,u3⟩:=Liv.new (Z:=fun k=>k<w.heap.size) hq (GoodB.open_ (by decide) (by decide) (by decide) ((DskG.new (room:=10000) (by omega)).life a20_0)) hzd
 have k03:K w w3:=u3.k k02 fun k hk=>by omega
 generalize q.g=g at *
 have HL:Liv (fun k=>k<w.heap.size) g bA0 w3:=hL
 clear C2 hzd hq hL u3 k02 kA k1
 go_wp2_with fail
 have kB:K w3 (w3.alloc (.cells #[.string ⟨#[112]⟩,.int .i64 8,.int .i64 0,.int .i64 0,.string ⟨#[]⟩] 87)):=(K.rf w3).al _
 have C3:=Lib.hid (LSub (HL.st kB) 0 (by simp[i64ok]) a20_c.1 7 (by omega) fA20 _ (tst_new w3 (⟨#[112]⟩,8,0,0,⟨#[]⟩) _) (by simp[fitT,i64ok]) (by simp))
 rw[a20_1] at C3
 have k0B:=k03.tr kB
 clear HL k03
 generalize w3.alloc _=w3b at *
 refine C3.out.mono ?_
 rintro e w4 ⟨rfl,hL4,u4⟩
 have k04:K w w4:=u4.k k0B fun k hk=>by omega
 have HL4:Liv (fun k=>k<w.heap.size) g bA1 w4:=hL4
 clear C3 hL4 u4 kB k0B
 go_upto_region 4 with (fail)
 have kC:K w4 (w4.alloc (.cells #[.int .i64 0,.int .u64 1,.int .u64 1] 35)):=(K.rf w4).al _
 have hb1:=Blk.new w4 35 #[.int .i64 0,.int .u64 1,.int .u64 1]
 have HL5:=HL4.more (Z':=fun k=>k<w.heap.size∨k=w4.heap.size) kC fun k hk=>hk.imp id fun e=>by rw[e];exact⟨Nat.le_refl _,hb1.lt⟩
 have k05:=k04.tr kC
 generalize w4.alloc _=w5 at *
 generalize w4.heap.size=b1 at *
 clear HL4 k04 kC
 have C4:=Lib.hid (LBegin HL5 0 (by simp[i64ok]) a20_c.2)
 rw[a20_2] at C4
 clear HL5
 go_wp2_with fail
 refine C4.out.mono ?_
 rintro e w6 ⟨rfl,hL6,u6⟩
 have k06:K w w6:=u6.k k05 fun k hk=>by omega
 have hb6:=hb1.z u6 (.inr rfl)
 have HL6:Liv (fun k=>k<w.heap.size∨k=b1) g bA2 w6:=hL6
 clear C4 hL6 u6 k05 hb1
 go_upto_region 5 with (fail)
 have kD:K w6 (w6.alloc (.cells #[.int .i64 0,.int .u64 1,.int .u64 2] 35)):=(K.rf w6).al _
 have hc7:=Blk.new w6 35 #[.int .i64 0,.int .u64 1,.int .u64 2]
 have HL7:=HL6.more (Z':=fun k=>(k<w.heap.size∨k=b1)∨k=w6.heap.size) kD fun k hk=>hk.imp id fun e=>by rw[e];exact⟨Nat.le_refl _,hc7.lt⟩
 have k07:=k06.tr kD
 have hb7:=hb6.below kD hb6.lt
 have hbz:w.heap.size<=b1∨b1<w.heap.size:=by omega
 generalize w6.alloc _=w7 at *
 generalize w6.heap.size=b2 at *
 clear HL6 k06 kD hb6
 have qc:=hc7.cells
 have C5:=Lib.hid fun W=>VInt_calls 5 W
 refine wp_region_auto 5 [([],[]),([],[]),([],[]),([2],[(46,2)]),([3],[(47,3)]),([0,1,2,4],[(44,0),(45,1),(48,4)]),([0,1,2,3,4,5],[(49,5)])] 149 rfl (by kernel_rfl) (by kernel_rfl) (by kernel_rfl) (by kernel_rfl) (by decide) ?_
 simp only[List.take_succ_cons,List.take_zero,List.drop_succ_cons,List.drop_zero]
 iterate 2 (apply AutoQ.is;intro V W kW hp;(try simp only[List.forall_mem_cons,List.nil_append,List.cons_append,tab_zero,tab_succ,isV] at hp);simp[wantsG,rhoP,List.lookup,hp,ResG,execOp,bareOp,isV,Below.refl,kW,qc,go_sem];rfl)
 refine AutoQ.is (.agg #[.int .i64 1,.int .i64 5,.string ⟨#[]⟩]) (fun V W kW hp=>?_) ?_
 · (try simp only[List.forall_mem_cons,List.nil_append,List.cons_append,tab_zero,tab_succ,isV] at hp)
   simp[wantsG,rhoP,List.lookup,hp,ResG,execOp,bareOp,isV,qc,go_sem]
   refine (C5.out W).mono ?_
   rintro e w4 ⟨rfl,k4⟩
   exact⟨_,rfl,rfl,k4⟩
 (apply AutoQ.is;intro V W kW hp;(try simp only[List.forall_mem_cons,List.nil_append,List.cons_append,tab_zero,tab_succ,isV] at hp);simp[wantsG,rhoP,List.lookup,hp,ResG,execOp,bareOp,isV,Below.refl,kW,qc,go_sem];rfl)
 refine AutoQ.op (evt eA20) (evt_st _) (fun V W kW hp=>?_) ?_
 · simp only[List.forall_mem_cons,List.nil_append,List.cons_append,tab_zero,tab_succ,isV] at hp
   simp[wantsG,rhoP,List.lookup,hp,ResG,execOp,bareOp,go_sem]
   exact⟨att_new W (⟨#[112]⟩,1,5,⟨#[]⟩) _,(K.rf W).al _⟩
 intro V W kW hA
 simp only[List.nil_append,List.cons_append,AllT,isV,Nat.reduceAdd] at hA
 obtain⟨e0,e1,e2,e3,h4,-⟩:=hA
 have k0W:=k07.tr kW
 have hbW:=hb7.below kW hb7.lt
 have hcW:=hc7.below kW hc7.lt
 have C6:=Lib.hid (LPublish (HL7.st kW) (0,1,2) (by simp[fitI,i64ok]) eA20 (V 4) h4 (by simp) (by simp[fitA,i64ok]))
 rw[a20_3] at C6
 refine TailQ.call _ _ rfl (by simp[rhoP,List.lookup,updV,e0,e1,execOp,bareOp,go_sem];exact⟨rfl,rfl⟩) ?_
 refine C6.out.mono ?_
 rintro e w8 ⟨rfl,hL8,u8⟩
 refine⟨_,rfl,?_⟩
 have k08:K w w8:=u8.k k0W fun k hk=>by omega
 have hb8:=hbW.z u8 (.inl (.inr rfl))
 have hc8:=hcW.z u8 (.inr rfl)
 have HL8:Liv (fun k=>(k<w.heap.size∨k=b1)∨k=b2) g bA3 w8:=hL8
 apply TailQ.pure
 rfl
 simp[rhoP,List.lookup,updV,execOp,bareOp,go_sem]
 rfl
 refine TailQ.nil ?_
 simp only[putAll,Act.put,List.setIfInBounds_toArray,List.set_cons_succ,List.set_cons_zero,Nat.reduceAdd,updV,Nat.reduceEqDiff,reduceIte]
 clear C6 C5 HL7 hL8 u8 kW qc hb7 hc7 hbW hcW e0 e1 e2 e3 h4 k0W k07
 generalize V 0=x0 at *
 generalize V 1=x1 at *
 generalize V 2=x2 at *
 generalize V 3=x3 at *
 generalize V 4=x4 at *
 clear V
 have q2:=hc8.cell
 have C7:=Lib.hid (LCommit HL8 (0,1,2) (by simp[fitI,i64ok]))
 rw[a20_4] at C7
 clear HL8
 go_wp2_with fail
 refine C7.out.mono ?_
 rintro e w9 ⟨rfl,hL9,u9⟩
 have k09:K w w9:=u9.k k08 fun k hk=>by omega
 have hb9:=hb8.z u9 (.inl (.inr rfl))
 have hc9:=hc8.z u9 (.inr rfl)
 have HL9:Liv (fun k=>(k<w.heap.size∨k=b1)∨k=b2) g bA4 w9:=hL9
 clear C7 hL9 u9 k08 hb8 hc8 q2
 have q2:=hc9.cell
 have C8:=Lib.hid (LStatus HL9 (0,1,2))
 rw[a20_5] at C8
 go_wp2_with fail
 refine C8.out.mono ?_
 rintro e w10 ⟨rfl,k10⟩
 have k010:=k09.tr k10
 have hb10:=hb9.below k10 hb9.lt
 have hc10:=hc9.below k10 hc9.lt
 have C9:=Lib.hid (LTick (HL9.st k10) a20_r.1 a20_r.2)
 clear C8 q2 HL9 hb9 hc9 k09 k10
 go_wp2_with fail
 refine C9.out.mono ?_
 rintro e w11 ⟨rfl,hL11,u11⟩
 have k011:K w w11:=u11.k k010 fun k hk=>by omega
 have hb11:=hb10.z u11 (.inl (.inr rfl))
 have hc11:=hc10.z u11 (.inr rfl)
 have HL11:Liv (fun k=>(k<w.heap.size∨k=b1)∨k=b2) g bA5 w11:=hL11
 have C10:=Lib.hid (LPoll HL11 0 0)
 rw[a20_7] at C10
 clear C9 hL11 u11 k010 hb10 hc10
 go_wp2_with fail
 refine C10.out.mono ?_
 rintro e w12 ⟨v12,rfl,hO12,k12⟩
 obtain⟨A12,c12,rfl⟩:=lst_slice hO12.toY.lst
 have k012:=k011.tr k12
 have C11:=Lib.hid (LPoll (HL11.st k12) 0 2)
 rw[a20_8] at C11
 clear C10 hO12
 go_wp2_with fail
 refine C11.out.mono ?_
 rintro e w13 ⟨v13,rfl,hO13,k13⟩
 obtain⟨A13,c13,rfl⟩:=lst_slice hO13.toY.lst
 have k013:=k012.tr k13
 have k1113:=k12.tr k13
 clear C11 hO13 k12 k13 k012
 have kE:K w13 ((w13.alloc (.cells #[.int .i64 (-1)] 3)).alloc (.cells #[.int .i64 0] 3)):=((K.rf w13).al _).al _
 have h1:=((ints_new (w:=w13) [-1] 3 (M:=fun _=>False) (fun _ h=>h.elim)).k ((K.rf _).al (.cells #[.int .i64 0] 3))).now
 have hz1:(w13.alloc (.cells #[.int .i64 (-1)] 3)).heap.size=w13.heap.size+1:=by simp
 have h2:=(ints_new (w:=w13.alloc (.cells #[.int .i64 (-1)] 3)) [0] 3 (M:=fun _=>False) (fun _ h=>h.elim)).now
 rw[hz1] at h2
 have C12:=Lib.hid (BOpen_no [-1] [0] 1 (.slice (some ⟨w13.heap.size,0,none⟩) 1 1) (.slice (some ⟨w13.heap.size+1,0,none⟩) 1 1) (.pointer (some ⟨gd,0,none⟩)) ((w13.alloc (.cells #[.int .i64 (-1)] 3)).alloc (.cells #[.int .i64 0] 3)) h1 h2 (by simp) (by simp) (.inr ⟨_,rfl⟩) (.inr (.inl (by decide))))
 rw[show okTr [-1]=true from by decide,if_pos rfl] at C12
 clear h1 h2 hz1
 go_wp2_with fail
 generalize World.alloc (World.alloc w13 _) _=w14 at *
 refine C12.out.mono ?_
 rintro e w15 ⟨rfl,k15⟩
 have k1115:=(k1113.tr kE).tr k15
 have k015:=(k013.tr kE).tr k15
 have HL15:=Lib.hid (HL11.st k1115)
 have hb15:=hb11.below k1115 hb11.lt
 have hc15:=hc11.below k1115 hc11.lt
 clear C12 kE k15 k1113 k1115 k013 HL11 hb11 hc11 k011
 have q1:=hb15.cell
 have q2:=hc15.cell
 have C13:=Lib.hid fun W (k:K w15 W)=>LStatus (HL15.out.st k) (0,1,1)
 have C14:=Lib.hid fun W (k:K w15 W)=>LStatus (HL15.out.st k) (0,1,2)
 rw[a20_6.1] at C13
 rw[a20_6.2] at C14
 go_wp2_with fail
 refine (C13.out w15 (K.rf _)).mono ?_
 rintro e w16 ⟨rfl,k16⟩
 have hc16:=hc15.below k16 hc15.lt
 clear q1 q2 C13
 have q2:=hc16.cell
 go_wp2_with fail
 refine (C14.out w16 k16).mono ?_
 rintro e w17 ⟨rfl,k17⟩
 have k1517:=k16.tr k17
 have C15:=Lib.hid (LState (HL15.out.st k1517))
 clear q2 C14
 go_wp2_with fail
 refine C15.out.mono ?_
 rintro e w18 ⟨vl,vp,va,rfl,hst,k18⟩
 obtain⟨hs1,hs2,hs3⟩:=hst.now
 obtain⟨_,_,rfl⟩:=lst_slice hs1
 obtain⟨_,_,rfl⟩:=lst_slice hs2
 obtain⟨_,_,rfl⟩:=lst_slice hs3
 clear hst hs1 hs2 hs3
 have kF:=k015.tr (k1517.tr k18)
 have hlf:((bA5.st.life:Nat):Int)=1:=by rw[a20_9];rfl
 simp only[stA,hlf]
 have hfl:=field_life
 clear C15
 go_wp2
 go_ret
 exact⟨rfl,kF⟩
theorem BrokerNames_walk (w:World):Calls Tryz.prog 3 #[] w fun e w'=>e=.returned (.bool true)/\Below w.heap.size w w':=by
 have C1:=Lib.hid (Awake20_calls w)
 go_enter Tryz.func3,Tryz.ntmps3
 go_wp2_with fail
 refine C1.out.mono ?_
 rintro e w1 ⟨rfl,k1⟩
 clear C1
 go_wp2
 go_ret
 exact⟨rfl,k1⟩
