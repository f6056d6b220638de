/-
  Messages in lists; what a broker's reports hold (layer 20). Conditions: none.
-/
import Derived.Test.YtagfakjifhdpgaaGreatMa25
set_option maxRecDepth 100000
set_option maxHeartbeats 16000000
set_option linter.unusedVariables false
set_option linter.unusedSimpArgs false
namespace Go.Proofs.YtagfakjifhdpgaaGreat
open Go Go.RowKit
def msS:Shp Msg where
 size:=8
 rel m cs w:=∃ v1 v2 v3 v4 v5 v6,cs=(msA m v1 v2 v3 v4 v5 v6).toList/\lst voS m.votes v1 w/\lst enS m.asks v2 w/\lst enS m.entries v3 w/\lst enS m.prepares v4 w/\lst idS m.aborts v5 w/\lst idS m.ends v6 w
 len:=by rintro _ _ _ ⟨v1,v2,v3,v4,v5,v6,rfl,_⟩;rfl
 one:=by
  rintro x _ _ ⟨v1,v2,v3,v4,v5,v6,rfl,h1,h2,h3,h4,h5,h6⟩ u hu
  obtain⟨_,_,rfl⟩:=lst_slice h1
  obtain⟨_,_,rfl⟩:=lst_slice h2
  obtain⟨_,_,rfl⟩:=lst_slice h3
  obtain⟨_,_,rfl⟩:=lst_slice h4
  obtain⟨_,_,rfl⟩:=lst_slice h5
  obtain⟨_,_,rfl⟩:=lst_slice h6
  simp at hu
  rcases hu with rfl|rfl|rfl|rfl|rfl|rfl|rfl|rfl <;> rfl
 st:=by rintro _ _ _ _ ⟨v1,v2,v3,v4,v5,v6,rfl,h1,h2,h3,h4,h5,h6⟩ k;exact⟨_,_,_,_,_,_,rfl,lst_st h1 k,lst_st h2 k,lst_st h3 k,lst_st h4 k,lst_st h5 k,lst_st h6 k⟩
abbrev zMs:Array Value:=#[.int .i64 0,.int .u64 0,.slice none 0 0,.slice none 0 0,.slice none 0 0,.slice none 0 0,.slice none 0 0,.slice none 0 0]
theorem msv_0 (W:World):msv msg0 (.agg zMs) W:=⟨_,_,_,_,_,_,rfl,lst_nil _ _,lst_nil _ _,lst_nil _ _,lst_nil _ _,lst_nil _ _,lst_nil _ _⟩
theorem RepL.look {l:List (Int×Msg)} {kvs:List (Int×Value)} {W:World} (h:RepL l kvs W) (k:Int):msv (((l.find? fun p=>decide (p.1=k)).map (·.2)).getD msg0) ((lookG kvs k).getD (.agg zMs)) W:=by
 have key:∀ (l:List (Int×Msg)) (kvs:List (Int×Value)) (i:Nat),RepL l kvs W->msv (((l.find? fun p=>decide (p.1=k)).map (·.2)).getD msg0) (((idxG k kvs i).map (·.2)).getD (.agg zMs)) W:=by
  intro l
  induction l with
  | nil =>
    intro kvs i h
    have:kvs=[]:=List.eq_nil_of_length_eq_zero h.1
    subst this
    exact msv_0 W
  | cons q l ih =>
    intro kvs i h
    cases kvs with
    | nil=>have:=h.1;simp at this
    | cons p kvs =>
      have h0:=h.2 0 (by simp) (by simp)
      simp only[List.getElem_cons_zero] at h0
      have hr:RepL l kvs W:=⟨by have:=h.1;simpa using this,fun j h1 h2=>by
       have:=h.2 (j+1) (by simpa using h1) (by simpa using h2)
       simpa using this⟩
      unfold idxG
      by_cases e:q.1=k
      · rw[List.find?_cons_of_pos (by simpa using e),if_pos (h0.1.trans e)]
        exact h0.2
      · rw[List.find?_cons_of_neg (by simpa using e),if_neg (fun e2=>e (h0.1.symm.trans e2))]
        exact ih kvs (i+1) hr
 exact key l kvs 0 h
theorem zeroMs (W:World):(zeroValue 61).run Tryz.prog W=.ok (.agg zMs) W:=by kernel_rfl
theorem infoMs:(Tryz.prog.info? 61).map (fun i=>(i.zero,i.size,i.bytes))=some (some (.agg zMs),8,160):=by kernel_rfl
theorem TMs:SliceT Tryz.prog 113 61 (.agg zMs) 8 160:=⟨Tryz.underlying113,infoMs,rfl,by decide⟩
section
variable {α β:Type} {S:Shp α} {S2:Shp β} {Y Y' X:Nat->Prop} {base lo:Nat} {e e2:TypeId} {l:List α} {l2:List β} {v v2:Value} {w w':World}
theorem OwnY.to (h:OwnY Y base e S l v w) (u:UpN X w w') (hX:∀ k,X k->Y k) (hn:∀ k,v.ownBlock=some k->¬ X k) (hY:∀ k,k<w.heap.size->Y' k->Y k∨v.ownBlock=some k):OwnY Y' base e S l v w':=by
 obtain⟨css,h1,h2,h3⟩:=h
 exact⟨css,row_upn h1 u fun b h4 h5=>hn b h4 h5,h2,fun w'' u'=>h3 w'' ((u.more fun k hk=>.inl (hX k hk)).tr2 u' fun k hk hx=>hx.elim (fun hx=>hY k hk hx) .inr)⟩
structure TwoY (lo base:Nat) (e:TypeId) (S:Shp α) (l:List α) (v:Value) (e2:TypeId) (S2:Shp β) (l2:List β) (v2:Value) (w:World):Prop where
 a:OwnY (fun k=>k<lo∨v2.ownBlock=some k) base e S l v w
 b:OwnY (fun k=>k<lo∨v.ownBlock=some k) base e2 S2 l2 v2 w
 ne:∀ k,v.ownBlock=some k->v2.ownBlock=some k->False
 lo:lo<=base
theorem TwoY.st (h:TwoY lo base e S l v e2 S2 l2 v2 w) (k:K w w'):TwoY lo base e S l v e2 S2 l2 v2 w':=⟨h.a.st k,h.b.st k,h.ne,h.lo⟩
theorem TwoY.low {base':Nat} (h:TwoY lo base e S l v e2 S2 l2 v2 w) (hb:base'<=base) (hl:lo<=base'):TwoY lo base' e S l v e2 S2 l2 v2 w:=⟨h.a.low hb,h.b.low hb,h.ne,hl⟩
theorem TwoY.swap (h:TwoY lo base e S l v e2 S2 l2 v2 w):TwoY lo base e2 S2 l2 v2 e S l v w:=⟨h.b,h.a,fun k h1 h2=>h.ne k h2 h1,h.lo⟩
theorem TwoY.nil2 (h:OwnY (fun k=>k<lo) base e S l v w) (hl:lo<=base):TwoY lo base e S l v e2 S2 ([]:List β) (.slice none 0 0) w :=
 ⟨h.less (Y':=fun k=>k<lo∨(Value.slice none 0 0).ownBlock=some k) fun k hk=>hk.elim id fun h=>(by simp[Value.ownBlock] at h),OwnY.nil _ _ _ _ _,fun k _ h=>(by simp[Value.ownBlock] at h),hl⟩
theorem TwoY.push (h:TwoY lo base e S l v e2 S2 l2 v2 w) {v9:Value} {l9:List α} (h9:OwnY (fun k=>k<lo∨v2.ownBlock=some k) base e S l9 v9 w') (hg:w.grownBy w' v.ownBlock) (hb:v9.ownBlock=v.ownBlock∨v9.ownBlock=some w.heap.size):TwoY lo base e S l9 v9 e2 S2 l2 v2 w':=by
 have hz:=h.b.blk
 refine⟨h9,h.b.to (X:=fun k=>v.ownBlock=some k) (UpN.of_mut hg fun k e=>e) (fun k hk=>.inr hk) (fun k h1 h2=>h.ne k h2 h1) (fun k hk hx=>?_),fun k h1 h2=>?_,h.lo⟩
 · rcases hx with hx|hx
   · exact .inl (.inl hx)
   · rcases hb with hb|hb
     · exact .inl (.inr (hb ▸ hx))
     · rw[hb] at hx;injection hx with hx;omega
 · rcases hb with hb|hb
   · exact h.ne k (hb ▸ h1) h2
   · rw[hb] at h1;injection h1 with h1;have:=hz k h2;omega
end
section
variable {α:Type} {S:Shp α} {M N X Y:Nat->Prop} {base:Nat} {e:TypeId} {l:List α} {v:Value} {w w':World}
def LsF (M:Nat->Prop) (S:Shp α) (l:List α) (v:Value) (w:World):Prop :=
 ∃ A c css,v=.slice A l.length c/\l.length<=c/\Reads w w.heap.size S.size A l.length css.flatten/\css.length=l.length/\(l≠[]->0<S.size->∀ b off,A=some ⟨b,off,none⟩->¬ M b)/\∀ W,UpN M w W->Each S l css W
theorem LsF.lst (h:LsF M S l v w):Go.Proofs.YtagfakjifhdpgaaGreat.lst S l v w:=by
 obtain⟨A,c,css,rfl,hc,hR,hl,-,hE⟩:=h
 exact⟨A,c,rfl,⟨css,hE w (UpN.rf _ _),hR⟩,hc⟩
theorem LsF.slice (h:LsF M S l v w):∃ A c,v=.slice A l.length c:=lst_slice h.lst
theorem LsF.st (h:LsF M S l v w) (k:K w w'):LsF M S l v w':=by
 obtain⟨A,c,css,rfl,hc,hR,hl,hn,hE⟩:=h
 exact⟨A,c,css,rfl,hc,(hR.below k (Nat.le_refl _)).more k.size,hl,hn,fun W u=>hE W ((UpN.of_k k _).tr u)⟩
theorem LsF.to (h:LsF M S l v w) (u:UpN X w w') (hX:∀ k,X k->M k) (hN:∀ k,k<w.heap.size->N k->M k) (hs:0<S.size):LsF N S l v w':=by
 obtain⟨A,c,css,rfl,hc,hR,hl,hn,hE⟩:=h
 have hR':Reads w' w'.heap.size S.size A l.length css.flatten:=by
  refine⟨hR.1,fun h0=>?_⟩
  obtain⟨b,off,e,hb,hcell⟩:=hR.2 h0
  refine⟨b,off,e,Nat.lt_of_lt_of_le hb u.size,fun j x hx=>?_⟩
  have hne:l≠[]:=by
   intro e
   have:=hR.1
   rw[e] at this
   simp only[List.length_nil,Nat.zero_mul] at this
   omega
  have h1:=hn hne hs b off e
  rw[<- hcell j x hx]
  exact World.cell?_of_block (u.block b hb fun hx=>h1 (hX b hx))
 exact⟨A,c,css,rfl,hc,hR',hl,fun h1 h2 b off h3 h4=>by
  have h0:0<css.flatten.length:=by
   rw[hR.1]
   exact Nat.mul_pos (List.length_pos_iff.2 h1) h2
  obtain⟨b',off',e',hb,-⟩:=hR.2 h0
  rw[h3] at e'
  injection e' with e'
  injection e' with e1 e2
  subst e1
  exact hn h1 h2 b off h3 (hN b hb h4),fun W u'=>hE W ((u.more hX).tr2 u' hN)⟩
theorem LsF.fx (h:LsF M S l v w) (hs:0<S.size):Fx M (fun W=>Go.Proofs.YtagfakjifhdpgaaGreat.lst S l v W) w:=fun _ u=>(h.to u (fun _ h=>h) (fun _ _ h=>h) hs).lst
theorem LsF.nil (M:Nat->Prop) (S:Shp α) (w:World):LsF M S [] (.slice none 0 0) w:=⟨none,0,[],rfl,Nat.le_refl _,Reads.nil _ _ _ _,rfl,fun h=>absurd rfl h,fun _ _=>Each.nil _ _⟩
theorem LsF.at (h:LsF M S l v w) (i:Nat) (hi:i<l.length) (hs:0<S.size):∃ b off c cs,v=.slice (some ⟨b,off,none⟩) l.length c/\¬ M b/\cs.length=S.size/\Fx M (fun W=>S.rel l[i] cs W) w/\∀ W,UpN M w W->∀ j,j<S.size->W.cell? ⟨b,off+i * S.size+j,none⟩=cs[j]?:=by
 obtain⟨A,c,css,rfl,hc,hR,hl,hn,hE⟩:=h
 obtain⟨cs,h1,h2,h3,h4⟩:=(hE w (UpN.rf _ _)).get i hi
 have h0:0<css.flatten.length:=by
  rw[hR.1]
  exact Nat.mul_pos (by omega) hs
 obtain⟨b,off,rfl,hb,hcell⟩:=hR.2 h0
 have hnb:=hn (by rintro rfl;simp at hi) hs b off rfl
 refine⟨b,off,c,cs,rfl,hnb,h2,fun W u=>?_,fun W u j hj=>?_⟩
 · obtain⟨cs',g1,g2,g3,g4⟩:=(hE W u).get i hi
   rw[h1] at g1
   injection g1 with g1
   subst g1
   exact g3
 · have:=h4 j hj
   rw[List.getElem?_eq_getElem (show j<cs.length by omega)] at this ⊢
   rw[Nat.add_assoc,<- hcell _ _ this]
   exact World.cell?_of_block (u.block b hb hnb)
theorem OwnY.lsf (h:OwnY Y base e S l v w) (hN:∀ k,N k->Y k∨v.ownBlock=some k) (hb:∀ k,v.ownBlock=some k->¬ N k):LsF N S l v w:=by
 obtain⟨css,h1,h2,h3⟩:=h
 have h1':=h1
 rcases h1.2 with ⟨rfl,h0⟩|⟨g,cap,cur,rfl,_,_,hn,_⟩
 · obtain rfl:l=[]:=List.eq_nil_of_length_eq_zero h0
   exact LsF.nil _ _ _
 · refine⟨_,_,css,rfl,hn,Reads.of_own h1',h2,fun _ _ b off e=>?_,fun W u=>h3 W (u.more hN)⟩
   injection e with e
   injection e with e1 e2
   subst e1
   exact hb g rfl
theorem cell_set_same {b i:Nat} {u x:Value} (h:w.cell? ⟨b,i,none⟩=some u):(w.setCell ⟨b,i,none⟩ x).cell? ⟨b,i,none⟩=some x:=by
 unfold World.cell? at h ⊢
 revert h
 cases hb:w.heap[b]? with
 | none=>simp
 | some o =>
   cases o <;> simp[World.setCell,Array.getElem?_modify,hb]
   intro h
   have hi:=(Array.getElem?_eq_some_iff.1 h).1
   rw[Array.getElem?_setIfInBounds_self,if_pos hi]
theorem Fx.fix (h:Fx M (fun W=>lst S l v W) w) (hs:0<S.size) (hS:∀ x cs W,S.rel x cs W->cs[0]?≠some (.bool true)):LsF M S l v w:=by
 obtain⟨A,c,rfl,⟨css,hE,hR⟩,hc⟩:=h.now
 have hnot:l≠[]->0<S.size->∀ b off,A=some ⟨b,off,none⟩->¬ M b:=by
  rintro hne - b off rfl hM
  have hp:=List.length_pos_iff.2 hne
  obtain⟨cs,g1,g2,g3,g4⟩:=hE.get 0 hp
  have h0:0<css.flatten.length:=by rw[hR.1];exact Nat.mul_pos hp hs
  obtain⟨b',off',e,hb,hcell⟩:=hR.2 h0
  injection e with e
  injection e with e1 e2
  subst e1 e2
  have hc0:=hcell 0 _ (List.getElem?_eq_getElem h0)
  obtain⟨A',c',e',⟨css',hE',hR'⟩,-⟩:=h (w.setCell ⟨b,off+0,none⟩ (.bool true)) (UpN.set1 hM _ _)
  injection e' with e' _ _
  subst e'
  have h0':0<css'.flatten.length:=by rw[hR'.1];exact Nat.mul_pos hp hs
  obtain⟨b'',off'',e'',-,hcell'⟩:=hR'.2 h0'
  injection e'' with e''
  injection e'' with e1 e2
  subst e1 e2
  have hc0':=hcell' 0 _ (List.getElem?_eq_getElem h0')
  rw[cell_set_same hc0] at hc0'
  obtain⟨cs',f1,f2,f3,f4⟩:=hE'.get 0 hp
  refine hS _ _ _ f3 ?_
  have:=f4 0 hs
  simp only[Nat.zero_mul,Nat.zero_add] at this
  rw[<- this,List.getElem?_eq_getElem h0',<- hc0']
 refine⟨A,c,css,rfl,hc,hR,hE.1,hnot,fun W u=>?_⟩
 obtain⟨A',c',e',⟨css',hE',hR'⟩,-⟩:=h W u
 injection e' with e' _ _
 subst e'
 by_cases hne:l=[]
 · subst hne
   have:=hE.1
   simp at this
   subst this
   exact Each.nil _ _
 have hp:=List.length_pos_iff.2 hne
 have h0:0<css.flatten.length:=by rw[hR.1];exact Nat.mul_pos hp hs
 have h0':0<css'.flatten.length:=by rw[hR'.1];exact Nat.mul_pos hp hs
 obtain⟨b,off,rfl,hb,hcell⟩:=hR.2 h0
 obtain⟨b',off',e,hb',hcell'⟩:=hR'.2 h0'
 injection e with e
 injection e with e1 e2
 subst e1 e2
 have heq:css.flatten=css'.flatten:=by
  refine List.ext_getElem (by rw[hR.1,hR'.1]) fun j h1 h2=>?_
  have g1:=hcell j _ (List.getElem?_eq_getElem h1)
  have g2:=hcell' j _ (List.getElem?_eq_getElem h2)
  rw[World.cell?_of_block (u.block b hb (hnot hne hs b off rfl)),g1] at g2
  injection g2
 have:css=css':=by
  refine List.ext_getElem (by rw[hE.1,hE'.1]) fun i h1 h2=>?_
  obtain⟨cs,a1,a2,a3,a4⟩:=hE.get i (by rw[<- hE.1];exact h1)
  obtain⟨cs',b1,b2,b3,b4⟩:=hE'.get i (by rw[<- hE.1];exact h1)
  rw[List.getElem?_eq_getElem h1] at a1
  rw[List.getElem?_eq_getElem h2] at b1
  injection a1 with a1
  injection b1 with b1
  rw[a1,b1]
  refine List.ext_getElem (by omega) fun j h3 h4=>?_
  have q1:=a4 j (by omega)
  have q2:=b4 j (by omega)
  rw[heq,q2,List.getElem?_eq_getElem h3,List.getElem?_eq_getElem h4] at q1
  injection q1 with q1
  exact q1.symm
 rw[this]
 exact hE'
end
abbrev subC (x:Subn) (vf:Value):List Value:=[.int .i64 x.cl,.int .u64 (x.sub:Int),vf]
abbrev subA (x:Subn) (vf:Value):Array Value:=#[.int .i64 x.cl,.int .u64 (x.sub:Int),vf]
def sbS:Shp Subn where
 size:=3
 rel x cs w:=∃ vf,cs=subC x vf/\flt x.f vf w
 len:=by rintro _ _ _ ⟨vf,rfl,_⟩;rfl
 one:=by rintro x _ _ ⟨vf,rfl,A,c,rfl,_⟩ u hu;simp at hu;rcases hu with rfl|rfl|rfl <;> rfl
 st:=by rintro _ _ _ _ ⟨vf,rfl,h⟩ k;exact⟨vf,rfl,flt_st _ _ _ _ h k⟩
def sub (x:Subn) (v:Value) (w:World):Prop:=∃ vf,v=.agg (subA x vf)/\flt x.f vf w
theorem sub_st {x:Subn} {v:Value} {w w':World} (h:sub x v w) (k:K w w'):sub x v w':=by
 obtain⟨vf,rfl,h⟩:=h
 exact⟨vf,rfl,flt_st _ _ _ _ h k⟩
theorem infoSb:(Tryz.prog.info? 186).map (fun i=>(i.zero,i.size,i.bytes))=some (some (.agg #[.int .i64 0,.int .u64 0,.slice none 0 0]),3,40):=by kernel_rfl
theorem TSb:SliceT Tryz.prog 127 186 (.agg #[.int .i64 0,.int .u64 0,.slice none 0 0]) 3 40:=⟨Tryz.underlying127,infoSb,rfl,by decide⟩
theorem filter_take {α:Type} (q:α->Bool) (l:List α) (j:Nat) (h:j<l.length):(l.take (j+1)).filter q=(l.take j).filter q++(if q l[j] then [l[j]] else []):=by
 rw[List.take_succ_eq_append_getElem h,List.filter_append]
 by_cases hq:q l[j] <;> simp[hq]
theorem KeepS_calls (M:Nat->Prop) (l:List Subn) (v:Value) (q:Subn->Bool) (f:Nat) (cs:Array Value) (w:World) (h:LsF M sbS l v w) (hlen:l.length<=1000000) (hf:∀ args W,(callFunc f args).run Tryz.prog W=.ok (.enter f args) W)
 (hC:∀ W,K w W->∀ x∈l,∀ u,sub x u W->Calls Tryz.prog f (#[u]++cs) W fun e W'=>e=.returned (.bool (q x))/\K W W') :
 Calls Tryz.prog 115 #[v,.func (.func f) #[] cs] w fun e w'=>∃ v',e=.returned v'/\OwnY M w.heap.size 186 sbS (l.filter q) v' w'/\K w w':=by
 have H:=Lib.hid h
 have HC:=Lib.hid hC
 have kk:=K.rf w
 have hO:=OwnY.nil M w.heap.size 186 sbS w
 obtain⟨A,c,rfl⟩:=h.slice
 clear h hC
 go_enter Tryz.func115,Tryz.ntmps115
 go_wp2_with fail
 go_loopw [5,7,10] (fun o _ i W=>∃ j:Nat,j<=l.length/\i=.int .i64 (j:Int)/\OwnY M w.heap.size 186 sbS ((l.take j).filter q) o W/\K w W) (fun _ _ i _=>l.length - (intOf i).toNat)
 case atStart=>exact⟨0,by omega,rfl,by simpa using hO,kk⟩
 case round =>
  clear hO kk
  obtain⟨j,hj,rfl,hO,kr⟩:=hrel
  by_cases hlt:j<l.length
  · have hji:(j:Int)<(l.length:Int):=by omega
    obtain⟨b,off,c',cs1,e1,hnb,hcl,hF,d⟩:=H.out.at j hlt (by decide)
    injection e1 with e1 _ e2
    subst e1 e2
    have HT:=Lib.hid (filter_take q l j hlt)
    have hm:=List.getElem_mem hlt
    generalize l[j]=x at *
    obtain⟨vf,rfl,hfl⟩:=hF.now
    have hF2:Fx (fun k=>M k∨w.heap.size<=k) (fun W=>sbS.rel x (Value.agg (subA x vf)).cells.toList W) wr:=hF.to (X:=fun _=>False) (UpN.of_k kr _) (fun _ h=>h.elim) fun k hk hx=>hx.resolve_right (by omega)
    have dd:∀ i,i<3->wr.cell? ⟨b,off+j * 3+i,none⟩=(subA x vf)[i]?:=fun i hi=>(d wr (UpN.of_k kr _) i hi).trans Array.getElem?_toList
    have d0:wr.cell? ⟨b,off+j * 3,none⟩=some (.int .i64 x.cl):=dd 0 (by decide)
    have hx:=Blk.new wr 186 (subA x vf)
    have k1:K wr (wr.alloc (.cells (subA x vf) 186)):=(K.rf wr).al _
    obtain⟨Af,cf,rfl⟩:=flt_slice hfl
    have kr1:=kr.tr k1
    have hO1:=hO.st k1
    have hF3:=hF2.k k1
    have C1:=Lib.hid (HC.out _ kr1 x hm (.agg (subA x (.slice Af x.f.length cf))) ⟨_,rfl,flt_st _ _ _ _ hfl (kr.tr k1)⟩)
    clear hcl hfl hF hF2 d hm hO
    go_upto_region 5 with (fail)
    generalize wr.alloc _=w1 at *
    clear dd d0
    have q7:=hx.cell
    go_wp2_with fail
    refine C1.out.mono ?_
    rintro e w2 ⟨rfl,k2⟩
    have kr2:=kr1.tr k2
    have hO2:=hO1.st k2
    have hF4:=hF3.k k2
    have q72:=(hx.below k2 hx.lt).cell
    clear C1 q7 hO1 hF3 hx k1
    cases hq:q x
    · have HT2:Hid ((l.take (j+1)).filter q=(l.take j).filter q):=Lib.hid (by rw[HT.out,hq];simp)
      rw[<- HT2.out] at hO2
      go_wp2
      go_roundw
      case rel=>exact⟨j+1,by omega,by go_num,hO2,kr2⟩
      case measure=>simp[intOf];omega
    have HT2:Hid ((l.take (j+1)).filter q=(l.take j).filter q++[x]):=Lib.hid (by rw[HT.out,hq];simp)
    have hbl:=hO2.blk
    have hr:=rowY.new (S:=sbS) (e:=186) (v:=.agg (subA x (.slice Af x.f.length cf))) hF4 0 (Nat.zero_le _)
    have hO3:=hO2.st ((K.rf w2).al (.cells (subA x (.slice Af x.f.length cf)) 186))
    have kr3:=kr2.tr ((K.rf w2).al (.cells (subA x (.slice Af x.f.length cf)) 186))
    have hfl:=List.length_filter_le q (l.take j)
    have hll:(l.take j).length<=1000000:=by simp;omega
    clear hO2 hF4
    go_wp2_with (at_builtin;refine wpList_push rfl _ _ 127 rfl _ 3 40 TSb rfl rfl hO3 _ rfl x ?p1 ?p2 ?p3 ?_)
    case p1=>exact hr.less fun k hk=>by rcases hk with hk|hk;exact .inl hk;have:=hbl k hk;exact .inr (by omega)
    case p2=>omega
    case p3=>exact kr3.size
    intro v9 w9 hO9 hg9 _ hb9
    rw[<- HT2.out] at hO9
    have kr9:=kr3.trans hb9
    clear hr hO3 q72
    go_wp2
    go_roundw
    case rel=>exact⟨j+1,by omega,by go_num,hO9,kr9⟩
    case measure=>simp[intOf];omega
  · have hji:¬ (j:Int)<(l.length:Int):=by omega
    obtain rfl:j=l.length:=by omega
    rw[List.take_length] at hO
    go_wp2
    go_ret
    exact⟨_,rfl,hO,kr⟩
theorem KeepE_calls (M:Nat->Prop) (l:List (List Att)) (v:Value) (q:List Att->Bool) (f:Nat) (cs:Array Value) (w:World) (h:LsF M evS l v w) (hlen:l.length<=1000000) (hf:∀ args W,(callFunc f args).run Tryz.prog W=.ok (.enter f args) W)
 (hC:∀ W,K w W->∀ x∈l,∀ u,evt x u W->Calls Tryz.prog f (#[u]++cs) W fun e W'=>e=.returned (.bool (q x))/\K W W') :
 Calls Tryz.prog 118 #[v,.func (.func f) #[] cs] w fun e w'=>∃ v',e=.returned v'/\OwnY M w.heap.size 45 evS (l.filter q) v' w'/\K w w':=by
 have H:=Lib.hid h
 have HC:=Lib.hid hC
 have kk:=K.rf w
 have hO:=OwnY.nil M w.heap.size 45 evS w
 obtain⟨A,c,rfl⟩:=h.slice
 clear h hC
 go_enter Tryz.func118,Tryz.ntmps118
 go_wp2_with fail
 go_loopw [5,7,10] (fun o _ i W=>∃ j:Nat,j<=l.length/\i=.int .i64 (j:Int)/\OwnY M w.heap.size 45 evS ((l.take j).filter q) o W/\K w W) (fun _ _ i _=>l.length - (intOf i).toNat)
 case atStart=>exact⟨0,by omega,rfl,by simpa using hO,kk⟩
 case round =>
  clear hO kk
  obtain⟨j,hj,rfl,hO,kr⟩:=hrel
  by_cases hlt:j<l.length
  · have hji:(j:Int)<(l.length:Int):=by omega
    obtain⟨b,off,c',cs1,e1,hnb,hcl,hF,d⟩:=H.out.at j hlt (by decide)
    injection e1 with e1 _ e2
    subst e1 e2
    have HT:=Lib.hid (filter_take q l j hlt)
    have hm:=List.getElem_mem hlt
    generalize l[j]=x at *
    obtain⟨ve,rfl,hev⟩:=hF.now
    have hF2:Fx (fun k=>M k∨w.heap.size<=k) (fun W=>evS.rel x [ve] W) wr:=hF.to (X:=fun _=>False) (UpN.of_k kr _) (fun _ h=>h.elim) fun k hk hx=>hx.resolve_right (by omega)
    have d0:wr.cell? ⟨b,off+j,none⟩=some ve:=by simpa [evS] using d wr (UpN.of_k kr _) 0 (by decide)
    obtain⟨Ae,ce,rfl⟩:=evt_slice hev
    have C1:=Lib.hid (HC.out _ kr x hm _ (evt_st _ _ _ _ hev kr))
    clear hcl hev hF d hm
    go_wp2_with fail
    refine C1.out.mono ?_
    rintro e w2 ⟨rfl,k2⟩
    have kr2:=kr.tr k2
    have hO2:=hO.st k2
    have hF4:=hF2.k k2
    clear C1 hO hF2 d0
    cases hq:q x
    · have HT2:Hid ((l.take (j+1)).filter q=(l.take j).filter q):=Lib.hid (by rw[HT.out,hq];simp)
      rw[<- HT2.out] at hO2
      go_wp2
      go_roundw
      case rel=>exact⟨j+1,by omega,by go_num,hO2,kr2⟩
      case measure=>simp[intOf];omega
    have HT2:Hid ((l.take (j+1)).filter q=(l.take j).filter q++[x]):=Lib.hid (by rw[HT.out,hq];simp)
    have hbl:=hO2.blk
    have hr:=rowY.new (S:=evS) (e:=45) (v:=.slice Ae x.length ce) hF4 0 (Nat.zero_le _)
    have hO3:=hO2.st ((K.rf w2).al (.cells #[.slice Ae x.length ce] 45))
    have kr3:=kr2.tr ((K.rf w2).al (.cells #[.slice Ae x.length ce] 45))
    have hfl:=List.length_filter_le q (l.take j)
    have hll:(l.take j).length<=1000000:=by simp;omega
    clear hO2 hF4
    go_wp2_with (at_builtin;refine wpList_push rfl _ _ 38 rfl _ 1 24 TEv rfl rfl hO3 _ rfl x ?p1 ?p2 ?p3 ?_)
    case p1=>exact hr.less fun k hk=>by rcases hk with hk|hk;exact .inl hk;have:=hbl k hk;exact .inr (by omega)
    case p2=>omega
    case p3=>exact kr3.size
    intro v9 w9 hO9 hg9 _ hb9
    rw[<- HT2.out] at hO9
    have kr9:=kr3.trans hb9
    clear hr hO3
    go_wp2
    go_roundw
    case rel=>exact⟨j+1,by omega,by go_num,hO9,kr9⟩
    case measure=>simp[intOf];omega
  · have hji:¬ (j:Int)<(l.length:Int):=by omega
    obtain rfl:j=l.length:=by omega
    rw[List.take_length] at hO
    go_wp2
    go_ret
    exact⟨_,rfl,hO,kr⟩
theorem Tests_calls (f:List Tst) (v:Value) (w:World) (h:flt f v w) (hl:f.length<=1000000) :
 Calls Tryz.prog 188 #[v] w fun e w'=>∃ v',e=.returned v'/\OwnF w' w.heap.size v' f/\K w w':=by
 obtain⟨A,c,rfl,hfr⟩:=h
 go_enter Tryz.func188,Tryz.ntmps188
 go_wp2_with (at_builtin;refine wpList_app rfl _ _ 40 rfl w.heap.size 87 _ 5 56 TF _ 0 [] rfl (World.ownsRow_nil _ _ _ _) _ A f.length c (f.flatMap tstc) rfl hfr (tsts_one' f) ?p1 (Nat.le_refl _) ?_)
 case p1=>omega
 intro v1 w2 ho1 _ _ hb1
 have HO:=Lib.hid (show OwnF w2 w.heap.size v1 f from ho1)
 obtain⟨A1,c1,rfl,-⟩:=(show OwnF w2 w.heap.size v1 f from ho1).slice
 clear ho1
 go_wp2
 go_ret
 exact⟨_,rfl,HO.out,hb1⟩
structure OwnJ (base lo:Nat) (l:List Subn) (v:Value) (css:List (List Value)) (j:Nat) (W:World):Prop where
 row:W.ownsRow base 186 3 v l.length css.flatten
 len:css.length=l.length
 a:∀ i (h:i<l.length) (h':i<css.length),i<j->∀ W',UpN (fun k=>k<lo∨v.ownBlock=some k) W W'->sbS.rel l[i] css[i] W'
 b:∀ i (h:i<l.length) (h':i<css.length),j<=i->∀ W',UpN (fun k=>v.ownBlock=some k) W W'->sbS.rel l[i] css[i] W'
theorem OwnJ.st {base lo:Nat} {l:List Subn} {v:Value} {css:List (List Value)} {j:Nat} {W W':World} (h:OwnJ base lo l v css j W) (k:K W W'):OwnJ base lo l v css j W' :=
 ⟨row_below h.row k,h.len,fun i h1 h2 h3 W'' u=>h.a i h1 h2 h3 W'' ((UpN.of_k k _).tr u),fun i h1 h2 h3 W'' u=>h.b i h1 h2 h3 W'' ((UpN.of_k k _).tr u)⟩
theorem OwnS_calls (Y:Nat->Prop) (base:Nat) (l:List Subn) (v:Value) (w:World) (h:OwnY Y base 186 sbS l v w) (hlen:l.length<=1000000) (hs:∀ x∈l,x.f.length<=1000000) :
 Calls Tryz.prog 123 #[v] w fun e w'=>e=.returned v/\OwnY (fun k=>k<w.heap.size) base 186 sbS l v w'/\UpN (fun k=>v.ownBlock=some k) w w':=by
 have hblk:=h.blk
 obtain⟨css,h1,h2,h3⟩:=h
 have HJ:OwnJ base w.heap.size l v css 0 w:=⟨h1,h2,fun i h h' hi=>absurd hi (by omega),fun i h h' _ W' u=>(h3 W' (u.more fun k hk=>.inr hk)).2 i h h'⟩
 have HS:=Lib.hid hs
 have uu:UpN (fun k=>v.ownBlock=some k) w w:=UpN.rf _ _
 obtain⟨A,c,hv⟩:∃ A c,v=.slice A l.length c:=by
  rcases h1.2 with ⟨rfl,h0⟩|⟨g,cap,cur,rfl,_⟩
  · exact⟨none,0,by rw[h0]⟩
  · exact⟨_,_,rfl⟩
 clear h1 h2 h3 hs
 subst hv
 go_enter Tryz.func123,Tryz.ntmps123
 go_wp2_with fail
 go_loopw [3,6] (fun _ i W=>∃ j:Nat,j<=l.length/\i=.int .i64 (j:Int)/\(∃ css,OwnJ base w.heap.size l (.slice A l.length c) css j W)/\UpN (fun k=>(Value.slice A l.length c).ownBlock=some k) w W) (fun _ i _=>l.length - (intOf i).toNat)
 case atStart=>exact⟨0,by omega,rfl,⟨_,HJ⟩,uu⟩
 case round =>
  clear HJ uu
  obtain⟨j,hj,rfl,⟨cs,hJ⟩,u⟩:=hrel
  by_cases hlt:j<l.length
  · have hji:(j:Int)<(l.length:Int):=by omega
    have hcl:=hJ.len
    have hrel:=hJ.b j hlt (by omega) (Nat.le_refl _) wr (UpN.rf _ _)
    have hxl:=HS.out _ (List.getElem_mem hlt)
    obtain⟨vf,ecs,hfl⟩:=hrel
    obtain⟨g,hA⟩:∃ g,A=some ⟨g,0,none⟩:=by
     rcases hJ.row.2 with ⟨_,h0⟩|⟨g,cap,cur,e,_⟩
     · omega
     · injection e with e;exact⟨g,e⟩
    subst hA
    have hgb:=(hblk g rfl).2
    have hz:=u.size
    obtain⟨q,z⟩:=own_cells hJ.row
    have hlens:∀ c∈cs,c.length=3:=by
     intro c hc
     obtain⟨i,hi,rfl⟩:=List.mem_iff_getElem.1 hc
     by_cases hij:i<j
     · exact sbS.len (hJ.a i (by omega) hi hij wr (UpN.rf _ _))
     · exact sbS.len (hJ.b i (by omega) hi (by omega) wr (UpN.rf _ _))
    have hxl':=hJ.row.1
    have hcj:cs[j]=subC l[j] vf:=ecs
    have q2:wr.cell? ⟨g,j * 3+2,none⟩=some vf:=by
     rw[q _ (by rw[hxl'];omega),flatten_at 3 cs hlens j 2 (by omega) (by decide),List.getElem?_eq_getElem (show j<cs.length by omega),hcj]
     rfl
    have HJ:=Lib.hid hJ
    have HCJ:=Lib.hid hcj
    have HL:=Lib.hid hlens
    have HXL:=Lib.hid hxl'
    have HEL:Hid (∀ W',flt l[j].f vf W'->sbS.rel l[j] (subC l[j] vf) W'):=Lib.hid fun W' h=>⟨vf,rfl,h⟩
    have hfs:=hfl
    obtain⟨Af,cf,rfl⟩:=flt_slice hfs
    have C1:=Lib.hid (Tests_calls l[j].f _ wr hfl hxl)
    clear hfs hfl hJ hlens hxl' hcj q ecs hxl
    go_wp2_with fail
    refine C1.out.mono ?_
    rintro e w2 ⟨v2,rfl,hO2,k2⟩
    have hJ2:=HJ.out.st k2
    have hz2:=(own_cells hJ2.row).2
    have q3:w2.cell? ⟨g,j * 3+2,none⟩=some (.slice Af l[j].f.length cf):=by rw[k2.cell (by simp;omega)];exact q2
    have HO2:=Lib.hid hO2.rel
    obtain⟨A2,c2,rfl,-⟩:=hO2.slice
    have hsz:=k2.size
    clear C1 q2 z hO2
    go_upto_region 5 with (fail)
    have hrow:=own_set hJ2.row (q:=j * 3+2) (by rw[HXL.out];omega) (.slice A2 l[j].f.length c2)
    rw[flatten_set 3 _ cs HL.out j 2 (by omega) (by decide)] at hrow
    have u3:UpN (fun k=>(Value.slice (some ⟨g,0,none⟩) l.length c).ownBlock=some k) w2 (w2.setCell ⟨g,j * 3+2,none⟩ (.slice A2 l[j].f.length c2)):=UpN.set1 (X:=fun k=>(Value.slice (some ⟨g,0,none⟩) l.length c).ownBlock=some k) rfl _ _
    have u9:=(u.tr (UpN.of_k k2 _)).tr u3
    have hJ9:OwnJ base w.heap.size l (.slice (some ⟨g,0,none⟩) l.length c) (cs.set j ((cs[j]).set 2 (.slice A2 l[j].f.length c2))) (j+1) (w2.setCell ⟨g,j * 3+2,none⟩ (.slice A2 l[j].f.length c2)):=by
     refine⟨hrow,by simp[hcl],fun i h h' hi W' u'=>?_,fun i h h' hi W' u'=>?_⟩
     · by_cases e:i=j
       · subst e
         rw[List.getElem_set_self,HCJ.out]
         refine⟨_,rfl,HO2.out W' ?_⟩
         have u4:UpN (fun k=>k<w.heap.size∨(Value.slice (some ⟨g,0,none⟩) l.length c).ownBlock=some k) w2 W':=(u3.more fun k hk=>.inr hk).tr u'
         exact u4.upB fun k h1 _ _ h4=>by
          rcases h4 with h4|h4
          · omega
          · have:g=k:=by injection h4
            omega
       · rw[List.getElem_set_ne (by omega)]
         exact hJ2.a i h (by omega) (by omega) W' ((u3.more fun k hk=>.inr hk).tr u')
     · rw[List.getElem_set_ne (by omega)]
       exact hJ2.b i h (by simpa using h') (by omega) W' (u3.tr u')
    clear hJ2 hz2 q3 hrow u3
    generalize w2.setCell _ _=w3 at *
    go_wp2
    go_roundw
    case rel=>exact⟨j+1,by omega,by go_num,⟨_,hJ9⟩,u9⟩
    case measure=>simp[intOf];omega
  · have hji:¬ (j:Int)<(l.length:Int):=by omega
    obtain rfl:j=l.length:=by omega
    have HF:Hid (OwnY (fun k=>k<w.heap.size) base 186 sbS l (.slice A l.length c) wr):=Lib.hid ⟨cs,hJ.row,hJ.len,fun W' u'=>⟨hJ.len,fun i h h'=>hJ.a i h h' h W' u'⟩⟩
    clear hJ
    go_wp2
    go_ret
    exact⟨rfl,HF.out,u⟩
theorem Events_calls (es:List (List Att)) (v:Value) (w:World) (h:lst evS es v w) (hlen:es.length<=1000000) (hs:∀ e∈es,e.length<=1000000) :
 Calls Tryz.prog 117 #[v] w fun e w'=>∃ v',e=.returned v'/\OwnL w.heap.size w.heap.size 45 evS es v' w'/\K w w':=by
 obtain⟨D,d,rfl,he,hd⟩:=h
 have HS3:=Lib.hid hs
 have TOK:=K.rf w
 clear hs
 go_enter Tryz.func117,Tryz.ntmps117
 go_wp2_with fail
 go_loopw [3,5,8] (fun o _ i W=>∃ j:Nat,j<=es.length/\i=.int .i64 (j:Int)/\OwnL w.heap.size w.heap.size 45 evS (es.take j) o W/\K w W) (fun _ _ i _=>es.length - (intOf i).toNat)
 case atStart=>exact⟨0,by omega,rfl,by simpa using OwnL.nil _ _ _ _ _,TOK⟩
 case round =>
  clear TOK
  obtain⟨j,hj,rfl,hO,kr⟩:=hrel
  by_cases hlt:j<es.length
  · have hji:(j:Int)<(es.length:Int):=by omega
    obtain⟨b1,off,cs,rfl,hb1,hcl,⟨ve,rfl,hev⟩,hcell⟩:=lsr_at he j hlt (by decide)
    have d0:wr.cell? ⟨b1,off+j,none⟩=some ve:=by
     have:=hcell 0 (by decide)
     rw[kr.cell (by simpa using hb1)]
     simpa [evS] using this
    have HT:Hid (es.take (j+1)=es.take j++[es[j]]):=Lib.hid (by rw[List.take_succ_eq_append_getElem hlt])
    have hej:=HS3.out _ (List.getElem_mem hlt)
    have hevr:=evt_st _ _ _ _ hev kr
    generalize es[j]=ej at *
    obtain⟨Ae,ce,rfl,hRe⟩:=hevr
    have htl:(es.take j).length<=1000000:=by simp;omega
    have hbs:=kr.size
    clear hcell hev
    go_wp2_with (at_builtin;refine wpList_app rfl _ _ 45 rfl wr.heap.size 90 _ 4 48 TE _ 0 [] rfl (World.ownsRow_nil _ _ _ _) _ Ae ej.length ce (ej.flatMap attc) rfl hRe (atts_one ej) ?p1 (Nat.le_refl _) ?_)
    case p1=>omega
    intro v2 w4 ho2 _ _ hb2
    have HEv:=Lib.hid (OwnE.rel (show OwnE w4 wr.heap.size v2 ej from ho2))
    obtain⟨A2,c2,rfl,-⟩:=(show OwnE w4 wr.heap.size v2 ej from ho2).slice
    have hvc:=hO.blk
    have hO4:=hO.st hb2
    have kr4:=kr.tr hb2
    obtain⟨css,hown,hcl,hEa⟩:=hO4
    have hz4:=hb2.size
    clear hO hb2 ho2
    have kA:K w4 (w4.alloc (.cells #[.slice A2 ej.length c2] 45)):=(K.rf w4).al _
    have hbase:w.heap.size<=(w4.alloc (.cells #[.slice A2 ej.length c2] 45)).heap.size:=by have:=kA.size;omega
    go_wp2_with (at_builtin;refine wpList_app rfl _ _ 38 rfl w.heap.size 45 _ 1 24 TEv _ _ _ rfl (World.ownsRow.alloc hown _) (w4.heap.size+1) _ 1 1 [.slice A2 ej.length c2] rfl ?c1 ?c2 ?c3 hbase ?_)
    case c1=>exact Reads.new w4 [.slice A2 ej.length c2] 45 1 1 rfl
    case c2=>intro u hu;simp at hu;subst hu;rfl
    case c3=>omega
    intro v9 w9 hown9 hg9 hat9 hb9
    have k9:=(kr4.tr kA).trans hb9
    have hO9:OwnL w.heap.size w.heap.size 45 evS (es.take (j+1)) v9 w9:=by
     rw[HT.out]
     exact OwnL.snoc hcl (fun w' u=>hEa w' (UpB.tr (UpB.of_k kA _ _) u)) (by rw[List.length_take_of_le (show j<=es.length by omega)];exact hown9) hg9 (by rw[World.size_alloc];exact hat9)
      (fun w' u=>HEv.out w' ((UpB.tr (UpB.of_k kA _ _) u).more (by omega) (fun k hk _ e=>by have:=(hvc k e.symm).2;omega)))
    clear hown9 hg9 hat9 hb9 hown hEa
    go_wp2
    go_roundw
    case rel=>exact⟨j+1,by omega,by go_num,hO9,k9⟩
    case measure=>simp[intOf];omega
  · have hji:¬ (j:Int)<(es.length:Int):=by omega
    rw[List.take_of_length_le (by omega)] at hO
    have HO:=Lib.hid hO
    obtain⟨Ao,co,rfl,-⟩:=hO.slice
    clear hO
    go_wp2
    go_ret
    exact⟨_,rfl,HO.out,kr⟩
theorem NanI_calls (a:Int) (w:World):Calls Tryz.prog 197 #[.int .i64 a] w fun e w'=>e=.returned (.bool false)/\K w w':=by
 have kk:=K.rf w
 go_enter Tryz.func197,Tryz.ntmps197
 go_wp2
 go_ret
 exact⟨by simp,kk⟩
theorem CmpI_calls (a b:Int) (w:World):Calls Tryz.prog 127 #[.int .i64 a,.int .i64 b] w fun e w'=>e=.returned (.int .i64 (ordI a b))/\K w w':=by
 have C1:=Lib.hid fun a W=>NanI_calls a W
 have HR:Hid (ordI a b=if a<b then -1 else if b<a then 1 else 0):=Lib.hid rfl
 generalize ordI a b=R at *
 go_enter Tryz.func127,Tryz.ntmps127
 go_wp2_with fail
 refine (C1.out a w).mono ?_
 rintro e w2 ⟨rfl,k2⟩
 go_wp2_with fail
 refine (C1.out b w2).mono ?_
 rintro e w3 ⟨rfl,k3⟩
 have k:=k2.tr k3
 clear C1
 by_cases h1:a<b
 · have HE:Hid (R=-1):=Lib.hid (by rw[HR.out,if_pos h1])
   clear HR
   go_wp2
   go_ret
   exact⟨by rw[HE.out];rfl,k⟩
 by_cases h2:b<a
 · have HE:Hid (R=1):=Lib.hid (by rw[HR.out,if_neg h1,if_pos h2])
   clear HR
   go_wp2
   go_ret
   exact⟨by rw[HE.out];rfl,k⟩
 have HE:Hid (R=0):=Lib.hid (by rw[HR.out,if_neg h1,if_neg h2])
 clear HR
 go_wp2
 go_ret
 exact⟨by rw[HE.out];rfl,k⟩
theorem NanU_calls (a:Int) (w:World):Calls Tryz.prog 198 #[.int .u64 a] w fun e w'=>e=.returned (.bool false)/\K w w':=by
 have kk:=K.rf w
 go_enter Tryz.func198,Tryz.ntmps198
 go_wp2
 go_ret
 exact⟨by simp,kk⟩
theorem CmpU_calls (a b:Int) (w:World):Calls Tryz.prog 128 #[.int .u64 a,.int .u64 b] w fun e w'=>e=.returned (.int .i64 (ordI a b))/\K w w':=by
 have C1:=Lib.hid fun a W=>NanU_calls a W
 have HR:Hid (ordI a b=if a<b then -1 else if b<a then 1 else 0):=Lib.hid rfl
 generalize ordI a b=R at *
 go_enter Tryz.func128,Tryz.ntmps128
 go_wp2_with fail
 refine (C1.out a w).mono ?_
 rintro e w2 ⟨rfl,k2⟩
 go_wp2_with fail
 refine (C1.out b w2).mono ?_
 rintro e w3 ⟨rfl,k3⟩
 have k:=k2.tr k3
 clear C1
 by_cases h1:a<b
 · have HE:Hid (R=-1):=Lib.hid (by rw[HR.out,if_pos h1])
   clear HR
   go_wp2
   go_ret
   exact⟨by rw[HE.out];rfl,k⟩
 by_cases h2:b<a
 · have HE:Hid (R=1):=Lib.hid (by rw[HR.out,if_neg h1,if_pos h2])
   clear HR
   go_wp2
   go_ret
   exact⟨by rw[HE.out];rfl,k⟩
 have HE:Hid (R=0):=Lib.hid (by rw[HR.out,if_neg h1,if_neg h2])
 clear HR
 go_wp2
 go_ret
 exact⟨by rw[HE.out];rfl,k⟩
def orI (l:List Int):Int:=(l.find? fun n=>decide (n≠0)).getD 0
theorem orI_2 (a b:Int):orI [a,b]=if a != 0 then a else b:=by
 unfold orI
 by_cases ha:a=0 <;> by_cases hb:b=0 <;> simp[ha,hb]
theorem find_take_none {α:Type} (p:α->Bool) (l:List α) (j:Nat) (hj:j<l.length) (h:(l.take j).find? p=none):(l.take (j+1)).find? p=if p l[j] then some l[j] else none:=by
 rw[List.take_succ_eq_append_getElem hj,List.find?_append,h]
 by_cases hp:p l[j] <;> simp[hp]
theorem find_of_take {α:Type} (p:α->Bool) (l:List α) (j:Nat) (x:α) (h:(l.take j).find? p=some x):l.find? p=some x:=by
 rw[<- List.take_append_drop j l,List.find?_append,h];rfl
theorem OrI_calls (l:List Int) (v:Value) (w:World) (h:lst inS l v w) (hlen:l.length<=1000000):Calls Tryz.prog 126 #[v] w fun e w'=>e=.returned (.int .i64 (orI l))/\K w w':=by
 obtain⟨A,c,rfl,hl,-⟩:=h
 have kk:=K.rf w
 have HR:Hid (orI l=(l.find? fun n=>decide (n≠0)).getD 0):=Lib.hid rfl
 generalize orI l=R at *
 go_enter Tryz.func126,Tryz.ntmps126
 go_wp2_with fail
 go_loopw [5,8] (fun _ i W=>∃ j:Nat,j<=l.length/\i=.int .i64 (j:Int)/\Hid ((l.take j).find? (fun n=>decide (n≠0))=none)/\K w W) (fun _ i _=>l.length - (intOf i).toNat)
 case atStart=>exact⟨0,by omega,rfl,Lib.hid (by simp),kk⟩
 case round =>
  clear kk
  obtain⟨j,hj,rfl,HT,kr⟩:=hrel
  by_cases hlt:j<l.length
  · have hji:(j:Int)<(l.length:Int):=by omega
    obtain⟨b,off,rfl,hcell⟩:=Go.Proofs.YtagfakjifhdpgaaGreat.ints_at hl (by omega)
    have cj:=hcell wr kr j hlt
    have HN:=Lib.hid (find_take_none (fun n=>decide (n≠0)) l j hlt HT.out)
    have HA:=Lib.hid (find_of_take (fun n=>decide (n≠0)) l (j+1))
    generalize l[j]=x at *
    clear hcell hl
    by_cases hx:x=0
    · have HT2:Hid ((l.take (j+1)).find? (fun n=>decide (n≠0))=none):=Lib.hid (by rw[HN.out,hx];simp)
      subst hx
      go_wp2
      go_roundw
      case rel=>exact⟨j+1,by omega,by go_num,HT2,kr⟩
      case measure=>simp[intOf];omega
    · have HE:Hid (R=x):=Lib.hid (by rw[HR.out,HA.out x (by rw[HN.out];simp[hx])];rfl)
      have hx2:(x != 0)=true:=by simpa using hx
      go_wp2
      go_ret
      exact⟨by rw[HE.out];rfl,kr⟩
  · have hji:¬ (j:Int)<(l.length:Int):=by omega
    have HE:Hid (R=0):=Lib.hid (by
     have:=HT.out
     rw[List.take_of_length_le (by omega)] at this
     rw[HR.out,this];rfl)
    go_wp2
    go_ret
    exact⟨by rw[HE.out];rfl,kr⟩
theorem Side_calls (s:Subn) (x:Ent) (v vf ve:Value) (g:Nat) (w:World) (h:sub s v w) (hg:Blk w g 42 (entA x vf ve)) :
 Calls Tryz.prog 125 #[v,.pointer (some ⟨g,0,none⟩)] w fun e w'=>e=.returned (.int .i64 (sideS s x))/\K w w':=by
 have HR:Hid (sideS s x=orI [ordI s.cl x.cl,ordI (s.sub:Int) (x.sub:Int)]):=Lib.hid (by rw[orI_2];rfl)
 obtain⟨vs,rfl,hf⟩:=h
 obtain⟨A,c,rfl⟩:=flt_slice hf
 have k1:K w (w.alloc (.cells (subA s (.slice A s.f.length c)) 186)):=(K.rf w).al _
 have hb:=Blk.new w 186 (subA s (.slice A s.f.length c))
 have qg:=hg.cells
 generalize sideS s x=R at *
 clear hf hg
 go_enter Tryz.func125,Tryz.ntmps125
 go_upto_region 1 with (fail)
 generalize w.alloc _=w1 at *
 generalize w.heap.size=ga at hb ⊢
 have qa:=hb.cells
 have qx:=fun W (k:K w1 W)=>qg W (k1.tr k)
 have C1:=Lib.hid fun W=>CmpI_calls s.cl x.cl W
 have C2:=Lib.hid fun W=>CmpU_calls (s.sub:Int) (x.sub:Int) W
 have C3:=Lib.hid fun v W (h:lst inS [ordI s.cl x.cl,ordI (s.sub:Int) (x.sub:Int)] v W)=>OrI_calls _ v W h (by simp)
 generalize ordI s.cl x.cl=o1 at *
 generalize ordI (s.sub:Int) (x.sub:Int)=o2 at *
 generalize orI [o1,o2]=o3 at *
 clear qg hb
 refine wp_region_auto 13 [([],[]),([0],[(4,0)]),([],[]),([2],[(6,2)]),([1,3],[(5,1),(7,3)]),([],[]),([5],[(9,5)]),([],[]),([7],[(11,7)]),([6,8],[(10,6),(12,8)]),([4,9],[(8,4),(13,9)]),([10],[(14,10)]),([11],[(15,11)])] 16 rfl (by kernel_rfl) (by kernel_rfl) (by kernel_rfl) (by kernel_rfl) (by decide) ?_
 simp only[List.take_succ_cons,List.take_zero,List.drop_succ_cons,List.drop_zero]
 iterate 4 (apply AutoQ.is;intro V W kW hp;(try simp only[List.forall_mem_cons,List.nil_append,List.cons_append,tab_zero,tab_succ,isV] at hp);simp[wantsG,rhoP,List.lookup,hp,ResG,execOp,bareOp,isV,Below.refl,kW,qa,qx,go_sem];rfl)
 refine AutoQ.is (.int .i64 o1) (fun V W kW hp=>?_) ?_
 · (try simp only[List.forall_mem_cons,List.nil_append,List.cons_append,tab_zero,tab_succ,isV] at hp)
   simp[wantsG,rhoP,List.lookup,hp,ResG,execOp,bareOp,isV,qa,qx,go_sem]
   refine (C1.out W).mono ?_
   rintro e w4 ⟨rfl,k4⟩
   exact⟨_,rfl,rfl,k4⟩
 iterate 4 (apply AutoQ.is;intro V W kW hp;(try simp only[List.forall_mem_cons,List.nil_append,List.cons_append,tab_zero,tab_succ,isV] at hp);simp[wantsG,rhoP,List.lookup,hp,ResG,execOp,bareOp,isV,Below.refl,kW,qa,qx,go_sem];rfl)
 refine AutoQ.is (.int .i64 o2) (fun V W kW hp=>?_) ?_
 · (try simp only[List.forall_mem_cons,List.nil_append,List.cons_append,tab_zero,tab_succ,isV] at hp)
   simp[wantsG,rhoP,List.lookup,hp,ResG,execOp,bareOp,isV,qa,qx,go_sem]
   refine (C2.out W).mono ?_
   rintro e w4 ⟨rfl,k4⟩
   exact⟨_,rfl,rfl,k4⟩
 refine AutoQ.op (fun v W=>lst inS [o1,o2] v W) (fun _ _ _ h k=>lst_st h k) (fun V W kW hp=>?_) ?_
 · simp only[List.forall_mem_cons,List.nil_append,List.cons_append,tab_zero,tab_succ,isV] at hp
   simp[wantsG,rhoP,List.lookup,hp,ResG,execOp,bareOp,go_sem]
   exact⟨⟨_,_,rfl,⟨[o1,o2].map intc,each_ints _ _,(Reads.new W [.int .i64 o1,.int .i64 o2] 3 1 2 rfl).more (by simp)⟩,by simp⟩,(K.rf W).al _⟩
 refine AutoQ.is (.int .i64 o3) (fun V W kW hp=>?_) ?_
 · simp only[List.forall_mem_cons,List.nil_append,List.cons_append,tab_zero,tab_succ,isV] at hp
   obtain⟨hq,-⟩:=hp
   obtain⟨A9,c9,e9⟩:=lst_slice hq
   simp[wantsG,rhoP,List.lookup,hq,ResG,execOp,bareOp,isV,go_sem]
   refine (C3.out _ W hq).mono ?_
   rintro e w4 ⟨rfl,k4⟩
   exact⟨_,rfl,rfl,k4⟩
 (apply AutoQ.is;intro V W kW hp;(try simp only[List.forall_mem_cons,List.nil_append,List.cons_append,tab_zero,tab_succ,isV] at hp);simp[wantsG,rhoP,List.lookup,hp,ResG,execOp,bareOp,isV,Below.refl,kW,qa,qx,go_sem];rfl)
 intro V W kW hA
 simp only[List.nil_append,List.cons_append,AllT,isV,Nat.reduceAdd] at hA
 refine TailQ.nil ?_
 simp only[putAll,Act.put,List.setIfInBounds_toArray,List.set_cons_succ,List.set_cons_zero,Nat.reduceAdd,hA]
 have kF:=k1.tr kW
 clear hA qa qx C1 C2 C3
 go_wp2
 go_ret
 exact⟨by rw[HR.out];rfl,kF⟩
section
variable {α:Type} {S:Shp α} {Y:Nat->Prop} {base:Nat} {e:TypeId} {l l2:List α} {v:Value} {w w':World} {P:Program}
theorem run_many (t ty:TypeId) (z:Value) (size bytes:Nat) (T:SliceT P t e z size bytes) (hsz:S.size=size) (hO:OwnY Y base e S l v w) (u:Value) (hu:LsF (fun k=>Y k∨v.ownBlock=some k) S l2 u w)
 (hbytes:(l.length+l2.length) * (bytes+1)<=140737488355328) (hbase:base<=w.heap.size) :
 ∃ v' w',(Builtin.append_ #[t,t] ty #[v,u]).run P w=.ok v' w'/\OwnY Y base e S (l++l2) v' w'/\w.grownBy w' v.ownBlock/\(v'.ownBlock=v.ownBlock∨v'.ownBlock=some w.heap.size)/\Below base w w':=by
 subst hsz
 obtain⟨A,c,css2,rfl,hc,hR,hl2,hn,hE2⟩:=hu
 obtain⟨css,hown,hcl,hE⟩:=hO
 obtain⟨v',w',hrun,h2,h3,h4,h5⟩:=run_app w base t ty e z S.size bytes T v l.length css.flatten hown w.heap.size A l2.length c css2.flatten hR (hE2 w (UpN.rf _ _)).ones hbytes hbase
 refine⟨v',w',hrun,⟨css++css2,by simpa using h2,by simp[hcl,hl2],fun w'' u=>?_⟩,h3,h4,h5⟩
 have u2:UpN (fun k=>Y k∨v.ownBlock=some k) w w'':=(UpN.of_mut (X:=fun k=>Y k∨v.ownBlock=some k) h3 (fun g hg=>.inr hg)).tr2 u fun k hk h=>by
  rcases h with h|h
  · exact .inl h
  · rcases h4 with h4|h4 <;> rw[h4] at h
    · exact .inr h
    · injection h with h;omega
 exact (hE w'' u2).append (hE2 w'' u2)
theorem wpList_many {ops:Array Oper} {rest:List Oper} {o:Oper} {a:Act} {Q:Exit->Act->World->Prop} (hgd:o.guard=none) (s x:Operand) (t:TypeId)
 (ho:o.op=.call { callee:=.builtin .append,args:=#[s,x],argTypes:=#[t,t] })
 (z:Value) (size bytes:Nat) (T:SliceT P t e z size bytes) (hsz:S.size=size) (hs:a.eval s=v) (hO:OwnY Y base e S l v w) (u:Value) (hx:a.eval x=u) (hu:LsF (fun k=>Y k∨v.ownBlock=some k) S l2 u w)
 (hbytes:(l.length+l2.length) * (bytes+1)<=140737488355328) (hbase:base<=w.heap.size)
 (h:∀ v' w',OwnY Y base e S (l++l2) v' w'->w.grownBy w' v.ownBlock->(v'.ownBlock=v.ownBlock∨v'.ownBlock=some w.heap.size)->Below base w w'->wpList P ops Q rest (a.put o.dst v') w') :
 wpList P ops Q (o :: rest) a w:=by
 refine wpList_plain hgd fun K hK=>?_
 obtain⟨v',w',hrun,h1,h2,h3,h4⟩:=run_many (P:=P) t o.type z size bytes T hsz hO u hu hbytes hbase
 unfold Oper.wp execOp
 simp only[ho,resolve,invoke,builtin,Sem.run_bind,Sem.run_pure,Result.andThen_ok,List.map_toArray,List.map_cons,List.map_nil,hs,hx,hrun]
 exact hK _ _ (h v' w' h1 h2 h3 h4)
end
theorem store_new (P:Program) (w:World) (T:TypeId) (u v:Value) (hv:v.oneCell'=true):(store ⟨w.heap.size,0,none⟩ v).run P (w.alloc (.cells #[u] T))=.ok () (w.alloc (.cells #[v] T)):=by
 have hb:=Blk.new w T #[u]
 rw[run_store _ _ _ _ _ hv]
 rw[hb.cell 0,hb.frozen,World.setCell_alloc_new]
 rfl
