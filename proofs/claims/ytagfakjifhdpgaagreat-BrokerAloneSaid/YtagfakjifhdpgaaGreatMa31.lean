/-
  The walk of order.Admit (layer 19). Conditions: lists of at most a million.
-/
import Derived.Test.YtagfakjifhdpgaaGreatMa29
set_option maxRecDepth 100000
set_option maxHeartbeats 16000000
set_option linter.unusedVariables false
set_option linter.unusedSimpArgs false
namespace Go.Proofs.YtagfakjifhdpgaaGreat
open Go Go.RowKit
theorem admit_len (s:Stt):∀ (l:List Ent) (p:List Ent×List Ent),(l.foldl (admit1 s) p).1.length<=max p.1.length 4/\(l.foldl (admit1 s) p).2.length<=p.2.length+l.length:=by
 intro l
 induction l with
 | nil=>intro p;simp;omega
 | cons x l ih =>
   intro p
   have:=ih (admit1 s p x)
   have h1:(admit1 s p x).1.length<=max p.1.length 4/\(admit1 s p x).2.length<=p.2.length+1:=by
    unfold admit1
    split
    · omega
    · split
      · simp;omega
      · split
        · simp;omega
        · omega
   simp only[List.foldl_cons,List.length_cons]
   omega
theorem Admit_calls (s:Stt) (op asks:List Ent) (vl vp vb vo va:Value) (w:World) (hs:stv s (.agg (stA s vl vp vb)) w) (ho:lst enS op vo w) (ha:lst enS asks va w)
 (hso:∀ x∈op,smallEn x) (hsa:∀ x∈asks,smallEn x) (hln:s.list.length<=1000000/\s.ab.length<=1000000) (hlo:op.length<=1000000) (hla:asks.length<=500000) :
 Calls Tryz.prog 93 #[.agg (stA s vl vp vb),vo,va] w fun e w'=>∃ v1 v2,e=.returned (.tuple #[v1,v2])/\TwoY w.heap.size w.heap.size 42 enS (admitO s op asks).1 v1 42 enS (admitO s op asks).2 v2 w'/\K w w':=by
 have HSt:=Lib.hid fun W (k:K w W)=>stv_st hs k
 have CH:=Lib.hid fun W (k:K w W) a=>Has_calls s a (.agg (stA s vl vp vb)) W (HSt.out W k) hln.1
 have CA:=Lib.hid fun W (k:K w W) a=>Aborted_calls s a (.agg (stA s vl vp vb)) W (HSt.out W k) hln.2
 have CO:=Lib.hid fun W (k:K w W)=>OCopied_calls op vo W (lst_st ho k) hso (by omega)
 have HAd:Hid (admitO s op asks=asks.foldl (admit1 s) (op,[])):=Lib.hid rfl
 have HLen:=Lib.hid fun j=>admit_len s (asks.take j) (op,[])
 have HS:=Lib.hid hsa
 obtain⟨vl',vp',vb',e,h1,h2,h3⟩:=hs
 simp at e
 obtain⟨rfl,rfl,rfl⟩:=e
 obtain⟨Al,cl,rfl⟩:=lst_slice h1
 obtain⟨Ap,cp,rfl⟩:=lst_slice h2
 obtain⟨Ab,cb,rfl⟩:=lst_slice h3
 obtain⟨Aa,ca,rfl,hl,-⟩:=ha
 obtain⟨Ao,co,rfl⟩:=lst_slice ho
 generalize admitO s op asks=R at *
 have k1:K w (w.alloc (.cells (stA s (.slice Al s.list.length cl) (.slice Ap s.prom.length cp) (.slice Ab s.ab.length cb)) 53)):=(K.rf w).al _
 have hb:=Blk.new w 53 (stA s (.slice Al s.list.length cl) (.slice Ap s.prom.length cp) (.slice Ab s.ab.length cb))
 have hlist:=s.list.length
 clear h1 h2 h3 ho HSt hsa hso hlist
 go_enter Tryz.func93,Tryz.ntmps93
 go_wp2
 go_step3
 generalize w.alloc _=w1 at *
 obtain⟨lo,hlo'⟩:∃ lo,Hid (lo=w.heap.size):=⟨_,Lib.hid rfl⟩
 generalize hga:w.heap.size=ga at hb ⊢
 have HGA:=Lib.hid hga
 clear hga
 have qb:=hb.cells
 clear hb
 go_wp2_with fail
 refine (CO.out w1 k1).mono ?_
 rintro e w2 ⟨v2,rfl,hO2,k2⟩
 have hT:TwoY lo w1.heap.size 42 enS op v2 42 enS ([]:List Ent) (.slice none 0 0) w2:=TwoY.nil2 (hO2.less fun k hk=>by rw[hlo'.out] at hk;exact Nat.lt_of_lt_of_le hk k1.size) (by rw[hlo'.out];exact k1.size)
 have qb2:=qb
 clear hO2 CO qb
 obtain⟨A2,c2,rfl⟩:=hT.a.slice
 have kk:=k2
 go_wp2_with fail
 go_step3
 go_wp2_with fail
 go_loopw [8,9,11,16] (fun o1 o2 _ i W=>∃ j:Nat,j<=asks.length/\i=.int .i64 (j:Int)/\TwoY lo w1.heap.size 42 enS ((asks.take j).foldl (admit1 s) (op,[])).1 o1 42 enS ((asks.take j).foldl (admit1 s) (op,[])).2 o2 W/\K w1 W) (fun _ _ _ i _=>asks.length - (intOf i).toNat)
 case atStart=>exact⟨0,by omega,rfl,by simpa using hT,kk⟩
 case round =>
  clear hT kk
  obtain⟨j,hj,rfl,hT,kr⟩:=hrel
  by_cases hlt:j<asks.length
  · have hji:(j:Int)<(asks.length:Int):=by omega
    obtain⟨b1,off,cs,rfl,hcl1,hrl,d0,d⟩:=lsr_cells hl j hlt (by decide)
    have HF:=Lib.hid (fold_succ (admit1 s) asks (op,[]) j hlt)
    have hsx:=HS.out _ (List.getElem_mem hlt)
    have hpl:=HLen.out j
    generalize asks[j]=x at *
    generalize (asks.take j).foldl (admit1 s) (op,[])=P at *
    obtain⟨P',HP'⟩:∃ P',Hid (P'=(asks.take (j+1)).foldl (admit1 s) (op,[])):=⟨_,Lib.hid rfl⟩
    replace HF:Hid (P'=admit1 s P x):=Lib.hid (HP'.out.trans HF.out)
    have hpl1:P.1.length<=1000000:=by simp at hpl;omega
    have hpl2:P.2.length<=500000:=by simp at hpl;omega
    obtain⟨P1,P2⟩:=P
    simp only at hT hpl1 hpl2
    obtain⟨vf,ve,rfl,hf,he⟩:=hrl w (K.rf w)
    have k0r:=k1.tr kr
    have HE:Hid (∀ W,K w W->ent x (.agg (entA x vf ve)) W):=Lib.hid fun W k=>⟨_,_,rfl,flt_st _ _ _ _ hf k,lst_st he k⟩
    have q9:∀ i,i<8->wr.cell? ⟨b1,off+j * 8+i,none⟩=(entA x vf ve)[i]?:=fun i hi=>(d wr k0r i hi).trans Array.getElem?_toList
    have q0:wr.cell? ⟨b1,off+j * 8,none⟩=some (.int .i64 x.kind):=d0 wr k0r
    have hx:=Blk.new wr 42 (entA x vf ve)
    have k3:K wr (wr.alloc (.cells (entA x vf ve) 42)):=(K.rf wr).al _
    obtain⟨Af,cf,rfl⟩:=flt_slice hf
    obtain⟨Ae,ce,rfl⟩:=lst_slice he
    obtain⟨A1,c1,rfl⟩:=hT.a.slice
    obtain⟨A3,c3,rfl⟩:=hT.b.slice
    clear d d0 hf he hrl hcl1 hpl
    go_upto_region 6 with (fail)
    have hT3:=hT.st k3
    have kr3:=kr.tr k3
    generalize wr.alloc _=w3 at *
    clear q9 q0 hT
    have q8:=hx.cell
    have qs3:=fun i=>qb2 w3 kr3 i
    go_wp2_with fail
    refine (CH.out w3 (k1.tr kr3) (idE x)).mono ?_
    rintro e w4 ⟨rfl,k4⟩
    have kr4:=kr3.tr k4
    have hT4:=hT3.st k4
    have hx4:=hx.below k4 hx.lt
    clear hT3 k4 q8 qs3
    have q8:=hx4.cell
    have qs3:=fun i=>qb2 w4 kr4 i
    cases hb0:hasE s.list (idE x)
    rotate_left
    · have HP:Hid (P'=(P1,P2)):=Lib.hid (by rw[HF.out];unfold admit1;rw[if_pos (by simp[hb0])])
      have hT9:=Lib.hid hT4
      clear hT4 q8 qs3 hb0
      go_wp2
      go_roundw
      case rel=>exact⟨j+1,by omega,by go_num,by rw[<- HP'.out,HP.out];exact hT9.out,kr4⟩
      case measure=>simp[intOf];omega
    go_wp2_with fail
    refine (CA.out w4 (k1.tr kr4) (idE x)).mono ?_
    rintro e w5 ⟨rfl,k4⟩
    have kr5:=kr4.tr k4
    have hT5:=hT4.st k4
    have hx5:=hx4.below k4 hx4.lt
    clear hT4 k4 q8 qs3
    have q8:=hx5.cell
    have qs3:=fun i=>qb2 w5 kr5 i
    cases hb1:hasI s.ab (idE x)
    rotate_left
    · have HP:Hid (P'=(P1,P2)):=Lib.hid (by rw[HF.out];unfold admit1;rw[if_pos (by simp[hb0,hb1])])
      have hT9:=Lib.hid hT5
      clear hT5 q8 qs3 hb0 hb1
      go_wp2
      go_roundw
      case rel=>exact⟨j+1,by omega,by go_num,by rw[<- HP'.out,HP.out];exact hT9.out,kr5⟩
      case measure=>simp[intOf];omega
    go_wp2_with fail
    refine (OrdOf_calls P1 (idE x) _ w5 hT5.a.lst hpl1).mono ?_
    rintro e w6 ⟨rfl,k4⟩
    have kr6:=kr5.tr k4
    have hT6:=hT5.st k4
    have hx6:=hx5.below k4 hx5.lt
    clear hT5 k4 q8 qs3
    have q8:=hx6.cell
    have qs3:=fun i=>qb2 w6 kr6 i
    cases hb2:hasE P1 (idE x)
    rotate_left
    · have HP:Hid (P'=(P1,P2)):=Lib.hid (by rw[HF.out];unfold admit1;rw[if_pos (by simp[hb0,hb1,hb2])])
      have hT9:=Lib.hid hT6
      clear hT6 q8 qs3 hb0 hb1 hb2
      go_wp2
      go_roundw
      case rel=>exact⟨j+1,by omega,by go_num,by rw[<- HP'.out,HP.out];exact hT9.out,kr6⟩
      case measure=>simp[intOf];omega
    go_wp2_with fail
    refine (OrdOf_calls P2 (idE x) _ w6 hT6.b.lst (by omega)).mono ?_
    rintro e w7 ⟨rfl,k4⟩
    have kr7:=kr6.tr k4
    have hT7:=hT6.st k4
    have hx7:=hx6.below k4 hx6.lt
    clear hT6 k4 q8 qs3
    have q8:=hx7.cell
    have qs3:=fun i=>qb2 w7 kr7 i
    cases hb3:hasE P2 (idE x)
    rotate_left
    · have HP:Hid (P'=(P1,P2)):=Lib.hid (by rw[HF.out];unfold admit1;rw[if_pos (by simp[hb0,hb1,hb2,hb3])])
      have hT9:=Lib.hid hT7
      clear hT7 q8 qs3 hb0 hb1 hb2 hb3
      go_wp2
      go_roundw
      case rel=>exact⟨j+1,by omega,by go_num,by rw[<- HP'.out,HP.out];exact hT9.out,kr7⟩
      case measure=>simp[intOf];omega
    have HN:Hid (P'=if x.kind≠1 then (P1,P2++[x]) else if P1.length<4 then (P1++[x],P2) else (P1,P2)):=Lib.hid (by rw[HF.out];unfold admit1;rw[if_neg (by simp[hb0,hb1,hb2,hb3])])
    clear qs3 hb0 hb1 hb2 hb3
    by_cases hk:x.kind≠1
    · have hk2:(x.kind != 1)=true:=by simpa using hk
      have HP:Hid (P'=(P1,P2++[x])):=Lib.hid (by rw[HN.out,if_pos hk])
      clear HN
      go_wp2_with fail
      refine (OWhole_calls x _ w7 (HE.out _ (k1.tr kr7)) hsx).mono ?_
      rintro e w8 ⟨v8,rfl,ho,k8⟩
      obtain⟨vf2,ve2,rfl,hFx⟩:=entO_fx ho
      have hbA:=hT7.a.blk
      have hbB:=hT7.b.blk
      have hloz:w1.heap.size<=w7.heap.size:=kr7.size
      have hl1:lo<=w1.heap.size:=hT7.lo
      have kr8:=kr7.tr k8
      have hr:=rowY.new (S:=enS) (e:=42) (v:=.agg (entA x vf2 ve2)) hFx 0 (Nat.zero_le _)
      have kA:K w8 (w8.alloc (.cells (entA x vf2 ve2) 42)):=(K.rf w8).al _
      have hT9:=hT7.st (k8.tr kA)
      have kr9:=kr8.tr kA
      have hz9:w7.heap.size<=(w8.alloc (.cells (entA x vf2 ve2) 42)).heap.size:=Nat.le_trans k8.size kA.size
      clear hT7 hFx ho q8
      go_wp2_with (at_builtin;refine wpList_push rfl _ _ 32 rfl _ 8 96 TEn rfl rfl hT9.b _ rfl x ?p1 ?p2 ?p3 ?_)
      case p1 =>
       exact hr.less fun k hk=>by
        rcases hk with (hk|hk)|hk
        · omega
        · have:=hbA k hk;omega
        · have:=hbB k hk;omega
      case p2=>omega
      case p3=>exact Nat.le_trans hloz hz9
      intro v9 w9 hO9 hg9 hat9 hb9
      have hT10:=(hT9.swap.push hO9 hg9 (by rw[World.size_alloc];exact hat9)).swap
      have krF:=kr9.trans hb9
      clear hr hT9 hO9 hg9 hat9 hb9
      go_wp2
      go_roundw
      case rel=>exact⟨j+1,by omega,by go_num,by rw[<- HP'.out,HP.out];exact hT10,krF⟩
      case measure=>simp[intOf];omega
    have hk2:(x.kind != 1)=false:=by simpa using hk
    by_cases hl4:P1.length<4
    · have hl5:(P1.length:Int)<4:=by omega
      have HP:Hid (P'=(P1++[x],P2)):=Lib.hid (by rw[HN.out,if_neg (by simpa using hk),if_pos hl4])
      clear HN
      go_wp2_with fail
      refine (OWhole_calls x _ w7 (HE.out _ (k1.tr kr7)) hsx).mono ?_
      rintro e w8 ⟨v8,rfl,ho,k8⟩
      obtain⟨vf2,ve2,rfl,hFx⟩:=entO_fx ho
      have hbA:=hT7.a.blk
      have hbB:=hT7.b.blk
      have hloz:w1.heap.size<=w7.heap.size:=kr7.size
      have hl1:lo<=w1.heap.size:=hT7.lo
      have kr8:=kr7.tr k8
      have hr:=rowY.new (S:=enS) (e:=42) (v:=.agg (entA x vf2 ve2)) hFx 0 (Nat.zero_le _)
      have kA:K w8 (w8.alloc (.cells (entA x vf2 ve2) 42)):=(K.rf w8).al _
      have hT9:=hT7.st (k8.tr kA)
      have kr9:=kr8.tr kA
      have hz9:w7.heap.size<=(w8.alloc (.cells (entA x vf2 ve2) 42)).heap.size:=Nat.le_trans k8.size kA.size
      clear hT7 hFx ho q8
      go_wp2_with (at_builtin;refine wpList_push rfl _ _ 32 rfl _ 8 96 TEn rfl rfl hT9.a _ rfl x ?p1 ?p2 ?p3 ?_)
      case p1 =>
       exact hr.less fun k hk=>by
        rcases hk with (hk|hk)|hk
        · omega
        · have:=hbB k hk;omega
        · have:=hbA k hk;omega
      case p2=>omega
      case p3=>exact Nat.le_trans hloz hz9
      intro v9 w9 hO9 hg9 hat9 hb9
      have hT10:=hT9.push hO9 hg9 (by rw[World.size_alloc];exact hat9)
      have krF:=kr9.trans hb9
      clear hr hT9 hO9 hg9 hat9 hb9
      go_wp2
      go_roundw
      case rel=>exact⟨j+1,by omega,by go_num,by rw[<- HP'.out,HP.out];exact hT10,krF⟩
      case measure=>simp[intOf];omega
    have HP:Hid (P'=(P1,P2)):=Lib.hid (by rw[HN.out,if_neg (by simpa using hk),if_neg hl4])
    have hl5:¬ (P1.length:Int)<4:=by omega
    have hT9:=Lib.hid hT7
    clear HN hT7
    go_wp2
    go_roundw
    case rel=>exact⟨j+1,by omega,by go_num,by rw[<- HP'.out,HP.out];exact hT9.out,kr7⟩
    case measure=>simp[intOf];omega
  · have hji:¬ (j:Int)<(asks.length:Int):=by omega
    obtain rfl:j=asks.length:=by omega
    rw[List.take_length] at hT
    have HT:=Lib.hid hT
    have kF:=k1.tr kr
    obtain⟨A1,c1,h1⟩:=hT.a.slice
    obtain⟨A3,c3,h2⟩:=hT.b.slice
    subst h1 h2
    clear hT
    go_wp2
    go_ret2
    exact⟨_,_,rfl,by rw[HAd.out,<- hlo'.out];exact HT.out.low (by rw[hlo'.out];exact k1.size) (Nat.le_refl _),kF⟩
section
variable {α β γ:Type} {S:Shp α} {S2:Shp β} {S3:Shp γ} {lo:Nat} {e e2 e3:TypeId} {l l':List α} {l2:List β} {l3:List γ} {v v2 v3:Value} {w w':World}
structure ThrY (lo:Nat) (e:TypeId) (S:Shp α) (l:List α) (v:Value) (e2:TypeId) (S2:Shp β) (l2:List β) (v2:Value) (e3:TypeId) (S3:Shp γ) (l3:List γ) (v3:Value) (w:World):Prop where
 a:OwnY (fun k=>k<lo∨v2.ownBlock=some k∨v3.ownBlock=some k) lo e S l v w
 b:OwnY (fun k=>k<lo∨v3.ownBlock=some k∨v.ownBlock=some k) lo e2 S2 l2 v2 w
 c:OwnY (fun k=>k<lo∨v.ownBlock=some k∨v2.ownBlock=some k) lo e3 S3 l3 v3 w
 n12:∀ k,v.ownBlock=some k->v2.ownBlock=some k->False
 n23:∀ k,v2.ownBlock=some k->v3.ownBlock=some k->False
 n31:∀ k,v3.ownBlock=some k->v.ownBlock=some k->False
theorem ThrY.rot (h:ThrY lo e S l v e2 S2 l2 v2 e3 S3 l3 v3 w):ThrY lo e2 S2 l2 v2 e3 S3 l3 v3 e S l v w:=⟨h.b,h.c,h.a,h.n23,h.n31,h.n12⟩
theorem ThrY.st (h:ThrY lo e S l v e2 S2 l2 v2 e3 S3 l3 v3 w) (k:K w w'):ThrY lo e S l v e2 S2 l2 v2 e3 S3 l3 v3 w':=⟨h.a.st k,h.b.st k,h.c.st k,h.n12,h.n23,h.n31⟩
theorem ThrY.nil (lo:Nat) (e:TypeId) (S:Shp α) (e2:TypeId) (S2:Shp β) (e3:TypeId) (S3:Shp γ) (w:World):ThrY lo e S [] (.slice none 0 0) e2 S2 [] (.slice none 0 0) e3 S3 [] (.slice none 0 0) w :=
 ⟨OwnY.nil _ _ _ _ _,OwnY.nil _ _ _ _ _,OwnY.nil _ _ _ _ _,fun k h=>(by simp[Value.ownBlock] at h),fun k h=>(by simp[Value.ownBlock] at h),fun k h=>(by simp[Value.ownBlock] at h)⟩
theorem ThrY.box (h:ThrY lo e S l v e2 S2 l2 v2 e3 S3 l3 v3 w) {T:TypeId} {ob:Nat} (hb:BoxP (fun k=>k<lo∨v2.ownBlock=some k∨v3.ownBlock=some k) lo T e S l' v ob w w') (hob:ob<lo) :
 ∃ v',Blk w' ob T #[v']/\ThrY lo e S l' v' e2 S2 l2 v2 e3 S3 l3 v3 w'/\UpN (fun k=>k=ob∨v.ownBlock=some k) w w':=by
 obtain⟨v',h1,h2,h3,h4⟩:=hb
 have z2:=h.b.blk
 have z3:=h.c.blk
 refine⟨v',h1,⟨h2,h.b.to h4 (fun k hk=>?_) (fun k h5 h6=>?_) (fun k hk hx=>?_),h.c.to h4 (fun k hk=>?_) (fun k h5 h6=>?_) (fun k hk hx=>?_),fun k h5 h6=>?_,h.n23,fun k h5 h6=>?_⟩,h4⟩
 · rcases hk with rfl|hk
   · exact .inl hob
   · exact .inr (.inr hk)
 · rcases h6 with rfl|h6
   · have:=(z2 _ h5).1;omega
   · exact h.n12 k h6 h5
 · rcases hx with hx|hx|hx
   · exact .inl (.inl hx)
   · exact .inl (.inr (.inl hx))
   · rcases h3 k hx with hx|hx
     · exact .inl (.inr (.inr hx))
     · omega
 · rcases hk with rfl|hk
   · exact .inl hob
   · exact .inr (.inl hk)
 · rcases h6 with rfl|h6
   · have:=(z3 _ h5).1;omega
   · exact h.n31 k h5 h6
 · rcases hx with hx|hx|hx
   · exact .inl (.inl hx)
   · rcases h3 k hx with hx|hx
     · exact .inl (.inr (.inl hx))
     · omega
   · exact .inl (.inr (.inr hx))
 · rcases h3 k h5 with h5|h5
   · exact h.n12 k h5 h6
   · have:=(z2 k h6).2;omega
 · rcases h3 k h6 with h6|h6
   · exact h.n31 k h5 h6
   · have:=(z3 k h5).2;omega
end
theorem saysV_012 (kids:List Msg) (a:Idn):saysV kids a=0∨saysV kids a=1∨saysV kids a=2:=by
 unfold saysV
 split
 · simp
 · split <;> simp
theorem zeroF (W:World):(zeroValue 239).run Tryz.prog W=.ok .nilFunc W:=by kernel_rfl
def DecI (lo b1 b2 b3:Nat) (ys os:List Ent) (ns:List Idn) (W:World):Prop :=
 ∃ v1 v2 v3,Blk W b1 32 #[v1]/\Blk W b2 32 #[v2]/\Blk W b3 51 #[v3]/\ThrY lo 42 enS ys v1 42 enS os v2 35 idS ns v3 W
theorem Decide_calls (op:List Ent) (kids:List Msg) (vo vk:Value) (w:World) (ho:lst enS op vo w) (hk:lst msS kids vk w) (hso:∀ x∈op,smallEn x) (hlo:op.length<=1000000) (hlk:kids.length<=1000000) (hv:∀ m∈kids,m.votes.length<=1000000) :
 Calls Tryz.prog 94 #[vo,vk] w fun e w'=>∃ v1 v2 v3,e=.returned (.tuple #[v1,v2,v3])/\Fx (fun k=>k<w.heap.size) (fun W=>lst enS (yesO op kids) v1 W) w'/\Fx (fun k=>k<w.heap.size) (fun W=>lst idS (noO op kids) v2 W) w'/\K w w':=by
 have HY:Hid (yesO op kids=op.filter fun x=>decide (saysV kids (idE x)=1)):=Lib.hid rfl
 have HN:Hid (noO op kids=(op.filter fun x=>decide (saysV kids (idE x)=2)).map idE):=Lib.hid rfl
 have C1:=Lib.hid fun W (k:K w W) a=>Says_calls kids a vk W (lst_st hk k) hlk hv
 have HS:=Lib.hid hso
 have H012:=Lib.hid fun a=>saysV_012 kids a
 obtain⟨Ao,co,rfl,hl,-⟩:=ho
 obtain⟨Ak,ck,rfl⟩:=lst_slice hk
 generalize yesO op kids=RY at *
 generalize noO op kids=RN at *
 generalize saysV kids=sv at *
 have hz2:((w.alloc (.cells #[.slice none 0 0] 32)).alloc (.cells #[.slice none 0 0] 32)).heap.size=w.heap.size+2:=by simp
 have hz1:(w.alloc (.cells #[.slice none 0 0] 32)).heap.size=w.heap.size+1:=by simp
 have hz3:(((w.alloc (.cells #[.slice none 0 0] 32)).alloc (.cells #[.slice none 0 0] 32)).alloc (.cells #[.slice none 0 0] 51)).heap.size=w.heap.size+3:=by simp
 have hb1:=((Blk.new w 32 #[.slice none 0 0]).alloc (.cells #[.slice none 0 0] 32)).alloc (.cells #[.slice none 0 0] 51)
 have hb2:=(Blk.new (w.alloc (.cells #[.slice none 0 0] 32)) 32 #[.slice none 0 0]).alloc (.cells #[.slice none 0 0] 51)
 have hb3:=Blk.new ((w.alloc (.cells #[.slice none 0 0] 32)).alloc (.cells #[.slice none 0 0] 32)) 51 #[.slice none 0 0]
 have k3:K w (((w.alloc (.cells #[.slice none 0 0] 32)).alloc (.cells #[.slice none 0 0] 32)).alloc (.cells #[.slice none 0 0] 51)):=(((K.rf w).al _).al _).al _
 rw[hz1] at hb2
 rw[hz2] at hb3
 clear hk hso hv hz1 hz2
 go_enter Tryz.func94,Tryz.ntmps94
 go_upto_region 3 with (fail)
 generalize World.alloc (World.alloc (World.alloc w _) _) _=w3 at *
 obtain⟨g,hg⟩:∃ g,g=w.heap.size:=⟨_,rfl⟩
 rw[<- hg] at hb1 hb2 hb3 hz3 ⊢
 have HG:=Lib.hid hg
 clear hg
 have hmm:=run_makeMapG (P:=Tryz.prog) Tryz.underlying240 w3
 rw[hz3] at hmm
 have m0:MapG encI (w3.alloc (.map #[] 0)) (g+3) []:=hz3 ▸ MapG.new w3
 have kA:K w3 (w3.alloc (.map #[] 0)):=(K.rf w3).al _
 have KI:=keyI (P:=Tryz.prog) (kt:=3) Tryz.underlying3
 obtain⟨w4,r4,m4,g4⟩:=run_putG KI Tryz.underlying240 m0 0 (.func (.func 174) #[] #[.pointer (some ⟨g+1,0,none⟩)])
 obtain⟨w5,r5,m5,g5⟩:=run_putG KI Tryz.underlying240 m4 1 (.func (.func 175) #[] #[.pointer (some ⟨g,0,none⟩)])
 obtain⟨w6,r6,m6,g6⟩:=run_putG KI Tryz.underlying240 m5 2 (.func (.func 176) #[] #[.pointer (some ⟨g+2,0,none⟩)])
 have hkv:putG (putG (putG ([]:List (Int×Value)) 0 (.func (.func 174) #[] #[.pointer (some ⟨g+1,0,none⟩)])) 1 (.func (.func 175) #[] #[.pointer (some ⟨g,0,none⟩)])) 2 (.func (.func 176) #[] #[.pointer (some ⟨g+2,0,none⟩)])=[(0,.func (.func 174) #[] #[.pointer (some ⟨g+1,0,none⟩)]),(1,.func (.func 175) #[] #[.pointer (some ⟨g,0,none⟩)]),(2,.func (.func 176) #[] #[.pointer (some ⟨g+2,0,none⟩)])]:=by simp[putG,idxG]
 rw[hkv] at m6
 simp only[encI] at r4 r5 r6
 have hU:UpN (fun k=>k=g+3) w3 w6:=(UpN.of_k kA _).tr (((UpN.of_mut (X:=fun k=>k=g+3) g4 fun k e=>by injection e with e;exact e.symm).tr (UpN.of_mut (X:=fun k=>k=g+3) g5 fun k e=>by injection e with e;exact e.symm)).tr (UpN.of_mut (X:=fun k=>k=g+3) g6 fun k e=>by injection e with e;exact e.symm))
 have k6:K w w6:=hU.k k3 fun k hk=>by have:=HG.out;omega
 have hsz:g+3<w6.heap.size:=m6.lt
 have hb1':=hb1.upn hU (by omega)
 have hb2':=hb2.upn hU (by omega)
 have hb3':=hb3.upn hU (by omega)
 go_wp2_with fail
 clear r4 r5 r6 hmm m0 m4 m5 g4 g5 g6 hb1 hb2 hb3 hU kA k3 hkv hz3
 have hD:DecI w6.heap.size g (g+1) (g+2) [] [] [] w6:=⟨_,_,_,hb1',hb2',hb3',ThrY.nil _ _ _ _ _ _ _ _⟩
 have uu:UpN (fun k=>k=g∨k=g+1∨k=g+2) w6 w6:=UpN.rf _ _
 have HHZ:=Lib.hid hsz
 go_loopw [12,13,14,22] (fun _ _ _ i W=>∃ j:Nat,j<=op.length/\i=.int .i64 (j:Int)/\DecI w6.heap.size g (g+1) (g+2) ((op.take j).filter fun x=>decide (sv (idE x)=1)) ((op.take j).filter fun x=>decide (sv (idE x)=0)) (((op.take j).filter fun x=>decide (sv (idE x)=2)).map idE) W/\UpN (fun k=>k=g∨k=g+1∨k=g+2) w6 W) (fun _ _ _ i _=>op.length - (intOf i).toNat)
 case atStart=>exact⟨0,by omega,rfl,by simpa using hD,uu⟩
 case round =>
  clear hD uu
  obtain⟨j,hj,rfl,hD,u⟩:=hrel
  by_cases hlt:j<op.length
  · have hji:(j:Int)<(op.length:Int):=by omega
    obtain⟨b1,o1,cs1,rfl,hcl1,hrl,d0,d⟩:=lsr_cells hl j hlt (by decide)
    have F0:=Lib.hid (filter_take (fun x=>decide (sv (idE x)=0)) op j hlt)
    have F1:=Lib.hid (filter_take (fun x=>decide (sv (idE x)=1)) op j hlt)
    have F2:=Lib.hid (filter_take (fun x=>decide (sv (idE x)=2)) op j hlt)
    have hsx:=HS.out _ (List.getElem_mem hlt)
    have hl1:=List.length_filter_le (fun x=>decide (sv (idE x)=1)) (op.take j)
    have hl0:=List.length_filter_le (fun x=>decide (sv (idE x)=0)) (op.take j)
    have hl2:=List.length_filter_le (fun x=>decide (sv (idE x)=2)) (op.take j)
    have hlj:(op.take j).length<=1000000:=by simp;omega
    generalize op[j]=x at *
    have hgw:=HG.out
    have k0r:K w wr:=u.k k6 fun k hk=>by omega
    clear hgw
    obtain⟨vf,ve,rfl,hf,he⟩:=hrl w (K.rf w)
    have HE:Hid (∀ W,K w W->ent x (.agg (entA x vf ve)) W):=Lib.hid fun W k=>⟨_,_,rfl,flt_st _ _ _ _ hf k,lst_st he k⟩
    have q9:∀ i,i<8->wr.cell? ⟨b1,o1+j * 8+i,none⟩=(entA x vf ve)[i]?:=fun i hi=>(d wr k0r i hi).trans Array.getElem?_toList
    have q0:wr.cell? ⟨b1,o1+j * 8,none⟩=some (.int .i64 x.kind):=d0 wr k0r
    have hx:=Blk.new wr 42 (entA x vf ve)
    have k3:K wr (wr.alloc (.cells (entA x vf ve) 42)):=(K.rf wr).al _
    obtain⟨Af,cf,rfl⟩:=flt_slice hf
    obtain⟨Ae,ce,rfl⟩:=lst_slice he
    clear d d0 hf he hrl hcl1
    go_upto_region 7 with (fail)
    generalize wr.alloc _=w7 at *
    clear q9 q0
    have q8:=hx.cell
    have k07:=k0r.tr k3
    have u7:=u.tr (UpN.of_k k3 _)
    go_wp2_with fail
    refine (C1.out w7 k07 (idE x)).mono ?_
    rintro e w8 ⟨rfl,k8⟩
    have k08:=k07.tr k8
    have u8:=u7.tr (UpN.of_k k8 _)
    have m8:=m6.upn u8 (by omega)
    have hx8:=hx.below k8 hx.lt
    clear q8
    have q8:=hx8.cell
    obtain⟨v1,v2,v3,B1,B2,B3,T⟩:=hD
    have B1':=B1.below (k3.tr k8) B1.lt
    have B2':=B2.below (k3.tr k8) B2.lt
    have B3':=B3.below (k3.tr k8) B3.lt
    have T8:=T.st (k3.tr k8)
    have hz8:=u8.size
    have QL:=Lib.hid fun n=>(run_lookG (keyI (P:=Tryz.prog) (kt:=3) Tryz.underlying3) Tryz.underlying240 (zeroF w8) m8 n).1
    have hb1z:=T8.a.blk
    have hb2z:=T8.b.blk
    have hb3z:=T8.c.blk
    clear B1 B2 B3 T
    rcases H012.out (idE x) with h|h|h
    · have ql:=QL.out 0
      simp only[lookG,idxG,encI] at ql
      simp at ql
      rw[h]
      have F0':Hid ((op.take (j+1)).filter (fun x=>decide (sv (idE x)=0))=(op.take j).filter (fun x=>decide (sv (idE x)=0))++[x]):=Lib.hid (by rw[F0.out,h];simp)
      have F1':Hid ((op.take (j+1)).filter (fun x=>decide (sv (idE x)=1))=(op.take j).filter (fun x=>decide (sv (idE x)=1))):=Lib.hid (by rw[F1.out,h];simp)
      have F2':Hid (((op.take (j+1)).filter (fun x=>decide (sv (idE x)=2))).map idE=((op.take j).filter (fun x=>decide (sv (idE x)=2))).map idE):=Lib.hid (by rw[F2.out,h];simp)
      have CC:=Lib.hid (Dec1_calls _ _ _ _ (g+1) x _ w8 (HE.out w8 k08) hsx B2' T8.rot.a (fun k hk=>by rcases hk with hk|hk|hk;omega;have:=hb3z k hk;omega;have:=hb1z k hk;omega) (.inl (by omega)) hz8 (by omega) (by omega))
      clear h QL
      go_wp2_with fail
      refine CC.out.mono ?_
      rintro e w9 ⟨rfl,hB⟩
      obtain⟨v9,B9,T9,hv9⟩:=T8.rot.box hB (by omega)
      have N1:=B1'.upn hv9 (by rintro (hk|hk);omega;have:=hb2z _ hk;omega)
      have N3:=B3'.upn hv9 (by rintro (hk|hk);omega;have:=hb2z _ hk;omega)
      have hD9:DecI w6.heap.size g (g+1) (g+2) ((op.take (j+1)).filter fun x=>decide (sv (idE x)=1)) ((op.take (j+1)).filter fun x=>decide (sv (idE x)=0)) (((op.take (j+1)).filter fun x=>decide (sv (idE x)=2)).map idE) w9:=by
       rw[F0'.out,F1'.out,F2'.out]
       have TT:=T9.rot.rot
       exact⟨v1,v9,v3,N1,B9,N3,TT⟩
      have hu9:UpN (fun k=>k=g∨k=g+1∨k=g+2) w6 w9:=⟨hv9.os.trans u8.os,hv9.tape.trans u8.tape,hv9.output.trans u8.output,Nat.le_trans u8.size hv9.size,fun k h1 h2=>(hv9.block k (Nat.lt_of_lt_of_le h1 u8.size) (by rintro (hk|hk);omega;have:=(hb2z k hk).1;omega)).trans (u8.block k h1 h2)⟩
      clear CC hB T8 B1' B2' B3' q8 ql hb1z hb2z hb3z
      have HD:=Lib.hid hD9
      have u9:=hu9
      clear hD9
      go_wp2
      go_roundw
      case rel=>exact⟨j+1,by omega,by go_num,HD.out,u9⟩
      case measure=>simp[intOf];omega
    · have ql:=QL.out 1
      simp only[lookG,idxG,encI] at ql
      simp at ql
      rw[h]
      have F0':Hid ((op.take (j+1)).filter (fun x=>decide (sv (idE x)=0))=(op.take j).filter (fun x=>decide (sv (idE x)=0))):=Lib.hid (by rw[F0.out,h];simp)
      have F1':Hid ((op.take (j+1)).filter (fun x=>decide (sv (idE x)=1))=(op.take j).filter (fun x=>decide (sv (idE x)=1))++[x]):=Lib.hid (by rw[F1.out,h];simp)
      have F2':Hid (((op.take (j+1)).filter (fun x=>decide (sv (idE x)=2))).map idE=((op.take j).filter (fun x=>decide (sv (idE x)=2))).map idE):=Lib.hid (by rw[F2.out,h];simp)
      have CC:=Lib.hid (Dec2_calls _ _ _ _ g x _ w8 (HE.out w8 k08) hsx B1' T8.a (fun k hk=>by rcases hk with hk|hk|hk;omega;have:=hb2z k hk;omega;have:=hb3z k hk;omega) (.inl (by omega)) hz8 (by omega) (by omega))
      clear h QL
      go_wp2_with fail
      refine CC.out.mono ?_
      rintro e w9 ⟨rfl,hB⟩
      obtain⟨v9,B9,T9,hv9⟩:=T8.box hB (by omega)
      have N2:=B2'.upn hv9 (by rintro (hk|hk);omega;have:=hb1z _ hk;omega)
      have N3:=B3'.upn hv9 (by rintro (hk|hk);omega;have:=hb1z _ hk;omega)
      have hD9:DecI w6.heap.size g (g+1) (g+2) ((op.take (j+1)).filter fun x=>decide (sv (idE x)=1)) ((op.take (j+1)).filter fun x=>decide (sv (idE x)=0)) (((op.take (j+1)).filter fun x=>decide (sv (idE x)=2)).map idE) w9:=by
       rw[F0'.out,F1'.out,F2'.out]
       have TT:=T9
       exact⟨v9,v2,v3,B9,N2,N3,TT⟩
      have hu9:UpN (fun k=>k=g∨k=g+1∨k=g+2) w6 w9:=⟨hv9.os.trans u8.os,hv9.tape.trans u8.tape,hv9.output.trans u8.output,Nat.le_trans u8.size hv9.size,fun k h1 h2=>(hv9.block k (Nat.lt_of_lt_of_le h1 u8.size) (by rintro (hk|hk);omega;have:=(hb1z k hk).1;omega)).trans (u8.block k h1 h2)⟩
      clear CC hB T8 B1' B2' B3' q8 ql hb1z hb2z hb3z
      have HD:=Lib.hid hD9
      have u9:=hu9
      clear hD9
      go_wp2
      go_roundw
      case rel=>exact⟨j+1,by omega,by go_num,HD.out,u9⟩
      case measure=>simp[intOf];omega
    · have ql:=QL.out 2
      simp only[lookG,idxG,encI] at ql
      simp at ql
      rw[h]
      have F0':Hid ((op.take (j+1)).filter (fun x=>decide (sv (idE x)=0))=(op.take j).filter (fun x=>decide (sv (idE x)=0))):=Lib.hid (by rw[F0.out,h];simp)
      have F1':Hid ((op.take (j+1)).filter (fun x=>decide (sv (idE x)=1))=(op.take j).filter (fun x=>decide (sv (idE x)=1))):=Lib.hid (by rw[F1.out,h];simp)
      have F2':Hid (((op.take (j+1)).filter (fun x=>decide (sv (idE x)=2))).map idE=((op.take j).filter (fun x=>decide (sv (idE x)=2))).map idE++[idE x]):=Lib.hid (by rw[F2.out,h];simp)
      have CC:=Lib.hid (Dec3_calls _ _ _ _ (g+2) x _ w8 (HE.out w8 k08) B3' T8.rot.rot.a (.inl (by omega)) hz8 (by omega) (by rw[List.length_map];omega))
      clear h QL
      go_wp2_with fail
      refine CC.out.mono ?_
      rintro e w9 ⟨rfl,hB⟩
      obtain⟨v9,B9,T9,hv9⟩:=T8.rot.rot.box hB (by omega)
      have N1:=B1'.upn hv9 (by rintro (hk|hk);omega;have:=hb3z _ hk;omega)
      have N2:=B2'.upn hv9 (by rintro (hk|hk);omega;have:=hb3z _ hk;omega)
      have hD9:DecI w6.heap.size g (g+1) (g+2) ((op.take (j+1)).filter fun x=>decide (sv (idE x)=1)) ((op.take (j+1)).filter fun x=>decide (sv (idE x)=0)) (((op.take (j+1)).filter fun x=>decide (sv (idE x)=2)).map idE) w9:=by
       rw[F0'.out,F1'.out,F2'.out]
       have TT:=T9.rot
       exact⟨v1,v2,v9,N1,N2,B9,TT⟩
      have hu9:UpN (fun k=>k=g∨k=g+1∨k=g+2) w6 w9:=⟨hv9.os.trans u8.os,hv9.tape.trans u8.tape,hv9.output.trans u8.output,Nat.le_trans u8.size hv9.size,fun k h1 h2=>(hv9.block k (Nat.lt_of_lt_of_le h1 u8.size) (by rintro (hk|hk);omega;have:=(hb3z k hk).1;omega)).trans (u8.block k h1 h2)⟩
      clear CC hB T8 B1' B2' B3' q8 ql hb1z hb2z hb3z
      have HD:=Lib.hid hD9
      have u9:=hu9
      clear hD9
      go_wp2
      go_roundw
      case rel=>exact⟨j+1,by omega,by go_num,HD.out,u9⟩
      case measure=>simp[intOf];omega
  · have hji:¬ (j:Int)<(op.length:Int):=by omega
    obtain rfl:j=op.length:=by omega
    rw[List.take_length,<- HY.out,<- HN.out] at hD
    obtain⟨v1,v2,v3,B1,B2,B3,T⟩:=hD
    have hgw:=HG.out
    have k0r:K w wr:=u.k k6 fun k hk=>by omega
    clear hgw
    have q1:=B1.cells
    have q2:=B2.cells
    have q3:=B3.cells
    have hzw:=k6.size
    have X1:=Lib.hid ((T.a.less (Y':=fun k=>k<w.heap.size) fun k hk=>.inl (by omega)).fx fun k hk=>by omega)
    have X3:=Lib.hid ((T.c.less (Y':=fun k=>k<w.heap.size) fun k hk=>.inl (by omega)).fx fun k hk=>by omega)
    obtain⟨A1,c1,rfl⟩:=T.a.slice
    obtain⟨A2,c2,rfl⟩:=T.b.slice
    obtain⟨A3,c3,rfl⟩:=T.c.slice
    clear B1 B2 B3 T
    go_upto_region 11 with (fail)
    refine wp_region_auto 6 [([],[]),([],[]),([],[]),([0],[(40,0)]),([1],[(41,1)]),([2],[(42,2)])] 43 rfl (by kernel_rfl) (by kernel_rfl) (by kernel_rfl) (by kernel_rfl) (by decide) ?_
    simp only[List.take_succ_cons,List.take_zero,List.drop_succ_cons,List.drop_zero]
    iterate 6 (apply AutoQ.is;intro V W kW hp;(try simp only[List.forall_mem_cons,List.nil_append,List.cons_append,tab_zero,tab_succ,isV] at hp);simp[wantsG,rhoP,List.lookup,hp,ResG,execOp,bareOp,isV,Below.refl,kW,q1,q2,q3,go_sem];rfl)
    intro V W kW hA
    simp only[List.nil_append,List.cons_append,AllT,isV,Nat.reduceAdd] at hA
    refine TailQ.nil ?_
    simp only[putAll,Act.put,List.setIfInBounds_toArray,List.set_cons_succ,List.set_cons_zero,Nat.reduceAdd,hA]
    have kF:=k0r.tr kW
    have Y1:=Lib.hid (X1.out.k kW)
    have Y3:=Lib.hid (X3.out.k kW)
    clear hA q1 q2 q3 X1 X3
    go_wp2
    go_ret3
    exact⟨_,_,⟨_,rfl⟩,Y1.out,Y3.out,kF⟩
