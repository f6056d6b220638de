/-
  The walk of broker's Stage (layer 20). Conditions: none.
-/
import Derived.Test.YtagfakjifhdpgaaGreatMa33
import Derived.Test.YtagfakjifhdpgaaGreatMc00
import Derived.WalkKit
import Derived.WalkLawsBesides
import Derived.WalkSpells
import Derived.Deep.Draws
import Derived.Deep.AppendLies
import Derived.Maps.AppendAt
import Derived.Laws.CopyOwn
import Derived.Lib.Hide
import Derived.ScopeJumps
import Derived.Laws.IdiomStrings
import Derived.Laws.BytesArg
import Derived.WalkMore
import Derived.Orders
import Derived.Test.YtagfakjifhdpgaaGreatProg
import Derived.BigQuiet
import Derived.Deep.QuietTactic
import Derived.Deep.CutRange
import Derived.Deep.LoopGhost
import Derived.IntWalk
import Derived.Deep.RegionHeld3
import Derived.Deep.DrawnRows
import Derived.Deep.CutBlock
import Derived.Maps.OwnSet
import Derived.Carry
import Derived.Laws.BitsAllLaws
import Derived.Deep.RegionLaw
import Derived.Lib.SlicesDelete
set_option maxRecDepth 100000
set_option maxHeartbeats 16000000
set_option linter.unusedVariables false
set_option linter.unusedSimpArgs false
namespace Go.Proofs.YtagfakjifhdpgaaGreat
open Go Go.RowKit
def txN (lo:Nat) (t:Txn) (v:Value) (W:World):Prop:=∃ vf ve,v=.agg (txA t vf ve)/\Fx (fun k=>k<lo) (fun W=>txS.rel t (txA t vf ve).toList W) W
theorem txN_st (lo:Nat) (x:Txn):∀ v w w',txN lo x v w->Below w.heap.size w w'->txN lo x v w':=by
 rintro v w w' ⟨vf,ve,e,h⟩ k
 exact⟨vf,ve,e,h.k k⟩
theorem BStage_calls {M:Nat->Prop} {p:BrW} {B:Brk} {w:World} (h:BrV M p B w) (hG:GoodB B) :
 Calls Tryz.prog 19 #[.pointer (some ⟨p.g,0,none⟩)] w fun e w'=>∃ v',e=.returned v'/\OwnY (fun k=>k<w.heap.size) w.heap.size 121 txS B.txns v' w'/\K w w':=by
 have HS:=Lib.hid hG.tx.small
 have hn:=hG.tx.len6
 have q:=h.blk.cell
 have hl:=h.dat.now.txns
 obtain⟨g,gl,gd,gr,gt,vd,vr,vp,vh,vl,vq,va,vt,vf,vw,kr⟩:=p
 simp only at q hl
 clear h hG
 obtain⟨A,c,rfl,hl,hc⟩:=hl
 generalize B.txns=l at *
 have kk:=K.rf w
 have hO:=OwnY.nil (fun k=>k<w.heap.size) w.heap.size 121 txS w
 go_enter Tryz.func19,Tryz.ntmps19
 go_upto_block 0 with (fail)
 clear q
 go_wp2_with fail
 go_loopw [3,5,13] (fun o _ i W=>∃ j:Nat,j<=l.length/\i=.int .i64 (j:Int)/\OwnY (fun k=>k<w.heap.size) w.heap.size 121 txS (l.take j) o W/\K w W) (fun _ _ i _=>l.length - (intOf i).toNat)
 case atStart=>exact⟨0,by omega,rfl,by simpa using hO,kk⟩
 case round =>
  clear hO kk
  obtain⟨j,hj,rfl,hO,kr⟩:=hrel
  by_cases hlt:j<l.length
  · have hji:(j:Int)<(l.length:Int):=by omega
    obtain⟨b1,off,cs,rfl,hcl,hrl,d0,d⟩:=lsr_cells hl j hlt (by decide)
    have HT:Hid (l.take (j+1)=l.take j++[l[j]]):=Lib.hid (by rw[List.take_succ_eq_append_getElem hlt])
    have hsx:=HS.out _ (List.getElem_mem hlt)
    generalize l[j]=x at *
    obtain⟨vf,ve,rfl,hf,he⟩:=hrl w (K.rf w)
    have HE:Hid (∀ W,K w W->ent x.e (.agg (entA x.e vf ve)) W):=Lib.hid fun W k=>⟨_,_,rfl,flt_st _ _ _ _ hf k,lst_st he k⟩
    have q:∀ i,i<9->wr.cell? ⟨b1,off+j * 9+i,none⟩=(txA x vf ve)[i]?:=fun i hi=>(d wr kr i hi).trans Array.getElem?_toList
    have q0:wr.cell? ⟨b1,off+j * 9,none⟩=some (.int .i64 x.e.kind):=d0 wr kr
    have hx:=Blk.new wr 121 (txA x vf ve)
    have k1:K wr (wr.alloc (.cells (txA x vf ve) 121)):=(K.rf wr).al _
    obtain⟨Af,cf,rfl⟩:=flt_slice hf
    obtain⟨Ae,ce,rfl⟩:=lst_slice he
    clear d d0 hf he hrl hcl
    go_upto_region 7 with (fail)
    generalize wr.alloc _=w1 at *
    generalize wr.heap.size=g5 at hx ⊢
    replace hO:=hO.st k1
    have kr1:=kr.tr k1
    clear q q0
    have q:=hx.cells
    have hbl:=hO.blk
    obtain⟨Ao,co,rfl⟩:=hO.slice
    have hlen:(l.take j).length<=1000000:=by simp;omega
    generalize l.take j=lj at *
    refine wp_region_auto 8 [([],[]),([],[]),([1],[(18,1)]),([2],[(19,2)]),([],[]),([4],[(21,4)]),([3,5],[(20,3),(22,5)]),([6],[(23,6)]),([0,3,7],[(17,0),(24,7)]),([0,1,2,3,4,5,6,7,8],[(25,8)])] 28 rfl (by kernel_rfl) (by kernel_rfl) (by kernel_rfl) (by kernel_rfl) (by decide) ?_
    simp only[List.take_succ_cons,List.take_zero,List.drop_succ_cons,List.drop_zero]
    iterate 3 (apply AutoQ.is;intro V W kW hp;(try simp only[List.forall_mem_cons,List.nil_append,List.cons_append,tab_zero,tab_succ,isV] at hp);simp[wantsG,rhoP,List.lookup,hp,ResG,execOp,bareOp,isV,Below.refl,kW,q,go_sem];rfl)
    refine AutoQ.op (entN w1.heap.size x.e) (entN_st _ _) (fun V W kW hp=>?_) ?_
    · (try simp only[List.forall_mem_cons,List.nil_append,List.cons_append,tab_zero,tab_succ,isV] at hp)
      simp[wantsG,rhoP,List.lookup,hp,ResG,execOp,bareOp,q,go_sem]
      refine (BWhole_calls x.e _ W (HE.out _ (kr1.tr kW)) hsx).mono ?_
      rintro e w4 ⟨v2,rfl,ho,k4⟩
      exact⟨_,rfl,by obtain⟨vf2,ve2,e,hF⟩:=entO_fx ho;exact⟨vf2,ve2,e,hF.less fun k hk=>Nat.lt_of_lt_of_le hk kW.size⟩,k4⟩
    iterate 2 (apply AutoQ.is;intro V W kW hp;(try simp only[List.forall_mem_cons,List.nil_append,List.cons_append,tab_zero,tab_succ,isV] at hp);simp[wantsG,rhoP,List.lookup,hp,ResG,execOp,bareOp,isV,Below.refl,kW,q,go_sem];rfl)
    refine AutoQ.op (txN w1.heap.size x) (txN_st _ _) (fun V W kW hp=>?_) ?_
    · simp only[List.forall_mem_cons,List.nil_append,List.cons_append,tab_zero,tab_succ,isV] at hp
      obtain⟨⟨vf2,ve2,e3,hF⟩,e5,-⟩:=hp
      simp[wantsG,rhoP,List.lookup,e3,e5,ResG,execOp,bareOp,Below.refl,go_sem]
      exact⟨vf2,ve2,rfl,hF.mono fun W h=>by
       obtain⟨vf',ve',e,h1,h2⟩:=h
       simp at e
       obtain⟨rfl,rfl⟩:=e
       exact⟨_,_,rfl,h1,h2⟩⟩
    refine AutoQ.row (N:=fun k=>k<w1.heap.size) (lo:=0) (S:=txS) 55 _ 9 104 TTx rfl (by decide) _ x rfl rfl (Nat.zero_le _) (fun V W kW hp=>?_) ?_
    · simp only[List.forall_mem_cons,List.nil_append,List.cons_append,tab_zero,tab_succ,isV] at hp
      obtain⟨⟨vf2,ve2,e6,hF⟩,-⟩:=hp
      simp[rhoP,List.lookup,e6]
      exact⟨rfl,hF⟩
    intro V W kW hA
    simp only[List.nil_append,List.cons_append,AllT,isV,Nat.reduceAdd] at hA
    obtain⟨e0,e1,e2,h3,e4,e5,h6,h7,-⟩:=hA
    have hOW:=hO.st kW
    refine TailQ.push _ _ 55 _ 9 104 TTx rfl rfl rfl _ lj x (by simp[rhoP,List.lookup,e0]) hOW ?_ (by omega) (Nat.le_trans kr1.size kW.size) ?_
    · simp only[rhoP,List.lookup]
      exact h7.less fun k hk=>by
       rcases hk with hk|hk
       · have:=kr1.size;omega
       · have:=hbl k hk;omega
    intro v9 w9 hO9 hg9 _ hb9
    rw[<- HT.out] at hO9
    have kr9:=(kr1.tr kW).trans hb9
    obtain⟨A9,c9,rfl⟩:=hO9.slice
    apply TailQ.pure
    rfl
    simp[rhoP,List.lookup,updV,execOp,bareOp,go_sem]
    rfl
    refine TailQ.nil ?_
    simp only[putAll,Act.put,List.setIfInBounds_toArray,List.set_cons_succ,List.set_cons_zero,Nat.reduceAdd,updV]
    clear hOW hO h3 h6 h7 e0 e1 e2 e4 e5 q hbl
    go_wp2
    go_roundw
    case rel=>exact⟨j+1,by omega,by go_num,by simpa only[List.length_take] using hO9,kr9⟩
    case measure=>simp[intOf];omega
  · have hji:¬ (j:Int)<(l.length:Int):=by omega
    obtain rfl:j=l.length:=by omega
    rw[List.take_length] at hO
    go_wp2
    go_ret
    exact⟨_,rfl,hO,kr⟩
section
variable {X X' Z Z':Nat->Prop} {g gd:Nat} {B B':Brk} {W W':World}
theorem KUnsub (h:LivX X Z g gd B W) (c:Int) (hc:i64ok c) (hn:B.calls+1<4611686018427387904) (n:Nat) (hn':n<18446744073709551616) :
 Calls Tryz.prog 20 #[.pointer (some ⟨g,0,none⟩),.int .i64 c,.int .u64 (n:Int)] W fun e w'=>e=.returned (.tuple #[idv (unsubB B c n).2.1,.int .i64 (unsubB B c n).2.2])/\LivX X Z g gd (unsubB B c n).1 w'/\UpN (fun k=>¬ Z k) W w' :=
 h.call (fun p hb e=>kg e ▸ BUnsub_calls hb h.1.toGoodB c hc n hn') (h.1.ask hn (by simp[i64ok]) hc hn' (by simp))
end
section
variable {Z Z':Nat->Prop} {g:Nat} {B B':Brk} {W W':World}
theorem LUnsub (h:Liv Z g B W) (c:Int) (hc:i64ok c) (hn:B.calls+1<4611686018427387904) (n:Nat) (hn':n<18446744073709551616) :
 Calls Tryz.prog 20 #[.pointer (some ⟨g,0,none⟩),.int .i64 c,.int .u64 (n:Int)] W fun e w'=>e=.returned (.tuple #[idv (unsubB B c n).2.1,.int .i64 (unsubB B c n).2.2])/\Liv Z g (unsubB B c n).1 w'/\UpN (fun k=>¬ Z k) W w' :=
 h.elim fun gd h=>(KUnsub h c hc hn n hn').mono fun _ _ h=>⟨h.1,⟨gd,h.2.1⟩,h.2.2⟩
end
def hA1 (m c:Int):List Txn×Int:=beginT [] (m,1,1) c
def hA2 (m c:Int):List Txn×Int:=askT (hA1 m c).1 ⟨2,m,1,2,c,1,[],[]⟩
def hA3 (m c:Int):List Txn×Int:=askT (hA2 m c).1 ⟨3,m,1,3,c,1,[],[]⟩
theorem homes_ok:∀ m:Fin 16,∀ c:Fin 32,(hA1 (m.val:Int) (c.val:Int)).2=0/\(hA2 (m.val:Int) (c.val:Int)).2=0/\(hA3 (m.val:Int) (c.val:Int)).2=0/\(hA3 (m.val:Int) (c.val:Int)).1.length=3:=by decide +kernel
theorem homes_in {m c:Int} (h1:0<=m) (h2:m<16) (h3:0<=c) (h4:c<32):(hA1 m c).2=0/\(hA2 m c).2=0/\(hA3 m c).2=0/\(hA3 m c).1.length=3:=by
 have:=homes_ok ⟨m.toNat,by omega⟩ ⟨c.toNat,by omega⟩
 simpa [Int.toNat_of_nonneg h1,Int.toNat_of_nonneg h3] using this
theorem homes_room:dkLen (recsS (lifeS st0))<=60000:=by decide +kernel
def bH0 (m:Int) (p hom:List Int):Brk:=openB m p hom ⟨recsS (lifeS st0),60000⟩ (lifeS st0)
def bH1 (m:Int) (p hom:List Int) (c:Int):Brk:=(beginB (bH0 m p hom) c).1
def bH2 (m:Int) (p hom:List Int) (c:Int):Brk:=(subB (bH1 m p hom c) c 1 []).1
def bH3 (m:Int) (p hom:List Int) (c:Int):Brk:=(unsubB (bH2 m p hom c) c 1).1
theorem homes_yes {m:Int} {p hom:List Int} {c:Int} (hh:homeB' (bH0 m p hom) c=true) (h1:0<=m) (h2:m<16) (h3:0<=c) (h4:c<32) :
 (beginB (bH0 m p hom) c).2.2=0/\(subB (bH1 m p hom c) c 1 []).2.2=0/\(unsubB (bH2 m p hom c) c 1).2.2=0/\pollB (bH3 m p hom c) c 0=([],0,0)/\(bH3 m p hom c).txns.length=3/\(bH1 m p hom c).calls<=3/\(bH2 m p hom c).calls<=3:=by
 obtain⟨e1,e2,e3,e4⟩:=homes_in h1 h2 h3 h4
 have k1:callB (bH0 m p hom) c (beginT (bH0 m p hom).txns (newB (bH0 m p hom)) c)=({ (bH0 m p hom) with txns:=(hA1 m c).1,calls:=1 },(m,1,1),0):=by
  unfold callB
  rw[hh]
  show (if (hA1 m c).2=0 then _ else _)=_
  rw[if_pos e1]
  rfl
 have b1:bH1 m p hom c={ (bH0 m p hom) with txns:=(hA1 m c).1,calls:=1 }:=by unfold bH1 beginB;rw[k1]
 have hh1:homeB' (bH1 m p hom c) c=true:=by rw[b1];exact hh
 have k2:subB (bH1 m p hom c) c 1 []=({ (bH1 m p hom c) with txns:=(hA2 m c).1,calls:=2 },(m,1,2),0):=by
  unfold subB callB
  rw[hh1,b1]
  show (if (hA2 m c).2=0 then _ else _)=_
  rw[if_pos e2]
  rfl
 have b2:bH2 m p hom c={ (bH1 m p hom c) with txns:=(hA2 m c).1,calls:=2 }:=by unfold bH2;rw[k2]
 have hh2:homeB' (bH2 m p hom c) c=true:=by rw[b2];exact hh1
 have k3:unsubB (bH2 m p hom c) c 1=({ (bH2 m p hom c) with txns:=(hA3 m c).1,calls:=3 },(m,1,3),0):=by
  unfold unsubB callB
  rw[hh2,b2,b1]
  show (if (hA3 m c).2=0 then _ else _)=_
  rw[if_pos e3]
  rfl
 have b3:bH3 m p hom c={ (bH2 m p hom c) with txns:=(hA3 m c).1,calls:=3 }:=by unfold bH3;rw[k3]
 have hh3:homeB' (bH3 m p hom c) c=true:=by rw[b3];exact hh2
 refine⟨by unfold beginB;rw[k1],by rw[k2],by rw[k3],?_,by rw[b3];exact e4,by rw[b1];show 1<=3;omega,by rw[b2];show 2<=3;omega⟩
 have hl:(bH3 m p hom c).st.list=[]:=by rw[b3,b2,b1];rfl
 unfold pollB
 rw[hh3,hl]
 rfl
theorem homes_not {m:Int} {p hom:List Int} {c:Int} (hh:homeB' (bH0 m p hom) c=false) :
 (beginB (bH0 m p hom) c).2.2=200/\(subB (bH1 m p hom c) c 1 []).2.2=200/\(unsubB (bH2 m p hom c) c 1).2.2=200/\pollB (bH3 m p hom c) c 0=([],0,200)/\(bH3 m p hom c).txns.length=0/\(bH1 m p hom c).calls<=3/\(bH2 m p hom c).calls<=3:=by
 have k1:∀ l,callB (bH0 m p hom) c l=(bH0 m p hom,(0,0,0),200):=fun l=>by unfold callB;rw[hh];rfl
 have b1:bH1 m p hom c=bH0 m p hom:=by unfold bH1 beginB;rw[k1]
 have b2:bH2 m p hom c=bH0 m p hom:=by unfold bH2 subB;rw[b1,k1]
 have b3:bH3 m p hom c=bH0 m p hom:=by unfold bH3 unsubB;rw[b2,k1]
 refine⟨by unfold beginB;rw[k1],by unfold subB;rw[b1,k1],by unfold unsubB;rw[b2,k1],?_,by rw[b3];rfl,by rw[b1];show 0<=3;omega,by rw[b2];show 0<=3;omega⟩
 unfold pollB
 rw[b3,hh]
 rfl
def repInts (w:World) (v:Value):Prop:=∃ l:List Int,lst inS l v w/\∀ n∈l,i64ok n
