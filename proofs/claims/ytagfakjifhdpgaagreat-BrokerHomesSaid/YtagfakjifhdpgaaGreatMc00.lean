/-
  What is known of a law's argument that can be read as data, by its type. Conditions: none.
-/
import Derived.Test.YtagfakjifhdpgaaGreatMa33
import Derived.Test.YtagfakjifhdpgaaGreatProg
import Derived.WalkKit
import Derived.WalkLawsBesides
import Derived.WalkSpells
import Derived.Deep.Draws
import Derived.Deep.AppendLies
import Derived.Maps.AppendAt
import Derived.Laws.CopyOwn
import Derived.Lib.Hide
import Derived.ScopeJumps
import Derived.Laws.IdiomStrings
import Derived.Laws.BytesArg
import Derived.WalkMore
import Derived.BigQuiet
import Derived.Deep.QuietTactic
import Derived.ProofKit
import Derived.OpenShut
import Derived.ShutString
import Derived.ChangeOld
import Derived.Below
import Derived.Lib.SmallJoins
import Derived.Deep.Slices
import Derived.Deep.Fields
import Derived.Deep.CutRange
import Derived.Deep.LoopGhost
import Derived.Orders
import Derived.IntWalk
import Derived.Deep.RegionHeld3
import Derived.Deep.DrawnRows
import Derived.Deep.CutBlock
import Derived.Maps.OwnSet
import Derived.Carry
import Derived.RangeFuncKeeps
import Derived.RangeFuncLeaves
import Derived.RangeFuncFrom
import Derived.RangeFuncBox
import Derived.Shelf.Abstract
import Derived.OwnWalkIn
import Derived.TacticsInMore
import Derived.LoopNIn
import Derived.LoopIn
import Derived.Laws.BitsAllLaws
import Derived.Deep.RegionLaw
import Derived.Lib.SlicesDelete
set_option maxRecDepth 100000
set_option maxHeartbeats 16000000
set_option linter.unusedVariables false
set_option linter.unusedSimpArgs false
namespace Go.Proofs.YtagfakjifhdpgaaGreat
open Go Go.RowKit
section
open Go Go.RowKit Go.ChangeShapes Go.WideShapes Go.ChangeAt
open Go.ChangeMaps (open_string shut_string)
set_option linter.unusedVariables false
def repI64 (_:World) (v:Value):Prop:=∃ n:Int,v=.int .i64 n/\-9223372036854775808<=n/\n<=9223372036854775807
section
variable {H:Type} {enc:TypeId×Value->H} {w:World} {base:Nat} {r:Reach} {b0:Nat} {spare:Nat->Bool} {held:Bool} {v:Value} {d:DataW H} {p:List MemPlace}
theorem repI64_of (hv:Value.okWide Tryz.prog w r b0 3 v) (h:DataW.Trod enc Tryz.prog w base spare held 3 v d p):repI64 w v:=by
 obtain⟨a,rfl,rfl,rfl,hw⟩:=open_int Tryz.underlying3 hv h
 have hb:=bounds_i64 hw
 exact⟨a,rfl,by omega,by omega⟩
theorem reads_of_slice {T E:TypeId} (hT:Tryz.prog.underlying T=some (.slice E)) (C:Nat) (hC:Tryz.prog.cellsOf E=C) (Rep:List Value->Prop)
 (hE:∀ (fuel:Nat) (cs:List Value) (x:DataW H×List MemPlace),cs.length=C->DataW.trod enc Tryz.prog w base spare held fuel E cs=some x->Rep cs)
 (hv:Value.okWide Tryz.prog w r b0 T v) (h:DataW.Trod enc Tryz.prog w base spare held T v d p) :
 ∃ (A:Option Addr) (n c:Nat) (css:List (List Value)),v=.slice A n c/\css.length=n/\n<=c/\c<=maxLen/\(∀ cs∈css,cs.length=C/\Rep cs)/\(0<C->Reads w w.heap.size C A n css.flatten):=by
 obtain⟨a0,len0,cap0,rfl⟩:=okWide_slice hT hv
 obtain⟨fuel,hf⟩:=h
 rcases Go.Deep.open_slice hT hf with ⟨hcs,_⟩|⟨a,len,cap,m,n,D,Pl,hcs,hb,hl,hm,hmm,hx,hi⟩
 · simp[Value.cells] at hcs
   obtain⟨rfl,rfl,rfl⟩:=hcs
   exact⟨none,0,0,[],rfl,rfl,by simp,by simp,by simp,fun _=>Reads.nil _ _ _ _⟩
 · simp[Value.cells] at hcs
   obtain⟨rfl,rfl,rfl⟩:=hcs
   have hlm:len0<=m:=by rw[hmm];split <;> omega
   have hex:∀ i,i<len0->∃ cs,cs.length=C/\Rep cs/\∀ j,j<C->w.cell? (a.add (i * C+j))=cs[j]?:=by
    intro i hil
    obtain⟨cs',hc,ht⟩:=hi i (by omega)
    rw[hC] at hc
    obtain⟨_,hcl,hat⟩:=World.cells?_some hc
    refine⟨cs',hcl,hE _ _ _ hcl ht,fun j hj=>?_⟩
    rw[<- Go.Deep.add_add]
    exact hat j hj
   have key:∀ k,k<=len0->∃ css:List (List Value),css.length=k/\(∀ cs∈css,cs.length=C/\Rep cs)/\∀ i j,i<k->j<C->w.cell? (a.add (i * C+j))=(css[i]?.getD [])[j]?:=by
    intro k
    induction k with
    | zero=>intro _;exact⟨[],rfl,by simp,by simp⟩
    | succ k ih =>
      intro hk
      obtain⟨css,h1,h2,h3⟩:=ih (by omega)
      obtain⟨cs,h4,h5,h6⟩:=hex k (by omega)
      refine⟨css++[cs],by simp[h1],?_,fun i j hik hj=>?_⟩
      · intro x hx
        rcases List.mem_append.1 hx with hx|hx
        · exact h2 x hx
        · simp at hx;subst hx;exact⟨h4,h5⟩
      · by_cases hik':i<k
        · rw[h3 i j hik' hj,List.getElem?_append_left (by omega)]
        · obtain rfl:i=k:=by omega
          rw[h6 j hj,List.getElem?_append_right (by omega),h1]
          simp
   obtain⟨css,h1,h2,h3⟩:=key len0 (Nat.le_refl _)
   refine⟨some a,len0,cap0,css,rfl,h1,hl,hm,h2,fun hC0=>?_⟩
   have hfl:css.flatten.length=len0 * C:=by rw[<- h1];exact flatten_len C css fun cs hcs=>(h2 cs hcs).1
   have hfg:∀ i j,i<len0->j<C->css.flatten[i * C+j]?=(css[i]?.getD [])[j]?:=fun i j hi' hj=>flatten_at C css (fun cs hcs=>(h2 cs hcs).1) i j (by omega) hj
   refine⟨hfl,fun h0=>?_⟩
   rw[hfl] at h0
   have hl0:0<len0:=Nat.pos_of_mul_pos_right h0
   have hcell:∀ q,q<len0 * C->w.cell? (a.add q)=css.flatten[q]?:=by
    intro q hq
    have e:q=q / C * C+q % C:=by rw[Nat.mul_comm];exact (Nat.div_add_mod q C).symm
    have hq1:q / C<len0:=Nat.div_lt_of_lt_mul (by rwa [Nat.mul_comm] at hq)
    have hq2:q % C<C:=Nat.mod_lt _ hC0
    rw[e,h3 _ _ hq1 hq2,hfg _ _ hq1 hq2]
   have h00:=hcell 0 h0
   have hsome:∃ u,css.flatten[0]?=some u:=⟨css.flatten[0]'(by omega),List.getElem?_eq_getElem (by omega)⟩
   obtain⟨u,hu⟩:=hsome
   rw[hu] at h00
   obtain⟨b,off,spot⟩:=a
   have hs:spot=none:=by simpa [Addr.add] using World.cell?_spot h00
   subst hs
   refine⟨b,off,rfl,?_,fun j u hju=>?_⟩
   · have:=World.block_lt_of_cell? w _ h00
     simpa [Addr.add] using this
   · have hj:j<len0 * C:=by
      have:=(List.getElem?_eq_some_iff.1 hju).1
      omega
     have:=hcell j hj
     rw[Addr.add_lit] at this
     rw[this,hju]
theorem list_of_cells {α:Type} (f:α->List Value) (Ok:α->Prop):∀ css:List (List Value),(∀ cs∈css,∃ y,cs=f y/\Ok y)->∃ l:List α,l.length=css.length/\css=l.map f/\∀ y∈l,Ok y
 | [],_=>⟨[],rfl,rfl,by simp⟩
 | c :: css,h=>by
   obtain⟨y,rfl,hy⟩:=h c (by simp)
   obtain⟨l,h1,h2,h3⟩:=list_of_cells f Ok css fun cs hcs=>h cs (by simp[hcs])
   refine⟨y :: l,by simp[h1],by simp[h2],?_⟩
   intro z hz
   rcases List.mem_cons.1 hz with rfl|hz
   · exact hy
   · exact h3 z hz
end
end
section
open Go Go.RowKit Go.ChangeShapes Go.WideShapes Go.ChangeAt
section
variable {H:Type} {enc:TypeId×Value->H} {w:World} {base:Nat} {r:Reach} {b0:Nat} {spare:Nat->Bool} {held:Bool} {v:Value} {d:DataW H} {p:List MemPlace} {α:Type}
theorem i64_cells {fuel:Nat} {cs:List Value} {x:DataW H×List MemPlace} (hf:DataW.trod enc Tryz.prog w base spare held fuel 3 cs=some x):∃ n,cs=[.int .i64 n]/\i64ok n:=by
 obtain⟨a,ea,_,wa⟩:=DataW.trod_int Tryz.underlying3 hf
 have:=bounds_i64 wa
 exact⟨a,ea,by show i64ok a;unfold i64ok;omega⟩
end
end
def unsubB (B:Brk) (c:Int) (n:Nat):Brk×Idn×Int:=callB B c (askT B.txns (subE B 3 c n []))
section
open Go Go.RowKit Go.Shelf
attribute [local go_sem] Oper.semAt_some
end
section
open Go Go.RowKit Go.Shelf
attribute [local go_sem] Oper.semAt_some
end
theorem BUnsub1_calls {M:Nat->Prop} {p:BrW} {B:Brk} {w:World} (h:BrV M p B w) (hG:GoodB B) (c:Int) (hc:i64ok c) (n:Nat) (hn:n<18446744073709551616) (gb gc gn:Nat) (hgb:Blk w gb 28 #[.pointer (some ⟨p.g,0,none⟩)]) (hgc:Blk w gc 3 #[.int .i64 c]) (hgn:Blk w gn 33 #[.int .u64 (n:Int)]) :
 Calls Tryz.prog 55 #[idv (newB B),.pointer (some ⟨gb,0,none⟩),.pointer (some ⟨gc,0,none⟩),.pointer (some ⟨gn,0,none⟩)] w fun e w'=>∃ v',e=.returned (.tuple #[v',.int .i64 (askT B.txns (subE B 3 c n [])).2])/\OwnL w.heap.size w.heap.size 121 txS (askT B.txns (subE B 3 c n [])).1 v' w'/\K w w':=by
 have hnew:=hG.new
 have hfit:fitEn (subE B 3 c n []):=⟨by simp[subE,i64ok],hnew.1,hc,hnew.2.1,hnew.2.2,hn,by simp[subE],by simp[subE]⟩
 have C1:=Lib.hid fun W (k:K w W)=>Ask_calls B.txns (subE B 3 c n []) p.vt (.agg (entA (subE B 3 c n []) (.slice none 0 0) (.slice none 0 0))) W (h.dat.at k).txns ⟨_,_,rfl,⟨none,0,rfl,Reads.nil _ _ _ _⟩,lst_nil _ _⟩ hfit (by simp[smallEn,subE]) hG.tx.small hG.tx.len6
 have q:=h.q
 have qb:=hgb.cells
 have qc:=hgc.cells
 have qn:=hgn.cells
 skip
 have hs1:=lst_slice h.dat.now.txns
 simp only[subE] at C1
 have HN:Hid (newB B=(B.me,B.st.life,B.calls+1)):=Lib.hid rfl
 obtain⟨n1,hn1⟩:∃ n,n=B.calls+1:=⟨_,rfl⟩
 rw[<- hn1] at C1 HN
 rw[HN.out]
 generalize hR:askT B.txns (subE B 3 c n [])=R at *
 simp only[subE] at hR
 rw[<- hn1] at hR
 rw[hR] at C1
 clear hn1 hR HN
 have k1:K w (w.alloc (.cells #[.int .i64 B.me,.int .u64 (B.st.life:Int),.int .u64 (n1:Int)] 35)):=(K.rf w).al _
 have hb:=Blk.new w 35 #[.int .i64 B.me,.int .u64 (B.st.life:Int),.int .u64 (n1:Int)]
 obtain⟨g,gl,gd,gr,gt,vd,vr,vp,vh,vl,vq,va,vt,vf,vw,kr⟩:=p
 simp only at q C1 hs1 qb
 obtain⟨At,ct,rfl⟩:=hs1
 obtain⟨rl,rc⟩:=R
 clear h hG hgb hgc hgn hfit
 go_enter Tryz.func55,Tryz.ntmps55
 go_upto_region 1 with (fail)
 generalize w.alloc _=w1 at *
 obtain⟨lo,hlo⟩:∃ lo,Hid (lo=w.heap.size):=⟨_,Lib.hid rfl⟩
 generalize w.heap.size=ga at hb ⊢
 have qa:=hb.cells
 have q1:=fun W (k:K w1 W)=>q W (k1.tr k)
 have qb1:=fun W (k:K w1 W)=>qb W (k1.tr k)
 have qc1:=fun W (k:K w1 W)=>qc W (k1.tr k)
 have qn1:=fun W (k:K w1 W)=>qn W (k1.tr k)
 skip
 clear q qb qc qn hb
 refine wp_region_auto 11 [([],[]),([0],[(7,0)]),([1],[(8,1)]),([2],[(9,2)]),([],[]),([],[]),([],[]),([4,5,6],[(11,4),(12,5),(13,6)]),([3,7],[(10,3),(14,7)]),([8],[(15,8)]),([8],[(15,8)]),([0,1,2,3,4,5,6,7,8,9,10],[(16,9)]),([0,1,2,3,4,5,6,7,8,9,10,11],[(17,10)])] 18 rfl (by kernel_rfl) (by kernel_rfl) (by kernel_rfl) (by kernel_rfl) (by decide) ?_
 simp only[List.take_succ_cons,List.take_zero,List.drop_succ_cons,List.drop_zero]
 iterate 8 (apply AutoQ.is;intro V W kW hp;(try simp only[List.forall_mem_cons,List.nil_append,List.cons_append,tab_zero,tab_succ,isV] at hp);simp[wantsG,rhoP,List.lookup,hp,ResG,execOp,bareOp,isV,Below.refl,kW,q1,qa,qb1,qc1,qn1,go_sem];rfl)
 refine AutoQ.op (fun v W=>∃ v',v=.tuple #[v',.int .i64 rc]/\OwnL lo lo 121 txS rl v' W) (fun _ _ _ ⟨v',e,h⟩ k=>⟨v',e,h.st k⟩) (fun V W kW hp=>?_) ?_
 · (try simp only[List.forall_mem_cons,List.nil_append,List.cons_append,tab_zero,tab_succ,isV] at hp)
   simp[wantsG,rhoP,List.lookup,hp,ResG,execOp,bareOp,q1,qa,qb1,qc1,qn1,go_sem]
   refine (C1.out W (k1.tr kW)).mono ?_
   rintro e w4 ⟨v4,rfl,hO,k4⟩
   exact⟨_,rfl,⟨_,rfl,OwnL.low (OwnL.floor hO (by rw[hlo.out];exact (k1.tr kW).size)) (by rw[hlo.out];exact (k1.tr kW).size)⟩,k4⟩
 refine AutoQ.op (fun v W=>OwnL lo lo 121 txS rl v W) (fun _ _ _ h k=>h.st k) (fun V W kW hp=>?_) ?_
 · simp only[List.forall_mem_cons,List.nil_append,List.cons_append,tab_zero,tab_succ,isV] at hp
   obtain⟨⟨v',e,hO⟩,-⟩:=hp
   simp[wantsG,rhoP,List.lookup,e,ResG,execOp,bareOp,Below.refl,go_sem]
   exact hO
 refine AutoQ.is (.int .i64 rc) (fun V W kW hp=>?_) ?_
 · simp only[List.forall_mem_cons,List.nil_append,List.cons_append,tab_zero,tab_succ,isV] at hp
   obtain⟨⟨v',e,hO⟩,-⟩:=hp
   simp[wantsG,rhoP,List.lookup,e,ResG,execOp,bareOp,isV,Below.refl,go_sem]
 intro V W kW hA
 simp only[List.nil_append,List.cons_append,AllT,isV,Nat.reduceAdd] at hA
 obtain⟨e0,e1,e2,e3,e4,e5,e6,e7,⟨v',ev,hO1⟩,hO,ec,-⟩:=hA
 have kF:=k1.tr kW
 generalize hv7:V 9=v7 at *
 have hsl:=lst_slice hO.lst
 obtain⟨A7,c7,rfl⟩:=hsl
 apply TailQ.pure
 rfl
 simp[rhoP,List.lookup,updV,hv7,execOp,bareOp,go_sem]
 rfl
 apply TailQ.pure
 rfl
 simp[rhoP,List.lookup,updV,ec,execOp,bareOp,go_sem]
 rfl
 refine TailQ.nil ?_
 simp only[putAll,Act.put,List.setIfInBounds_toArray,List.set_cons_succ,List.set_cons_zero,Nat.reduceAdd,updV]
 have HO:=Lib.hid hO
 clear hO hO1 C1 q1 qa qb1 qc1 qn1 hv7 e0 e1 e2 e3 e4 e5 e6 e7 ev ec
 go_wp2
 go_ret2
 exact⟨_,rfl,by rw[<- hlo.out];exact HO.out,kF⟩
section
variable {M:Nat->Prop} {p:BrW} {B B':Brk} {w w1 w2 w3:World} {g9:Nat}
end
theorem BUnsub_calls {M:Nat->Prop} {p:BrW} {B:Brk} {w:World} (h:BrV M p B w) (hG:GoodB B) (c:Int) (hc:i64ok c) (n:Nat) (hn:n<18446744073709551616) :
 Calls Tryz.prog 20 #[.pointer (some ⟨p.g,0,none⟩),.int .i64 c,.int .u64 (n:Int)] w fun e w'=>e=.returned (.tuple #[idv (unsubB B c n).2.1,.int .i64 (unsubB B c n).2.2])/\BrN M p (unsubB B c n).1 w w':=by
 have HX:=Lib.hid fun k hk=>h.low k (h.sub k hk)
 have HM:=Lib.hid h.low
 have hb1:=((((Blk.new w 28 #[.pointer (some ⟨p.g,0,none⟩)]).alloc (.cells #[.int .i64 c] 3)).alloc (.cells #[.int .u64 (n:Int)] 33)).alloc (.cells #[.int .i64 0,.int .u64 0,.int .u64 0] 35))
 have hb2:=(((Blk.new (w.alloc (.cells #[.pointer (some ⟨p.g,0,none⟩)] 28)) 3 #[.int .i64 c]).alloc (.cells #[.int .u64 (n:Int)] 33)).alloc (.cells #[.int .i64 0,.int .u64 0,.int .u64 0] 35))
 have hb3:=((Blk.new ((w.alloc (.cells #[.pointer (some ⟨p.g,0,none⟩)] 28)).alloc (.cells #[.int .i64 c] 3)) 33 #[.int .u64 (n:Int)]).alloc (.cells #[.int .i64 0,.int .u64 0,.int .u64 0] 35))
 have hr:=Blk.new (((w.alloc (.cells #[.pointer (some ⟨p.g,0,none⟩)] 28)).alloc (.cells #[.int .i64 c] 3)).alloc (.cells #[.int .u64 (n:Int)] 33)) 35 #[.int .i64 0,.int .u64 0,.int .u64 0]
 have k1:K w ((((w.alloc (.cells #[.pointer (some ⟨p.g,0,none⟩)] 28)).alloc (.cells #[.int .i64 c] 3)).alloc (.cells #[.int .u64 (n:Int)] 33)).alloc (.cells #[.int .i64 0,.int .u64 0,.int .u64 0] 35)):=(((((K.rf w).al _).al _).al _).al _)
 simp only[World.size_alloc] at hb2 hb3 hr
 generalize hg9:w.heap.size+1+1+1=g9 at hr
 have h9:w.heap.size<=g9:=by omega
 have H9:=h.scr k1 h9 hr.lt
 have C1:=Lib.hid (BCall_calls H9 hG c 55 #[.pointer (some ⟨w.heap.size,0,none⟩),.pointer (some ⟨w.heap.size+1,0,none⟩),.pointer (some ⟨w.heap.size+1+1,0,none⟩)] (askT B.txns (subE B 3 c n [])) (fun args W=>by rfl) (fun W kW=>BUnsub1_calls (H9.st kW) hG c hc n hn _ _ _ (hb1.below kW hb1.lt) (hb2.below kW hb2.lt) (hb3.below kW hb3.lt)))
 have HMD:Hid (unsubB B c n=callB B c (askT B.txns (subE B 3 c n []))):=Lib.hid rfl
 generalize unsubB B c n=R at *
 generalize callB B c (askT B.txns (subE B 3 c n []))=RR at *
 obtain⟨B',nid,ec⟩:=RR
 have HS:=Lib.hid fun w2 w3 (hN:BrN (fun k=>M k∨k=g9) p B' _ w2) (u:UpN (fun k=>k=g9) w2 w3)=>hN.scratch u k1 h9 hr.lt HX.out HM.out
 have HR:=Lib.hid fun w2 (hN:BrN (fun k=>M k∨k=g9) p B' _ w2)=>hN.keeps hr fun hx=>by have:=HX.out _ hx;omega
 have q1:=hb1.cell
 have q2:=hb2.cell
 have q3:=hb3.cell
 have HG9:=Lib.hid hg9
 clear h hG hr H9 hc h9 hb1 hb2 hb3
 go_enter Tryz.func20,Tryz.ntmps20
 go_upto_region 1 with (fail)
 generalize World.alloc (World.alloc (World.alloc (World.alloc w _) _) _) _=w1 at *
 clear hg9
 go_wp2_with fail
 refine C1.out.mono ?_
 rintro e w2 ⟨rfl,hN⟩
 have hr2:=HR.out _ hN
 have HS2:=Lib.hid (HS.out _ · hN)
 have qr:=hr2.cell
 have zr:=hr2.frozen
 clear C1 HS HR hN q1 q2 q3
 go_wp2
 have hr91:Blk (World.setCell (World.setCell (World.setCell w2 _ _) _ _) _ _) g9 35 #[.int .i64 nid.1,.int .u64 (nid.2.1:Int),.int .u64 (nid.2.2:Int)]:=((hr2.set_ 0 (.int .i64 nid.1)).set_ 1 (.int .u64 (nid.2.1:Int))).set_ 2 (.int .u64 (nid.2.2:Int))
 have HF:=Lib.hid (HS2.out _ (((UpN.set1 (X:=fun k=>k=g9) rfl 0 (.int .i64 nid.1)).tr (UpN.set1 (X:=fun k=>k=g9) rfl 1 (.int .u64 (nid.2.1:Int)))).tr (UpN.set1 (X:=fun k=>k=g9) rfl 2 (.int .u64 (nid.2.2:Int)))))
 clear qr zr hr2 HS2
 generalize World.setCell (World.setCell (World.setCell w2 _ _) _ _) _ _=W9 at *
 have e9:=hr91.cell
 try rw[Exit.noGoto_ret]
 refine bodyPost_ret (v:=.tuple #[idv nid,.int .i64 ec]) (by simp[results,Tryz.results20,go_sem,e9]) rfl ?_
 exact⟨by rw[HMD.out],by rw[HMD.out];exact HF.out⟩
