/-
  What is known of a law's argument that can be read as data, by its type. Conditions: none.
-/
import Derived.Test.YtagfakjifhdpgaaGreatMa33
set_option maxRecDepth 100000
set_option maxHeartbeats 16000000
set_option linter.unusedVariables false
set_option linter.unusedSimpArgs false
namespace Go.Proofs.YtagfakjifhdpgaaGreat
open Go Go.RowKit
section
open Go Go.RowKit Go.ChangeShapes Go.WideShapes Go.ChangeAt
open Go.ChangeMaps (open_string shut_string)
set_option linter.unusedVariables false
abbrev valc (x:Int×Int×ByteArray):List Value:=[.int .i64 x.1,.int .i64 x.2.1,.string x.2.2]
section
variable {H:Type} {enc:TypeId×Value->H} {w:World} {base:Nat} {r:Reach} {b0:Nat} {spare:Nat->Bool} {held:Bool} {v:Value} {d:DataW H} {p:List MemPlace}
theorem val_cells {cs:List Value} {fuel:Nat} {x:DataW H×List MemPlace} (h:DataW.trod enc Tryz.prog w base spare held fuel 85 cs=some x):∃ y,cs=valc y/\i64ok y.1/\i64ok y.2.1:=by
 obtain⟨xs,n,_,_,hlen,hxl,hf⟩:=DataW.trod_struct Tryz.underlying85 h
 have hC:Tryz.prog.cellsOf 85=3:=by kernel_rfl
 rw[hC] at hlen
 match cs,hlen with
 | [c0,c1,c2],_ =>
   have h0:=hf 0 _ rfl
   have h1:=hf 1 _ rfl
   have h2:=hf 2 _ rfl
   have e1:Tryz.prog.cellsOf 3=1:=by kernel_rfl
   have e2:Tryz.prog.cellsOf 2=1:=by kernel_rfl
   have e3:Tryz.prog.cellsOf 9=1:=by kernel_rfl
   simp[e1,e2,e3] at h0 h1 h2
   have hxl':xs.length=3:=hxl
   rw[List.getElem?_eq_getElem (by omega)] at h0 h1 h2
   obtain⟨a,ea,_,wa⟩:=DataW.trod_int Tryz.underlying3 h0
   obtain⟨b,eb,_,wb⟩:=DataW.trod_int Tryz.underlying2 h1
   obtain⟨s,es,_,_⟩:=DataW.trod_string Tryz.underlying9 h2
   simp at ea eb es
   subst ea eb es
   have h3:=bounds_i64 wa
   have h4:=bounds_i64 wb
   exact⟨(a,b,s),rfl,(by show i64ok a;unfold i64ok;omega),(by show i64ok b;unfold i64ok;omega)⟩
theorem list_of_cells {α:Type} (f:α->List Value) (Ok:α->Prop):∀ css:List (List Value),(∀ cs∈css,∃ y,cs=f y/\Ok y)->∃ l:List α,l.length=css.length/\css=l.map f/\∀ y∈l,Ok y
 | [],_=>⟨[],rfl,rfl,by simp⟩
 | c :: css,h=>by
   obtain⟨y,rfl,hy⟩:=h c (by simp)
   obtain⟨l,h1,h2,h3⟩:=list_of_cells f Ok css fun cs hcs=>h cs (by simp[hcs])
   refine⟨y :: l,by simp[h1],by simp[h2],?_⟩
   intro z hz
   rcases List.mem_cons.1 hz with rfl|hz
   · exact hy
   · exact h3 z hz
end
end
section
open Go Go.RowKit Go.ChangeShapes Go.WideShapes Go.ChangeAt
open Go.ChangeMaps (open_string shut_string)
section
variable {H:Type} {enc:TypeId×Value->H} {w:World} {base:Nat} {r:Reach} {b0:Nat} {spare:Nat->Bool} {held:Bool} {v:Value} {d:DataW H} {p:List MemPlace}
theorem att_cells {cs:List Value} {fuel:Nat} {x:DataW H×List MemPlace} (h:DataW.trod enc Tryz.prog w base spare held fuel 90 cs=some x):∃ y:Att,cs=attc y/\i64ok y.2.1/\i64ok y.2.2.1:=by
 obtain⟨xs,n,_,_,hlen,hxl,hf⟩:=DataW.trod_struct Tryz.underlying90 h
 have hC:Tryz.prog.cellsOf 90=4:=by kernel_rfl
 rw[hC] at hlen
 match cs,hlen with
 | [c0,c1,c2,c3],_ =>
   have h0:=hf 0 _ rfl
   have h1:=hf 1 _ rfl
   have e1:Tryz.prog.cellsOf 9=1:=by kernel_rfl
   have e2:Tryz.prog.cellsOf 85=3:=by kernel_rfl
   simp[e1,e2] at h0 h1
   have hxl':xs.length=2:=hxl
   rw[List.getElem?_eq_getElem (by omega)] at h0 h1
   obtain⟨s,es,_,_⟩:=DataW.trod_string Tryz.underlying9 h0
   obtain⟨y,ey,w1,w2⟩:=val_cells h1
   simp at es ey
   obtain⟨rfl,rfl,rfl⟩:=ey
   subst es
   exact⟨(s,y),rfl,w1,w2⟩
end
end
theorem run_att_eq (x y:Att) (w:World) (d:Nat):(Op.equalIn (d+1+1+1) 90 (.agg #[.string x.1,.int .i64 x.2.1,.int .i64 x.2.2.1,.string x.2.2.2]) (.agg #[.string y.1,.int .i64 y.2.1,.int .i64 y.2.2.1,.string y.2.2.2])).run Tryz.prog w=.ok (decide (x=y)) w:=by
 obtain⟨a,k,n,s⟩:=x
 obtain⟨a',k',n',s'⟩:=y
 simp[go_sem,toList_iff]
 by_cases h0:a=a' <;> by_cases h1:k=k' <;> by_cases h2:n=n' <;> by_cases h3:s=s' <;> simp[h0,h1,h2,h3]
theorem neq_att (x y:Att) (w:World):(binOp .neq 90 (.agg #[.string x.1,.int .i64 x.2.1,.int .i64 x.2.2.1,.string x.2.2.2]) (.agg #[.string y.1,.int .i64 y.2.1,.int .i64 y.2.2.1,.string y.2.2.2])).run Tryz.prog w=.ok (.bool (!decide (x=y))) w:=by
 rw[run_neq_struct,run_att_eq x y w 9997];rfl
section
open Go Go.RowKit Go.ChangeShapes Go.WideShapes Go.ChangeAt
section
variable {H:Type} {enc:TypeId×Value->H} {w:World} {base:Nat} {r:Reach} {b0:Nat} {spare:Nat->Bool} {held:Bool} {v:Value} {d:DataW H} {p:List MemPlace} {α:Type}
theorem reads_of_cells {T E:TypeId} (hT:Tryz.prog.underlying T=some (.slice E)) (C:Nat) (hC:Tryz.prog.cellsOf E=C) (Rep:List Value->Prop)
 (hE:∀ (fuel:Nat) (cs:List Value) (x:DataW H×List MemPlace),cs.length=C->DataW.trod enc Tryz.prog w base spare held fuel E cs=some x->Rep cs)
 {fuel:Nat} {cs:List Value} {x:DataW H×List MemPlace} (hf:DataW.trod enc Tryz.prog w base spare held fuel T cs=some x) :
 ∃ (A:Option Addr) (n c:Nat) (css:List (List Value)),cs=[.slice A n c]/\css.length=n/\n<=c/\c<=maxLen/\(∀ cs∈css,cs.length=C/\Rep cs)/\(0<C->Reads w w.heap.size C A n css.flatten):=by
 rcases Go.Deep.open_slice hT hf with ⟨hcs,_⟩|⟨a,len,cap,m,n,D,Pl,hcs,hb,hl,hm,hmm,hx,hi⟩
 · exact⟨none,0,0,[],hcs,rfl,by simp,by simp,by simp,fun _=>Reads.nil _ _ _ _⟩
 · have hlm:len<=m:=by rw[hmm];split <;> omega
   have hex:∀ i,i<len->∃ cs,cs.length=C/\Rep cs/\∀ j,j<C->w.cell? (a.add (i * C+j))=cs[j]?:=by
    intro i hil
    obtain⟨cs',hc,ht⟩:=hi i (by omega)
    rw[hC] at hc
    obtain⟨_,hcl,hat⟩:=World.cells?_some hc
    refine⟨cs',hcl,hE _ _ _ hcl ht,fun j hj=>?_⟩
    rw[<- Go.Deep.add_add]
    exact hat j hj
   have key:∀ k,k<=len->∃ css:List (List Value),css.length=k/\(∀ cs∈css,cs.length=C/\Rep cs)/\∀ i j,i<k->j<C->w.cell? (a.add (i * C+j))=(css[i]?.getD [])[j]?:=by
    intro k
    induction k with
    | zero=>intro _;exact⟨[],rfl,by simp,by simp⟩
    | succ k ih =>
      intro hk
      obtain⟨css,h1,h2,h3⟩:=ih (by omega)
      obtain⟨cs,h4,h5,h6⟩:=hex k (by omega)
      refine⟨css++[cs],by simp[h1],?_,fun i j hik hj=>?_⟩
      · intro x hx
        rcases List.mem_append.1 hx with hx|hx
        · exact h2 x hx
        · simp at hx;subst hx;exact⟨h4,h5⟩
      · by_cases hik':i<k
        · rw[h3 i j hik' hj,List.getElem?_append_left (by omega)]
        · obtain rfl:i=k:=by omega
          rw[h6 j hj,List.getElem?_append_right (by omega),h1]
          simp
   obtain⟨css,h1,h2,h3⟩:=key len (Nat.le_refl _)
   refine⟨some a,len,cap,css,hcs,h1,hl,hm,h2,fun hC0=>?_⟩
   have hfl:css.flatten.length=len * C:=by rw[<- h1];exact flatten_len C css fun cs hcs=>(h2 cs hcs).1
   have hfg:∀ i j,i<len->j<C->css.flatten[i * C+j]?=(css[i]?.getD [])[j]?:=fun i j hi' hj=>flatten_at C css (fun cs hcs=>(h2 cs hcs).1) i j (by omega) hj
   refine⟨hfl,fun h0=>?_⟩
   rw[hfl] at h0
   have hl0:0<len:=Nat.pos_of_mul_pos_right h0
   have hcell:∀ q,q<len * C->w.cell? (a.add q)=css.flatten[q]?:=by
    intro q hq
    have e:q=q / C * C+q % C:=by rw[Nat.mul_comm];exact (Nat.div_add_mod q C).symm
    have hq1:q / C<len:=Nat.div_lt_of_lt_mul (by rwa [Nat.mul_comm] at hq)
    have hq2:q % C<C:=Nat.mod_lt _ hC0
    rw[e,h3 _ _ hq1 hq2,hfg _ _ hq1 hq2]
   have h00:=hcell 0 h0
   have hsome:∃ u,css.flatten[0]?=some u:=⟨css.flatten[0]'(by omega),List.getElem?_eq_getElem (by omega)⟩
   obtain⟨u,hu⟩:=hsome
   rw[hu] at h00
   obtain⟨b,off,spot⟩:=a
   have hs:spot=none:=by simpa [Addr.add] using World.cell?_spot h00
   subst hs
   refine⟨b,off,rfl,?_,fun j u hju=>?_⟩
   · have:=World.block_lt_of_cell? w _ h00
     simpa [Addr.add] using this
   · have hj:j<len * C:=by
      have:=(List.getElem?_eq_some_iff.1 hju).1
      omega
     have:=hcell j hj
     rw[Addr.add_lit] at this
     rw[this,hju]
theorem lst_cells {T E:TypeId} (hT:Tryz.prog.underlying T=some (.slice E)) (S:Shp α) (Ok:α->Prop) (hC:Tryz.prog.cellsOf E=S.size) (h0:0<S.size)
 (hE:∀ (fuel:Nat) (cs:List Value) (x:DataW H×List MemPlace),cs.length=S.size->DataW.trod enc Tryz.prog w base spare held fuel E cs=some x->∃ y,S.rel y cs w/\Ok y)
 {fuel:Nat} {cs:List Value} {x:DataW H×List MemPlace} (hf:DataW.trod enc Tryz.prog w base spare held fuel T cs=some x):∃ v l,cs=[v]/\lst S l v w/\∀ y∈l,Ok y:=by
 obtain⟨A,n,c,css,rfl,h1,h2,_,h4,h5⟩:=reads_of_cells hT S.size hC (fun cs=>∃ y,S.rel y cs w/\Ok y) hE hf
 have key:∀ css:List (List Value),(∀ cs∈css,∃ y,S.rel y cs w/\Ok y)->∃ l,Each S l css w/\∀ y∈l,Ok y:=by
  intro css
  induction css with
  | nil=>intro _;exact⟨[],Each.nil _ _,by simp⟩
  | cons cs css ih =>
    intro h
    obtain⟨y,hy,ho⟩:=h cs (by simp)
    obtain⟨l,hl,hol⟩:=ih fun c hc=>h c (by simp[hc])
    refine⟨[y]++l,(Each.one hy).append hl,?_⟩
    intro z hz
    simp at hz
    rcases hz with rfl|hz
    · exact ho
    · exact hol z hz
 obtain⟨l,hl,hol⟩:=key css fun cs hcs=>(h4 cs hcs).2
 have hn:l.length=n:=by rw[<- h1];exact hl.1.symm
 subst hn
 exact⟨_,l,rfl,⟨A,c,rfl,⟨css,hl,h5 h0⟩,h2⟩,hol⟩
theorem ev_cells {fuel:Nat} {cs:List Value} {x:DataW H×List MemPlace} (hf:DataW.trod enc Tryz.prog w base spare held fuel 45 cs=some x):∃ l,evS.rel l cs w/\∀ a∈l,fitA a:=by
 obtain⟨A,n,c,css,rfl,h1,h2,h3,h4,h5⟩:=reads_of_cells Tryz.underlying45 4 (by kernel_rfl) (fun cs=>∃ y:Att,cs=attc y/\i64ok y.2.1/\i64ok y.2.2.1) (fun _ _ _ _ ht=>att_cells ht) hf
 obtain⟨l,h6,h7,h8⟩:=list_of_cells attc (fun y:Att=>i64ok y.2.1/\i64ok y.2.2.1) css fun cs hcs=>(h4 cs hcs).2
 have h9:=h5 (by decide)
 subst h1
 rw[<- h6] at h9 ⊢
 refine⟨l,⟨_,rfl,A,c,rfl,?_⟩,h8⟩
 rw[h7] at h9
 rwa [List.flatMap_def]
end
end
theorem take_eq_succ {α:Type} (a b:List α) (k:Nat) (ha:k<a.length) (hb:k<b.length) (h:a.take k=b.take k):(a.take (k+1)=b.take (k+1)) ↔ a[k]=b[k]:=by
 rw[List.take_succ_eq_append_getElem ha,List.take_succ_eq_append_getElem hb,h]
 constructor
 · intro e
   have:=List.append_cancel_left e
   simpa using this
 · intro e;rw[e]
theorem Same_calls (A D:Option Addr) (c d:Nat) (la lb:List Att) (w:World) (B B':Nat) (hR:Reads w B 4 A la.length (la.flatMap attc)) (hB:B<=w.heap.size) (hS:Reads w B' 4 D lb.length (lb.flatMap attc)) (hB':B'<=w.heap.size) (hlen:la.length<=1000000) :
 Calls Tryz.prog 112 #[.slice A la.length c,.slice D lb.length d] w fun e w'=>e=.returned (.bool (decide (la=lb)))/\Below w.heap.size w w':=by
 have HA:=Lib.hid hR
 have HD:=Lib.hid hS
 clear hR hS
 by_cases hl:la.length=lb.length
 rotate_left
 · have hb1:((la.length:Int) != (lb.length:Int))=true:=by rw[bne_iff_ne];omega
   have HE:Hid (decide (la=lb)=false):=Lib.hid (by simp;rintro rfl;exact hl rfl)
   clear hl
   go_enter Tryz.func112,Tryz.ntmps112
   go_wp2
   go_ret
   exact⟨by rw[HE.out];rfl,Below.refl _ _⟩
 have hb1:((la.length:Int) != (lb.length:Int))=false:=by rw[bne_eq_false_iff_eq];omega
 have HL:=Lib.hid hl
 have hl1:la.length<=lb.length:=by omega
 clear hl
 go_enter Tryz.func112,Tryz.ntmps112
 go_wp2_with fail
 go_loopw [5] (fun i wr=>∃ k:Nat,k<=la.length/\i=.int .i64 (k:Int)/\Hid (la.take k=lb.take k)/\Below w.heap.size w wr) (fun i _=>la.length - (intOf i).toNat)
 case atStart=>exact⟨0,by omega,rfl,Lib.hid (by simp),Below.refl _ _⟩
 case round =>
  obtain⟨k,hk,rfl,hall,hb⟩:=hrel
  by_cases hlt:k<la.length
  · have hki:(k:Int)<(la.length:Int):=by omega
    have hlt2:k<lb.length:=by omega
    have hki2:(k:Int)<(lb.length:Int):=by omega
    have hki0:(0:Int)<=(k:Int):=by omega
    obtain⟨b,off,rfl,hbB,hcell⟩:=HA.out.atts (by omega)
    obtain⟨e,eo,rfl,heB,hcelle⟩:=HD.out.atts (by omega)
    have hbw:b<w.heap.size:=Nat.lt_of_lt_of_le hbB hB
    have hew:e<w.heap.size:=Nat.lt_of_lt_of_le heB hB'
    obtain⟨e0,e1,e2,e3⟩:=hcell k hlt
    obtain⟨f0,f1,f2,f3⟩:=hcelle k hlt2
    have a0:=(hb.cell (p:=⟨b,off+k * 4,none⟩) hbw).trans e0
    have a1:=(hb.cell (p:=⟨b,off+k * 4+1,none⟩) hbw).trans e1
    have a2:=(hb.cell (p:=⟨b,off+k * 4+2,none⟩) hbw).trans e2
    have a3:=(hb.cell (p:=⟨b,off+k * 4+3,none⟩) hbw).trans e3
    have d0:=(hb.cell (p:=⟨e,eo+k * 4,none⟩) hew).trans f0
    have d1:=(hb.cell (p:=⟨e,eo+k * 4+1,none⟩) hew).trans f1
    have d2:=(hb.cell (p:=⟨e,eo+k * 4+2,none⟩) hew).trans f2
    have d3:=(hb.cell (p:=⟨e,eo+k * 4+3,none⟩) hew).trans f3
    have hT:=Lib.hid (take_eq_succ la lb k hlt hlt2 hall.out)
    have HF:Hid (la[k]≠lb[k]->decide (la=lb)=false):=Lib.hid fun h=>by
     simp;rintro rfl;exact h rfl
    clear e0 e1 e2 e3 f0 f1 f2 f3 hcell hcelle
    generalize la[k]=x at *
    generalize lb[k]=y at *
    have hne:=neq_att x y
    obtain⟨xs,xk,xn,xt⟩:=x
    obtain⟨ys,yk,yn,yt⟩:=y
    simp only at a0 a1 a2 a3 d0 d1 d2 d3 hne
    generalize hq:decide ((xs,xk,xn,xt)=(ys,yk,yn,yt))=q at *
    have HQ:=Lib.hid hq
    have HNE:=Lib.hid hne
    clear hq hne
    go_wp2_with fail
    obtain⟨C,hC⟩:∃ C:World->Prop,C=fun W=>Below wr.heap.size wr W:=⟨_,rfl⟩
    have hg:∀ W W',C W->Below W.heap.size W W'->C W':=by
     subst hC
     exact fun W W' h1 hb=>h1.trans (hb.mono h1.size)
    have hc0:C wr:=by rw[hC];exact Below.refl _ _
    have hz:=hb.size
    refine wp_region_grow C [isV (.slice (some ⟨b,off,none⟩) la.length c),isV (.int .i64 (k:Int)),isV (.pointer (some ⟨b,off+k * 4,none⟩)),isV (attv (xs,xk,xn,xt)),isV (.slice (some ⟨e,eo,none⟩) lb.length d),isV (.int .i64 (k:Int)),isV (.pointer (some ⟨e,eo+k * 4,none⟩)),isV (attv (ys,yk,yn,yt)),isV (.bool (!q))]
     [([],[]),([],[]),([0,1],[(17,0),(18,1)]),([2],[(19,2)]),([],[]),([],[]),([4,5],[(21,4),(22,5)]),([6],[(23,6)]),([3,7],[(20,3),(24,7)])] 26 rfl (by kernel_rfl) (by kernel_rfl) (by kernel_rfl) hg (by exact hg _ _ hc0 (Below.drew (Below.refl _ _))) ?st ?ow ?_
    case st =>
     simp only[List.forall_mem_cons]
     and_intros
     all_goals first|exact isV_st _|simp
    case ow =>
     simp only[OwedQ]
     and_intros
     all_goals try trivial
     all_goals
      intro V w' hc hp
      rw[hC] at hc
      have hcl:=fun p h=>hc.cell (p:=p) h
      have c0:=(hc.cell (p:=⟨b,off+k * 4,none⟩) (by simp;omega)).trans a0
      have c1:=(hc.cell (p:=⟨b,off+k * 4+1,none⟩) (by simp;omega)).trans a1
      have c2:=(hc.cell (p:=⟨b,off+k * 4+2,none⟩) (by simp;omega)).trans a2
      have c3:=(hc.cell (p:=⟨b,off+k * 4+3,none⟩) (by simp;omega)).trans a3
      have g0:=(hc.cell (p:=⟨e,eo+k * 4,none⟩) (by simp;omega)).trans d0
      have g1:=(hc.cell (p:=⟨e,eo+k * 4+1,none⟩) (by simp;omega)).trans d1
      have g2:=(hc.cell (p:=⟨e,eo+k * 4+2,none⟩) (by simp;omega)).trans d2
      have g3:=(hc.cell (p:=⟨e,eo+k * 4+3,none⟩) (by simp;omega)).trans d3
      try simp only[List.forall_mem_cons,tab_zero,tab_succ,isV] at hp
      try simp[wantsG,rhoP,List.lookup,hp,tab_zero,tab_succ,ResG,execOp,bareOp,isV,undef,Below.refl,c0,c1,c2,c3,g0,g1,g2,g3,hlt,hlt2,HNE.out,go_sem]
    intro V W hc hp
    have h8:=hp 8 (by simp)
    simp only[tab_zero,tab_succ,isV] at h8
    rw[hC] at hc
    clear hp hg hc0 hC
    simp only[putAll,Act.put,List.setIfInBounds_toArray,List.set_cons_succ,List.set_cons_zero,h8]
    have hbW:=hb.trans (hc.mono hz)
    clear hc hb HNE
    cases q
    · have HE:Hid (decide (la=lb)=false):=Lib.hid (HF.out (by have:=HQ.out;simpa using this))
      go_wp2
      go_ret
      exact⟨by rw[HE.out];rfl,hbW⟩
    · have hr:Hid (la.take (k+1)=lb.take (k+1)):=Lib.hid (hT.out.2 (by have:=HQ.out;simpa using this))
      go_wp2
      go_roundw
      case rel=>exact⟨k+1,by omega,by go_num,hr,hbW⟩
      case measure=>simp[intOf];omega
  · have hki:¬ (k:Int)<(la.length:Int):=by omega
    have HE:Hid (decide (la=lb)=true):=by
     refine Lib.hid ?_
     have h1:=hall.out
     have h2:=HL.out
     rw[List.take_of_length_le (by omega),List.take_of_length_le (by omega)] at h1
     simp[h1]
    go_wp2
    go_ret
    exact⟨by rw[HE.out];rfl,hb⟩
section
variable {l la lb:List Att} {b:List UInt8} {v va vb:Value} {w:World}
theorem Same_evt (h:evt la va w) (k:evt lb vb w) (hlen:la.length<=1000000):Calls Tryz.prog 112 #[va,vb] w fun e w'=>e=.returned (.bool (decide (la=lb)))/\Below w.heap.size w w':=by
 obtain⟨A,c,rfl,hR⟩:=h
 obtain⟨D,d,rfl,hS⟩:=k
 exact Same_calls A D c d la lb w _ _ hR (Nat.le_refl _) hS (Nat.le_refl _) hlen
end
theorem run_tst_eq (x y:Tst) (w:World) (d:Nat):(Op.equalIn (d+1+1+1) 87 (.agg #[.string x.1,.int .i64 x.2.1,.int .i64 x.2.2.1,.int .i64 x.2.2.2.1,.string x.2.2.2.2]) (.agg #[.string y.1,.int .i64 y.2.1,.int .i64 y.2.2.1,.int .i64 y.2.2.2.1,.string y.2.2.2.2])).run Tryz.prog w=.ok (decide (x=y)) w:=by
 obtain⟨a,o,k,n,s⟩:=x
 obtain⟨a',o',k',n',s'⟩:=y
 simp[go_sem,toList_iff]
 by_cases h0:a=a' <;> by_cases h4:o=o' <;> by_cases h1:k=k' <;> by_cases h2:n=n' <;> by_cases h3:s=s' <;> simp[h0,h1,h2,h3,h4]
theorem neq_tst (x y:Tst) (w:World):(binOp .neq 87 (.agg #[.string x.1,.int .i64 x.2.1,.int .i64 x.2.2.1,.int .i64 x.2.2.2.1,.string x.2.2.2.2]) (.agg #[.string y.1,.int .i64 y.2.1,.int .i64 y.2.2.1,.int .i64 y.2.2.2.1,.string y.2.2.2.2])).run Tryz.prog w=.ok (.bool (!decide (x=y))) w:=by
 rw[run_neq_struct,run_tst_eq x y w 9997];rfl
theorem take_eq_succ' {α:Type} (a b:List α) (k:Nat) (ha:k<a.length) (hb:k<b.length) (h:a.take k=b.take k):(a.take (k+1)=b.take (k+1)) ↔ a[k]=b[k]:=by
 rw[List.take_succ_eq_append_getElem ha,List.take_succ_eq_append_getElem hb,h]
 constructor
 · intro e
   have:=List.append_cancel_left e
   simpa using this
 · intro e;rw[e]
theorem FSame_calls (A D:Option Addr) (c d:Nat) (la lb:List Tst) (w:World) (B B':Nat) (hR:Reads w B 5 A la.length (la.flatMap tstc)) (hB:B<=w.heap.size) (hS:Reads w B' 5 D lb.length (lb.flatMap tstc)) (hB':B'<=w.heap.size) (hlen:la.length<=1000000) :
 Calls Tryz.prog 111 #[.slice A la.length c,.slice D lb.length d] w fun e w'=>e=.returned (.bool (decide (la=lb)))/\Below w.heap.size w w':=by
 have HA:=Lib.hid hR
 have HD:=Lib.hid hS
 clear hR hS
 by_cases hl:la.length=lb.length
 rotate_left
 · have hb1:((la.length:Int) != (lb.length:Int))=true:=by rw[bne_iff_ne];omega
   have HE:Hid (decide (la=lb)=false):=Lib.hid (by simp;rintro rfl;exact hl rfl)
   clear hl
   go_enter Tryz.func111,Tryz.ntmps111
   go_wp2
   go_ret
   exact⟨by rw[HE.out];rfl,Below.refl _ _⟩
 have hb1:((la.length:Int) != (lb.length:Int))=false:=by rw[bne_eq_false_iff_eq];omega
 have HL:=Lib.hid hl
 have hl1:la.length<=lb.length:=by omega
 clear hl
 go_enter Tryz.func111,Tryz.ntmps111
 go_wp2_with fail
 go_loopw [5] (fun i wr=>∃ k:Nat,k<=la.length/\i=.int .i64 (k:Int)/\Hid (la.take k=lb.take k)/\Below w.heap.size w wr) (fun i _=>la.length - (intOf i).toNat)
 case atStart=>exact⟨0,by omega,rfl,Lib.hid (by simp),Below.refl _ _⟩
 case round =>
  obtain⟨k,hk,rfl,hall,hb⟩:=hrel
  by_cases hlt:k<la.length
  · have hki:(k:Int)<(la.length:Int):=by omega
    have hlt2:k<lb.length:=by omega
    have hki2:(k:Int)<(lb.length:Int):=by omega
    have hki0:(0:Int)<=(k:Int):=by omega
    obtain⟨b,off,rfl,hbB,hcell⟩:=HA.out.tsts (by omega)
    obtain⟨e,eo,rfl,heB,hcelle⟩:=HD.out.tsts (by omega)
    have hbw:b<w.heap.size:=Nat.lt_of_lt_of_le hbB hB
    have hew:e<w.heap.size:=Nat.lt_of_lt_of_le heB hB'
    obtain⟨e0,e1,e2,e3,e4⟩:=hcell k hlt
    obtain⟨f0,f1,f2,f3,f4⟩:=hcelle k hlt2
    have a0:=(hb.cell (p:=⟨b,off+k * 5,none⟩) hbw).trans e0
    have a1:=(hb.cell (p:=⟨b,off+k * 5+1,none⟩) hbw).trans e1
    have a2:=(hb.cell (p:=⟨b,off+k * 5+2,none⟩) hbw).trans e2
    have a3:=(hb.cell (p:=⟨b,off+k * 5+3,none⟩) hbw).trans e3
    have a4:=(hb.cell (p:=⟨b,off+k * 5+4,none⟩) hbw).trans e4
    have d0:=(hb.cell (p:=⟨e,eo+k * 5,none⟩) hew).trans f0
    have d1:=(hb.cell (p:=⟨e,eo+k * 5+1,none⟩) hew).trans f1
    have d2:=(hb.cell (p:=⟨e,eo+k * 5+2,none⟩) hew).trans f2
    have d3:=(hb.cell (p:=⟨e,eo+k * 5+3,none⟩) hew).trans f3
    have d4:=(hb.cell (p:=⟨e,eo+k * 5+4,none⟩) hew).trans f4
    have hT:=Lib.hid (take_eq_succ' la lb k hlt hlt2 hall.out)
    have HF:Hid (la[k]≠lb[k]->decide (la=lb)=false):=Lib.hid fun h=>by
     simp;rintro rfl;exact h rfl
    clear e0 e1 e2 e3 e4 f0 f1 f2 f3 f4 hcell hcelle
    generalize la[k]=x at *
    generalize lb[k]=y at *
    have hne:=neq_tst x y
    obtain⟨xs,xo,xk,xn,xt⟩:=x
    obtain⟨ys,yo,yk,yn,yt⟩:=y
    simp only at a0 a1 a2 a3 a4 d0 d1 d2 d3 d4 hne
    generalize hq:decide ((xs,xo,xk,xn,xt)=(ys,yo,yk,yn,yt))=q at *
    have HQ:=Lib.hid hq
    have HNE:=Lib.hid hne
    clear hq hne
    go_wp2_with fail
    obtain⟨C,hC⟩:∃ C:World->Prop,C=fun W=>Below wr.heap.size wr W:=⟨_,rfl⟩
    have hg:∀ W W',C W->Below W.heap.size W W'->C W':=by
     subst hC
     exact fun W W' h1 hb=>h1.trans (hb.mono h1.size)
    have hc0:C wr:=by rw[hC];exact Below.refl _ _
    have hz:=hb.size
    refine wp_region_grow C [isV (.slice (some ⟨b,off,none⟩) la.length c),isV (.int .i64 (k:Int)),isV (.pointer (some ⟨b,off+k * 5,none⟩)),isV (tstv (xs,xo,xk,xn,xt)),isV (.slice (some ⟨e,eo,none⟩) lb.length d),isV (.int .i64 (k:Int)),isV (.pointer (some ⟨e,eo+k * 5,none⟩)),isV (tstv (ys,yo,yk,yn,yt)),isV (.bool (!q))]
     [([],[]),([],[]),([0,1],[(17,0),(18,1)]),([2],[(19,2)]),([],[]),([],[]),([4,5],[(21,4),(22,5)]),([6],[(23,6)]),([3,7],[(20,3),(24,7)])] 26 rfl (by kernel_rfl) (by kernel_rfl) (by kernel_rfl) hg (by exact hg _ _ hc0 (Below.drew (Below.refl _ _))) ?st ?ow ?_
    case st =>
     simp only[List.forall_mem_cons]
     and_intros
     all_goals first|exact isV_st _|simp
    case ow =>
     simp only[OwedQ]
     and_intros
     all_goals try trivial
     all_goals
      intro V w' hc hp
      rw[hC] at hc
      have hcl:=fun p h=>hc.cell (p:=p) h
      have c0:=(hc.cell (p:=⟨b,off+k * 5,none⟩) (by simp;omega)).trans a0
      have c1:=(hc.cell (p:=⟨b,off+k * 5+1,none⟩) (by simp;omega)).trans a1
      have c2:=(hc.cell (p:=⟨b,off+k * 5+2,none⟩) (by simp;omega)).trans a2
      have c3:=(hc.cell (p:=⟨b,off+k * 5+3,none⟩) (by simp;omega)).trans a3
      have c4:=(hc.cell (p:=⟨b,off+k * 5+4,none⟩) (by simp;omega)).trans a4
      have g0:=(hc.cell (p:=⟨e,eo+k * 5,none⟩) (by simp;omega)).trans d0
      have g1:=(hc.cell (p:=⟨e,eo+k * 5+1,none⟩) (by simp;omega)).trans d1
      have g2:=(hc.cell (p:=⟨e,eo+k * 5+2,none⟩) (by simp;omega)).trans d2
      have g3:=(hc.cell (p:=⟨e,eo+k * 5+3,none⟩) (by simp;omega)).trans d3
      have g4:=(hc.cell (p:=⟨e,eo+k * 5+4,none⟩) (by simp;omega)).trans d4
      try simp only[List.forall_mem_cons,tab_zero,tab_succ,isV] at hp
      try simp[wantsG,rhoP,List.lookup,hp,tab_zero,tab_succ,ResG,execOp,bareOp,isV,undef,Below.refl,c0,c1,c2,c3,c4,g0,g1,g2,g3,g4,hlt,hlt2,HNE.out,go_sem]
    intro V W hc hp
    have h8:=hp 8 (by simp)
    simp only[tab_zero,tab_succ,isV] at h8
    rw[hC] at hc
    clear hp hg hc0 hC
    simp only[putAll,Act.put,List.setIfInBounds_toArray,List.set_cons_succ,List.set_cons_zero,h8]
    have hbW:=hb.trans (hc.mono hz)
    clear hc hb HNE
    cases q
    · have HE:Hid (decide (la=lb)=false):=Lib.hid (HF.out (by have:=HQ.out;simpa using this))
      go_wp2
      go_ret
      exact⟨by rw[HE.out];rfl,hbW⟩
    · have hr:Hid (la.take (k+1)=lb.take (k+1)):=Lib.hid (hT.out.2 (by have:=HQ.out;simpa using this))
      go_wp2
      go_roundw
      case rel=>exact⟨k+1,by omega,by go_num,hr,hbW⟩
      case measure=>simp[intOf];omega
  · have hki:¬ (k:Int)<(la.length:Int):=by omega
    have HE:Hid (decide (la=lb)=true):=by
     refine Lib.hid ?_
     have h1:=hall.out
     have h2:=HL.out
     rw[List.take_of_length_le (by omega),List.take_of_length_le (by omega)] at h1
     simp[h1]
    go_wp2
    go_ret
    exact⟨by rw[HE.out];rfl,hb⟩
theorem FSame_flt {la lb:List Tst} {va vb:Value} {w:World} (h:flt la va w) (k:flt lb vb w) (hlen:la.length<=1000000):Calls Tryz.prog 111 #[va,vb] w fun e w'=>e=.returned (.bool (decide (la=lb)))/\Below w.heap.size w w':=by
 obtain⟨A,c,rfl,hR⟩:=h
 obtain⟨D,d,rfl,hS⟩:=k
 exact FSame_calls A D c d la lb w _ _ hR (Nat.le_refl _) hS (Nat.le_refl _) hlen
