/-
  A region that draws its order, in which several maps are made: they are not one another. Conditions: none.
-/
import Derived.Test.YtagfakjifhdpgaaGreatMa18
import Derived.RangeFuncKeeps
import Derived.RangeFuncLeaves
import Derived.RangeFuncFrom
import Derived.RangeFuncBox
import Derived.Shelf.Abstract
import Derived.OwnWalkIn
import Derived.TacticsInMore
import Derived.LoopNIn
import Derived.LoopIn
set_option maxRecDepth 100000
set_option maxHeartbeats 16000000
set_option linter.unusedVariables false
set_option linter.unusedSimpArgs false
namespace Go.Proofs.YtagfakjifhdpgaaGreat
open Go Go.RowKit
section
variable {P:Program} {Q:Exit->Act->World->Prop}
def MapOk (P:Program) (a0:Act) (ops:Array Oper) (k:Nat):Prop :=
 ∃ o,ops[k]?=some o/\o.guard=none/\∀ (rd:List (Nat×Nat)) (V:Nat->Value) (W:World),(execOp (rhoP rd a0 V) (bareOp o.op o.type)).run P W=.ok (.value (.map (some W.heap.size))) (W.alloc (.map #[] 0))
def ApartI (ds:List Nat) (L:Nat->Bool) (V:Nat->Value) (W:World):Prop :=
 (∀ i∈ds,L i=true->∃ b,V i=.map (some b)/\b<W.heap.size)/\∀ i∈ds,∀ j∈ds,i≠j->L i=true->L j=true->V i≠V j
theorem ApartI.next {ds:List Nat} {L:Nat->Bool} {V:Nat->Value} {W W':World} {k:Nat} {v:Value} (h:ApartI ds L V W) (hs:W.heap.size<=W'.heap.size) (hf:k∈ds->v=.map (some W.heap.size)/\W.heap.size<W'.heap.size):ApartI ds (upd L k) (updV V k v) W':=by
 refine⟨fun i hi hL=>?_,fun i hi j hj hij hL hM=>?_⟩
 · unfold updV
   by_cases hik:i=k
   · subst hik
     rw[if_pos rfl]
     exact⟨_,hf hi⟩
   · rw[if_neg hik]
     obtain⟨b,h1,h2⟩:=h.1 i hi ((upd_true hL).resolve_left hik)
     exact⟨b,h1,by omega⟩
 · unfold updV
   by_cases hik:i=k
   · subst hik
     have hji:j≠i:=fun e=>hij e.symm
     rw[if_pos rfl,if_neg hji]
     obtain⟨b,h1,h2⟩:=h.1 j hj ((upd_true hM).resolve_left hji)
     rw[h1,(hf hi).1]
     intro e
     injection e with e
     injection e with e
     omega
   · rw[if_neg hik]
     by_cases hjk:j=k
     · subst hjk
       rw[if_pos rfl]
       obtain⟨b,h1,h2⟩:=h.1 i hi ((upd_true hL).resolve_left hik)
       rw[h1,(hf hj).1]
       intro e
       injection e with e
       injection e with e
       omega
     · rw[if_neg hjk]
       exact h.2 i hi j hj hij ((upd_true hL).resolve_left hik) ((upd_true hM).resolve_left hjk)
theorem ApartI.old {ds:List Nat} {L:Nat->Bool} {V:Nat->Value} {W W':World} {k:Nat} {v:Value} (h:ApartI ds L V W) (hk:k ∉ ds) (hs:W.heap.size<=W'.heap.size):ApartI ds (upd L k) (updV V k v) W':=h.next hs fun h=>absurd h hk
theorem wp_region_apart0 {id:Nat} {ops:Array Oper} {a0:Act} {w:World} (fr:List Nat) (cs:Nat->Value) (m:Nat) (pl:List (List Nat×List (Nat×Nat)))
 (n:Nat) (hn:a0.tmps.size=n) (hm:P.follows .mixedOrders=true) (hok:regionOk ops n=true) (hpl:planOk ops pl=true) (htl:tailF fr pl m ops.size=true) (hms:m<=ops.size) (hfr:∀ j∈fr,FreeOk P a0 ops pl fr cs j) (ds:List Nat) (hdm:∀ k∈ds,k<m/\k ∉ fr) (hds:∀ k∈ds,MapOk P a0 ops k)
 (h:AutoQ P a0 w (fun t=>∀ (V:Nat->Value) (W:World),K w W->(∀ i∈ds,∀ j∈ds,i≠j->V i≠V j)->AllT V W 0 t->TailQ P a0 (fun V W=>Q .normal (putAll V ops.toList 0 a0) W) m (ops.toList.drop m) (pl.drop m) V W) (ops.toList.take m) pl []) :
 (Code.region id ops true).wp P Q a0 w:=by
 have hfm:∀ j∈fr,j<m:=by
  simp only[tailF,Bool.and_eq_true] at htl
  intro j hj
  simpa using List.all_eq_true.1 htl.1 j hj
 have hplx:∀ (i:Nat) (o:Oper),ops[i]?=some o->∃ x:List Nat×List (Nat×Nat),pl[i]?=some x/\∀ j∈x.1,j∈ahead o:=by
  intro i o ho
  have h3:=List.all_eq_true.1 hpl (o,i) (List.mem_zipIdx_iff_getElem?.2 (by rw[Array.getElem?_toList];exact ho))
  cases hx:pl[i]? with
  | none=>simp only[hx] at h3;cases h3
  | some x =>
    simp only[hx,Bool.and_eq_true] at h3
    exact⟨x,rfl,fun j hj=>by simpa using List.all_eq_true.1 h3.1.1 j hj⟩
 obtain⟨s,hF,hs,hst,hq⟩:=autoQ_out (ops:=ops) (n:=n) (ops.toList.take m) pl [] h
  (fun i o x h1 h2 h3 j hj=>by
   simp only[List.length_nil,Nat.zero_add] at h1 ⊢
   obtain⟨y,hy,hyj⟩:=hplx i o h1
   rw[hy] at h3
   injection h3 with h3
   subst h3
   have:=hyj j hj
   have h5:=List.all_eq_true.1 hok (o,i) (List.mem_zipIdx_iff_getElem?.2 (by rw[Array.getElem?_toList];exact h1))
   simp only[Bool.and_eq_true] at h5
   have h6:=List.all_eq_true.1 h5.1.1.1.1 j this
   simpa using h6)
  (fun i o h1=>by
   simp only[List.length_nil,Nat.zero_add]
   rw[<- Array.getElem?_toList]
   by_cases hi:i<m
   · rwa [List.getElem?_take_of_lt hi] at h1
   · rw[List.getElem?_take_eq_none (by omega)] at h1;cases h1)
  (by simp)
 simp only[List.nil_append,List.length_nil,Nat.zero_add] at hF hst hq
 have hsm:s.length=m:=by rw[hs];simp;omega
 have hfree:∀ (b j:Nat),j<b->j∈fr->∀ W,K w W->tab s j (cs j) W:=by
  intro b
  induction b with
  | zero=>intro j hj;omega
  | succ b ih =>
    intro j hj hjf W kW
    obtain⟨o,x,ho,hx,hg,hal,hrun⟩:=hfr j hjf
    have h1:=hq j o x (by rw[List.getElem?_take_of_lt (hfm j hjf),Array.getElem?_toList];exact ho) hx cs W kW (fun i hi=>ih i (by have:=(hal i hi).2;omega) (hal i hi).1 W kW)
    rw[hg,if_pos (show wantsG cs none=true from rfl),hrun cs W (fun _ _=>rfl)] at h1
    exact h1.1
 let T:Nat->(Nat->Value)->World->Prop:=fun i V W=>TailQ P a0 (fun V W=>Q .normal (putAll V ops.toList 0 a0) W) i (ops.toList.drop i) (pl.drop i) V W
 have hT:∀ i o x,ops[i]?=some o->pl[i]?=some x->∀ V W,T i V W=(if wantsG V o.guard=true then Res P (fun v w'=>T (i+1) (updV V i v) w') ((execOp (rhoP x.2 a0 V) (bareOp o.op o.type)).run P W) else T (i+1) (updV V i undef) W):=by
  intro i o x ho hx V W
  have hlt:i<ops.toList.length:=by simpa using (Array.getElem?_eq_some_iff.1 ho).1
  have hlx:i<pl.length:=(List.getElem?_eq_some_iff.1 hx).1
  have e1:ops.toList.drop i=o :: ops.toList.drop (i+1):=by
   rw[<- List.getElem_cons_drop hlt]
   congr 1
   have:ops.toList[i]?=some o:=by rw[Array.getElem?_toList];exact ho
   exact (List.getElem?_eq_some_iff.1 this).2
  have e2:pl.drop i=x :: pl.drop (i+1):=by
   rw[<- List.getElem_cons_drop hlx]
   congr 1
   exact (List.getElem?_eq_some_iff.1 hx).2
  show TailQ P a0 _ i _ _ V W=_
  rw[e1,e2]
  rfl
 let I:(Nat->Bool)->(Nat->Value)->World->Prop:=fun L V W =>
  ((∀ i,m<=i->i<ops.size->L i=false)->K w W/\ApartI ds L V W/\∀ j,L j=true->tab s j (V j) W) /\
  (∀ k,m<k->k<=ops.size->(∀ j,j<k->j ∉ fr->L j=true)->(∀ j,k<=j->j<ops.size->L j=false)->T k (vF fr cs V) W) /\
  (∀ j∈fr,L j=true->V j=cs j)
 refine wp_region_inv I n hn hm hok ⟨fun _=>⟨(K.rf w).drew,⟨fun _ _ hj=>(by cases hj),fun _ _ _ _ _ hj=>(by cases hj)⟩,fun _ hj=>by cases hj⟩,(fun k hk _ hL _=>by have:=hL m (by omega) (fun h=>by have:=hfm m h;omega);cases this),(fun j _ h=>by cases h)⟩ ?_ ?_
 · intro k o ho L V W hLk hcl hal hI
   have hlt:k<ops.size:=(Array.getElem?_eq_some_iff.1 ho).1
   obtain⟨x,hx,hxa⟩:=hplx k o ho
   have hvF:∀ j∈ahead o,vF fr cs V j=V j:=fun j hj=>by
    unfold vF
    split
    · exact (hI.2.2 j ‹_› (hal j hj)).symm
    · rfl
   have hgd:∀ j b,o.guard=some (j,b)->j∈ahead o:=fun j b hg=>by
    have h5:=List.all_eq_true.1 hok (o,k) (List.mem_zipIdx_iff_getElem?.2 (by rw[Array.getElem?_toList];exact ho))
    simp only[Bool.and_eq_true,hg,List.contains_iff_mem] at h5
    exact h5.1.2.1
   have hex:∀ V',(∀ j∈ahead o,V' j=V j)->execOp (rho ops a0 V o) o=execOp (rhoP x.2 a0 V') (bareOp o.op o.type):=by
    intro V' hV'
    have h1:=List.all_eq_true.1 hpl (o,k) (List.mem_zipIdx_iff_getElem?.2 (by rw[Array.getElem?_toList];exact ho))
    simp only[hx,Bool.and_eq_true] at h1
    rw[<- execOp_bare]
    refine execOp_congr o (fun cs b e=>by rw[e] at h1;exact absurd h1.1.2 (by simp)) fun y hy=>?_
    have h4:=List.all_eq_true.1 h1.2 y (by simpa using hy)
    cases y with
    | tmp t =>
      simp only[beq_iff_eq] at h4
      simp only[rho,rhoP,h4]
      cases hl:x.2.lookup t with
      | none=>rfl
      | some j =>
        rw[hl] at h4
        simp only[hV' j (List.mem_of_find?_eq_some h4)]
    | const v=>rfl
    | global g=>rfl
    | func f=>rfl
   have hwg:∀ V',(∀ j∈ahead o,V' j=V j)->wants V o=wantsG V' o.guard:=by
    intro V' hV'
    unfold wants wantsG
    cases hg:o.guard with
    | none=>rfl
    | some y=>obtain⟨j,b⟩:=y;simp only[hV' j (hgd j b hg)]
   by_cases hkf:k∈fr
   · obtain⟨o',x',ho',hx',hg,hal',hrun⟩:=hfr k hkf
     rw[ho] at ho';injection ho' with ho';subst ho'
     rw[hx] at hx';injection hx' with hx';subst hx'
     rw[hwg V fun _ _=>rfl,hg,if_pos (show wantsG V none=true from rfl),hex V fun _ _=>rfl,hrun V W (fun i hi=>hI.2.2 i (hal' i hi).1 (hal i (hxa i hi)))]
     have hkm:=hfm k hkf
     have hve:vF fr cs (updV V k (cs k))=vF fr cs V:=by
      funext j
      unfold vF updV
      split
      · rfl
      · rw[if_neg (by rintro rfl;contradiction)]
     refine⟨fun h1=>?_,fun i h1 h2 h3 h4=>?_,fun j hj hL=>?_⟩
     · obtain⟨hk,hD,hp⟩:=hI.1 (fun i h2 h3=>by have:=h1 i h2 h3;unfold upd at this;rwa [if_neg (by omega)] at this)
       refine⟨hk,hD.old (fun hd=>(hdm k hd).2 hkf) (Nat.le_refl _),fun j hj=>?_⟩
       unfold updV
       by_cases hjk:j=k
       · subst hjk
         simpa using hfree (j+1) j (by omega) hkf W hk
       · rw[if_neg hjk]
         exact hp j ((upd_true hj).resolve_left hjk)
     · show T i (vF fr cs (updV V k (cs k))) W
       rw[hve]
       refine hI.2.1 i h1 h2 (fun j hj hjf=>?_) fun j hj hj2=>?_
       · have:=h3 j hj hjf
         unfold upd at this
         rwa [if_neg (by rintro rfl;contradiction)] at this
       · have:=h4 j hj hj2
         unfold upd at this
         rwa [if_neg (by omega)] at this
     · unfold updV
       by_cases hjk:j=k
       · subst hjk;simp
       · rw[if_neg hjk]
         exact hI.2.2 j hj ((upd_true hL).resolve_left hjk)
   have h3rd:∀ v,∀ j∈fr,upd L k j=true->updV V k v j=cs j:=fun v j hj hL=>by
    have hjk:j≠k:=by rintro rfl;contradiction
    unfold updV
    rw[if_neg hjk]
    exact hI.2.2 j hj ((upd_true hL).resolve_left hjk)
   by_cases hkm:k<m
   · rw[hwg V fun _ _=>rfl,hex V fun _ _=>rfl]
     have noT:∀ i,m<=i->i<ops.size->L i=false:=by
      intro i h1 h2
      cases hLi:L i with
      | false=>rfl
      | true =>
        have hoi:ops[i]?=some ops[i]:=by simp[h2]
        have:=tail_before hpl htl hcl h1 hoi (fun j hj=>hcl.1 i _ hoi hLi j hj) k (by omega) hkf
        rw[hLk] at this;cases this
     obtain⟨hk,hD,hp⟩:=hI.1 noT
     have hfre:k∈ds->(execOp (rhoP x.2 a0 V) (bareOp o.op o.type)).run P W=.ok (.value (.map (some W.heap.size))) (W.alloc (.map #[] 0))/\o.guard=none:=fun hd=>by
      obtain⟨o',ho',hg',hr'⟩:=hds k hd
      rw[ho] at ho';injection ho' with ho';subst ho'
      exact⟨hr' _ _ _,hg'⟩
     have noT2:∀ i,m<=i->i<ops.size->upd L k i=false:=by
      intro i h1 h2
      unfold upd
      rw[if_neg (by omega)]
      exact noT i h1 h2
     have hok':=hq k o x (by rw[List.getElem?_take_of_lt hkm,Array.getElem?_toList];exact ho) hx V W hk (fun j hj=>hp j (hal j (hxa j hj)))
     have next:∀ v w',tab s k v w'->Below W.heap.size W w'->(k∈ds->v=.map (some W.heap.size)/\W.heap.size<w'.heap.size)->I (upd L k) (updV V k v) w':=by
      intro v w' hv hb hfv
      refine⟨fun _=>⟨hk.tr hb,hD.next hb.size hfv,fun j hj=>?_⟩,fun i h1 h2 h3 _=>?_,h3rd v⟩
      · unfold updV
        by_cases hjk:j=k
        · subst hjk;simpa using hv
        · rw[if_neg hjk]
          exact tab_stable (Le:=fun w w'=>Below w.heap.size w w') hst _ _ _ _ (hp j ((upd_true hj).resolve_left hjk)) hb
      · have h4:=h3 m h1 (fun h=>by have:=hfm m h;omega)
        rw[noT2 m (Nat.le_refl _) (by omega)] at h4;cases h4
     by_cases hwg':wantsG V o.guard=true
     · rw[if_pos hwg'] at hok' ⊢
       generalize (execOp (rhoP x.2 a0 V) (bareOp o.op o.type)).run P W=q at *
       cases q with
       | ok nx w' =>
         cases nx <;> simp only[ResG] at hok' <;> simp only[Res]
         case value v =>
          refine next _ _ hok'.1 hok'.2 fun hd=>?_
          obtain⟨h1,-⟩:=hfre hd
          injection h1 with h1 h2
          injection h1 with h1
          rw[h2]
          exact⟨h1,by simp⟩
         case skip =>
          refine next _ _ hok'.1 hok'.2 fun hd=>?_
          obtain⟨h1,-⟩:=hfre hd
          injection h1 with h1 h2
          cases h1
         case enter f args =>
          refine hok'.mono ?_
          rintro e w'' ⟨v,rfl,hv,hb⟩
          refine⟨v,rfl,next _ _ hv hb fun hd=>?_⟩
          obtain⟨h1,-⟩:=hfre hd
          injection h1 with h1 h2
          cases h1
       | halt x w'=>simp only[ResG] at hok'
     · rw[if_neg hwg'] at hok' ⊢
       refine next _ _ hok' (Below.refl _ _) fun hd=>?_
       obtain⟨-,h1⟩:=hfre hd
       rw[h1] at hwg'
       exact absurd rfl hwg'
   · rw[hwg (vF fr cs V) hvF,hex (vF fr cs V) hvF]
     have hall:=tail_before hpl htl hcl (by omega) ho hal
     have hno:∀ i,k<=i->i<ops.size->L i=false:=by
      intro i h1 h2
      by_cases hik:i=k
      · rw[hik];exact hLk
      · cases hLi:L i with
        | false=>rfl
        | true =>
          have hoi:ops[i]?=some ops[i]:=by simp[h2]
          have:=tail_before hpl htl hcl (by omega) hoi (fun j hj=>hcl.1 i _ hoi hLi j hj) k (by omega) hkf
          rw[hLk] at this;cases this
     have hTk:T k (vF fr cs V) W:=by
      by_cases hkm2:k=m
      · subst hkm2
        obtain⟨hk,hD,hp⟩:=hI.1 hno
        refine hF (vF fr cs V) W hk (fun i hi j hj hij=>?_) ?_
        · have e:∀ i∈ds,vF fr cs V i=V i:=fun i hi=>by unfold vF;rw[if_neg (hdm i hi).2]
          rw[e i hi,e j hj]
          exact hD.2 i hi j hj hij (hall i (hdm i hi).1 (hdm i hi).2) (hall j (hdm j hj).1 (hdm j hj).2)
        have:=allT_of (V:=vF fr cs V) (w:=W) s [] (fun j _ h2=>by
         simp at h2
         unfold vF
         split
         · exact hfree (j+1) j (by omega) ‹_› W hk
         · exact hp j (hall j (by omega) ‹_›))
        simpa using this
      · exact hI.2.1 k (by omega) (by omega) hall hno
     rw[hT k o x ho hx] at hTk
     have hve:∀ v,updV (vF fr cs V) k v=vF fr cs (updV V k v):=fun v=>by
      funext j
      unfold vF updV
      by_cases hjk:j=k
      · subst hjk;rw[if_pos rfl,if_neg hkf,if_pos rfl]
      · rw[if_neg hjk,if_neg hjk]
     have next:∀ v w',T (k+1) (updV (vF fr cs V) k v) w'->I (upd L k) (updV V k v) w':=by
      intro v w' hv
      refine⟨fun h1=>?_,fun i h1 h2 h3 h4=>?_,h3rd v⟩
      · have:=h1 k (by omega) hlt
        unfold upd at this
        rw[if_pos rfl] at this;cases this
      · have hi:i=k+1:=by
         rcases Nat.lt_trichotomy i (k+1) with h5|h5|h5
         · have:=h4 k (by omega) hlt
           unfold upd at this
           rw[if_pos rfl] at this;cases this
         · exact h5
         · have:=h3 (k+1) h5 (fun h=>by have:=hfm _ h;omega)
           unfold upd at this
           rw[if_neg (by omega),hno (k+1) (by omega) (by omega)] at this;cases this
        rw[hi,<- hve];exact hv
     by_cases hwg':wantsG (vF fr cs V) o.guard=true
     · rw[if_pos hwg'] at hTk ⊢
       generalize (execOp (rhoP x.2 a0 (vF fr cs V)) (bareOp o.op o.type)).run P W=q at *
       cases q with
       | ok nx w' =>
         cases nx <;> simp only[Res] at hTk ⊢
         case value v=>exact next _ _ hTk
         case skip=>exact next _ _ hTk
         case enter f args =>
          refine hTk.mono ?_
          rintro e w'' ⟨v,rfl,hv⟩
          exact⟨v,rfl,next _ _ hv⟩
       | halt x w'=>simp only[Res] at hTk
     · rw[if_neg hwg'] at hTk ⊢
       exact next _ _ hTk
 · intro V W hI
   have hve:∀ j,j<ops.size->vF fr cs V j=V j:=fun j hj=>by
    unfold vF
    split
    · exact (hI.2.2 j ‹_› (by simpa using hj)).symm
    · rfl
   have hput:∀ (V':Nat->Value) (l:List Oper) (k:Nat) (a:Act),(∀ j,k<=j->j<k+l.length->V' j=V j)->putAll V' l k a=putAll V l k a:=by
    intro V' l
    induction l with
    | nil=>intro k a _;rfl
    | cons o r ih =>
      intro k a h
      simp only[putAll,h k (Nat.le_refl _) (by simp)]
      exact ih _ _ fun j h1 h2=>h j (by omega) (by simp;omega)
   have hputF:=hput (vF fr cs V) ops.toList 0 a0 (fun j _ h=>hve j (by simpa using h))
   by_cases hmn:m<ops.size
   · have:=hI.2.1 ops.size hmn (Nat.le_refl _) (fun j hj _=>by simpa using hj) (fun j h1 h2=>by omega)
     have e:T ops.size (vF fr cs V) W=Q .normal (putAll (vF fr cs V) ops.toList 0 a0) W:=by
      show TailQ P a0 _ _ _ _ _ W=_
      rw[List.drop_eq_nil_of_le (by simp)]
      rfl
     rw[e,hputF] at this
     exact this
   · have hme:m=ops.size:=by omega
     subst hme
     obtain⟨hk,hD,hp⟩:=hI.1 (fun i h1 h2=>by omega)
     have h9:=hF V W hk (fun i hi j hj hij=>hD.2 i hi j hj hij (by simpa using (hdm i hi).1) (by simpa using (hdm j hj).1)) (by
      have:=allT_of (V:=V) (w:=W) s [] (fun j _ h2=>by
       simp at h2
       exact hp j (by simp;omega))
      simpa using this)
     rw[List.drop_eq_nil_of_le (by simp)] at h9
     exact h9
theorem wp_region_apart {id:Nat} {ops:Array Oper} {a0:Act} {w:World} (m:Nat) (pl:List (List Nat×List (Nat×Nat))) (ds:List Nat)
 (n:Nat) (hn:a0.tmps.size=n) (hm:P.follows .mixedOrders=true) (hok:regionOk ops n=true) (hpl:planOk ops pl=true) (htl:tailF [] pl m ops.size=true) (hms:m<=ops.size) (hdm:∀ k∈ds,k<m) (hds:∀ k∈ds,MapOk P a0 ops k)
 (h:AutoQ P a0 w (fun t=>∀ (V:Nat->Value) (W:World),K w W->(∀ i∈ds,∀ j∈ds,i≠j->V i≠V j)->AllT V W 0 t->TailQ P a0 (fun V W=>Q .normal (putAll V ops.toList 0 a0) W) m (ops.toList.drop m) (pl.drop m) V W) (ops.toList.take m) pl []) :
 (Code.region id ops true).wp P Q a0 w :=
 wp_region_apart0 [] (fun _=>undef) m pl n hn hm hok hpl htl hms (fun _ h=>by cases h) ds (fun k hk=>⟨hdm k hk,by simp⟩) hds h
theorem mapOk_make {a0:Act} {ops:Array Oper} {k:Nat} {o:Oper} {t:TypeId} (ho:ops[k]?=some o) (hop:o.op=.makeMap t none) (hg:o.guard=none) {kt et:TypeId} (hT:P.underlying t=some (.map kt et)):MapOk P a0 ops k:=by
 refine⟨o,ho,hg,fun rd V W=>?_⟩
 rw[hop]
 simp[execOp,bareOp,Instr.makeMap,run_underlying hT,go_sem]
theorem AutoQ.ints {a0:Act} {w0:World} {Fin:List (Value->World->Prop)->Prop} {o:Oper} {r:List Oper} {x:List Nat×List (Nat×Nat)} {xs:List (List Nat×List (Nat×Nat))} {t:List (Value->World->Prop)} (l:List Int) (s u:Operand) (tt e:TypeId) (z:Value) (bytes:Nat) (T:SliceT P tt e z 1 bytes)
 (hop:o.op=.call { callee:=.builtin .append,args:=#[s,u],argTypes:=#[tt,tt] }) (hg:o.guard=none) (hbytes:l.length * (bytes+1)<=140737488355328)
 (h:∀ (V:Nat->Value) (w:World),K w0 w->(∀ j∈x.1,tab t j (V j) w)->rhoP x.2 a0 V s=.slice none 0 0/\lst inS l (rhoP x.2 a0 V u) w)
 (k:AutoQ P a0 w0 Fin r xs (t++[fun v W=>OwnY (fun k=>k<w0.heap.size) w0.heap.size e inS l v W])):AutoQ P a0 w0 Fin (o :: r) (x :: xs) t:=by
 refine AutoQ.op _ (fun _ _ _ h k=>h.st k) (fun V w kw hp=>?_) k
 obtain⟨h1,A,c,h2,⟨css,hE,hR⟩,-⟩:=h V w kw hp
 have hcs:=each_ints_eq hE
 obtain⟨v',w',hrun,h3,h4,h5,h6⟩:=run_app (P:=P) w w.heap.size tt o.type e z 1 bytes T (.slice none 0 0) 0 [] (World.ownsRow_nil _ _ _ _) _ A l.length c css.flatten hR hE.ones (by simpa using hbytes) (Nat.le_refl _)
 rw[hg,if_pos (show wantsG V none=true from rfl),hop]
 simp only[execOp,bareOp,resolve,invoke,builtin,Sem.run_bind,Sem.run_pure,Result.andThen_ok,List.map_toArray,List.map_cons,List.map_nil,h1,h2,hrun]
 refine⟨⟨css,?_,by rw[hcs];simp,fun W u=>by rw[hcs];exact each_ints _ _⟩,h6⟩
 have h7:=row_base kw.size h3
 simp only[Nat.zero_add,List.nil_append] at h7
 exact h7
end
theorem ints_at {p:List Int} {A:Option Addr} {w:World} (hl:lsr inS p A w) (h0:0<p.length) :
 ∃ b off,A=some ⟨b,off,none⟩/\∀ W,K w W->∀ i (hi:i<p.length),W.cell? ⟨b,off+i,none⟩=some (.int .i64 p[i]):=by
 obtain⟨b,off,cs,rfl,-,-,-,-⟩:=lsr_cells hl 0 h0 (by decide)
 refine⟨b,off,rfl,fun W k i hi=>?_⟩
 obtain⟨b',off',cs',e,-,hr,d0,-⟩:=lsr_cells hl i hi (by decide)
 injection e with e
 injection e with e1 e2
 subst e1 e2
 have h:=d0 W k
 rw[show cs'=intc p[i] from hr W k] at h
 simpa [inS] using h
def chkTr (p:List Int):Int:=if okTr p then 0 else 120
theorem okTr_iff {p:List Int}:okTr p=true ↔ 1<=p.length/\p.length<=16/\p[0]?=some (-1)/\∀ n (h:n<p.length),1<=n->0<=p[n]/\p[n]<(n:Int):=by
 simp only[okTr,Bool.and_eq_true,decide_eq_true_eq,List.all_eq_true,List.mem_range,Bool.or_eq_true,beq_iff_eq,and_assoc]
 refine and_congr_right fun h1=>and_congr_right fun _=>and_congr_right fun _=>⟨fun h n hn h1=>?_,fun h n hn=>?_⟩
 · have:=h n hn
   rw[List.getElem?_eq_getElem hn] at this
   simp at this
   rcases this with h|h
   · omega
   · exact h
 · by_cases h0:n=0
   · exact .inl h0
   · right
     rw[List.getElem?_eq_getElem hn]
     simpa using h n hn (by omega)
theorem okTr_par {p:List Int} (h:okTr p=true):1<=p.length/\p.length<=16:=⟨(okTr_iff.1 h).1,(okTr_iff.1 h).2.1⟩
theorem TCheck_calls (p:List Int) (v:Value) (w:World) (h:lst inS p v w) (hn:p.length<=1000000) :
 Calls Tryz.prog 34 #[v] w fun e w'=>e=.returned (.int .i64 (chkTr p))/\K w w':=by
 obtain⟨A,c,rfl,hl,-⟩:=h
 have HC:Hid (chkTr p=if okTr p then 0 else 120):=Lib.hid rfl
 generalize chkTr p=R at *
 have no:Hid (∀ _:¬ okTr p=true,R=120):=Lib.hid fun h=>by rw[HC.out,if_neg h]
 have yes:Hid (∀ _:okTr p=true,R=0):=Lib.hid fun h=>by rw[HC.out,if_pos h]
 have kk:=K.rf w
 clear HC
 go_enter Tryz.func34,Tryz.ntmps34
 by_cases h0:p.length<1
 · have h0':(p.length:Int)<1:=by omega
   have HR:Hid (R=120):=Lib.hid (no.out fun h=>by have:=okTr_par h;omega)
   go_wp2
   go_ret
   exact⟨by rw[HR.out];rfl,kk⟩
 have h0':¬ (p.length:Int)<1:=by omega
 by_cases h1:16<p.length
 · have h1':16<(p.length:Int):=by omega
   have HR:Hid (R=120):=Lib.hid (no.out fun h=>by have:=okTr_par h;omega)
   go_wp2
   go_ret
   exact⟨by rw[HR.out];rfl,kk⟩
 have h1':¬ 16<(p.length:Int):=by omega
 obtain⟨b,off,rfl,hcell⟩:=ints_at hl (by omega)
 have hp0:0<p.length:=by omega
 have hp0':0<(p.length:Int):=by omega
 have c0:w.cell? ⟨b,off,none⟩=some (.int .i64 p[0]):=hcell w kk 0 hp0
 have HP0:Hid (p[0]?=some p[0]):=Lib.hid (List.getElem?_eq_getElem hp0)
 have HCC:=Lib.hid (hcell w kk)
 clear hcell hl
 generalize p[0]=p0 at *
 by_cases h2:p0=-1
 rotate_left
 · have h2':(p0 != -1)=true:=by simpa using h2
   have HR:Hid (R=120):=Lib.hid (no.out fun h=>by have:=(okTr_iff.1 h).2.2.1;rw[HP0.out] at this;injection this with this;exact h2 this)
   clear h2
   go_wp2
   go_ret
   exact⟨by rw[HR.out];rfl,kk⟩
 subst h2
 go_wp2_with fail
 go_loop [3] (fun i=>∃ j:Nat,1<=j/\j<=p.length/\i=.int .i64 (j:Int)/\Hid (∀ n (h:n<p.length),1<=n->n<j->0<=p[n]/\p[n]<(n:Int))) (fun i=>p.length - (intOf i).toNat)
 case atStart=>exact⟨1,by omega,by omega,rfl,Lib.hid fun n _ h1 h2=>by omega⟩
 case round =>
  obtain⟨j,hj1,hj,rfl,HJ⟩:=hrel
  by_cases hlt:j<p.length
  · have hji:(j:Int)<(p.length:Int):=by omega
    have cj:=HCC.out j hlt
    have HB:Hid (0<=p[j]/\p[j]<(j:Int)->∀ n (h:n<p.length),1<=n->n<j+1->0<=p[n]/\p[n]<(n:Int)):=Lib.hid fun h n hn h1 h2=>by
     by_cases e:n=j
     · subst e;exact h
     · exact HJ.out n hn h1 (by omega)
    have HN:Hid (¬ (0<=p[j]/\p[j]<(j:Int))->R=120):=Lib.hid fun h=>no.out fun ho=>h ((okTr_iff.1 ho).2.2.2 j hlt hj1)
    generalize p[j]=pj at *
    by_cases h3:pj<0
    · have HR:Hid (R=120):=Lib.hid (HN.out (by omega))
      go_wp2
      go_ret
      exact⟨by rw[HR.out];rfl,kk⟩
    by_cases h4:(j:Int)<=pj
    · have HR:Hid (R=120):=Lib.hid (HN.out (by omega))
      go_wp2
      go_ret
      exact⟨by rw[HR.out];rfl,kk⟩
    have HB2:=Lib.hid (HB.out (by omega))
    go_wp2
    go_round
    case rel=>exact⟨j+1,by omega,by omega,by go_num,HB2⟩
    case measure=>simp[intOf];omega
  · have hji:¬ (j:Int)<(p.length:Int):=by omega
    have HR:Hid (R=0):=Lib.hid (yes.out (okTr_iff.2 ⟨by omega,by omega,HP0.out,fun n hn h1=>HJ.out n hn h1 (by omega)⟩))
    go_wp2
    go_ret
    exact⟨by rw[HR.out];rfl,kk⟩
def brT (p:List Int) (n:Int):Bool:=inR p n&&okTr p
theorem Tbroker_calls (p:List Int) (n:Int) (v:Value) (w:World) (h:lst inS p v w) (hn:p.length<=1000000) :
 Calls Tryz.prog 182 #[v,.int .i64 n] w fun e w'=>e=.returned (.bool (brT p n))/\K w w':=by
 have C1:=Lib.hid fun W (k:K w W)=>TCheck_calls p v W (lst_st h k) hn
 obtain⟨A,c,rfl,hl,-⟩:=h
 have HC:Hid (brT p n=((decide (0<=n)&&decide (n<(p.length:Int)))&&okTr p)):=Lib.hid rfl
 have HT:Hid (chkTr p=if okTr p then 0 else 120):=Lib.hid rfl
 generalize brT p n=R at *
 generalize chkTr p=T at *
 have kk:=K.rf w
 go_enter Tryz.func182,Tryz.ntmps182
 by_cases h0:0<=n
 rotate_left
 · have HR:Hid (R=false):=Lib.hid (by rw[HC.out];simp[h0])
   have h0':n<0:=by omega
   clear C1
   go_wp2
   go_ret
   exact⟨by rw[HR.out];rfl,kk⟩
 by_cases h1:n<(p.length:Int)
 rotate_left
 · have HR:Hid (R=false):=Lib.hid (by rw[HC.out];simp[h1])
   clear C1
   go_wp2
   go_ret
   exact⟨by rw[HR.out];rfl,kk⟩
 have HR:Hid (R=okTr p):=Lib.hid (by rw[HC.out];simp[h0,h1])
 clear HC
 go_wp2_with fail
 refine (C1.out w kk).mono ?_
 rintro e w1 ⟨rfl,k1⟩
 cases ho:okTr p
 · obtain rfl:T=120:=by rw[HT.out,ho];rfl
   have HR2:Hid (R=false):=Lib.hid (by rw[HR.out,ho])
   clear ho HR HT C1
   go_wp2
   go_ret
   exact⟨by rw[HR2.out];rfl,k1⟩
 · obtain rfl:T=0:=by rw[HT.out,ho];rfl
   have HR2:Hid (R=true):=Lib.hid (by rw[HR.out,ho])
   clear ho HR HT C1
   go_wp2
   go_ret
   exact⟨by rw[HR2.out];rfl,k1⟩
section
open Go Go.RowKit Go.Shelf
attribute [local go_sem] Oper.semAt_some
def kidsTo (p:List Int) (n:Int) (j:Nat):List Int:=((List.range j).filter fun k=>decide (p[k]?=some n)).map fun (k:Nat)=>(k:Int)
theorem kidsTo_succ (p:List Int) (n:Int) (j:Nat) (h:j<p.length):kidsTo p n (j+1)=kidsTo p n j++(if p[j]=n then [(j:Int)] else []):=by
 unfold kidsTo
 rw[List.range_succ,List.filter_append,List.map_append]
 congr 1
 by_cases e:p[j]=n
 · rw[if_pos e,List.filter_cons_of_pos (by simpa [h] using e)]
   rfl
 · rw[if_neg e,List.filter_cons_of_neg (by simpa [h] using e)]
   rfl
theorem kidsTo_pre (p:List Int) (n:Int) (j:Nat) (h:j<=p.length):kidsTo p n j <+: kidsU p n:=by
 unfold kidsTo kidsU
 have:List.range p.length=List.range j++(List.range (p.length - j)).map (j+·):=by
  rw[show p.length=j+(p.length - j) by omega,List.range_add]
  simp
 rw[this,List.filter_append,List.map_append]
 exact List.prefix_append _ _
theorem kidsU_len (p:List Int) (n:Int):(kidsU p n).length<=p.length:=by
 unfold kidsU
 rw[List.length_map]
 exact Nat.le_trans (List.length_filter_le _ _) (by simp)
def KpK (B b:Nat) (W W':World):Prop:=W'.heap[B]?=W.heap[B]?/\W'.heap[b]?=W.heap[b]?
theorem KpK.tr {B b:Nat} {W W' W'':World} (h:KpK B b W W') (k:KpK B b W' W''):KpK B b W W'':=⟨k.1.trans h.1,k.2.trans h.2⟩
theorem Tkids1_in (l B1 B2 b off c:Nat) (p:List Int) (n:Int) (J Jx:List Int->World->Prop)
 (hY:∀ pre x W,J pre W->pre.length<(kidsU p n).length->YieldAt Fence.wide 4 Tryz.prog l #[.int .i64 x] W fun e W' =>
  (e=.returned (.bool true)/\J (pre++[x]) W'/\KpK B2 b W W')∨(e=.returned (.bool false)/\Jx (pre++[x]) W'))
 (W:World) (h1:W.cell? ⟨B1,0,none⟩=some (.slice (some ⟨b,off,none⟩) p.length c)) (h2:W.cell? ⟨B2,0,none⟩=some (.int .i64 n))
 (hcell:∀ i (hi:i<p.length),W.cell? ⟨b,off+i,none⟩=some (.int .i64 p[i])) (hlen:p.length<=1000000) (h0:J [] W) :
 CallsIn Fence.wide 5 Tryz.prog 229 #[.func (.yield l) #[] #[],.pointer (some ⟨B1,0,none⟩),.pointer (some ⟨B2,0,none⟩)] W fun e W'=>(∃ v,e=.returned v) /\
  ((∃ ys,ys=kidsU p n/\J ys W')∨(∃ pre,pre <+: kidsU p n/\Jx pre W')):=by
 refine callsIn_of_wp Tryz.func229 rfl trivial ?_ rfl
 simp only[Tryz.ntmps229,List.size_toArray,List.length_cons,List.length_nil,Nat.reduceAdd,Nat.reduceSub,Array.replicate_succ,Array.replicate_zero,List.push_toArray,List.append_toArray,List.nil_append,List.cons_append]
 gi_wp2
 gi_loopw [4,5,8] (fun _ _ i wr=>∃ j:Nat,i=.int .i64 (j:Int)/\j<=p.length/\J (kidsTo p n j) wr/\KpK B2 b W wr) (fun _ _ i _=>p.length - (intOf i).toNat)
 case atStart=>exact⟨0,rfl,by omega,h0,rfl,rfl⟩
 case round =>
  obtain⟨j,rfl,hj,hJ,hk⟩:=hrel
  by_cases hlt:j<p.length
  · have hji:(j:Int)<(p.length:Int):=by omega
    have cj:wr.cell? ⟨b,off+j,none⟩=some (.int .i64 p[j]):=(World.cell?_of_block hk.2).trans (hcell j hlt)
    have c2:wr.cell? ⟨B2,0,none⟩=some (.int .i64 n):=(World.cell?_of_block hk.1).trans h2
    have hs:=kidsTo_succ p n j hlt
    have hp:=kidsTo_pre p n (j+1) (by omega)
    have HS:=Lib.hid hs
    have HP:=Lib.hid hp
    clear hs hp h1 h2 hcell h0
    generalize p[j]=q at *
    by_cases e:q=n
    · subst e
      have HS2:Hid (kidsTo p q (j+1)=kidsTo p q j++[(j:Int)]):=Lib.hid (by rw[HS.out,if_pos rfl])
      obtain⟨fn,tmps,assign,body,hy,hR⟩:=hY (kidsTo p q j) j wr hJ (by have:=HP.out.length_le;rw[HS2.out] at this;simp at this;omega)
      clear HS
      gi_wp2
      refine hR.mono ?_
      rintro e W3 (⟨rfl,hJ3,hk3⟩|⟨rfl,hJx3⟩)
      · rw[<- HS2.out] at hJ3
        gi_wp2
        go_roundw
        case rel=>exact⟨j+1,by go_num,by omega,hJ3,hk.tr hk3⟩
        case measure=>simp[intOf];omega
      · rw[<- HS2.out] at hJx3
        gi_wp2
        refine bodyPost_ret (results_none rfl _ _ _) rfl ?_
        exact⟨⟨_,rfl⟩,.inr ⟨_,HP.out,hJx3⟩⟩
    · have e':(q==n)=false:=by simpa using e
      rw[show kidsTo p n j=kidsTo p n (j+1) by rw[HS.out,if_neg e];simp] at hJ
      clear HS HP e
      gi_wp2
      refine⟨(fun f hf=>by cases hf),?_⟩
      gi_wp2
      go_roundw
      case rel=>exact⟨j+1,by go_num,by omega,hJ,hk⟩
      case measure=>simp[intOf];omega
  · have hji:¬ (j:Int)<(p.length:Int):=by omega
    obtain rfl:j=p.length:=by omega
    gi_wp2
    go_end0
    first|exact⟨⟨_,rfl⟩,.inl ⟨_,rfl,hJ⟩⟩|exact⟨⟨_,rfl⟩,.inl hJ⟩|exact hJ|exact .inl hJ
end
section
open Go Go.RowKit Go.Shelf
attribute [local go_sem] Oper.semAt_some
abbrev intV (l:List Int):List Value:=l.map fun n=>Value.int .i64 n
theorem infoIn:(Tryz.prog.info? 3).map (fun i=>(i.zero,i.size,i.bytes))=some (some (.int .i64 0),1,8):=by kernel_rfl
theorem TIn:SliceT Tryz.prog 31 3 (.int .i64 0) 1 8:=⟨Tryz.underlying31,infoIn,rfl,by decide⟩
theorem ints_own {base:Nat} {v:Value} {l:List Int} {W:World} (h:W.ownsRow base 3 1 v l.length (intV l)):OwnY (fun k=>k<base) base 3 inS l v W :=
 ⟨l.map intc,by rw[ints_flat];exact h,by simp,fun w' _=>each_ints l w'⟩
theorem Tkids_calls (p:List Int) (n:Int) (A:Option Addr) (c:Nat) (w:World) :
 Calls Tryz.prog 183 #[.slice A p.length c,.int .i64 n] w fun e w'=>e=.returned (.func (.func 229) #[] #[.pointer (some ⟨w.heap.size,0,none⟩),.pointer (some ⟨w.heap.size+1,0,none⟩)])/\w'=(w.alloc (.cells #[.slice A p.length c] 31)).alloc (.cells #[.int .i64 n] 3):=by
 go_enter Tryz.func183,Tryz.ntmps183
 go_wp2
 go_ret
 exact⟨by simp,rfl⟩
theorem TKids_calls (p:List Int) (n:Int) (v:Value) (w:World) (h:lst inS p v w) (hn:p.length<=1000000) :
 Calls Tryz.prog 104 #[v,.int .i64 n] w fun e w'=>∃ v',e=.returned v'/\OwnY (fun k=>k<w.heap.size) w.heap.size 3 inS (kidsP p n) v' w'/\K w w':=by
 have C1:=Lib.hid fun W (k:K w W)=>Tbroker_calls p n v W (lst_st h k) hn
 obtain⟨A,c,rfl,hl,-⟩:=h
 have HC:Hid (kidsP p n=if brT p n then kidsU p n else []):=Lib.hid rfl
 have HB:Hid (brT p n=true->0<p.length):=Lib.hid (by unfold brT inR;simp only[Bool.and_eq_true,decide_eq_true_eq];rintro ⟨⟨h1,h2⟩,h3⟩;omega)
 generalize kidsP p n=R at *
 have kk:=K.rf w
 refine (callsIn_wide (n:=6)).1 ?_
 refine callsIn_of_wp_marks Tryz.func104 rfl trivial ?_ rfl
 simp only[Tryz.ntmps104,List.size_toArray,List.length_cons,List.length_nil,Nat.reduceAdd,Nat.reduceSub,Array.replicate_succ,Array.replicate_zero,List.push_toArray,List.append_toArray,List.nil_append,List.cons_append]
 gi_wp2_with fail
 refine⟨trivial,(callsIn_wide.2 (C1.out w kk)).mono ?_⟩
 rintro e w1 ⟨rfl,k1⟩
 cases hb:brT p n
 · have HR:Hid (R=[]):=Lib.hid (by rw[HC.out,hb];rfl)
   clear hb
   gi_wp2
   exact⟨_,results_tmp rfl _ _ _,_,rfl,by rw[HR.out];exact OwnY.nil _ _ _ _ _,k1⟩
 have HR:Hid (R=kidsU p n):=Lib.hid (by rw[HC.out,hb];rfl)
 obtain⟨b,off,rfl,hcell⟩:=ints_at hl (HB.out hb)
 have hbw:b<w.heap.size:=block_lt (hcell w kk 0 (HB.out hb))
 have HCC:=Lib.hid hcell
 clear hb HC HB C1 hl hcell
 gi_wp2_with fail
 refine⟨trivial,(callsIn_wide.2 (Tkids_calls p n _ c _)).mono ?_⟩
 rintro e w2 ⟨rfl,rfl⟩
 have hx0:=((Boxed.new w1 31 (.slice none 0 0)).alloc (.cells #[.slice (some ⟨b,off,none⟩) p.length c] 31)).alloc (.cells #[.int .i64 n] 3)
 have hx1:=(Boxed.new (w1.alloc (.cells #[.slice none 0 0] 31)) 31 (.slice (some ⟨b,off,none⟩) p.length c)).alloc (.cells #[.int .i64 n] 3)
 have hx2:=Boxed.new ((w1.alloc (.cells #[.slice none 0 0] 31)).alloc (.cells #[.slice (some ⟨b,off,none⟩) p.length c] 31)) 3 (.int .i64 n)
 have k2:K w (((w1.alloc (.cells #[.slice none 0 0] 31)).alloc (.cells #[.slice (some ⟨b,off,none⟩) p.length c] 31)).alloc (.cells #[.int .i64 n] 3)):=((k1.al _).al _).al _
 have hz2:(((w1.alloc (.cells #[.slice none 0 0] 31)).alloc (.cells #[.slice (some ⟨b,off,none⟩) p.length c] 31)).alloc (.cells #[.int .i64 n] 3)).heap.size=w1.heap.size+1+1+1:=by simp
 simp only[World.size_alloc] at hx1 hx2 ⊢
 have hz1:=k1.size
 have HCC2:=Lib.hid (HCC.out _ k2)
 generalize ((w1.alloc (.cells #[.slice none 0 0] 31)).alloc (.cells #[.slice (some ⟨b,off,none⟩) p.length c] 31)).alloc (.cells #[.int .i64 n] 3)=w2 at *
 generalize hg:w1.heap.size=B0 at *
 have HG:=Lib.hid hg
 have HZ:=Lib.hid hz2
 clear hg hz2 HCC
 gi_wp2_with fail
 refine wpIn_rangeFunc_ownF rfl (by omega) (gf:=229) (lb:=#[.pointer (some ⟨B0+1,0,none⟩),.pointer (some ⟨B0+1+1,0,none⟩)]) rfl trivial (enters_of Tryz.func229 (by kernel_rfl) rfl)
  (encs:=fun x:Int=>#[.int .i64 x]) (Kp:=KpK (B0+1+1) b) (S:=fun ys=>ys=kidsU p n) (Sp:=fun pre=>pre <+: kidsU p n) (N:=(kidsU p n).length) (w0:=w2)
  (fun l J Jx W hW _ _ hY h0=>Tkids1_in l (B0+1) (B0+1+1) b off c p n J Jx hY W ((World.cell?_of_block (hW.block _ hx1.lt)).trans hx1.cell) ((World.cell?_of_block (hW.block _ hx2.lt)).trans hx2.cell)
   (fun i hi=>(World.cell?_of_block (hW.block _ (show b<_ by have:=k2.size;omega))).trans (HCC2.out i hi)) hn h0)
  (fun h k=>h.tr k) (fun W l o o' h1 _ _ _=>⟨World.putObj_heap_other (by have:=hx2.lt;omega),World.putObj_heap_other (by have:=k2.size;omega)⟩) (Below.refl _ _) (fun _=>rfl)
  (fun pre W=>∃ v,Boxed W B0 31 v/\W.ownsRow w2.heap.size 3 1 v pre.length (intV pre)/\Below w.heap.size w W/\w2.heap.size<=W.heap.size)
  (fun _ _ _=>False) ?own (fun _ _ _ _ _ hs _ _=>hs) ⟨_,hx0,World.ownsRow_nil _ _ _ _,k2,Nat.le_refl _⟩
  (fun x=>{ tmps:=#[.slice (some ⟨b,off,none⟩) p.length c,.int .i64 n,undef,undef,.slice none 0 0,.pointer (some ⟨B0,0,none⟩),.int .i64 x,.slice (some ⟨b,off,none⟩) p.length c,.int .i64 n,.bool true,.bool false,.slice (some ⟨b,off,none⟩) p.length c,.int .i64 n,.func (.func 229) #[] #[.pointer (some ⟨B0+1,0,none⟩),.pointer (some ⟨B0+1+1,0,none⟩)],.int .i64 x,undef,undef,undef,undef,undef],defers:=[] }) ?assign ?body ?done ?stop
 case own =>
  rintro s A B row ⟨v,hv,hrow,hB,hz⟩ hg hr
  have hne:∀ g t cs,Blk A g t cs->some g≠row:=fun g t cs hb e=>by
   obtain⟨h1,o,h2,h3⟩:=hr g e.symm
   unfold Blk at hb
   rw[hb] at h2
   injection h2 with h2
   rw[<- h2] at h3
   cases h3
  refine⟨v,hv.kept hg (hne _ _ _ hv),row_keep hrow fun g _ h1 h2=>hg.block g h1 ?_,⟨hg.os.trans hB.os,hg.tape.trans hB.tape,hg.output.trans hB.output,Nat.le_trans hB.size hg.size,fun k hk=>(hg.block k (Nat.lt_of_lt_of_le hk hB.size) fun e=>?_).trans (hB.block k hk)⟩,Nat.le_trans hz hg.size⟩
  · obtain⟨cur,hb⟩:=row_blk hrow h2
    exact hne _ _ _ hb
  · obtain⟨h1,-⟩:=hr k e.symm
    have:=k2.size
    omega
 case assign =>
  intro l x W K hK
  gi_wp2
  exact hK
 case body =>
  rintro l pre x W ⟨v,hv,hrow,hB,hWz⟩ hpl
  have q:=hv.cell
  have hul:=kidsU_len p n
  have hrow1:=World.ownsRow.alloc hrow (.cells #[.int .i64 x] 3)
  have hb1:=Blk.new W 3 #[.int .i64 x]
  obtain⟨i,hi,hz0,hz3,hz4⟩:=TIn.fit
  gi_wp2_with (gi_at_builtin;refine wpListIn_append_own _ rfl _ _ 31 rfl w2.heap.size 3 i (.int .i64 0) 1 8 Tryz.underlying31 hi hz0 hz3 hz4 rfl (by decide) v pre.length (intV pre) rfl hrow1 ⟨W.heap.size,0,none⟩ 1 1 [.int .i64 x] rfl rfl ?c1 ?c2 ?c3 ?c4 ?c5 ?_)
  case c1 =>
   intro j u hu
   have:j=0:=by
    have:=(List.getElem?_eq_some_iff.1 hu).1
    simpa using this
   subst this
   have h:=hb1.cell 0
   simp at hu ⊢
   rw[<- hu]
   simp[Addr.add]
  case c2=>intro u hu;simp at hu;subst hu;rfl
  case c3=>unfold maxLen;omega
  case c4=>omega
  case c5=>simp;omega
  intro v' w' hown' hgrow _
  obtain⟨g',cap',hv'⟩:∃ g cap,v'=.slice (some ⟨g,0,none⟩) (pre.length+1) cap:=by
   rcases hown'.2 with ⟨-,h0⟩|⟨g',cap',cur',e,-⟩
   · omega
   · exact⟨g',cap',e⟩
  rw[hv'] at hown' ⊢
  clear hv'
  obtain⟨v',hv'⟩:∃ v',v'=Value.slice (some ⟨g',0,none⟩) (pre.length+1) cap':=⟨_,rfl⟩
  rw[<- hv'] at hown'
  have hne:some B0≠v.ownBlock:=fun e=>by
   have:=(hrow.lt B0 e.symm).1
   have:=hx0.lt
   omega
  have hv1:Boxed w' B0 31 v:=(hv.alloc _).kept hgrow hne
  have q1:=hv1.cell
  have z1:=hv1.frozen
  have hne':v'.ownBlock≠some B0:=fun e=>by
   have:=(hown'.lt B0 e).1
   have:=hx0.lt
   omega
  have u:UpN (fun k=>k=B0∨w2.heap.size<=k) W (w'.setCell ⟨B0,0,none⟩ v') :=
   ((UpN.of_k ((K.rf W).al (.cells #[.int .i64 x] 3)) _).tr (UpN.of_mut hgrow fun g hg=>.inr (hrow1.lt g hg).1)).tr (UpN.set1 (X:=fun k=>k=B0∨w2.heap.size<=k) (.inl rfl) 0 v')
  have hko:KeepsOthers W (w'.setCell ⟨B0,0,none⟩ v'):=by
   refine ((KeepsOthers.alloc W (.cells #[.int .i64 x] 3)).trans (KeepsOthers.of_grownBy hgrow fun j o ej hj=>?_)).trans (KeepsOthers.setCell _ _ _)
   obtain⟨cur,hb⟩:=row_blk hrow1 ej
   unfold Blk at hb
   rw[hb] at hj
   injection hj with hj
   rw[<- hj];rfl
  have hI:Boxed (w'.setCell ⟨B0,0,none⟩ v') B0 31 v'/\(w'.setCell ⟨B0,0,none⟩ v').ownsRow w2.heap.size 3 1 v' (pre++[x]).length (intV (pre++[x]))/\Below w.heap.size w (w'.setCell ⟨B0,0,none⟩ v')/\w2.heap.size<=(w'.setCell ⟨B0,0,none⟩ v').heap.size:=by
   refine⟨hv1.set v',?_,⟨u.os.trans hB.os,u.tape.trans hB.tape,u.output.trans hB.output,Nat.le_trans hB.size u.size,fun k hk=>(u.block k (Nat.lt_of_lt_of_le hk hB.size) fun h=>?_).trans (hB.block k hk)⟩,Nat.le_trans hWz u.size⟩
   · have:=row_upn hown' (UpN.set1 (X:=fun k=>k=B0) rfl 0 v') fun b hb e=>hne' (by rw[hb,e])
     simpa using this
   · have:=k2.size
     omega
  have hkp:KpK (B0+1+1) b W (w'.setCell ⟨B0,0,none⟩ v'):=by
   have h2:=hx2.lt
   have h3:=k2.size
   exact⟨u.block _ (by omega) (by omega),u.block _ (by omega) (by omega)⟩
  subst hv'
  gi_wp2
  exact⟨hko,hkp,_,hI.1,hI.2.1,hI.2.2.1,hI.2.2.2⟩
 case done =>
  rintro D ys W hD rfl ⟨v,hv,hrow,hB,hWz⟩ hK
  have q:=hv.cell
  have hr:(W.putObj D (.deferred none)).ownsRow w.heap.size 3 1 v (kidsU p n).length (intV (kidsU p n)):=row_keep (row_base k2.size hrow) fun g _ _ h2=>World.putObj_heap_other fun e=>by
   obtain⟨cur,hb⟩:=row_blk hrow h2
   unfold Blk at hb
   rw[e,hK] at hb
   cases hb
  have HV:=Lib.hid (ints_own hr)
  have HI:=Lib.hid (belowK_b (n₀:=w.heap.size) (w:=w2) k2.size W D _ (.deferred none) hD hK rfl rfl)
  gi_wp2
  refine⟨by simp,.inl ⟨_,_,rfl,run_takeDeferred hK,?_⟩⟩
  exact⟨_,results_tmp rfl _ _ _,_,rfl,by rw[HR.out];exact HV.out,hB.trans HI.out⟩
 case stop =>
  rintro D c pre W _ _ h _
  exact h.elim
end
