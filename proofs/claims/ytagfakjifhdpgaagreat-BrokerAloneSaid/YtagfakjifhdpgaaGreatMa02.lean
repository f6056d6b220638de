/-
  A region that draws its order, each of whose operations needs no more than what the operations before it (by its edges) have left: one obligation for each operation, whatever order is drawn. Conditions: what an operation leaves stays true while the others go on.
-/
import Derived.Test.YtagfakjifhdpgaaGreatMa01
import Derived.Orders
import Derived.BigQuiet
import Derived.IntWalk
import Derived.Deep.QuietTactic
import Derived.Deep.RegionHeld3
import Derived.Deep.DrawnRows
set_option maxRecDepth 100000
set_option maxHeartbeats 16000000
set_option linter.unusedVariables false
set_option linter.unusedSimpArgs false
namespace Go.Proofs.YtagfakjifhdpgaaGreat
open Go Go.RowKit
section
variable {P:Program} {Q:Exit->Act->World->Prop}
def dstOf (ops:Array Oper) (j:Nat):Option Tmp:=(ops[j]?).bind (·.dst)
def ahead (o:Oper):List Nat:=(o.after.toList.filter (Region.binds .any)).map (·.on)
def regionOk (ops:Array Oper) (n:Nat):Bool :=
 ops.toList.zipIdx.all fun x =>
  (ahead x.1).all (fun j=>decide (j<x.2)) &&
  (match x.1.op with | .select ..=>false|_=>true) &&
  (match x.1.dst with|some d=>decide (d<n)&&ops.toList.zipIdx.all (fun y=>y.2==x.2||y.1.dst != some d)|none=>true) &&
  (match x.1.guard with|some (j,_)=>(ahead x.1).contains j&&(dstOf ops j).isSome|none=>true) &&
  ((x.1.looksAt ops).all fun t=>ops.toList.zipIdx.all fun y=>y.1.dst != some t||(y.2 != x.2&&((ahead x.1).contains y.2||(ahead y.1).contains x.2)))
def rho (ops:Array Oper) (a0:Act) (V:Nat->Value) (o:Oper):Operand->Value
 | .tmp t=>match (ahead o).find? (fun j=>dstOf ops j==some t) with
   | some j=>V j
   | none=>a0.tmps.getD t undef
 | x=>a0.eval x
def wants (V:Nat->Value) (o:Oper):Bool :=
 match o.guard with
 | none=>true
 | some (j,want)=>match V j with
   | .bool b=>b==want
   | _=>false
def upd (L:Nat->Bool) (i:Nat):Nat->Bool:=fun j=>if j=i then true else L j
def Res (P:Program) (R:Value->World->Prop):Result Next->Prop
 | .ok (.value v) w'=>R v w'
 | .ok .skip w'=>R undef w'
 | .ok (.enter f args) w'=>Calls P f args w' fun e w''=>∃ v,e=.returned v/\R v w''
 | _=>False
def updV (V:Nat->Value) (i:Nat) (v:Value):Nat->Value:=fun j=>if j=i then v else V j
def Closed (ops:Array Oper) (L:Nat->Bool):Prop:=(∀ j o,ops[j]?=some o->L j=true->∀ k∈ahead o,L k=true)/\∀ j,L j=true->j<ops.size
def Owed (P:Program) (ops:Array Oper) (a0:Act) (I:(Nat->Bool)->(Nat->Value)->World->Prop) (i:Nat) (o:Oper):Prop :=
 ∀ (L:Nat->Bool) (V:Nat->Value) (w:World),L i=false->Closed ops L->(∀ k∈ahead o,L k=true)->I L V w ->
   if wants V o=true then Res P (fun v w'=>I (upd L i) (updV V i v) w') ((execOp (rho ops a0 V o) o).run P w) else I (upd L i) (updV V i undef) w
def putAll (V:Nat->Value):List Oper->Nat->Act->Act
 | [],_,a=>a
 | o :: r,k,a=>putAll V r (k+1) (a.put o.dst (V k))
structure Inv (ops:Array Oper) (a0:Act) (I:(Nat->Bool)->(Nat->Value)->World->Prop) (L:Array Bool) (a:Act) (w:World):Prop where
 size:L.size=ops.size
 closed:∀ j o,ops[j]?=some o->L.getD j false=true->∀ k∈ahead o,L.getD k false=true
 asz:a.tmps.size=a0.tmps.size
 adef:a.defers=a0.defers
 vals:∃ V:Nat->Value,(∀ j d,L.getD j false=true->dstOf ops j=some d->a.tmps.getD d undef=V j) /\
  (∀ t,(∀ j,L.getD j false=true->dstOf ops j≠some t)->a.tmps.getD t undef=a0.tmps.getD t undef)/\I (fun j=>L.getD j false) V w
theorem regionOk_at {ops:Array Oper} {n:Nat} (h:regionOk ops n=true) {i:Nat} {o:Oper} (hi:ops[i]?=some o) :
 (∀ j∈ahead o,j<i)/\(∀ cs b,o.op≠.select cs b)/\(∀ d,o.dst=some d->d<n/\∀ j p,ops[j]?=some p->j≠i->p.dst≠some d) /\
 (∀ j want,o.guard=some (j,want)->j∈ahead o/\∃ d,dstOf ops j=some d) /\
 (∀ t∈o.looksAt ops,∀ j p,ops[j]?=some p->p.dst=some t->j≠i/\(j∈ahead o∨i∈ahead p)):=by
 have mem:∀ {j:Nat} {p:Oper},ops[j]?=some p->(p,j)∈ops.toList.zipIdx:=fun {j p} hj=>List.mem_zipIdx_iff_getElem?.2 (by simpa using hj)
 have h1:=List.all_eq_true.1 h _ (mem hi)
 simp only[Bool.and_eq_true] at h1
 obtain⟨⟨⟨⟨h1,h2⟩,h3⟩,h4⟩,h5⟩:=h1
 refine⟨fun j hj=>by simpa using List.all_eq_true.1 h1 j hj,?_,?_,?_,?_⟩
 · intro cs b he
   rw[he] at h2
   cases h2
 · intro d hd
   rw[hd] at h3
   simp only[Bool.and_eq_true,decide_eq_true_eq] at h3
   refine⟨h3.1,fun j p hj hne=>?_⟩
   have:=List.all_eq_true.1 h3.2 _ (mem hj)
   simp only[Bool.or_eq_true,beq_iff_eq,bne_iff_ne] at this
   exact this.resolve_left hne
 · intro j want hg
   rw[hg] at h4
   simp only[Bool.and_eq_true,List.contains_iff_mem] at h4
   exact⟨h4.1,Option.isSome_iff_exists.1 h4.2⟩
 · intro t ht j p hj hd
   have:=List.all_eq_true.1 (List.all_eq_true.1 h5 t ht) _ (mem hj)
   simp only[hd,Bool.or_eq_true,Bool.and_eq_true,bne_iff_ne,List.contains_iff_mem] at this
   rcases this with h|h
   · exact absurd rfl h
   · exact h
theorem dstOf_some {ops:Array Oper} {j:Nat} {d:Tmp} (h:dstOf ops j=some d):∃ p,ops[j]?=some p/\p.dst=some d:=by
 unfold dstOf at h
 cases hp:ops[j]? with
 | none=>rw[hp] at h;cases h
 | some p=>rw[hp] at h;exact⟨p,rfl,h⟩
theorem mem_ahead {o:Oper} {k:Nat}:k∈ahead o ↔ ∃ e∈o.after,Region.binds .any e=true/\e.on=k:=by
 simp[ahead,and_assoc]
theorem eval_rho {ops:Array Oper} {a0 a:Act} {L:Array Bool} {V:Nat->Value} {i:Nat} {o:Oper}
 (hok:regionOk ops a0.tmps.size=true) (hi:ops[i]?=some o) (hl:L.getD i false=false) (hp:∀ k∈ahead o,L.getD k false=true)
 (closed:∀ j o,ops[j]?=some o->L.getD j false=true->∀ k∈ahead o,L.getD k false=true)
 (h1:∀ j d,L.getD j false=true->dstOf ops j=some d->a.tmps.getD d undef=V j)
 (h2:∀ t,(∀ j,L.getD j false=true->dstOf ops j≠some t)->a.tmps.getD t undef=a0.tmps.getD t undef) :
 ∀ x∈o.op.operands,a.eval x=rho ops a0 V o x:=by
 obtain⟨k1,k2,k3,k4,k5⟩:=regionOk_at hok hi
 intro x hx
 cases x with
 | tmp t =>
   have ht:t∈o.looksAt ops:=List.mem_append_left _ (List.mem_filterMap.2 ⟨.tmp t,by simpa using hx,rfl⟩)
   show a.tmps.getD t undef=rho ops a0 V o (.tmp t)
   cases hf:(ahead o).find? (fun j=>dstOf ops j==some t) with
   | some j =>
     have hj:=List.find?_some hf
     have hm:=List.mem_of_find?_eq_some hf
     simp only[beq_iff_eq] at hj
     simp only[rho,hf]
     exact h1 j t (hp j hm) hj
   | none =>
     simp only[rho,hf]
     refine h2 t fun j hj hd=>?_
     obtain⟨p,hpj,hpd⟩:=dstOf_some hd
     obtain⟨hne,hor⟩:=k5 t ht j p hpj hpd
     rcases hor with hor|hor
     · have:=List.find?_eq_none.1 hf j hor
       simp[hd] at this
     · have:=closed j p hpj hj i hor
       rw[hl] at this
       cases this
 | const v=>rfl
 | global g=>rfl
 | func f=>rfl
theorem wants_eq {ops:Array Oper} {a0 a:Act} {L:Array Bool} {V:Nat->Value} {i:Nat} {o:Oper}
 (hok:regionOk ops a0.tmps.size=true) (hi:ops[i]?=some o) (hp:∀ k∈ahead o,L.getD k false=true) (hsz:a.tmps.size=a0.tmps.size)
 (h1:∀ j d,L.getD j false=true->dstOf ops j=some d->a.tmps.getD d undef=V j) :
 Region.wanted o (yielded ops a.tmps)=wants V o:=by
 obtain⟨k1,k2,k3,k4,k5⟩:=regionOk_at hok hi
 unfold Region.wanted wants
 cases hg:o.guard with
 | none=>rfl
 | some gw =>
   obtain⟨j,want⟩:=gw
   obtain⟨hj,d,hd⟩:=k4 j want hg
   have hv:=h1 j d (hp j hj) hd
   obtain⟨p,hpj,hpd⟩:=dstOf_some hd
   have hlt:d<a.tmps.size:=by rw[hsz];exact ((regionOk_at hok hpj).2.2.1 d hpd).1
   have hy:yielded ops a.tmps j=match V j with | .bool b=>some b|_=>none:=by
    unfold yielded
    unfold dstOf at hd
    rw[hd]
    have:a.tmps[d]?=some (V j):=by rw[<- hv];simp[hlt]
    show (match a.tmps[d]? with|some (.bool b)=>some b|_=>none)=_
    rw[this]
    cases V j <;> rfl
   simp only[hy]
   cases V j <;> simp
theorem inv_put {ops:Array Oper} {a0 a:Act} {I:(Nat->Bool)->(Nat->Value)->World->Prop} {L:Array Bool} {w':World} {V:Nat->Value} {i:Nat} {o:Oper} {v:Value}
 (hok:regionOk ops a0.tmps.size=true) (hi:ops[i]?=some o) (hl:L.getD i false=false) (hp:∀ k∈ahead o,L.getD k false=true)
 (hsz:L.size=ops.size) (closed:∀ j o,ops[j]?=some o->L.getD j false=true->∀ k∈ahead o,L.getD k false=true)
 (asz:a.tmps.size=a0.tmps.size) (adef:a.defers=a0.defers)
 (h1:∀ j d,L.getD j false=true->dstOf ops j=some d->a.tmps.getD d undef=V j)
 (h2:∀ t,(∀ j,L.getD j false=true->dstOf ops j≠some t)->a.tmps.getD t undef=a0.tmps.getD t undef)
 (hI:I (upd (fun j=>L.getD j false) i) (updV V i v) w') :
 Inv ops a0 I (L.setIfInBounds i true) (a.put o.dst v) w':=by
 obtain⟨k1,k2,k3,k4,k5⟩:=regionOk_at hok hi
 have hlt:i<L.size:=by rw[hsz];exact (Array.getElem?_eq_some_iff.1 hi).1
 have hL:∀ j,(L.setIfInBounds i true).getD j false=upd (fun j=>L.getD j false) i j:=by
  intro j
  unfold upd
  by_cases hj:j=i
  · subst hj;simp[hlt]
  · rw[if_neg hj,getD_set_ne _ (fun e=>hj e.symm)]
 have hL':∀ j,(L.setIfInBounds i true).getD j false=true->j=i∨L.getD j false=true:=by
  intro j hj
  rw[hL j] at hj
  unfold upd at hj
  by_cases hji:j=i
  · exact .inl hji
  · rw[if_neg hji] at hj;exact .inr hj
 refine⟨by simpa using hsz,?_,?_,?_,⟨fun j=>if j=i then v else V j,?_,?_,?_⟩⟩
 · intro j p hpj hj k hk
   rcases hL' j hj with rfl|hj
   · rw[hi] at hpj
     injection hpj with hpj
     subst hpj
     exact getD_set_true (hp k hk)
   · exact getD_set_true (closed j p hpj hj k hk)
 · rw[<- asz]
   cases o.dst <;> simp[Act.put]
 · rw[<- adef]
   cases o.dst <;> rfl
 · intro j d hj hd
   by_cases hji:j=i
   · subst hji
     obtain⟨p,hpj,hpd⟩:=dstOf_some hd
     rw[hi] at hpj
     injection hpj with hpj
     subst hpj
     have:=(k3 d hpd).1
     rw[hpd]
     simp[Act.put,asz,this]
   · show _=if j=i then v else V j
     rw[if_neg hji]
     have hj2:=(hL' j hj).resolve_left hji
     rw[<- h1 j d hj2 hd]
     cases ho:o.dst with
     | none=>rfl
     | some e =>
       obtain⟨p,hpj,hpd⟩:=dstOf_some hd
       have hne:e≠d:=by
        rintro rfl
        exact (k3 e ho).2 j p hpj hji hpd
       simp[Act.put,Array.getElem?_setIfInBounds_ne hne]
 · intro t ht
   have hti:dstOf ops i≠some t:=ht i (by rw[hL];simp[upd])
   rw[<- h2 t fun j hj=>ht j (getD_set_true hj)]
   cases ho:o.dst with
   | none=>rfl
   | some e =>
     have hne:e≠t:=by
      rintro rfl
      exact hti (by unfold dstOf;rw[hi];exact ho)
     simp[Act.put,Array.getElem?_setIfInBounds_ne hne]
 · have:(fun j=>(L.setIfInBounds i true).getD j false)=upd (fun j=>L.getD j false) i:=funext hL
   rw[this]
   exact hI
theorem inv_step {ops:Array Oper} {a0 a:Act} {I:(Nat->Bool)->(Nat->Value)->World->Prop} {L:Array Bool} {w:World} {i:Nat}
 (hok:regionOk ops a0.tmps.size=true) (owed:∀ i o,ops[i]?=some o->Owed P ops a0 I i o)
 (h:Inv ops a0 I L a w) (hr:i∈Region.ready .any ops L):wpOp P ops Q i (Inv ops a0 I (L.setIfInBounds i true)) a w:=by
 obtain⟨hl0,o,hi,hp0⟩:=mem_ready.1 hr
 have hsz:=h.size
 have hlt:i<L.size:=by rw[hsz];exact (Array.getElem?_eq_some_iff.1 hi).1
 have hl:L.getD i false=false:=by simpa [hlt] using hl0
 have hp:∀ k∈ahead o,L.getD k false=true:=by
  intro k hk
  obtain⟨e,he,hb,rfl⟩:=mem_ahead.1 hk
  exact hp0 e he hb
 obtain⟨V,h1,h2,h3⟩:=h.vals
 have k2:=(regionOk_at hok hi).2.1
 have hev:=eval_rho hok hi hl hp h.closed h1 h2
 have hw:=wants_eq hok hi hp h.asz h1
 have hex:execOp a.eval o=execOp (rho ops a0 V o) o:=execOp_congr o k2 hev
 have hlt2:∀ j,L.getD j false=true->j<ops.size:=by
  intro j hj
  by_cases h5:j<L.size
  · omega
  · simp[h5] at hj
 have ob:=owed i o hi (fun j=>L.getD j false) V w hl ⟨h.closed,hlt2⟩ hp h3
 unfold wpOp
 simp only[hi]
 rw[hw]
 by_cases hwt:wants V o=true
 · rw[if_pos hwt] at ob ⊢
   refine .inl ?_
   unfold Oper.wp
   rw[hex]
   generalize (execOp (rho ops a0 V o) o).run P w=r at *
   have put:∀ v w',I (upd (fun j=>L.getD j false) i) (updV V i v) w'->Inv ops a0 I (L.setIfInBounds i true) (a.put o.dst v) w':=fun v w' hv =>
    inv_put hok hi hl hp hsz h.closed h.asz h.adef h1 h2 hv
   cases r with
   | ok n w' =>
     cases n <;> simp only[Res] at ob <;> simp only[Oper.upon]
     case value v=>exact put _ _ ob
     case skip=>exact put _ _ ob
     case enter f args =>
      refine ob.mono ?_
      rintro e w'' ⟨v,rfl,hv⟩
      exact put _ _ hv
   | halt x w'=>simp only[Res] at ob
 · rw[if_neg hwt] at ob ⊢
   exact inv_put hok hi hl hp hsz h.closed h.asz h.adef h1 h2 ob
theorem putAll_at (V:Nat->Value):∀ (l:List Oper) (k:Nat) (a:Act),(putAll V l k a).tmps.size=a.tmps.size/\(putAll V l k a).defers=a.defers /\
 (∀ t,(∀ (j:Nat) (o:Oper),l[j]?=some o->o.dst≠some t)->(putAll V l k a).tmps.getD t undef=a.tmps.getD t undef) /\
 (∀ (j:Nat) (o:Oper) (t:Tmp),l[j]?=some o->o.dst=some t->t<a.tmps.size->(∀ (j':Nat) (o':Oper),l[j']?=some o'->j'≠j->o'.dst≠some t)->(putAll V l k a).tmps.getD t undef=V (k+j)):=by
 intro l
 induction l with
 | nil=>intro k a;exact⟨rfl,rfl,fun _ _=>rfl,fun j o t h=>by simp at h⟩
 | cons o r ih =>
   intro k a
   obtain⟨i1,i2,i3,i4⟩:=ih (k+1) (a.put o.dst (V k))
   have hs:(a.put o.dst (V k)).tmps.size=a.tmps.size:=by cases o.dst <;> simp[Act.put]
   refine⟨i1.trans hs,i2.trans (by cases o.dst <;> rfl),fun t ht=>?_,fun j p t hj hd hlt hu=>?_⟩
   · show (putAll V r (k+1) (a.put o.dst (V k))).tmps.getD t undef=_
     rw[i3 t fun j p hj=>ht (j+1) p (by simpa using hj)]
     have h0:=ht 0 o (by simp)
     cases ho:o.dst with
     | none=>rfl
     | some e =>
       have hne:e≠t:=by rintro rfl;exact h0 ho
       simp[Act.put,Array.getElem?_setIfInBounds_ne hne]
   · show (putAll V r (k+1) (a.put o.dst (V k))).tmps.getD t undef=_
     cases j with
     | zero =>
       simp at hj
       subst hj
       rw[i3 t fun j p hj=>hu (j+1) p (by simpa using hj) (by omega),hd]
       simp[Act.put,hlt]
     | succ j =>
       have:=i4 j p t (by simpa using hj) hd (by rw[hs];exact hlt) fun j' o' hj' hne=>hu (j'+1) o' (by simpa using hj') (by omega)
       rw[this]
       congr 1
       omega
theorem all_listed {ops:Array Oper} {n:Nat} {L:Array Bool} (hok:regionOk ops n=true) (hsz:L.size=ops.size) (hr:Region.ready .any ops L=[]):∀ i,i<ops.size->L.getD i false=true:=by
 intro i
 induction i using Nat.strongRecOn with
 | _ i ih =>
   intro hi
   by_cases h:L.getD i false=true
   · exact h
   · exfalso
     have ho:ops[i]?=some ops[i]:=by simp[hi]
     have:i∈Region.ready .any ops L:=by
      refine mem_ready.2 ⟨?_,_,ho,fun e he hb=>?_⟩
      · have hlt:i<L.size:=by omega
        simpa [hlt] using h
      · have hk:e.on∈ahead ops[i]:=mem_ahead.2 ⟨e,he,hb,rfl⟩
        have hlt:=(regionOk_at hok ho).1 _ hk
        exact ih _ hlt (by omega)
     rw[hr] at this
     cases this
theorem inv_all {ops:Array Oper} {a0:Act} {I:(Nat->Bool)->(Nat->Value)->World->Prop}
 (hok:regionOk ops a0.tmps.size=true) (owed:∀ i o,ops[i]?=some o->Owed P ops a0 I i o)
 (fin:∀ (V:Nat->Value) (w:World),I (fun j=>decide (j<ops.size)) V w->Q .normal (putAll V ops.toList 0 a0) w) :
 ∀ (fuel:Nat) (L:Array Bool) (a:Act) (w:World),L.toList.count false<=fuel->Inv ops a0 I L a w->wpAny P .any ops Q fuel L a w:=by
 have done:∀ (L:Array Bool) (a:Act) (w:World),Inv ops a0 I L a w->Region.ready .any ops L=[]->Q .normal a w:=by
  intro L a w h hr
  have hall:=all_listed hok h.size hr
  obtain⟨V,h1,h2,h3⟩:=h.vals
  have hLf:(fun j=>L.getD j false)=fun j=>decide (j<ops.size):=by
   funext j
   by_cases hj:j<ops.size
   · rw[hall j hj];simp[hj]
   · have:¬ j<L.size:=by rw[h.size];exact hj
     simp[hj,this]
  rw[hLf] at h3
  have hq:=fin V w h3
  obtain⟨p1,p2,p3,p4⟩:=putAll_at V ops.toList 0 a0
  have ha:a=putAll V ops.toList 0 a0:=by
   have e2:a.defers=(putAll V ops.toList 0 a0).defers:=h.adef.trans p2.symm
   have e1:a.tmps=(putAll V ops.toList 0 a0).tmps:=by
    apply Array.ext
    · rw[h.asz,p1]
    · intro t ht1 ht2
      have g1:a.tmps[t]=a.tmps.getD t undef:=by simp[ht1]
      have g2:(putAll V ops.toList 0 a0).tmps[t]=(putAll V ops.toList 0 a0).tmps.getD t undef:=by simp[ht2]
      rw[g1,g2]
      by_cases hex:∃ j,j<ops.size/\dstOf ops j=some t
      · obtain⟨j,hj,hd⟩:=hex
        obtain⟨p,hpj,hpd⟩:=dstOf_some hd
        rw[h1 j t (hall j hj) hd]
        have h5:=p4 j p t (by simpa using hpj) hpd (by rw[<- h.asz];exact ht1) fun j' o' hj' hne hd'=>(regionOk_at hok hpj).2.2.1 t hpd |>.2 j' o' (by simpa using hj') hne hd'
        rw[h5,Nat.zero_add]
      · rw[h2 t fun j hj hd=>hex ⟨j,?_,hd⟩,p3 t fun j o hj hd=>hex ⟨j,?_,?_⟩]
        · have:=(List.getElem?_eq_some_iff.1 hj).1
          simpa using this
        · unfold dstOf
          have hj':ops[j]?=some o:=by simpa using hj
          rw[hj']
          exact hd
        · obtain⟨p,hpj,_⟩:=dstOf_some hd
          exact (Array.getElem?_eq_some_iff.1 hpj).1
   calc a=⟨a.tmps,a.defers⟩:=rfl
    _=_:=by rw[e1,e2]
  rw[ha]
  exact hq
 intro fuel
 induction fuel with
 | zero =>
   intro L a w hcnt h
   have hr:Region.ready .any ops L=[]:=by
    apply List.eq_nil_iff_forall_not_mem.2
    intro i hi
    obtain⟨hl0,o,ho,_⟩:=mem_ready.1 hi
    have hlt:i<L.size:=by rw[h.size];exact (Array.getElem?_eq_some_iff.1 ho).1
    have hf:L[i]=false:=by simpa [hlt] using hl0
    have:false∈L.toList:=by rw[<- hf];simp
    have:=List.count_pos_iff.2 this
    omega
   exact⟨hr,done L a w h hr⟩
 | succ fuel ih =>
   intro L a w hcnt h
   refine⟨done L a w h,fun i hi=>?_⟩
   refine wpOp_mono (fun a' w' h'=>ih _ a' w' ?_ h') (inv_step hok owed h hi)
   obtain⟨hl0,o,ho,_⟩:=mem_ready.1 hi
   have hlt:i<L.size:=by rw[h.size];exact (Array.getElem?_eq_some_iff.1 ho).1
   have hf:L[i]=false:=by simpa [hlt] using hl0
   have hpos:0<L.toList.count false:=List.count_pos_iff.2 (by rw[<- hf];simp)
   rw[Array.toList_setIfInBounds,List.count_set (by simpa using hlt)]
   have e1:(L.toList[i]'(by simpa using hlt)==false)=true:=by simp[hf]
   rw[if_pos e1,if_neg (by decide)]
   omega
theorem wp_region_inv {id:Nat} {ops:Array Oper} {a0:Act} {w:World} (I:(Nat->Bool)->(Nat->Value)->World->Prop)
 (n:Nat) (hn:a0.tmps.size=n) (hm:P.follows .mixedOrders=true) (hok:regionOk ops n=true)
 (hI:I (fun _=>false) (fun _=>undef) w.drew) (owed:∀ i o,ops[i]?=some o->Owed P ops a0 I i o)
 (fin:∀ (V:Nat->Value) (w:World),I (fun j=>decide (j<ops.size)) V w->Q .normal (putAll V ops.toList 0 a0) w) :
 (Code.region id ops true).wp P Q a0 w:=by
 subst hn
 refine wp_region_any hm (inv_all hok owed fin _ _ _ _ ?_ ⟨by simp,?_,rfl,rfl,⟨fun _=>undef,?_,fun _ _=>rfl,?_⟩⟩)
 · refine Nat.le_trans List.count_le_length ?_
   simp
 · intro j o ho hj
   have hlt:j<ops.size:=(Array.getElem?_eq_some_iff.1 ho).1
   simp[hlt] at hj
 · intro j d hj hd
   by_cases hlt:j<ops.size <;> simp[hlt] at hj
 · have:(fun j=>(Array.replicate ops.size false).getD j false)=fun _=>false:=by
    funext j
    by_cases hlt:j<ops.size <;> simp[hlt]
   rw[this]
   exact hI
def tab (l:List (Value->World->Prop)) (i:Nat) (v:Value) (w:World):Prop:=(l.getD i (fun _ _=>True)) v w
theorem tab_zero (f:Value->World->Prop) (l:List (Value->World->Prop)) (v:Value) (w:World):tab (f :: l) 0 v w=f v w:=rfl
theorem tab_succ (f:Value->World->Prop) (l:List (Value->World->Prop)) (n:Nat) (v:Value) (w:World):tab (f :: l) (n+1) v w=tab l n v w:=rfl
theorem tab_stable {Le:World->World->Prop} {l:List (Value->World->Prop)} (h:∀ f∈l,∀ v w w',f v w->Le w w'->f v w'):∀ j v w w',tab l j v w->Le w w'->tab l j v w':=by
 intro j v w w' hf hle
 unfold tab at *
 by_cases hj:j<l.length
 · simp only[List.getD_eq_getElem?_getD,List.getElem?_eq_getElem hj,Option.getD_some] at *
   exact h _ (List.getElem_mem hj) v w w' hf hle
 · simp only[List.getD_eq_getElem?_getD,List.getElem?_eq_none (Nat.le_of_not_lt hj),Option.getD_none]
def rhoP (rd:List (Nat×Nat)) (a0:Act) (V:Nat->Value):Operand->Value
 | .tmp t=>match rd.lookup t with
   | some j=>V j
   | none=>a0.tmps.getD t undef
 | x=>a0.eval x
def wantsG (V:Nat->Value):Option (Nat×Bool)->Bool
 | none=>true
 | some (j,want)=>match V j with
   | .bool b=>b==want
   | _=>false
def bareOp (op:Op) (ty:TypeId):Oper:={ dst:=none,op:=op,type:=ty,pos:="",after:=#[],guard:=none }
def OwedE (P:Program) (ops:Array Oper) (a0:Act) (I:(Nat->Bool)->(Nat->Value)->World->Prop) (k:Nat) (op:Op) (ty:TypeId) (gd:Option (Nat×Bool)) (al:List Nat) (rd:List (Nat×Nat)):Prop :=
 ∀ (L:Nat->Bool) (V:Nat->Value) (w:World),L k=false->Closed ops L->(∀ j∈al,L j=true)->I L V w ->
   if wantsG V gd=true then Res P (fun v w'=>I (upd L k) (updV V k v) w') ((execOp (rhoP rd a0 V) (bareOp op ty)).run P w) else I (upd L k) (updV V k undef) w
def OwedP (P:Program) (ops:Array Oper) (a0:Act) (I:(Nat->Bool)->(Nat->Value)->World->Prop):Nat->List Oper->List (List Nat×List (Nat×Nat))->Prop
 | _,[],_=>True
 | _,_ :: _,[]=>False
 | k,o :: r,x :: xs=>OwedE P ops a0 I k o.op o.type o.guard x.1 x.2/\OwedP P ops a0 I (k+1) r xs
def planOk (ops:Array Oper) (pl:List (List Nat×List (Nat×Nat))):Bool :=
 ops.toList.zipIdx.all fun x=>match pl[x.2]? with
  | none=>false
  | some (al,rd)=>al.all (fun j=>(ahead x.1).contains j) &&
    (match x.1.op with | .select ..=>false|_=>true) &&
    (x.1.op.operands.toList.all fun y=>match y with
     | .tmp t=>(ahead x.1).find? (fun j=>dstOf ops j==some t)==rd.lookup t
     | _=>true)
theorem execOp_bare (ρ:Operand->Value) (o:Oper):execOp ρ o=execOp ρ (bareOp o.op o.type):=by
 cases o with
 | mk dst op type pos after guard=>cases op <;> rfl
theorem owed_plan {ops:Array Oper} {a0:Act} {I:(Nat->Bool)->(Nat->Value)->World->Prop} (pl:List (List Nat×List (Nat×Nat)))
 (hok:planOk ops pl=true) (h:OwedP P ops a0 I 0 ops.toList pl):∀ i o,ops[i]?=some o->Owed P ops a0 I i o:=by
 have key:∀ (l:List Oper) (k:Nat) (q:List (List Nat×List (Nat×Nat))),OwedP P ops a0 I k l q->∀ (i:Nat) (o:Oper),l[i]?=some o->∃ x,q[i]?=some x/\OwedE P ops a0 I (k+i) o.op o.type o.guard x.1 x.2:=by
  intro l
  induction l with
  | nil=>intro k q _ i o hi;simp at hi
  | cons p r ih =>
    intro k q hk i o hi
    cases q with
    | nil=>exact False.elim hk
    | cons x xs =>
      cases i with
      | zero=>simp at hi;subst hi;exact⟨x,rfl,hk.1⟩
      | succ i =>
        obtain⟨y,hy,he⟩:=ih (k+1) xs hk.2 i o (by simpa using hi)
        exact⟨y,by simpa using hy,by rwa [show k+(i+1)=k+1+i by omega]⟩
 intro i o hi
 obtain⟨⟨al,rd⟩,hx,he⟩:=key _ 0 pl h i o (by simpa using hi)
 rw[Nat.zero_add] at he
 have h1:=List.all_eq_true.1 hok (o,i) (List.mem_zipIdx_iff_getElem?.2 (by simpa using hi))
 simp only[hx,Bool.and_eq_true] at h1
 obtain⟨⟨h1,h2⟩,h3⟩:=h1
 intro L V w hl hcl hL hc
 have hal:∀ j∈al,j∈ahead o:=fun j hj=>by simpa using List.all_eq_true.1 h1 j hj
 have ob:=he L V w hl hcl (fun j hj=>hL j (hal j hj)) hc
 have hw:wants V o=wantsG V o.guard:=by unfold wants wantsG;rfl
 have hex:execOp (rho ops a0 V o) o=execOp (rhoP rd a0 V) (bareOp o.op o.type):=by
  rw[<- execOp_bare]
  refine execOp_congr o (fun cs b e=>by rw[e] at h2;cases h2) fun y hy=>?_
  have h4:=List.all_eq_true.1 h3 y (by simpa using hy)
  cases y with
  | tmp t =>
    simp only[beq_iff_eq] at h4
    simp only[rho,rhoP,h4]
  | const v=>rfl
  | global g=>rfl
  | func f=>rfl
 rw[hw,hex]
 exact ob
def ResG (P:Program) (φ:Value->World->Prop) (w:World):Result Next->Prop
 | .ok (.value v) w'=>φ v w'/\Below w.heap.size w w'
 | .ok .skip w'=>φ undef w'/\Below w.heap.size w w'
 | .ok (.enter f args) w'=>Calls P f args w' fun e w''=>∃ v,e=.returned v/\φ v w''/\Below w.heap.size w w''
 | _=>False
def OwedG (P:Program) (a0:Act) (C:World->Prop) (φ:Nat->Value->World->Prop) (k:Nat) (op:Op) (ty:TypeId) (gd:Option (Nat×Bool)) (al:List Nat) (rd:List (Nat×Nat)):Prop :=
 ∀ (V:Nat->Value) (w:World),C w->(∀ j∈al,φ j (V j) w)->if wantsG V gd=true then ResG P (φ k) w ((execOp (rhoP rd a0 V) (bareOp op ty)).run P w) else φ k undef w
def OwedQ (P:Program) (a0:Act) (C:World->Prop) (φ:Nat->Value->World->Prop):Nat->List Oper->List (List Nat×List (Nat×Nat))->Prop
 | _,[],_=>True
 | _,_ :: _,[]=>False
 | k,o :: r,x :: xs=>OwedG P a0 C φ k o.op o.type o.guard x.1 x.2/\OwedQ P a0 C φ (k+1) r xs
def GrowI (C:World->Prop) (l:List (Value->World->Prop)) (L:Nat->Bool) (V:Nat->Value) (w:World):Prop:=C w/\∀ j,L j=true->tab l j (V j) w
theorem upd_true {L:Nat->Bool} {i j:Nat} (h:upd L i j=true):j=i∨L j=true:=by
 unfold upd at h
 by_cases hj:j=i
 · exact .inl hj
 · rw[if_neg hj] at h;exact .inr h
theorem OwedQ.toP {ops:Array Oper} {a0:Act} {C:World->Prop} {t:List (Value->World->Prop)} (hg:∀ W W',C W->Below W.heap.size W W'->C W')
 (st:∀ f∈t,∀ v w w',f v w->Below w.heap.size w w'->f v w') :
 ∀ (l:List Oper) (k:Nat) (pl:List (List Nat×List (Nat×Nat))),OwedQ P a0 C (tab t) k l pl->OwedP P ops a0 (GrowI C t) k l pl:=by
 intro l
 induction l with
 | nil=>intro k pl _;exact trivial
 | cons o r ih =>
   intro k pl h
   cases pl with
   | nil=>exact False.elim h
   | cons x xs =>
     refine⟨?_,ih _ _ h.2⟩
     intro L V w _ _ hal ⟨hc,hp⟩
     have ob:=h.1 V w hc fun j hj=>hp j (hal j hj)
     have next:∀ v w',tab t k v w'->Below w.heap.size w w'->GrowI C t (upd L k) (updV V k v) w':=by
      intro v w' hv hb
      refine⟨hg _ _ hc hb,fun j hj=>?_⟩
      unfold updV
      by_cases hjk:j=k
      · subst hjk;simpa using hv
      · rw[if_neg hjk];exact tab_stable (Le:=fun w w'=>Below w.heap.size w w') st _ _ _ _ (hp j ((upd_true hj).resolve_left hjk)) hb
     by_cases hw:wantsG V o.guard=true
     · rw[if_pos hw] at ob ⊢
       generalize (execOp (rhoP x.2 a0 V) (bareOp o.op o.type)).run P w=q at *
       cases q with
       | ok n w' =>
         cases n <;> simp only[ResG] at ob <;> simp only[Res]
         case value v=>exact next _ _ ob.1 ob.2
         case skip=>exact next _ _ ob.1 ob.2
         case enter f args =>
          refine ob.mono ?_
          rintro e w'' ⟨v,rfl,hv,hb⟩
          exact⟨v,rfl,next _ _ hv hb⟩
       | halt x w'=>simp only[ResG] at ob
     · rw[if_neg hw] at ob ⊢
       exact next _ _ ob (Below.refl _ _)
theorem wp_region_grow {id:Nat} {ops:Array Oper} {a0:Act} {w:World} (C:World->Prop) (l:List (Value->World->Prop)) (pl:List (List Nat×List (Nat×Nat)))
 (n:Nat) (hn:a0.tmps.size=n) (hm:P.follows .mixedOrders=true) (hok:regionOk ops n=true) (hpl:planOk ops pl=true)
 (hg:∀ W W',C W->Below W.heap.size W W'->C W') (hC:C w.drew)
 (st:∀ f∈l,∀ v w w',f v w->Below w.heap.size w w'->f v w')
 (owed:OwedQ P a0 C (tab l) 0 ops.toList pl)
 (fin:∀ (V:Nat->Value) (w:World),C w->(∀ j,j<ops.size->tab l j (V j) w)->Q .normal (putAll V ops.toList 0 a0) w) :
 (Code.region id ops true).wp P Q a0 w :=
 wp_region_inv (GrowI C l) n hn hm hok ⟨hC,fun _ h=>by cases h⟩ (owed_plan pl hpl (OwedQ.toP hg st _ _ _ owed)) fun V w h=>fin V w h.1 fun j hj=>h.2 j (by simpa using hj)
def ResT (P:Program) (C D1:World->Prop) (Le:World->World->Prop) (φ:Value->World->Prop) (w:World):Result Next->Prop
 | .ok (.value v) w'=>φ v w'/\C w'/\D1 w'/\Le w w'
 | .ok .skip w'=>φ undef w'/\C w'/\D1 w'/\Le w w'
 | .ok (.enter f args) w'=>Calls P f args w' fun e w''=>∃ v,e=.returned v/\φ v w''/\C w''/\D1 w''/\Le w w''
 | _=>False
def OwedT1 (P:Program) (a0:Act) (C D0 D1:World->Prop) (Le:World->World->Prop) (φ:Nat->Value->World->Prop) (k:Nat) (op:Op) (ty:TypeId) (gd:Option (Nat×Bool)) (al:List Nat) (rd:List (Nat×Nat)):Prop :=
 gd=none/\∀ (V:Nat->Value) (w:World),C w->D0 w->(∀ j∈al,φ j (V j) w)->ResT P C D1 Le (φ k) w ((execOp (rhoP rd a0 V) (bareOp op ty)).run P w)
def OwedT (P:Program) (a0:Act) (C D0 D1:World->Prop) (Le:World->World->Prop) (φ:Nat->Value->World->Prop) (z:Nat):Nat->List Oper->List (List Nat×List (Nat×Nat))->Prop
 | _,[],_=>True
 | _,_ :: _,[]=>False
 | k,o :: r,x :: xs=>(if k=z then OwedT1 P a0 C D0 D1 Le φ k o.op o.type o.guard x.1 x.2 else OwedG P a0 C φ k o.op o.type o.guard x.1 x.2)/\OwedT P a0 C D0 D1 Le φ z (k+1) r xs
def TurnI (C D0 D1:World->Prop) (l:List (Value->World->Prop)) (z:Nat) (L:Nat->Bool) (V:Nat->Value) (w:World):Prop:=C w/\(if L z=true then D1 w else D0 w)/\∀ j,L j=true->tab l j (V j) w
def isV (c:Value) (v:Value) (_:World):Prop:=v=c
def anyV (_:Value) (_:World):Prop:=True
def sl (l:List UInt8) (v:Value) (w:World):Prop:=∃ A c,v=.slice A l.length c/\Reads w w.heap.size 1 A l.length (bys l)
theorem isV_st (c:Value):∀ v w w',isV c v w->Below w.heap.size w w'->isV c v w':=fun _ _ _ h _=>h
theorem anyV_st:∀ v w w',anyV v w->Below w.heap.size w w'->anyV v w':=fun _ _ _ h _=>h
theorem sl_st (l:List UInt8):∀ v w w',sl l v w->Below w.heap.size w w'->sl l v w':=by
 rintro v w w' ⟨A,c,h,hr⟩ hb
 exact⟨A,c,h,(hr.below hb (Nat.le_refl _)).more hb.size⟩
theorem sl_own {w:World} {base:Nat} {e:TypeId} {v:Value} {l:List UInt8} (h:Own w base e v l):sl l v w:=by
 obtain⟨A,c,h1,h2⟩:=h.slice
 exact⟨A,c,h1,h2⟩
theorem run_sl {P:Program} {w:World} {v:Value} {l:List UInt8} (src dst e:TypeId) (hs:P.underlying src=some (.slice e)) (he:P.underlying e=some (.int .u8)) (hd:P.underlying dst=some .string)
 (h:sl l v w):(convert src dst v).run P w=.ok (.string ⟨l.toArray⟩) w:=by
 obtain⟨A,c,rfl,hr⟩:=h
 exact run_str w src dst e hs he hd _ A _ c l hr
end
def okA (x:Att):Bool:=okName x.1&&okV x.2.1 x.2.2.1 x.2.2.2
def ltS (a b:ByteArray):Bool:=Op.bytesLess a.toList b.toList
theorem less_eq:∀ x y:List UInt8,Op.bytesLess x y=decide (x<y)
 | [],[]=>by simp[Op.bytesLess]
 | _ :: _,[]=>by simp[Op.bytesLess]
 | [],_ :: _=>by simp[Op.bytesLess]
 | a :: x,b :: y=>by
   rw[Op.bytesLess,less_eq x y]
   simp only[List.cons_lt_cons_iff]
   by_cases h1:a<b <;> by_cases h2:a=b <;> simp[h1,h2]
theorem ltS_iff (a b:ByteArray):ltS a b=true ↔ byt a<byt b:=by
 unfold ltS;rw[less_eq,ByteArray.toList_eq,ByteArray.toList_eq];simp
theorem byt_inj {a b:ByteArray} (h:byt a=byt b):a=b:=by
 cases a;cases b;simp only[ByteArray.mk.injEq];exact Array.toList_inj.1 h
theorem byt_beq (a b:ByteArray):(a.toList==b.toList)=decide (a=b):=by
 rw[ByteArray.toList_eq,ByteArray.toList_eq]
 by_cases h:a=b
 · subst h;simp
 · rw[beq_eq_false_iff_ne.2 (fun e=>h (byt_inj e))];simp[h]
theorem ltS_irrefl (a:ByteArray):ltS a a=false:=by
 rw[Bool.eq_false_iff,Ne,ltS_iff];exact List.lt_irrefl _
theorem ltS_trans {a b c:ByteArray} (h:ltS a b=true) (k:ltS b c=true):ltS a c=true:=by
 rw[ltS_iff] at *;exact List.lt_trans h k
theorem ltS_tri (a b:ByteArray):(Op.bytesLess a.toList b.toList||a.toList==b.toList)=!ltS b a:=by
 have h1:Op.bytesLess a.toList b.toList=ltS a b:=rfl
 rw[h1,byt_beq]
 by_cases e:a=b
 · subst e;simp[ltS_irrefl]
 · cases h:ltS a b
   · cases k:ltS b a
     · exfalso
       have n1:¬ byt a<byt b:=fun x=>by rw[(ltS_iff a b).2 x] at h;cases h
       have n2:¬ byt b<byt a:=fun x=>by rw[(ltS_iff b a).2 x] at k;cases k
       exact e (byt_inj (List.le_antisymm (List.not_lt.1 n2) (List.not_lt.1 n1)))
     · simp[e]
   · cases k:ltS b a
     · simp
     · have:=ltS_trans h k;rw[ltS_irrefl] at this;cases this
def lastN:Option ByteArray->List Att->Option ByteArray
 | p,[]=>p
 | _,x :: r=>lastN (some x.1) r
def behind (p:Option ByteArray) (s:ByteArray):Bool:=match p with|none=>true|some y=>ltS y s
def okL:Option ByteArray->List Att->Bool
 | _,[]=>true
 | p,x :: r=>okA x&&behind p x.1&&okL (some x.1) r
def okE (l:List Att):Bool:=decide (1<=l.length)&&decide (l.length<=16)&&okL none l
def chkE (l:List Att):Int:=if okE l then 0 else 40
theorem lastN_append (p:Option ByteArray) (a b:List Att):lastN p (a++b)=lastN (lastN p a) b:=by
 induction a generalizing p with
 | nil=>rfl
 | cons x a ih=>simp only[List.cons_append,lastN];exact ih _
theorem okL_append (p:Option ByteArray) (a b:List Att):okL p (a++b)=(okL p a&&okL (lastN p a) b):=by
 induction a generalizing p with
 | nil=>simp[okL,lastN]
 | cons x a ih=>simp only[List.cons_append,okL,lastN,ih,Bool.and_assoc]
theorem lastN_take (l:List Att) (k:Nat) (h:k<l.length):lastN none (l.take (k+1))=some l[k].1:=by
 rw[List.take_succ_eq_append_getElem h,lastN_append];rfl
theorem okL_zero (l:List Att) (h:0<l.length):okL none (l.take 1)=okA l[0]:=by
 rw[List.take_succ_eq_append_getElem h];simp[okL,behind]
theorem okL_succ (l:List Att) (k:Nat) (h:k+1<l.length):okL none (l.take (k+1+1))=(okL none (l.take (k+1))&&(okA l[k+1]&&ltS (l[k]'(by omega)).1 l[k+1].1)):=by
 rw[List.take_succ_eq_append_getElem h,okL_append,lastN_take l k (by omega)];simp[okL,behind]
theorem okL_bad (l:List Att) (k:Nat) (h:okL none (l.take k)=false):okL none l=false:=by
 have:=okL_append none (l.take k) (l.drop k)
 rw[List.take_append_drop,h] at this
 simpa using this
theorem okE_bad (l:List Att) (k:Nat) (h:okL none (l.take k)=false):chkE l=40:=by simp[chkE,okE,okL_bad l k h]
theorem okE_good (l:List Att) (h1:1<=l.length) (h2:l.length<=16) (h:okL none (l.take l.length)=true):chkE l=0:=by
 rw[List.take_length] at h
 simp[chkE,okE,h,h1,h2]
abbrev attv (x:Att):Value:=.agg #[.string x.1,.int .i64 x.2.1,.int .i64 x.2.2.1,.string x.2.2.2]
theorem atts_at (l:List Att) (k:Nat) (hk:k<l.length):∀ j,(hj:j<4)->(l.flatMap attc)[k * 4+j]?=some ((attc l[k])[j]'hj):=by
 intro j hj
 rw[List.flatMap_def,flatten_at 4 _ (by intro cs hcs;obtain⟨y,_,rfl⟩:=List.mem_map.1 hcs;rfl) k j (by simpa using hk) hj]
 simp[hk]
theorem atts_len (l:List Att):(l.flatMap attc).length=l.length * 4:=by
 rw[List.flatMap_def,flatten_len 4 _ (by intro cs hcs;obtain⟨y,_,rfl⟩:=List.mem_map.1 hcs;rfl)];simp
theorem Reads.atts {w:World} {B n:Nat} {A:Option Addr} {l:List Att} (h:Reads w B 4 A n (l.flatMap attc)) (hl:0<l.length) :
 ∃ b off,A=some ⟨b,off,none⟩/\b<B/\∀ k (hk:k<l.length),w.cell? ⟨b,off+k * 4,none⟩=some (.string l[k].1)/\w.cell? ⟨b,off+k * 4+1,none⟩=some (.int .i64 l[k].2.1) /\
   w.cell? ⟨b,off+k * 4+2,none⟩=some (.int .i64 l[k].2.2.1)/\w.cell? ⟨b,off+k * 4+3,none⟩=some (.string l[k].2.2.2):=by
 obtain⟨b,off,e,hb,hc⟩:=h.2 (by rw[atts_len];omega)
 refine⟨b,off,e,hb,fun k hk=>?_⟩
 have h0:=hc _ _ (atts_at l k hk 0 (by decide))
 have h1:=hc _ _ (atts_at l k hk 1 (by decide))
 have h2:=hc _ _ (atts_at l k hk 2 (by decide))
 have h3:=hc _ _ (atts_at l k hk 3 (by decide))
 simp only[Nat.add_zero,<- Nat.add_assoc] at h0 h1 h2 h3
 exact⟨h0,h1,h2,h3⟩
theorem below_drewN {B:Nat} {w w':World} (h:Below B w w') (n:Nat):Below B w (w'.drewN n):=by
 induction n with
 | zero=>exact h
 | succ n ih=>exact⟨h.os,h.tape,h.output,h.size,h.block⟩
def evt (l:List Att) (v:Value) (w:World):Prop:=∃ A c,v=.slice A l.length c/\Reads w w.heap.size 4 A l.length (l.flatMap attc)
theorem evt_st (l:List Att):∀ v w w',evt l v w->Below w.heap.size w w'->evt l v w':=by
 rintro v w w' ⟨A,c,rfl,hr⟩ hb
 exact⟨A,c,rfl,(hr.below hb (Nat.le_refl _)).more hb.size⟩
theorem str {w:World} {v:Value} {l:List UInt8} (h:sl l v w):(convert 62 9 v).run Tryz.prog w=.ok (.string ⟨l.toArray⟩) w :=
 run_sl _ _ _ Tryz.underlying62 Tryz.underlying5 Tryz.underlying9 h
def rdA (l:List UInt8) (wr:Bool):Att×List UInt8×Bool :=
 ((⟨(rdB 16 l wr).1.toArray⟩,(rdV (rdB 16 l wr).2.1 (rdB 16 l wr).2.2).1.1,(rdV (rdB 16 l wr).2.1 (rdB 16 l wr).2.2).1.2.1,⟨(rdV (rdB 16 l wr).2.1 (rdB 16 l wr).2.2).1.2.2.toArray⟩),(rdV (rdB 16 l wr).2.1 (rdB 16 l wr).2.2).2)
def rdAs:Nat->List UInt8->Bool->List Att×List UInt8×Bool
 | 0,l,wr=>([],l,wr)
 | k+1,l,wr=>((rdAs k l wr).1++[(rdA (rdAs k l wr).2.1 (rdAs k l wr).2.2).1],(rdA (rdAs k l wr).2.1 (rdAs k l wr).2.2).2)
def decS (b:List UInt8):List Att×List UInt8×Bool:=rdAs (rdN b false).1 (rdN b false).2.1 (rdN b false).2.2
def decE (b:List UInt8):Option (List Att) :=
 if decide ((rdN b false).1<=16)&&!(decS b).2.2&&(decS b).2.1.isEmpty&&okE (decS b).1 then some (decS b).1 else none
def decL (b:List UInt8):List Att:=(decE b).getD []
def decC (b:List UInt8):Int:=if (decE b).isSome then 0 else 40
theorem rdV_len (l:List UInt8) (wr:Bool):(rdV l wr).2.1.length<=l.length:=by
 have h1:=rdN_len l wr
 have h2:=rdN_len (rdN l wr).2.1 (rdN l wr).2.2
 have h3:=rdB_len 40 (rdN (rdN l wr).2.1 (rdN l wr).2.2).2.1 (rdN (rdN l wr).2.1 (rdN l wr).2.2).2.2
 simp only[rdV]
 split <;> (simp only;omega)
theorem rdV_i64 (l:List UInt8) (wr:Bool):i64ok (rdV l wr).1.1/\i64ok (rdV l wr).1.2.1:=by
 cases h:(rdV l wr).2.2
 · obtain⟨_,h2,_,h4,h5⟩:=rdV_back h
   have:=(okV_kind h2).1
   exact⟨by unfold i64ok;omega,h4,h5⟩
 · have:(rdV l wr).1=(0,0,[]):=by
    simp only[rdV] at h ⊢
    split at h
    · rename_i hq;rw[if_pos hq]
    · cases h
   rw[this];unfold i64ok;simp
theorem rdA_len (l:List UInt8) (wr:Bool):(rdA l wr).2.1.length<=l.length :=
 Nat.le_trans (rdV_len _ _) (rdB_len 16 l wr)
theorem rdAs_len (k:Nat) (l:List UInt8) (wr:Bool):(rdAs k l wr).2.1.length<=l.length/\(rdAs k l wr).1.length=k:=by
 induction k with
 | zero=>exact⟨Nat.le_refl _,rfl⟩
 | succ k ih=>exact⟨Nat.le_trans (rdA_len _ _) ih.1,by simp[rdAs,ih.2]⟩
theorem rdB_most (most:Int) (l:List UInt8) (wr:Bool):(rdB most l wr).1.length<=most.toNat:=by
 unfold rdB
 split
 · simp
 · rename_i h
   simp at h
   simp;omega
theorem rdAs_fit (k:Nat) (l:List UInt8) (wr:Bool):∀ x∈(rdAs k l wr).1,(i64ok x.2.1/\i64ok x.2.2.1)/\x.1.size<=16:=by
 induction k with
 | zero=>simp[rdAs]
 | succ k ih =>
   intro x hx
   rcases List.mem_append.1 hx with hx|hx
   · exact ih x hx
   · simp only[List.mem_singleton] at hx
     subst hx
     exact⟨rdV_i64 _ _,rdB_most 16 _ _⟩
theorem infoAtt:(Tryz.prog.info? 90).map (fun i=>(i.zero,i.size,i.bytes))=some (some (.agg #[.string { data:=#[] },.int .i64 0,.int .i64 0,.string { data:=#[] }]),4,48):=by kernel_rfl
theorem TE:SliceT Tryz.prog 45 90 (.agg #[.string { data:=#[] },.int .i64 0,.int .i64 0,.string { data:=#[] }]) 4 48:=⟨Tryz.underlying45,infoAtt,rfl,by decide⟩
abbrev OwnE (w:World) (base:Nat) (v:Value) (l:List Att):Prop:=w.ownsRow base 90 4 v l.length (l.flatMap attc)
theorem OwnE.slice {w:World} {base:Nat} {v:Value} {l:List Att} (h:OwnE w base v l):∃ A c,v=.slice A l.length c/\Reads w w.heap.size 4 A l.length (l.flatMap attc)/\l.length<=c/\c<=maxLen:=by
 have h':=h
 rcases h.2 with ⟨rfl,h0⟩|⟨g,cap,cur,rfl,_,_,hn,hc,_⟩
 · obtain rfl:l=[]:=List.eq_nil_of_length_eq_zero h0
   exact⟨none,0,rfl,Reads.of_own h',by simp,by simp⟩
 · exact⟨_,_,rfl,Reads.of_own h',hn,hc⟩
theorem row_base {w:World} {base base':Nat} {e:TypeId} {size n:Nat} {v:Value} {xs:List Value} (hb:base<=base') (h:w.ownsRow base' e size v n xs):w.ownsRow base e size v n xs:=by
 refine⟨h.1,h.2.imp id ?_⟩
 rintro ⟨g,cap,cur,h1,h2,h3⟩
 exact⟨g,cap,cur,h1,by omega,h3⟩
theorem row_below {w w':World} {base:Nat} {e:TypeId} {size n:Nat} {v:Value} {xs:List Value} (h:w.ownsRow base e size v n xs) (hb:Below w.heap.size w w'):w'.ownsRow base e size v n xs:=by
 refine⟨h.1,h.2.imp id ?_⟩
 rintro ⟨g,cap,cur,h1,h2,h3,h4⟩
 exact⟨g,cap,cur,h1,h2,(hb.block g (Array.getElem?_eq_some_iff.1 h3).1).trans h3,h4⟩
theorem row_mut {w w':World} {base g:Nat} {e:TypeId} {size n:Nat} {v:Value} {xs:List Value} (h:w.ownsRow base e size v n xs) (hb:w.grownBy w' (some g)) (hg:g<base):w'.ownsRow base e size v n xs :=
 World.ownsRow.kept h hb (.inr (by
  intro e
  have:=(h.lt g e).1
  omega))
theorem attc_one (x:Att):∀ u∈attc x,u.oneCell'=true:=by
 intro u hu
 simp at hu
 rcases hu with rfl|rfl|rfl|rfl <;> rfl
theorem evt_own {w:World} {base:Nat} {v:Value} {l:List Att} (h:OwnE w base v l):evt l v w:=by
 obtain⟨A,c,rfl,hr,_⟩:=h.slice
 exact⟨A,c,rfl,hr⟩
section
open Go Go.RowKit Go.ChangeShapes Go.WideShapes Go.ChangeAt
abbrev Tst:=ByteArray×Int×Int×Int×ByteArray
abbrev tstc (x:Tst):List Value:=[.string x.1,.int .i64 x.2.1,.int .i64 x.2.2.1,.int .i64 x.2.2.2.1,.string x.2.2.2.2]
abbrev tstv (x:Tst):Value:=.agg #[.string x.1,.int .i64 x.2.1,.int .i64 x.2.2.1,.int .i64 x.2.2.2.1,.string x.2.2.2.2]
def fitT (x:Tst):Prop:=i64ok x.2.1/\i64ok x.2.2.1/\i64ok x.2.2.2.1
theorem tsts_at (l:List Tst) (k:Nat) (hk:k<l.length):∀ j,(hj:j<5)->(l.flatMap tstc)[k * 5+j]?=some ((tstc l[k])[j]'hj):=by
 intro j hj
 rw[List.flatMap_def,flatten_at 5 _ (by intro cs hcs;obtain⟨y,_,rfl⟩:=List.mem_map.1 hcs;rfl) k j (by simpa using hk) hj]
 simp[hk]
theorem tsts_len (l:List Tst):(l.flatMap tstc).length=l.length * 5:=by
 rw[List.flatMap_def,flatten_len 5 _ (by intro cs hcs;obtain⟨y,_,rfl⟩:=List.mem_map.1 hcs;rfl)];simp
theorem Reads.tsts {w:World} {B n:Nat} {A:Option Addr} {l:List Tst} (h:Reads w B 5 A n (l.flatMap tstc)) (hl:0<l.length) :
 ∃ b off,A=some ⟨b,off,none⟩/\b<B/\∀ k (hk:k<l.length),w.cell? ⟨b,off+k * 5,none⟩=some (.string l[k].1)/\w.cell? ⟨b,off+k * 5+1,none⟩=some (.int .i64 l[k].2.1) /\
   w.cell? ⟨b,off+k * 5+2,none⟩=some (.int .i64 l[k].2.2.1)/\w.cell? ⟨b,off+k * 5+3,none⟩=some (.int .i64 l[k].2.2.2.1)/\w.cell? ⟨b,off+k * 5+4,none⟩=some (.string l[k].2.2.2.2):=by
 obtain⟨b,off,e,hb,hc⟩:=h.2 (by rw[tsts_len];omega)
 refine⟨b,off,e,hb,fun k hk=>?_⟩
 have h0:=hc _ _ (tsts_at l k hk 0 (by decide))
 have h1:=hc _ _ (tsts_at l k hk 1 (by decide))
 have h2:=hc _ _ (tsts_at l k hk 2 (by decide))
 have h3:=hc _ _ (tsts_at l k hk 3 (by decide))
 have h4:=hc _ _ (tsts_at l k hk 4 (by decide))
 simp only[Nat.add_zero,<- Nat.add_assoc] at h0 h1 h2 h3 h4
 exact⟨h0,h1,h2,h3,h4⟩
def flt (l:List Tst) (v:Value) (w:World):Prop:=∃ A c,v=.slice A l.length c/\Reads w w.heap.size 5 A l.length (l.flatMap tstc)
theorem flt_st (l:List Tst):∀ v w w',flt l v w->Below w.heap.size w w'->flt l v w':=by
 rintro v w w' ⟨A,c,rfl,hr⟩ hb
 exact⟨A,c,rfl,(hr.below hb (Nat.le_refl _)).more hb.size⟩
section
variable {H:Type} {enc:TypeId×Value->H} {w:World} {base:Nat} {r:Reach} {b0:Nat} {spare:Nat->Bool} {held:Bool} {v:Value} {d:DataW H} {p:List MemPlace}
end
end
abbrev Rdr (α:Type):=List UInt8->Bool->α×List UInt8×Bool
structure Codec {α:Type} (enc:α->List UInt8) (ok:α->Prop) (rd:Rdr α):Prop where
 fwd:∀ x,ok x->∀ rest,rd (enc x++rest) false=(x,rest,false)
 back:∀ l wr,(rd l wr).2.2=false->l=enc (rd l wr).1++(rd l wr).2.1/\wr=false
 len:∀ l wr,(rd l wr).2.1.length<=l.length
def rdL {α:Type} (rd:Rdr α):Nat->Rdr (List α)
 | 0,l,wr=>([],l,wr)
 | k+1,l,wr=>((rdL rd k l wr).1++[(rd (rdL rd k l wr).2.1 (rdL rd k l wr).2.2).1],(rd (rdL rd k l wr).2.1 (rdL rd k l wr).2.2).2)
section
variable {α:Type} {enc:α->List UInt8} {ok:α->Prop} {rd:Rdr α}
theorem Codec.bad (C:Codec enc ok rd) (l:List UInt8):(rd l true).2.2=true:=by
 cases h:(rd l true).2.2 with
 | true=>rfl
 | false=>have:=(C.back l true h).2;cases this
theorem rdL_len (C:Codec enc ok rd) (k:Nat) (l:List UInt8) (wr:Bool):(rdL rd k l wr).2.1.length<=l.length/\(rdL rd k l wr).1.length=k:=by
 induction k with
 | zero=>exact⟨Nat.le_refl _,rfl⟩
 | succ k ih=>exact⟨Nat.le_trans (C.len _ _) ih.1,by simp[rdL,ih.2]⟩
theorem rdL_bad (C:Codec enc ok rd) {k:Nat} {l:List UInt8} {wr:Bool} (h:(rdL rd k l wr).2.2=true):∀ d,(rdL rd (k+d) l wr).2.2=true
 | 0=>h
 | d+1=>by
   have:=rdL_bad C h d
   show (rd (rdL rd (k+d) l wr).2.1 (rdL rd (k+d) l wr).2.2).2.2=true
   rw[this]
   exact C.bad _
theorem rdL_all (p:α->Prop) (hp:∀ l wr,p (rd l wr).1) (k:Nat) (l:List UInt8) (wr:Bool):∀ x∈(rdL rd k l wr).1,p x:=by
 induction k with
 | zero=>simp[rdL]
 | succ k ih =>
   intro x hx
   rcases List.mem_append.1 hx with hx|hx
   · exact ih x hx
   · simp only[List.mem_singleton] at hx
     subst hx
     exact hp _ _
theorem rdL_fwd (C:Codec enc ok rd) (l:List α) (h:∀ x∈l,ok x) (rest:List UInt8):∀ k,k<=l.length->rdL rd k (l.flatMap enc++rest) false=(l.take k,(l.drop k).flatMap enc++rest,false):=by
 intro k
 induction k with
 | zero=>intro _;simp[rdL]
 | succ k ih =>
   intro hk
   have hk':k<l.length:=by omega
   have hd:l.drop k=l[k] :: l.drop (k+1):=by rw[List.getElem_cons_drop]
   have hx:=h l[k] (List.getElem_mem hk')
   show ((rdL rd k (l.flatMap enc++rest) false).1++[(rd (rdL rd k (l.flatMap enc++rest) false).2.1 (rdL rd k (l.flatMap enc++rest) false).2.2).1],(rd (rdL rd k (l.flatMap enc++rest) false).2.1 (rdL rd k (l.flatMap enc++rest) false).2.2).2)=_
   rw[ih (by omega)]
   simp only
   rw[hd,List.flatMap_cons,List.append_assoc,C.fwd _ hx,List.take_succ_eq_append_getElem hk']
theorem rdL_back (C:Codec enc ok rd) {k:Nat} {l:List UInt8} {wr:Bool} (h:(rdL rd k l wr).2.2=false):l=(rdL rd k l wr).1.flatMap enc++(rdL rd k l wr).2.1/\wr=false:=by
 induction k with
 | zero=>exact⟨by simp[rdL],h⟩
 | succ k ih =>
   obtain⟨e1,w1⟩:=C.back (rdL rd k l wr).2.1 (rdL rd k l wr).2.2 h
   obtain⟨e2,w2⟩:=ih w1
   refine⟨?_,w2⟩
   show l=((rdL rd k l wr).1++[(rd (rdL rd k l wr).2.1 (rdL rd k l wr).2.2).1]).flatMap enc++(rd (rdL rd k l wr).2.1 (rdL rd k l wr).2.2).2.1
   rw[List.flatMap_append,List.flatMap_cons,List.flatMap_nil,List.append_nil,List.append_assoc,<- e1]
   exact e2
end
def isN (s:ByteArray) (x:Att):Bool:=decide (x.1=s)
def findV (l:List Att) (s:ByteArray):Value:=match l.find? (isN s) with|some x=>.tuple #[vv x.2.1 x.2.2.1 x.2.2.2,.bool true]|none=>.tuple #[vv 0 0 { data:=#[] },.bool false]
theorem find_hit (l:List Att) (s:ByteArray) (k:Nat) (hk:k<l.length) (h:isN s l[k]=true) (ha:∀ x∈l.take k,isN s x=false):l.find? (isN s)=some l[k]:=by
 have e:l=l.take k++l[k] :: l.drop (k+1):=by rw[List.getElem_cons_drop,List.take_append_drop]
 conv=>lhs;rw[e]
 rw[List.find?_append,List.find?_eq_none.2 (fun x hx=>by simp[ha x hx]),List.find?_cons_of_pos h]
 rfl
theorem find_miss (l:List Att) (s:ByteArray) (ha:∀ x∈l,isN s x=false):l.find? (isN s)=none:=List.find?_eq_none.2 fun x hx=>by simp[ha x hx]
theorem first_of (s:ByteArray):∀ l:List Att,(∃ k,∃ hk:k<l.length,isN s l[k]=true/\∀ x∈l.take k,isN s x=false)∨∀ x∈l,isN s x=false
 | []=>.inr (by simp)
 | y :: l=>by
   cases h:isN s y with
   | true=>exact .inl ⟨0,by simp,by simpa using h,by simp⟩
   | false =>
     rcases first_of s l with ⟨k,hk,h1,h2⟩|h1
     · refine .inl ⟨k+1,by simpa using hk,by simpa using h1,?_⟩
       intro x hx
       rw[List.take_succ_cons] at hx
       rcases List.mem_cons.1 hx with rfl|hx
       · exact h
       · exact h2 x hx
     · refine .inr fun x hx=>?_
       rcases List.mem_cons.1 hx with rfl|hx
       · exact h
       · exact h1 x hx
theorem toList_iff (a b:ByteArray):a.toList=b.toList ↔ a=b:=by
 rw[ByteArray.toList_eq,ByteArray.toList_eq]
 exact⟨fun h=>byt_inj h,fun h=>by rw[h]⟩
theorem run_val_eq (k n k' n':Int) (s s':ByteArray) (w:World) (d:Nat):(Op.equalIn (d+1+1) 85 (vv k n s) (vv k' n' s')).run Tryz.prog w=.ok (decide ((k,n,s)=(k',n',s'))) w:=by
 simp[go_sem,toList_iff]
 by_cases h1:k=k' <;> by_cases h2:n=n' <;> by_cases h3:s=s' <;> simp[h1,h2,h3]
theorem eql_val (k n k' n':Int) (s s':ByteArray) (w:World):(binOp .eql 85 (vv k n s) (vv k' n' s')).run Tryz.prog w=.ok (.bool (decide ((k,n,s)=(k',n',s')))) w:=by
 rw[run_eql_struct,run_val_eq k n k' n' s s' w 9998];rfl
