/-
  The walks of slices.Clone and bytes.Clone. Conditions: slices of at most a thousand million.
-/
import Derived.Test.YtfndfpdhlbmboaaGreatMa09
import Derived.Sort.MapsRangeIn
import Derived.RangeFuncGives
import Derived.RangeFuncKeeps
import Derived.RangeFuncLeaves
import Derived.RangeFuncFrom
import Derived.RangeFuncBox
import Derived.Shelf.Abstract
import Derived.OwnWalkIn
import Derived.TacticsInMore
import Derived.LoopNIn
import Derived.LoopIn
import Derived.RangeFuncNested
import Derived.Laws.BitsAllLaws
import Derived.Test.YtfndfpdhlbmboaaGreatMz
set_option maxRecDepth 100000
set_option linter.constructorNameAsVariable false
set_option maxHeartbeats 16000000
set_option linter.unusedVariables false
set_option linter.unusedSimpArgs false
namespace Go.Proofs.YtfndfpdhlbmboaaGreat
open Go Go.RowKit _root_.Go.Proofs.Tryz
theorem atg{P} w d t e a l c(h:P.underlying t=some (.slice e)):(Op.equalIn (d+1) t (.slice a l c) (.slice none 0 0)).run P w=.ok a.isNone w:=by cases a <;> simp[Op.equalIn,run_underlying h]
theorem ath{P} w t e a l c(h:P.underlying t=some (.slice e)):(Op.equal t (.slice a l c) (.slice none 0 0)).run P w=.ok a.isNone w:=atg w 9999 t e a l c h
theorem PN{P} w t e a l c(h:P.underlying t=some (.slice e)):(binOp .eql t (.slice a l c) (.slice none 0 0)).run P w=.ok (.bool a.isNone) w:=by simp[binOp,ath w t e a l c h]
theorem Ow A n c xs w(hR:Reads w w.heap.size 1 A n xs)(h1:∀u∈xs,u.oneCell'=true)(hn:n<=1000000000) :
 Calls prog 98 #[.slice A n c] w λe w'=>∃v',e=.returned v'/\w'.ownsRow w.heap.size 5 1 v' n xs/\K w w':=by
 have kk:=K.rf w
 have j:=λ(W:World) (a:Option Addr) (l c:Nat)=>PN (P:=prog) W 94 5 a l c underlying94
 go_enter func98,ntmps98
 cases A with
 | none => exact PO
 | some ad => exact af1
theorem aoP A n c xs w(hR:Reads w w.heap.size 1 A n xs)(h1:∀u∈xs,u.oneCell'=true)(hn:n<=1000000000) :
 Calls prog 207 #[.slice A n c] w λe w'=>∃v',e=.returned v'/\w'.ownsRow w.heap.size 5 1 v' n xs/\K w w':=by
 have kk:=K.rf w
 have j:=λ(W:World) (a:Option Addr) (l c:Nat)=>PN (P:=prog) W 94 5 a l c underlying94
 go_enter func207,ntmps207
 cases A with
 | none => exact PO
 | some ad => exact af1
theorem abD A n c xs w(hR:Reads w w.heap.size 3 A n xs)(j:∀u∈xs,u.oneCell'=true)(hn:n<=1000000000) :
 Calls prog 116 #[.slice A n c] w λe w'=>∃v',e=.returned v'/\w'.ownsRow w.heap.size 26 3 v' n xs/\K w w':=by
 have kk:=K.rf w
 have B:=λ(W:World) (a:Option Addr) (l c:Nat)=>PN (P:=prog) W 44 26 a l c underlying44
 go_enter func116,ntmps116
 cases A with
 | none => exact PO
 | some t =>
  have hb:=ah.new w 26 #[];have k1:=hb.aS;have ho:(w.alloc (.cells #[] 26)).ownsRow w.heap.size 26 3 (.slice (some ⟨w.heap.size,0,none⟩) 0 0) 0 [] :=
   ⟨rfl,.inr ⟨w.heap.size,0,_,rfl,aC _,hb,aC _,Bn,aj,aj⟩⟩
  have y:=(hR.below k1 (aC _)).more k1.size;go_wp2_with (at_builtin;refine iF rfl _ _ 44 rfl w.heap.size 26 _ 3 24 vX _ 0 [] rfl ho _ (some t) n c xs rfl y j ?p1 k1.size ?_)
  case p1=>omega
  exact VK
theorem abE A n c xs w(hR:Reads w w.heap.size 5 A n xs)(j:∀u∈xs,u.oneCell'=true)(hn:n<=1000000000) :
 Calls prog 316 #[.slice A n c] w λe w'=>∃v',e=.returned v'/\w'.ownsRow w.heap.size 73 5 v' n xs/\K w w':=by
 have kk:=K.rf w
 have B:=λ(W:World) (a:Option Addr) (l c:Nat)=>PN (P:=prog) W 53 73 a l c underlying53
 go_enter func316,ntmps316
 cases A with
 | none => exact PO
 | some t =>
  have hb:=ah.new w 73 #[];have k1:=hb.aS;have ho:(w.alloc (.cells #[] 73)).ownsRow w.heap.size 73 5 (.slice (some ⟨w.heap.size,0,none⟩) 0 0) 0 [] :=
   ⟨rfl,.inr ⟨w.heap.size,0,_,rfl,aC _,hb,aC _,Bn,aj,aj⟩⟩
  have y:=(hR.below k1 (aC _)).more k1.size;go_wp2_with (at_builtin;refine iF rfl _ _ 53 rfl w.heap.size 73 _ 5 56 TF _ 0 [] rfl ho _ (some t) n c xs rfl y j ?p1 k1.size ?_)
  case p1=>omega
  exact VK
theorem Hm{t u ak} a b w(hb:ah w t 149 #[.map (some u)])(hm:ei qQ w u ak) :
 Calls prog 96 #[.pointer (some ⟨t,0,none⟩),.int .i64 a,.int .i64 b] w λe w'=>e=.returned (.tuple #[(di ak (a,b)).getD (.chan none),.int .i64 (if (di ak (a,b)).isSome then 0 else 140)])/\w'=w:=by
 have q:=hb.cell
 have j:=(Df ajN underlying147 (z:=.chan none) ef hm (a,b)).1
 unfold qQ at j
 simp only at j
 clear hb hm
 go_enter func96,ntmps96
 cases h:di ak (a,b) <;> rw[h]at j
 ·simp only[Option.getD_none,Option.isSome_none]at j;go_wp2;go_ret2;exact⟨rfl,rfl⟩
 ·simp only[Option.getD_some,Option.isSome_some]at j;go_wp2;go_ret2;exact⟨rfl,rfl⟩
section
variable {gn gm c:Nat} {ak:List ((Int×Int)×Value)} {l:List Value} {w:World} {a b:Int}
theorem avm(hb:ah w gn 149 #[.map (some gm)])(hm:ei qQ w gm ak)(hk:di ak (a,b)=none) :
 Calls prog 56 #[.pointer (some ⟨gn,0,none⟩),.int .i64 a,.int .i64 b] w λe w'=>e=.returned (.tuple #[.slice none 0 0,.int .i64 140])/\w'=w:=by
 have j:=ae (Hm a b w hb hm)
 rw[hk]at j
 clear hb hm hk
 go_enter func56,ntmps56
 go_wp2_with fail
 apply bF j.aa
 rintro w' rfl
 simp only[Option.getD_none,Option.isSome_none]
 go_wp2
 go_ret2
 exact⟨rfl,rfl⟩
theorem avn{v}(hb:ah w gn 149 #[.map (some gm)])(hm:ei qQ w gm ak)(hk:di ak (a,b)=none) :
 Calls prog 47 #[.pointer (some ⟨gn,0,none⟩),.int .i64 a,.int .i64 b,v] w λe w'=>e=.returned (.int .i64 140)/\w'=w:=by
 have j:=ae (Hm a b w hb hm)
 rw[hk]at j
 clear hb hm hk
 go_enter func47,ntmps47
 go_wp2_with fail
 apply bF j.aa
 rintro w' rfl
 simp only[Option.getD_none,Option.isSome_none]
 go_wp2
 go_ret
 exact⟨rfl,rfl⟩
theorem avo(hb:ah w gn 149 #[.map (some gm)])(hm:ei qQ w gm ak)(hk:di ak (a,b)=none) :
 Calls prog 76 #[.pointer (some ⟨gn,0,none⟩),.int .i64 a,.int .i64 b] w λe w'=>e=.returned (.int .i64 0)/\w'=w:=by
 have j:=ae (Hm a b w hb hm)
 rw[hk]at j
 clear hb hm hk
 go_enter func76,ntmps76
 go_wp2_with fail
 apply bF j.aa
 rintro w' rfl
 simp only[Option.getD_none,Option.isSome_none]
 go_wp2
 go_ret
 exact⟨rfl,rfl⟩
theorem ap5(hb:ah w gn 149 #[.map (some gm)])(hm:ei qQ w gm ak)(hk:di ak (a,b)=some (.chan (some c)))(t:pn c l w)(C:∀x∈l,∃A n d,x=.slice A n d) :
 Calls prog 56 #[.pointer (some ⟨gn,0,none⟩),.int .i64 a,.int .i64 b] w λe w'=>e=.returned (.tuple #[l.headD (.slice none 0 0),.int .i64 (if l=[]then 141 else 0)])/\pn c l.tail w'/\ag (λk=>k=c) w w':=by
 have j:=ae (Hm a b w hb hm)
 have y:=ae (apY c l w t)
 rw[hk]at j
 clear hb hm hk
 go_enter func56,ntmps56
 go_wp2_with fail
 apply bF j.aa
 rintro w' rfl
 simp only[Option.getD_some,Option.isSome_some]
 go_wp2_with fail
 apply bF y.aa
 rintro E⟨u,B⟩
 have D:=ae (And.intro u B)
 clear u B t j y
 cases l with
 | nil => go_wp2;go_ret2;exact⟨rfl,D.aa⟩
 | cons x l => obtain⟨A,n,d,rfl⟩:=C x aj;simp only[List.headD_cons,List.isEmpty_cons,Bool.not_false];clear C;go_wp2;go_ret2;exact⟨aj,D.aa⟩
theorem ap6(hb:ah w gn 149 #[.map (some gm)])(hm:ei qQ w gm ak)(hk:di ak (a,b)=some (.chan (some c)))(j:pn c l w) :
 Calls prog 76 #[.pointer (some ⟨gn,0,none⟩),.int .i64 a,.int .i64 b] w λe w'=>e=.returned (.int .i64 l.length)/\w'=w:=by
 have t:=ae (Hm a b w hb hm)
 rw[hk]at t
 obtain⟨s,r,j⟩:=j
 have y:∀ty,(Builtin.len_ #[151] ty #[.chan (some c)]).run prog w=.ok (.int .i64 l.length) w:=λty=>by
  have u:=underlying151;have hg:(getObj c).run prog w=.ok (.chan 8 l.toArray false s r false) w:=by simp[getObj,Sem.run,j]
  simp[Builtin.len_,u,hg,go_sem]
 clear hb hm hk j
 go_enter func76,ntmps76
 go_wp2_with fail
 apply bF t.aa
 rintro w' rfl
 simp only[Option.getD_some,Option.isSome_some]
 go_wp2
 go_ret
 exact⟨rfl,rfl⟩
def XJ(l:List Value)(v:Value):List Value:=if l.length<8 then l++[v]else l
def XK(n:Nat):Int:=if n<8 then 0 else 141
theorem ap7(hb:ah w gn 149 #[.map (some gm)])(hm:ei qQ w gm ak)(hk:di ak (a,b)=some (.chan (some c)))(G:pn c l w) bs v(M:sl bs v w)(hn:bs.length<=1000000000) :
 Calls prog 47 #[.pointer (some ⟨gn,0,none⟩),.int .i64 a,.int .i64 b,v] w λe w'=>e=.returned (.int .i64 (XK l.length))/\(∃v',pn c (XJ l v') w'/\Fx (λk=>k<w.heap.size) (λW=>sl bs v' W) w')/\ag (λk=>k=c) w w':=by
 obtain⟨A,d,rfl,D⟩:=M
 have j:=ae (Hm a b w hb hm)
 have H:=ae (Ow A bs.length d _ w D (wO bs) hn)
 have E:=ae G
 rw[hk]at j
 clear hb hm hk D G
 go_enter func47,ntmps47
 go_wp2_with fail
 apply bF j.aa
 rintro w' rfl
 simp only[Option.getD_some,Option.isSome_some]
 go_wp2_with fail
 apply lQ H.aa
 rintro v' J⟨C,t⟩
 have F:=ae (ard c l v' J (E.aa.aX (ag.aT t (λ_=>False)) id))
 have N:=ae (show Fx (λk=>k<w'.heap.size) (λW=>sl bs v' W) J from λW u=>eK (iK C u λk e h=>by have:=(C.lt k e).1;omega))
 have O:=ae t
 have L:=E.aa.lt
 clear C j H t
 go_wp2_with fail
 apply bF F.aa
 rintro y⟨I,B⟩
 have H3:=ae (show (∃v',pn c (XJ l v') y/\Fx (λk=>k<w'.heap.size) (λW=>sl bs v' W) y)/\ag (λk=>k=c) w' y from ⟨⟨v',I,N.aa.up B λk e=>e▸L⟩,(ag.aT O.aa _).tr B⟩)
 clear I B F
 by_cases h8:l.length<8
 ·have h9:=ae (show XK l.length=0 from if_pos h8);rw[decide_eq_true h8];exact af2
 ·have h9:=ae (show XK l.length=141 from if_neg h8);rw[decide_eq_false h8];exact af2
end
section
open Go Go.RowKit Go.ChangeMaps
section
variable {α:Type} {enc:α->Value} {P:Program}
def rQ(enc:α->Value)(w:World)(b r:Nat)(ak:List (α×Value))(L:List α):Prop :=
 ∃(es:Array MapEntry) (c since:Nat) (seen:Array Nat) (c0:Nat),w.heap[b]?=some (.map es c)/\es.toList.map (λe=>(e.key,e.val))=ak.map (λp=>(enc p.1,p.2))/\vP es.toList c /\
  w.heap[r]?=some (.mapIter (some b) since seen c0)/\(∀x∈es.toList,x.born<since)/\since<=c0/\since<=c/\(Go.leftOf es seen).toList.map (·.key)=L.map enc
theorem ei.range{t kt E w b ak}(h:ei enc w b ak)(C:P.underlying t=some (.map kt E)) :
 ∃w',(Instr.range t (.map (some b))).run P w=.ok (.pointer (some ⟨w.heap.size,0,none⟩)) w'/\rQ enc w' b w.heap.size ak (ak.map (·.1))/\w.grownBy w' none/\w'.heap.size=w.heap.size+1:=by
 have B:=h.lt
 obtain⟨es,c,j,u,y⟩:=h
 refine⟨_,run_range_map w t kt E b es c C j,⟨es,c,c,#[],c,((MapKept.heap_alloc w _).2 b B).trans j,u,y,(MapKept.heap_alloc w _).1,λx A=>y.2 _ (List.mem_map.2 ⟨x,A,rfl⟩),aC _,aC _,?_⟩,World.grownBy_alloc w _ none,aj⟩
 have:=congrArg (List.map Prod.fst) u
 simp only[List.map_map]at this
 have e:(Go.leftOf es #[]).toList=es.toList:=by simp[Go.leftOf]
 rw[e,List.map_map]
 simpa [Function.comp_def]using this
theorem abV:∀(l:List MapEntry),(l.map (·.born)).Pairwise (· < ·)->∀(i:Nat) (h:i<l.length),l.filter (λx=>!(x.born==l[i].born))=l.eraseIdx i
 | [],_,i,h=>wQ
 | e :: l,hp,i,h=>by
  rw[jU,List.pairwise_cons]at hp
  cases i with
  | zero => rw[List.getElem_cons_zero,List.filter_cons_of_neg aj,List.eraseIdx_cons_zero,List.filter_eq_self];intro x u;have:=hp.1 x.born (List.mem_map.2 ⟨x,u,rfl⟩);have j:x.born≠e.born:=af;simpa using j
  | succ i => have t:i<l.length:=zw;have:=hp.1 l[i].born (List.mem_map.2 ⟨l[i],bS t,rfl⟩);have j:e.born≠l[i].born:=af;rw[List.getElem_cons_succ,List.filter_cons_of_pos (by simpa using j),List.eraseIdx_cons_succ,abV l hp.2 i t]
theorem acw{β γ:Type}(f:β->γ):∀(l:List β) (i:Nat),(l.eraseIdx i).map f=(l.map f).eraseIdx i
 | [],i=>rfl
 | x :: l,0=>rfl
 | x :: l,i+1=>by simp[acw f l i]
theorem rQ.next{w b r ak L}(h:rQ enc w b r ak L) ty :
 (L=[]/\(Instr.next (.pointer (some ⟨r,0,none⟩)) false ty).run P w=.ok (.tuple #[.bool false]) w) ∨
 ∃(i:Nat) (u:i<L.length) (v:Value) (w':World),(Instr.next (.pointer (some ⟨r,0,none⟩)) false ty).run P w=.ok (.tuple #[.bool true,enc L[i],v]) w'/\rQ enc w' b r ak (L.eraseIdx i)/\w.grownBy w' (some r)/\w'.heap.size=w.heap.size/\(Instr.entry (.pointer (some ⟨r,0,none⟩))).run P w'=.ok (.tuple #[enc L[i],v]) w':=by
 obtain⟨es,c,t,j,G,H,T,D,F,N,U,M,I⟩:=h
 have V:r≠b:=aG
 rcases run_next_at (P:=P) w ty r b t G j es c F H N U with ⟨X,Q⟩|⟨e,A,E,y,Q⟩
 ·simp_all
 ·obtain⟨i,u,A⟩:=List.mem_iff_getElem.1 A;have Y:L.length=(Go.leftOf es j).toList.length:=by have:=congrArg List.length I;simpa using this.symm
  have S:i<L.length:=af;have hk:e.key=enc L[i]:=by
   have:=congrArg (λl=>l[i]?) I
   grind
  have R:E.heap[r]?=some (.mapIter (some b) t j G):=by rcases y with rfl|rfl <;> exact F
  have W:E.heap[b]?=some (.map es c):=by rcases y with rfl|rfl <;> exact H
  have B:=MapKept.heap_set (o':=.mapIter (some b) t (j.push e.born) c) R;have Z:(Go.leftOf es (j.push e.born)).toList=(Go.leftOf es j).toList.eraseIdx i:=by
   rw[<- abV _ (D.1.sublist ((show (Go.leftOf es j).toList.Sublist es.toList by unfold Go.leftOf;rw[Array.toList_filter];exact List.filter_sublist).map _)) i u,A]
   unfold Go.leftOf
   grind [Array.toList_filter,List.filter_filter,List.filter_congr]
  have J:(setBlock E r (.mapIter (some b) t (j.push e.born) c)).heap[b]?=some (.map es c):=(B.2 b (λC=>V C.symm)).trans W;have O:e∈es.toList:=by
   have:e∈(Go.leftOf es j).toList:=A▸bS u
   unfold Go.leftOf at this
   grind
  refine .inr ⟨i,S,e.val,_,aG,⟨es,c,t,j.push e.born,c,J,T,D,B.1,N,M,M,?_⟩,?_,?_,by rw[<- hk];exact run_entry_at _ r b t j es c e B.1 J O (D.1.imp λh=>Nat.ne_of_lt h)⟩
  ·grind [acw]
  ·rcases y with rfl|rfl <;> exact⟨rfl,rfl,rfl,Py,λi _ u=>B.2 i (λC=>u (by rw[C]))⟩
  ·rcases y with rfl|rfl <;> simp[setBlock]
theorem rQ.left{w b r ak L}(h:rQ enc w b r ak L):w.rangeLeft b r=L.length:=by obtain⟨es,c,C,B,A,j,y,D,t,-,-,-,u⟩:=h;simp only[World.rangeLeft,j,t];have:=congrArg List.length u;simpa using this
theorem rQ.walks{w w' b r ak L}(h:rQ enc w b r ak L)(k:KeepsWalks w w'):rQ enc w' b r ak L:=by obtain⟨es,c,C,B,y,j,u,D,t,A⟩:=h;exact⟨es,c,C,B,y,k.same b _ j rfl,u,D,k.same r _ t rfl,A⟩
theorem rQ.walk{w b r ak L}(h:rQ enc w b r ak L):∃o:Obj,w.heap[r]?=some o/\o.isWalk=true:=by obtain⟨es,c,C,B,y,t,u,D,j,A⟩:=h;exact⟨_,j,rfl⟩
end
section
variable {α:Type} {enc:α->Value} {F:Fence} {n:Nat} {P:Program} (w:World) {ops:Array Oper} {rest:List Oper} {o:Oper} {a:Act} {Q:Exit->Act->World->Prop}
theorem aoh(hg:o.guard=none) m t(j:o.op=Op.range t m) k e(B:P.underlying t=some (.map k e)) b ak
 (hm:a.eval m=.map (some b)) (h:ei enc w b ak)
 (C:∀w',rQ enc w' b w.heap.size ak (ak.map (·.1))->w.grownBy w' none->w'.heap.size=w.heap.size+1->wpListIn F n P ops Q rest (a.put o.dst (.pointer (some ⟨w.heap.size,0,none⟩))) w') :
 wpListIn F n P ops Q (o :: rest) a w:=by
 refine wpListIn_plain hg λG A=>?_
 obtain⟨w',E,y,D,u⟩:=h.range B
 unfold Oper.wpIn
 refine⟨?_,?_⟩
 ·simp[Oper.about,j]
 ·rw[Oper.semAt_plain F _ _ aG];simp[execOp,j,hm,E,Result.andThen];exact A _ _ (C w' y D u)
theorem aos(hg:o.guard=none) A(j:o.op=Op.next A false) b r ak L
 (u:a.eval A=.pointer (some ⟨r,0,none⟩)) (h:rQ enc w b r ak L)
 (E:L=[]->wpListIn F n P ops Q rest (a.put o.dst (.tuple #[.bool false])) w)
 (I:∀(i:Nat) (y:i<L.length) (v:Value) (w':World),rQ enc w' b r ak (L.eraseIdx i)->w.grownBy w' (some r)->w'.heap.size=w.heap.size->(Instr.entry (.pointer (some ⟨r,0,none⟩))).run P w'=.ok (.tuple #[enc L[i],v]) w'->wpListIn F n P ops Q rest (a.put o.dst (.tuple #[.bool true,enc L[i],v])) w') :
 wpListIn F n P ops Q (o :: rest) a w:=by
 refine wpListIn_plain hg λM B=>?_
 unfold Oper.wpIn
 refine⟨by simp[Oper.about,j],?_⟩
 rw[Oper.semAt_plain F _ _ aG]
 rcases h.next (P:=P) o.type with ⟨D,t⟩|⟨i,y,v,w',t,G,J,C,H⟩
 ·simp[execOp,j,u,t,Result.andThen];exact B _ _ (E D)
 ·simp[execOp,j,u,t,Result.andThen];exact B _ _ (I i y v w' G J C H)
end
end
theorem ints_at{p A w}(u:yI cR p A w)(B:0<p.length) :
 ∃b j,A=some ⟨b,j,none⟩/\∀W,K w W->∀i (t:i<p.length),W.cell? ⟨b,j+i,none⟩=some (.int .i64 p[i]):=by
 obtain⟨b,j,cs,rfl,-,-,-,-⟩:=ed u 0 B ay
 refine⟨b,j,rfl,λW k i t=>?_⟩
 obtain⟨F,E,D,e,-,y,C,-⟩:=ed u i t ay
 injection e with e
 injection e with e1 e2
 subst e1 e2
 have h:=C W k
 rw[show D=BV p[i]from y W k]at h
 simpa [cR]using h
def yd(p:List Int):Int:=if gQ p then 0 else 120
theorem Fj{p}:gQ p=true↔1<=p.length/\p.length<=16/\p[0]?=some (-1)/\∀n (h:n<p.length),1<=n->0<=p[n]/\p[n]<(n:Int):=by
 simp only[gQ,dE,decide_eq_true_eq,uO,List.mem_range,Bool.or_eq_true,beq_iff_eq,and_assoc];refine and_congr_right λj=>and_congr_right λ_=>and_congr_right λ_=>⟨λh n hn j=>?_,λh n hn=>?_⟩
 ·have:=h n hn;rw[List.getElem?_eq_getElem hn]at this;simp at this;rcases this with h|h
  ·omega
  ·exact h
 ·by_cases t:n=0
  ·exact .inl t
  ·right;rw[List.getElem?_eq_getElem hn];simpa using h n hn af
theorem sD{p}(h:gQ p=true):1<=p.length/\p.length<=16:=⟨(Fj.1 h).1,(Fj.1 h).2.1⟩
theorem J9 p v w(h:aq cR p v w)(hn:p.length<=1000000) :
 Calls prog 40 #[v] w λe w'=>e=.returned (.int .i64 (yd p))/\K w w':=by
 obtain⟨A,c,rfl,F,-⟩:=h
 have u:Hid (yd p=if gQ p then 0 else 120):=ae rfl
 generalize yd p=R at *
 have no:Hid (∀_:¬gQ p=true,R=120):=ae λh=>by rw[u.aa,if_neg h]
 have yes:Hid (∀_:gQ p=true,R=0):=ae λh=>by rw[u.aa,if_pos h]
 have kk:=K.rf w
 clear u
 go_enter func40,ntmps40
 by_cases W:p.length<1
 ·have Q:(p.length:Int)<1:=af;exact af3
 have Q:¬(p.length:Int)<1:=af
 by_cases t:16<p.length
 ·have S:16<(p.length:Int):=af;exact af3
 have S:¬16<(p.length:Int):=af
 obtain⟨b,T,rfl,y⟩:=ints_at F af
 have B:0<p.length:=af
 have V:w.cell? ⟨b,T,none⟩=some (.int .i64 p[0]):=y w kk 0 B
 have G:=ae (List.getElem?_eq_getElem B)
 have L:=ae (y w kk)
 clear y F
 generalize p[0]=H at *
 by_cases h2:H=-1
 rotate_left
 ·have Mk:(H != -1)=true:=xU;have HR:=ae (no.aa λh=>by have:=(Fj.1 h).2.2.1;rw[G.aa]at this;injection this with this;exact h2 this);clear h2;exact xW
 subst h2
 go_wp2_with fail
 go_loop [3] (fun i=>∃j:Nat,1<=j/\j<=p.length/\i=.int .i64 j/\Hid (∀n (h:n<p.length),1<=n->n<j->0<=p[n]/\p[n]<(n:Int))) (fun i=>p.length-(intOf i).toNat)
 case atStart=>exact⟨1,af,af,rfl,ae λn _ t h2=>af⟩
 case round =>
  obtain⟨j,J,hj,rfl,C⟩:=hrel;by_cases I:j<p.length
  ·have N:(j:Int)<p.length:=af;have X:=L.aa j I;have M:Hid (0<=p[j]/\p[j]<(j:Int)->∀n (h:n<p.length),1<=n->n<j+1->0<=p[n]/\p[n]<(n:Int)):=ae λh n hn t h2=>by
    by_cases e:n=j
    ·subst e;exact h
    ·exact C.aa n hn t af
   have D:Hid (¬(0<=p[j]/\p[j]<(j:Int))->R=120):=ae λh=>no.aa λU=>h ((Fj.1 U).2.2.2 j I J)
   generalize p[j]=E at *;by_cases Y:E<0
   ·have HR:=ae (D.aa af);exact xW
   by_cases Z:(j:Int)<=E
   ·have HR:=ae (D.aa af);exact xW
   have O:=ae (M.aa af);go_wp2;go_round
   case rel=>exact⟨j+1,af,af,bJ,O⟩
   case measure=>simp[intOf];omega
  ·have N:¬(j:Int)<p.length:=af;have HR:=ae (yes.aa (Fj.2 ⟨af,af,G.aa,λn hn t=>C.aa n hn t af⟩));exact xW
def rY(p:List Int)(n:Int):Bool:=fT p n&&gQ p
theorem TD p n v w(h:aq cR p v w)(hn:p.length<=1000000) :
 Calls prog 252 #[v,.int .i64 n] w λe w'=>e=.returned (.bool (rY p n))/\K w w':=by
 have j:=ae λW (k:K w W)=>J9 p v W (bo h k) hn
 obtain⟨A,c,rfl,u,-⟩:=h
 have HC:Hid (rY p n=((decide (0<=n)&&decide (n<(p.length:Int)))&&gQ p)):=ae rfl
 have t:Hid (yd p=if gQ p then 0 else 120):=ae rfl
 generalize rY p n=R at *
 generalize yd p=T at *
 have kk:=K.rf w
 go_enter func252,ntmps252
 by_cases h0:0<=n
 rotate_left
 ·have HR:Hid (R=false):=ae af4;clear j;exact xW
 by_cases h1:n<(p.length:Int)
 rotate_left
 ·have HR:Hid (R=false):=ae (by rw[HC.aa];simp[h1]);clear j;exact xW
 have HR:Hid (R=gQ p):=ae VL
 clear HC
 go_wp2_with fail
 refine (j.aa w kk).mono ?_
 rintro e y⟨rfl,k1⟩
 cases ho:gQ p
 ·obtain rfl:T=120:=by rw[t.aa,ho];rfl
  have fU:Hid (R=false):=ae (by rw[HR.aa,ho]);clear ho HR t j;go_wp2;exact PQ
 ·obtain rfl:T=0:=by rw[t.aa,ho];rfl
  have fU:Hid (R=true):=ae (by rw[HR.aa,ho]);clear ho HR t j;go_wp2;exact PQ
theorem ati p a b v w(h:aq cR p v w)(hn:p.length<=1000000) :
 Calls prog 254 #[v,.int .i64 a,.int .i64 b] w λe w'=>e=.returned (.bool (Cl p a b))/\K w w':=by
 have u:=ae λW (k:K w W)=>TD p a v W (bo h k) hn
 have y:=ae λW (k:K w W)=>TD p b v W (bo h k) hn
 obtain⟨A,c,rfl,E,-⟩:=h
 have HC:Hid (Cl p a b=(rY p a&&rY p b&&Ck p a (p.length+1) b)):=ae (by unfold Cl rY;cases fT p a <;> cases fT p b <;> cases gQ p <;> rfl)
 generalize Cl p a b=R at *
 have D:Hid (rY p b=true->gQ p=true/\0<=b/\b<(p.length:Int)):=ae aww
 have C:Hid (rY p a=true->gQ p=true):=ae (by unfold rY;simp)
 have N:=K.rf w
 go_enter func254,ntmps254
 go_wp2
 go_step3
 go_wp2_with fail
 refine (u.aa w N).mono ?_
 rintro e S⟨rfl,k1⟩
 cases Ji:rY p a
 ·have HR:Hid (R=false):=ae (by rw[HC.aa,Ji];rfl);clear Ji;exact af5
 have M:=ae (C.aa Ji)
 go_wp2_with fail
 refine (y.aa S k1).mono ?_
 rintro e O⟨rfl,B⟩
 replace k1:=k1.tr B
 cases ox:rY p b
 ·have HR:Hid (R=false):=ae af6;clear Ji ox;exact af5
 have HR:Hid (R=Ck p a (p.length+1) b):=ae af6
 obtain⟨-,Y,aN⟩:=D.aa ox
 obtain⟨T,off,rfl,F⟩:=ints_at E af
 have J:=ae F
 clear Ji ox HC D C u y F E B
 go_wp2_with fail
 go_step3
 go_wp2_with fail
 go_loop [2,7] (fun t Q=>∃(f:Nat) (n:Int),t=.int .i64 n/\Q=.bool false/\-1<=n/\n<(p.length:Int)/\n+1<(f:Int)/\Hid (R=Ck p a f n)) (fun t _=>(intOf t+1).toNat)
 case atStart=>exact⟨p.length+1,b,rfl,rfl,af,af,af,HR⟩
 case round =>
  clear HR;obtain⟨f,n,rfl,rfl,U,lD,Z,HR⟩:=hrel;obtain⟨f,rfl⟩:∃I,f=I+1:=⟨f-1,af⟩;by_cases H:0<=n
  ·by_cases j:a=n
   ·subst j;have fU:Hid (R=true):=ae (by rw[HR.aa,Ck,if_neg (by omega),if_pos rfl]);go_wp2;try rw[gq]
    exact PQ
   ·have X:(a==n)=false:=by simpa using j
    obtain⟨m,rfl⟩:=Int.eq_ofNat_of_zero_le H;have hm:m<p.length:=af;have cm:=J.aa O k1 m hm;have fU:Hid (R=Ck p a f p[m]):=ae (by rw[HR.aa,Ck,if_neg (by omega),if_neg j];simp[hm]);have L:-1<=p[m]/\p[m]<(m:Int):=by
     have G:=Fj.1 M.aa;by_cases h1:m=0
     ·subst h1;have h2:=G.2.2.1;rw[List.getElem?_eq_getElem hm]at h2;injection h2 with h2;rw[h2];omega
     ·have:=G.2.2.2 m hm af;omega
    clear j HR;generalize p[m]=q at *;obtain⟨nG,xi⟩:=L;go_wp2;go_round
    case rel=>exact⟨f,q,rfl,rfl,af,af,af,fU⟩
    case measure=>simp[intOf];omega
  ·have V:n<0:=af;have fU:Hid (R=false):=ae (by rw[HR.aa,Ck,if_pos (by omega)]);go_wp2;try rw[gq]
   exact PQ
section
open Go Go.RowKit Go.Shelf
attribute [local go_sem] Oper.semAt_some
def x8(p:List Int)(n:Int)(j:Nat):List Int:=((List.range j).filter λk=>decide (p[k]?=some n)).map λ(k:Nat)=>(k:Int)
theorem ap8 p n j(h:j<p.length):x8 p n (j+1)=x8 p n j++(if p[j]=n then [(j:Int)]else []):=by
 unfold x8;rw[List.range_succ,List.filter_append,List.map_append];congr 1;by_cases e:p[j]=n
 ·rw[if_pos e,List.filter_cons_of_pos (by simpa [h]using e)];rfl
 ·rw[if_neg e,List.filter_cons_of_neg (by simpa [h]using e)];rfl
theorem arv p n j(h:j<=p.length):x8 p n j <+: rL p n:=by
 unfold x8 rL;have:List.range p.length=List.range j++(List.range (p.length-j)).map (j+·):=by rw[show p.length=j+(p.length-j) by omega,List.range_add];simp
 rw[this,List.filter_append,List.map_append];exact List.prefix_append _ _
theorem atj p n:(rL p n).length<=p.length:=by unfold rL;exact VM
def Et(B b:Nat)(W W':World):Prop:=W'.heap[B]?=W.heap[B]?/\W'.heap[b]?=W.heap[b]?
theorem Et.tr{B b W W' j}(h:Et B b W W')(k:Et B b W' j):Et B b W j:=⟨k.1.trans h.1,k.2.trans h.2⟩
theorem atk l F u b I c p n(J E:List Int->World->Prop)
 (U:∀pre x W,J pre W->pre.length<(rL p n).length->YieldAt Fence.wide 4 prog l #[.int .i64 x] W λe W' =>
  (e=.returned (.bool true)/\J (pre++[x]) W'/\Et u b W W')∨(e=.returned (.bool false)/\E (pre++[x]) W'))
 W (T:W.cell? ⟨F,0,none⟩=some (.slice (some ⟨b,I,none⟩) p.length c)) (H:W.cell? ⟨u,0,none⟩=some (.int .i64 n))
 (L:∀i (hi:i<p.length),W.cell? ⟨b,I+i,none⟩=some (.int .i64 p[i])) (Y:p.length<=1000000) (C:J [] W) :
 CallsIn Fence.wide 5 prog 292 #[.func (.yield l) #[] #[],.pointer (some ⟨F,0,none⟩),.pointer (some ⟨u,0,none⟩)] W λe W'=>(∃v,e=.returned v) /\
  ((∃N,N=rL p n/\J N W')∨(∃pre,pre <+: rL p n/\E pre W')):=by
 refine callsIn_of_wp func292 rfl trivial ?_ rfl
 simp only[ntmps292,List.size_toArray,eQ,List.length_nil,Nat.reduceAdd,Nat.reduceSub,Array.replicate_succ,Array.replicate_zero,List.push_toArray,List.append_toArray,aO,aQ]
 gi_wp2
 gi_loopw [4,5,8] (λ_ _ i wr=>∃j:Nat,i=.int .i64 j/\j<=p.length/\J (x8 p n j) wr/\Et u b W wr) (λ_ _ i _=>p.length-(intOf i).toNat)
 case atStart=>exact⟨0,rfl,af,C,rfl,rfl⟩
 case round =>
  obtain⟨j,rfl,hj,t,hk⟩:=hrel;by_cases O:j<p.length
  ·have R:(j:Int)<p.length:=af;have Z:=(World.cell?_of_block hk.2).trans (L j O);have c2:=(World.cell?_of_block hk.1).trans H;have M:=ap8 p n j O;have hp:=arv p n (j+1) af;have y:=ae M;have A:=ae hp;clear M hp T H L C;generalize p[j]=q at *;by_cases e:q=n
   ·subst e;have B:Hid (x8 p q (j+1)=x8 p q j++[(j:Int)]):=ae (by rw[y.aa,if_pos rfl]);obtain⟨X,tmps,assign,body,hy,S⟩:=U (x8 p q j) j wr t (by have:=A.aa.length_le;rw[B.aa]at this;simp at this;omega);clear y;gi_wp2;refine S.mono ?_;rintro e W3 (⟨rfl,G,Q⟩|⟨rfl,D⟩)
    ·rw[<- B.aa]at G;gi_wp2;go_roundw
     case rel=>exact⟨j+1,bJ,af,G,hk.tr Q⟩
     case measure=>simp[intOf];omega
    ·rw[<- B.aa]at D;gi_wp2;refine bodyPost_ret (results_none rfl _ _ _) rfl ?_;exact⟨⟨_,rfl⟩,.inr ⟨_,A.aa,D⟩⟩
   ·have e':(q==n)=false:=KW;rw[show x8 p n j=x8 p n (j+1) by rw[y.aa,if_neg e];simp]at t;clear y A e;gi_wp2;refine⟨(λf V=>by cases V),?_⟩;gi_wp2;go_roundw
    case rel=>exact⟨j+1,bJ,af,t,hk⟩
    case measure=>simp[intOf];omega
  ·have R:¬(j:Int)<p.length:=af;obtain rfl:j=p.length:=af;gi_wp2;go_end0;first|exact⟨⟨_,rfl⟩,.inl ⟨_,rfl,t⟩⟩|exact⟨⟨_,rfl⟩,.inl t⟩|exact t|exact .inl t
end
section
open Go Go.RowKit Go.Shelf
attribute [local go_sem] Oper.semAt_some
abbrev LL(l:List Int):List Value:=l.map λn=>Value.int .i64 n
theorem ax2:(prog.info? 3).map (λi=>(i.zero,i.size,i.bytes))=some (some (.int .i64 0),1,8):=by rfl
theorem Co:fK prog 23 3 (.int .i64 0) 1 8:=⟨underlying23,ax2,rfl,ay⟩
theorem avp{base v l W}(h:W.ownsRow base 3 1 v l.length (LL l)):aA (λk=>k<base) base 3 cR l v W :=
 ⟨l.map BV,by rw[Um];exact h,aj,λw' _=>Kt l w'⟩
theorem ap9(p:List Int) n A c w :
 Calls prog 253 #[.slice A p.length c,.int .i64 n] w λe w'=>e=.returned (.func (.func 292) #[] #[.pointer (some ⟨w.heap.size,0,none⟩),.pointer (some ⟨w.heap.size+1,0,none⟩)])/\w'=(w.alloc (.cells #[.slice A p.length c] 23)).alloc (.cells #[.int .i64 n] 3):=by
 go_enter func253,ntmps253
 go_wp2
 go_ret
 exact⟨aj,rfl⟩
theorem aqa p n v w(h:aq cR p v w)(hn:p.length<=1000000) :
 Calls prog 159 #[v,.int .i64 n] w λe w'=>∃v',e=.returned v'/\aA (λk=>k<w.heap.size) w.heap.size 3 cR (FH p n) v' w'/\K w w':=by
 have C1:=ae λW (k:K w W)=>TD p n v W (bo h k) hn
 obtain⟨A,c,rfl,hl,-⟩:=h
 have Z:Hid (FH p n=if rY p n then rL p n else []):=ae rfl
 have Q:Hid (rY p n=true->0<p.length):=ae awx
 generalize FH p n=R at *
 have kk:=K.rf w
 refine (callsIn_wide (n:=6)).1 ?_
 refine callsIn_of_wp_marks func159 rfl trivial ?_ rfl
 simp only[ntmps159,List.size_toArray,eQ,List.length_nil,Nat.reduceAdd,Nat.reduceSub,Array.replicate_succ,Array.replicate_zero,List.push_toArray,List.append_toArray,aO,aQ]
 gi_wp2_with fail
 refine⟨trivial,(callsIn_wide.2 (C1.aa w kk)).mono ?_⟩
 rintro e E⟨rfl,k1⟩
 cases hb:rY p n
 ·have U:Hid (R=[]):=ae (by rw[Z.aa,hb];rfl);clear hb;gi_wp2;exact⟨_,results_tmp rfl _ _ _,_,rfl,by rw[U.aa];exact aA.nil _ _ _ _ _,k1⟩
 have U:Hid (R=rL p n):=ae (by rw[Z.aa,hb];rfl)
 obtain⟨b,y,rfl,hcell⟩:=ints_at hl (Q.aa hb)
 have dQ:b<w.heap.size:=Kw (hcell w kk 0 (Q.aa hb))
 have vZ:=ae hcell
 clear hb Z Q C1 hl hcell
 gi_wp2_with fail
 refine⟨trivial,(callsIn_wide.2 (ap9 p n _ c _)).mono ?_⟩
 rintro e C⟨rfl,rfl⟩
 have M:=((Boxed.new E 23 (.slice none 0 0)).alloc (.cells #[.slice (some ⟨b,y,none⟩) p.length c] 23)).alloc (.cells #[.int .i64 n] 3)
 have O:=(Boxed.new (E.alloc (.cells #[.slice none 0 0] 23)) 23 (.slice (some ⟨b,y,none⟩) p.length c)).alloc (.cells #[.int .i64 n] 3)
 have F:=Boxed.new ((E.alloc (.cells #[.slice none 0 0] 23)).alloc (.cells #[.slice (some ⟨b,y,none⟩) p.length c] 23)) 3 (.int .i64 n)
 have k2:K w (((E.alloc (.cells #[.slice none 0 0] 23)).alloc (.cells #[.slice (some ⟨b,y,none⟩) p.length c] 23)).alloc (.cells #[.int .i64 n] 3)):=((k1.al _).al _).al _
 have hz2:(((E.alloc (.cells #[.slice none 0 0] 23)).alloc (.cells #[.slice (some ⟨b,y,none⟩) p.length c] 23)).alloc (.cells #[.int .i64 n] 3)).heap.size=E.heap.size+1+1+1:=aj
 simp only[World.size_alloc]at O F⊢
 have hz1:=k1.size
 have azC:=ae (vZ.aa _ k2)
 generalize ((E.alloc (.cells #[.slice none 0 0] 23)).alloc (.cells #[.slice (some ⟨b,y,none⟩) p.length c] 23)).alloc (.cells #[.int .i64 n] 3)=C at *
 generalize hg:E.heap.size=B0 at *
 clear hg hz2 vZ
 gi_wp2_with fail
 refine wpIn_rangeFunc_ownF rfl af (gf:=292) (lb:=#[.pointer (some ⟨B0+1,0,none⟩),.pointer (some ⟨B0+1+1,0,none⟩)]) rfl trivial (enters_of func292 ef rfl)
  (encs:=λx:Int=>#[.int .i64 x]) (Kp:=Et (B0+1+1) b) (S:=λys=>ys=rL p n) (Sp:=λpre=>pre <+: rL p n) (N:=(rL p n).length) (w0:=C)
  (λl J Jx W Y _ _ hY h0=>atk l (B0+1) (B0+1+1) b y c p n J Jx hY W ((World.cell?_of_block (Y.block _ O.lt)).trans O.cell) ((World.cell?_of_block (Y.block _ F.lt)).trans F.cell)
   (λi V=>(World.cell?_of_block (Y.block _ (show b<_ by have:=k2.size;omega))).trans (azC.aa i V)) hn h0)
  (λh k=>h.tr k) (λW l o o' h1 _ _ _=>⟨World.putObj_heap_other (by have:=F.lt;omega),World.putObj_heap_other (by have:=k2.size;omega)⟩) (cM _ _) (λ_=>rfl)
  (λpre W=>∃v,Boxed W B0 23 v/\W.ownsRow C.heap.size 3 1 v pre.length (LL pre)/\Below w.heap.size w W/\C.heap.size<=W.heap.size)
  (λ_ _ _=>False) ?own (λ_ _ _ _ _ hs _ _=>hs) ⟨_,M,jV _ _ _ _,k2,aC _⟩
  (λx=>{ tmps:=#[.slice (some ⟨b,y,none⟩) p.length c,.int .i64 n,undef,undef,.slice none 0 0,.pointer (some ⟨B0,0,none⟩),.int .i64 x,.slice (some ⟨b,y,none⟩) p.length c,.int .i64 n,.bool true,.bool false,.slice (some ⟨b,y,none⟩) p.length c,.int .i64 n,.func (.func 292) #[] #[.pointer (some ⟨B0+1,0,none⟩),.pointer (some ⟨B0+1+1,0,none⟩)],.int .i64 x,undef,undef,undef,undef,undef],defers:=[] }) ?assign ?body ?done ?stop
 case own => exact af7
 case assign => intro l x W K hK;gi_wp2;exact hK
 case body =>
  rintro l pre x W⟨v,hv,hrow,hB,MJ⟩ hpl;have q:=hv.cell;have hul:=atj p n;have II:=pH hrow (.cells #[.int .i64 x] 3);have aN:=ah.new W 3 #[.int .i64 x];obtain⟨i,V,hz0,jl,ir⟩:=Co.fit;gi_wp2_with (gi_at_builtin;refine wpListIn_append_own _ rfl _ _ 23 rfl C.heap.size 3 i (.int .i64 0) 1 8 underlying23 V hz0 jl ir rfl ay v pre.length (LL pre) rfl II ⟨W.heap.size,0,none⟩ 1 1 [.int .i64 x] rfl rfl ?c1 ?c2 ?c3 ?c4 ?c5 ?_)
  case c1 =>
   intro j u H;have:j=0:=by
    grind
   subst this;have h:=aN.cell 0;simp at H⊢;rw[<- H];simp[Addr.add]
  case c2=>intro u H;simp at H;subst H;rfl
  case c3=>unfold maxLen;omega
  case c4=>omega
  case c5=>simp;omega
  intro v' w' hown' L _;obtain⟨g',cap',G⟩:∃g cap,v'=.slice (some ⟨g,0,none⟩) (pre.length+1) cap:=af8;rw[G]at hown'⊢;clear G;obtain⟨v',G⟩:∃v',v'=Value.slice (some ⟨g',0,none⟩) (pre.length+1) cap':=⟨_,rfl⟩;rw[<- G]at hown';have hne:some B0≠v.ownBlock:=λe=>by have:=(hrow.lt B0 e.symm).1;have:=M.lt;omega
  have T:=(hv.alloc _).kept L hne;have q1:=T.cell;have z1:=T.frozen;have LM:v'.ownBlock≠some B0:=λe=>by have:=(hown'.lt B0 e).1;have:=M.lt;omega
  have u :=
   ((ag.aT ((K.rf W).al (.cells #[.int .i64 x] 3)) _).tr (ag.eM L λg hg=>.inr (II.lt g hg).1)).tr (ag.bL (X:=λk=>k=B0∨C.heap.size<=k) (.inl rfl) 0 v')
  have RP:KeepsOthers W (w'.setCell ⟨B0,0,none⟩ v'):=by refine ((KeepsOthers.alloc W (.cells #[.int .i64 x] 3)).trans (KeepsOthers.of_grownBy L λj o ej hj=>?_)).trans (KeepsOthers.setCell _ _ _);exact af9
  have I:Boxed (w'.setCell ⟨B0,0,none⟩ v') B0 23 v'/\(w'.setCell ⟨B0,0,none⟩ v').ownsRow C.heap.size 3 1 v' (pre++[x]).length (LL (pre++[x]))/\Below w.heap.size w (w'.setCell ⟨B0,0,none⟩ v')/\C.heap.size<=(w'.setCell ⟨B0,0,none⟩ v').heap.size:=by
   refine⟨T.set v',?_,⟨u.os.trans hB.os,u.tape.trans hB.tape,u.output.trans hB.output,bn hB.size u.size,λk hk=>(u.block k (bz hk hB.size) λh=>?_).trans (hB.block k hk)⟩,bn MJ u.size⟩
   ·exact aga
   ·have:=k2.size;omega
  have Gg:Et (B0+1+1) b W (w'.setCell ⟨B0,0,none⟩ v'):=by have h2:=F.lt;have h3:=k2.size;exact⟨u.block _ af af,u.block _ af af⟩
  subst G;gi_wp2;exact⟨RP,Gg,_,I.1,I.2.1,I.2.2.1,I.2.2.2⟩
 case done =>
  rintro D ys W hD rfl⟨v,hv,hrow,hB,MJ⟩ hK;have q:=hv.cell;have hr:(W.putObj D (.deferred none)).ownsRow w.heap.size 3 1 v (rL p n).length (LL (rL p n)):=Fg (mg k2.size hrow) λg _ _ h2=>World.putObj_heap_other λe=>by exact agb
  have HV:=ae (avp hr);have HI:=ae (belowK_b (n₀:=w.heap.size) (w:=C) k2.size W D _ (.deferred none) hD hK rfl rfl);gi_wp2;refine⟨aj,.inl ⟨_,_,rfl,run_takeDeferred hK,?_⟩⟩;exact⟨_,results_tmp rfl _ _ _,_,rfl,by rw[U.aa];exact HV.aa,hB.trans HI.aa⟩
 case stop => simp
end
section
open Go Go.RowKit Go.Shelf
attribute [local go_sem] Oper.semAt_some
theorem aqb b w :
 Calls prog 260 #[.map (some b)] w λe w'=>e=.returned (.func (.func 299) #[] #[.pointer (some ⟨w.heap.size,0,none⟩)])/\w'=w.alloc (.cells #[.map (some b)] 160):=by
 go_enter func260,ntmps260
 go_wp2
 go_ret
 exact⟨aj,rfl⟩
theorem ad9{α:Type}:∀(L:List α) (i:Nat) (h:i<L.length),(L[i] :: L.eraseIdx i).Perm L
 | [],i,h=>wQ
 | x :: l,0,_=>aj
 | x :: l,i+1,h=>by have j:i<l.length:=zw;simp only[List.getElem_cons_succ,List.eraseIdx_cons_succ];exact (List.Perm.swap _ _ _).trans ((ad9 l i j).cons x)
theorem arw{α:Type}{pre L M:List α}(h:(pre++L).Perm M) i(j:i<L.length):(pre++[L[i]]++L.eraseIdx i).Perm M:=by refine List.Perm.trans ?_ h;rw[dY];exact List.Perm.append_left pre (ad9 L i j)
theorem atl l G b ak(J D:List aR->World->Prop)
 (T:∀pre x W,J pre W->pre.length<ak.length->YieldAt Fence.wide 4 prog l #[lS x] W λe W' =>
  (e=.returned (.bool true)/\J (pre++[x]) W'/\KeepsWalks W W')∨(e=.returned (.bool false)/\D (pre++[x]) W'))
 W (y:AbidesFrom W.heap.size J) (h1:W.cell? ⟨G,0,none⟩=some (.map (some b))) (hm:ei lS W b ak) (O:J [] W) :
 CallsIn Fence.wide 5 prog 299 #[.func (.yield l) #[] #[],.pointer (some ⟨G,0,none⟩)] W λe W'=>(∃v,e=.returned v) /\
  ((∃j:List aR,j.Perm (ak.map (·.1))/\J j W')∨(∃pre:List aR,True/\D pre W')):=by
 refine callsIn_of_wp func299 rfl trivial ?_ rfl
 simp only[ntmps299,List.size_toArray,eQ,List.length_nil,Nat.reduceAdd,Nat.reduceSub,Array.replicate_succ,Array.replicate_zero,List.push_toArray,List.append_toArray,aO,aQ]
 gi_wp2_with (first|(gi_at_range;refine aoh _ rfl _ 160 rfl _ _ underlying160 b ak rfl hm ?_;intro w0 Y hg0 hs0)|gi_in)
 go_frame
 generalize Z:W.heap.size=B at *
 clear Z
 gi_loopw [3,6,7,8,9,10,11,12,13] (λ_ _ _ _ _ _ _ _ _ wr=>∃(j L:List aR),rQ lS wr b B ak L/\(j++L).Perm (ak.map (·.1))/\J j wr) (λ_ _ _ _ _ _ _ _ _ wr=>wr.rangeLeft b B)
 case atStart=>exact⟨[],_,Y,aj,y [] W w0 none O hg0 (λr e=>Dr)⟩
 case round =>
  obtain⟨j,L,u,hp,E⟩:=hrel;gi_wp2_with (first|(gi_at_next;refine aos _ rfl _ rfl b B ak L rfl u ?_ ?_)|gi_in)
  ·intro U;subst U;gi_wp2;go_end0;exact⟨⟨_,rfl⟩,.inl ⟨j,by simpa using hp,E⟩⟩
  ·intro i hi v t M H fC hen;have C:=y j wr t (some B) E H (λr e=>by cases e;exact⟨aC _,u.walk⟩);have hp2:=arw hp i hi;have S:j.length<ak.length:=by have:=hp.length_eq;simp at this;omega
   generalize N:L.eraseIdx i=A at *;have X:A.length<L.length:=by rw[<- N,List.length_eraseIdx];split <;> omega
   generalize L[i]=x at *;have V:J j (t.alloc (.cells (df x) 26)):=y j t _ none C (World.grownBy_alloc _ _ _) (λr e=>Dr);have dI:rQ lS (t.alloc (.cells (df x) 26)) b B ak A:=M.walks (KeepsWalks.of_grownBy (World.grownBy_alloc _ _ none) (λ_ _ e=>Dr));obtain⟨fn,tmps,assign,body,hy,F⟩:=T j x _ V S;obtain⟨x0,x1,x2⟩:=x;simp only[lS]at hen hy F⊢;clear fC H C M N;gi_wp2;refine F.mono ?_;rintro e W3 (⟨rfl,hJ4,Q⟩|⟨rfl,R⟩)
   ·gi_wp2;have I:=dI.walks Q;go_roundw
    case rel=>exact⟨_,A,I,hp2,hJ4⟩
    case measure=>rw[I.left,u.left];exact X
   ·gi_wp2;refine bodyPost_ret (results_none rfl _ _ _) rfl ?_;exact⟨⟨_,rfl⟩,.inr ⟨_,trivial,R⟩⟩
end
section
open Go Go.RowKit Go.Shelf
attribute [local go_sem] Oper.semAt_some
theorem awy{W W' g t cs}(h:ah W g t cs){row}(hg:W.grownBy W' row)(u:∀r,row=some r->∃o:Obj,W.heap[r]?=some o/\o.isCells=false):ah W' g t cs :=
 (hg.block g h.lt λe=>by
  obtain⟨o,j,y⟩:=u g e.symm;unfold ah at h;rw[h]at j;cases j;cases y).trans h
theorem aot b F ak w(h1:w.cell? ⟨F,0,none⟩=some (.map (some b)))(hm:ei lS w b ak)(hlen:ak.length<=1000000) :
 Calls prog 317 #[.slice none 0 0,.func (.func 299) #[] #[.pointer (some ⟨F,0,none⟩)]] w λe w'=>∃(v':Value) (H:List aR),e=.returned v'/\H.Perm (ak.map (·.1))/\w'.ownsRow w.heap.size 26 3 v' H.length (H.flatMap eY)/\K w w':=by
 have M:=Boxed.new w 44 (.slice none 0 0)
 have k2:=K.new w (.cells #[.slice none 0 0] 44)
 have hz2:(w.alloc (.cells #[.slice none 0 0] 44)).heap.size=w.heap.size+1:=aj
 have hm2:=hm.st k2
 have Gt:F<w.heap.size:=Kw h1
 have h12:=(k2.cell (p:=⟨F,0,none⟩) Gt).trans h1
 refine (callsIn_wide (n:=6)).1 ?_
 refine callsIn_of_wp_marks func317 rfl trivial ?_ rfl
 simp only[ntmps317,List.size_toArray,eQ,List.length_nil,Nat.reduceAdd,Nat.reduceSub,Array.replicate_succ,Array.replicate_zero,List.push_toArray,List.append_toArray,aO,aQ]
 gi_wp2_with fail
 generalize w.alloc _=G at *
 generalize hg:w.heap.size=B0 at M⊢
 have HG:=ae hg
 clear hg hz2 hm h1
 have Eh:F<G.heap.size:=Kw h12
 refine wpIn_rangeFunc_ownH rfl af (gf:=299) (lb:=#[.pointer (some ⟨F,0,none⟩)]) rfl trivial (enters_of func299 ef rfl)
  (encs:=λx:aR=>#[lS x]) (Kp:=KeepsWalks) (S:=λH:List aR=>H.Perm (ak.map λp:aR×Value=>p.1)) (Sp:=λ_=>True) (N:=ak.length) (w0:=G)
  (λl J Jx W hW hJ _ hY h0=>atl l F b ak J Jx hY W hJ ((hW.cell (p:=⟨F,0,none⟩) Eh).trans h12) (hm2.st hW) h0)
  walksK_t walksK_b (cM _ _) (λ_=>rfl)
  (λpre W=>∃v,Boxed W B0 44 v/\W.ownsRow G.heap.size 26 3 v pre.length (pre.flatMap eY)/\Below w.heap.size w W/\G.heap.size<=W.heap.size)
  (λ_ _ _=>False) ?own (λ_ _ _ _ _ hs _ _=>hs) ⟨_,M,jV _ _ _ _,k2,aC _⟩
  (λx U W=>∃I,G.heap.size<=I/\ah W I 26 (df x)/\U={ tmps:=#[.slice none 0 0,.func (.func 299) #[] #[.pointer (some ⟨F,0,none⟩)],.pointer (some ⟨B0,0,none⟩),undef,.slice none 0 0,.pointer (some ⟨I,0,none⟩),.func (.func 299) #[] #[.pointer (some ⟨F,0,none⟩)],.agg (df x),undef,undef,undef,undef,undef],defers:=[] })
  (λx U _ X Y row hs hg hr=>by obtain⟨I,O,V,g3⟩:=hs;exact⟨I,O,awy V hg λr e=>(hr r e).2,g3⟩) ?assign ?body ?done ?stop
 case own => exact af7
 case assign => rintro l pre⟨E,C,y⟩ W K ⟨v,hv,hrow,hB,hz⟩ hK;have O:KeepsOthers W (W.alloc (.cells (df (E,C,y)) 26)):=KeepsOthers.alloc _ _;have V:=pH hrow (.cells (df (E,C,y)) 26);have g3:=hB.alloc hB.size (.cells (df (E,C,y)) 26);have g4:=hv.alloc (.cells (df (E,C,y)) 26);have g5:=ah.new W 26 (df (E,C,y));simp only[lS];gi_wp2;exact hK _ _ (O.from _) O.walks ⟨v,g4,V,g3,aY⟩ ⟨W.heap.size,hz,g5,rfl⟩
 case body =>
  rintro l pre⟨E,C,y⟩ U W hl ⟨r,hr⟩ ⟨v,hv,hrow,hB,MJ⟩ ⟨I,hBx,bX,rfl⟩ hpl;have q:=hv.cell;have q2:=bX.cells;have II:=pH hrow (.cells (df (E,C,y)) 26);have aN:=ah.new W 26 (df (E,C,y));obtain⟨i,hi,hz0,jl,ir⟩:=vX.fit;have kk:=K.rf W;gi_wp2_with (gi_at_builtin;refine wpListIn_append_own _ rfl _ _ 44 rfl G.heap.size 26 i _ 3 24 underlying44 hi hz0 jl ir rfl ay v pre.length (pre.flatMap eY) rfl II ⟨W.heap.size,0,none⟩ 1 1 (eY (E,C,y)) rfl rfl ?c1 ?c2 ?c3 ?c4 ?c5 ?_)
  case c1 => intro j u Q;have h:=aN.cell j;rw[show (df (E,C,y))[j]?=(eY (E,C,y))[j]? by simp,Q]at h;rw[show (⟨W.heap.size,0,none⟩:Addr).add j=⟨W.heap.size,j,none⟩ by cases j <;> simp[Addr.add]];exact h
  case c2=>intro u Q;simp at Q;rcases Q with rfl|rfl|rfl <;> rfl
  case c3=>unfold maxLen;omega
  case c4=>omega
  case c5=>simp;omega
  intro v' w' hown' T _;obtain⟨g',cap',L⟩:∃g cap,v'=.slice (some ⟨g,0,none⟩) (pre.length+1) cap:=af8;rw[L]at hown'⊢;clear L;obtain⟨v',L⟩:∃v',v'=Value.slice (some ⟨g',0,none⟩) (pre.length+1) cap':=⟨_,rfl⟩;rw[<- L]at hown';have hne:some B0≠v.ownBlock:=λe=>by have:=(hrow.lt B0 e.symm).1;have:=M.lt;omega
  have Z:=(hv.alloc _).kept T hne;have q1:=Z.cell;have z1:=Z.frozen;have LM:v'.ownBlock≠some B0:=λe=>by have:=(hown'.lt B0 e).1;have:=M.lt;omega
  have u :=
   ((ag.aT ((K.rf W).al (.cells (df (E,C,y)) 26)) _).tr (ag.eM T λg hg=>.inr (II.lt g hg).1)).tr (ag.bL (X:=λk=>k=B0∨G.heap.size<=k) (.inl rfl) 0 v')
  have RP:KeepsOthers W (w'.setCell ⟨B0,0,none⟩ v'):=by refine ((KeepsOthers.alloc W (.cells (df (E,C,y)) 26)).trans (KeepsOthers.of_grownBy T λj o ej hj=>?_)).trans (KeepsOthers.setCell _ _ _);exact af9
  have R:Boxed (w'.setCell ⟨B0,0,none⟩ v') B0 44 v'/\(w'.setCell ⟨B0,0,none⟩ v').ownsRow G.heap.size 26 3 v' (pre++[(E,C,y)]).length ((pre++[(E,C,y)]).flatMap eY)/\Below w.heap.size w (w'.setCell ⟨B0,0,none⟩ v')/\G.heap.size<=(w'.setCell ⟨B0,0,none⟩ v').heap.size:=by
   refine⟨Z.set v',?_,⟨u.os.trans hB.os,u.tape.trans hB.tape,u.output.trans hB.output,bn hB.size u.size,λk hk=>(u.block k (bz hk hB.size) λh=>?_).trans (hB.block k hk)⟩,bn MJ u.size⟩
   ·exact aga
   ·have:=k2.size;have:=HG.aa;omega
  subst L;gi_wp2;exact⟨RP.from _,RP.walks,_,R.1,R.2.1,R.2.2.1,R.2.2.2⟩
 case done =>
  rintro D H W hD hp⟨v,hv,hrow,hB,MJ⟩ hK;have q:=hv.cell;have hr:(W.putObj D (.deferred none)).ownsRow w.heap.size 26 3 v H.length (H.flatMap eY):=Fg (mg k2.size hrow) λg _ _ h2=>World.putObj_heap_other λe=>by exact agb
  have HV:=ae hr;have HI:=ae (belowK_b (n₀:=w.heap.size) (w:=G) k2.size W D _ (.deferred none) hD hK rfl rfl);have HP:=ae hp;clear hp hr;gi_wp2;refine⟨aj,.inl ⟨_,_,rfl,run_takeDeferred hK,?_⟩⟩;exact⟨_,results_tmp rfl _ _ _,_,H,rfl,HP.aa,mh,hB.trans HI.aa⟩
 case stop => simp
end
def yx(s:Nat):Nat:=if s &&& 1=1 then (s/2) ^^^ 3945912366 else s/2
def D4:Nat->Nat->Nat
 | 0,s=>s
 | k+1,s=>yx (D4 k s)
def zU(l:List UInt8):Nat:=l.foldl (λs b=>D4 8 (s ^^^ b.toNat)) 4294967295
def zV(l:List UInt8):Nat:=4294967295 ^^^ zU l
theorem Pf{a b}(j:a<4294967296)(hb:b<4294967296):a ^^^ b<4294967296:=Nat.xor_lt_two_pow (n:=32) j hb
theorem agc{s}(h:s<4294967296):yx s<4294967296:=by
 unfold yx;split
 ·exact Pf af ay
 ·omega
theorem awz k{s}(h:s<4294967296):D4 k s<4294967296:=by
 induction k with
 | zero=>exact h
 | succ k j=>exact agc j
theorem adj l b:zU (l++[b])=D4 8 (zU l ^^^ b.toNat):=by simp[zU]
theorem agd l:zU l<4294967296:=by
 rcases List.eq_nil_or_concat l with rfl|⟨l',b,rfl⟩
 ·decide
 ·rw[List.concat_eq_append,adj];have j:=agd l';exact awz 8 (Pf j (by have:=b.toNat_lt;omega))
termination_by l.length
decreasing_by all_goals (subst_vars;simp)
theorem VN l:zV l<4294967296:=Pf ay (agd l)
theorem acx l v w(h:sl l v w)(hn:l.length<=1000000000) :
 Calls prog 206 #[v] w λe w'=>e=.returned (.int .u32 (zV l:Int))/\K w w':=by
 obtain⟨A,c,rfl,E⟩:=h
 have I:=K.rf w
 have J:Hid (zV l=4294967295 ^^^ zU l):=ae rfl
 generalize zV l=R at *
 go_enter func206,ntmps206
 go_wp2_with fail
 go_loop [3,5,6,9] (fun s _ _ i=>∃j:Nat,j<=l.length/\i=.int .i64 j/\∃n:Nat,s=.int .u32 n/\n<4294967296/\Hid (n=zU (l.take j))) (fun _ _ _ i=>l.length-(intOf i).toNat)
 case atStart=>exact⟨0,af,rfl,4294967295,rfl,af,ae (by simp[zU])⟩
 case round =>
  obtain⟨j,O,rfl,n,rfl,hn,u⟩:=hrel;by_cases y:j<l.length
  ·have D:(j:Int)<l.length:=af;obtain⟨b,Q,rfl,-,t⟩:=E.at_ af;have N:=t j y;have L:l[j].toNat<256:=l[j].toNat_lt;have C:Hid (zU (l.take (j+1))=D4 8 (n ^^^ l[j].toNat)):=ae (by rw[gj y,adj,u.aa]);generalize l[j]=x at *;have HX:=ae (u32_xor_nat n x.toNat hn af);have B:=Pf hn (show x.toNat<4294967296 by omega);clear t;go_wp2_with fail
   rw[HX.aa];generalize n ^^^ x.toNat=s0 at *;go_loop [3,6,17] (fun s _ k=>∃k':Nat,k'<=8/\k=.int .i64 k'/\∃m:Nat,s=.int .u32 m/\m<4294967296/\Hid (m=D4 k' s0)) (fun _ _ k=>8-(intOf k).toNat)
   case atStart=>exact⟨0,af,rfl,s0,rfl,B,ae rfl⟩
   case round =>
    obtain⟨k',hk,rfl,m,rfl,hm,HM⟩:=hrel;by_cases M:k'<8
    ·have G:(k':Int)<8:=af;have hl:=agc hm;have ha:=u32_and_nat m 1 hm ay;by_cases h1:m &&& 1=1
     ·have hb:(bits BinOp.and IntKind.u32 (m:Int) 1==1)=true:=by rw[show (1:Int)=((1:Nat):Int)from rfl,ha,h1];rfl
      have hB:yx m=(m/2) ^^^ 3945912366:=by rw[yx,if_pos h1]
      have HX:=ae (show bits BinOp.xor IntKind.u32 ((m:Int)/2) 3945912366=((yx m:Nat):Int) by rw[hB];exact u32_xor_nat (m/2) 3945912366 af ay);exact age
     ·have hb:(bits BinOp.and IntKind.u32 (m:Int) 1==1)=false:=by rw[show (1:Int)=((1:Nat):Int)from rfl,ha];simp only[beq_eq_false_iff_ne];omega
      have hB:yx m=m/2:=by rw[yx,if_neg h1]
      have HX:=ae (show (m:Int)/2=((yx m:Nat):Int) by rw[hB];simp);exact age
    ·have G:¬(k':Int)<8:=af;obtain rfl:k'=8:=af;have F:Hid (m=zU (l.take (j+1))):=ae (by rw[C.aa,HM.aa]);go_wp2;go_round
     case rel=>exact⟨j+1,af,bJ,m,rfl,hm,F⟩
     case measure=>simp[intOf];omega
  ·have D:¬(j:Int)<l.length:=af;obtain rfl:j=l.length:=af;have H:Hid (R=4294967295 ^^^ n):=ae (by rw[J.aa,u.aa,lL]);have HX:=ae (u32_xor_nat 4294967295 n ay hn);go_wp2;go_ret;refine⟨?_,I⟩;rw[H.aa];exact congrArg (λz=>Ending.returned (Value.int IntKind.u32 z)) HX.aa
theorem abF(g lo base k n:Nat) v l w(hb:ah w g 94 #[v])(t:Own w base 5 v l)(E:lo<=g/\lo<=base/\lo<=w.heap.size)(hbase:base<=w.heap.size)(hk:k<=4)(hn:n<4294967296)(hl:l.length<=1000000000) :
 Calls prog 335 #[.int .u32 n,.int .i64 k,.pointer (some ⟨g,0,none⟩)] w λe w'=>∃v',e=.returned (.tuple #[])/\ah w' g 94 #[v']/\Own w' base 5 v' (l++be k n)/\Below lo w w':=by
 have H:=cM lo w
 go_enter func335,ntmps335
 go_wp2_with fail
 go_loopw [5] (fun i W=>∃(j:Nat) (v':Value) (pre:List UInt8),j<=k/\(∃z:Int,i=.int .i64 z/\z+1=(j:Int))/\ah W g 94 #[v']/\Own W base 5 v' (l++pre)/\Hid (pre++be j n=be k n)/\Below lo w W) (fun i _=>(intOf i+1).toNat)
 case atStart=>exact⟨k,v,[],af,⟨_,rfl,af⟩,hb,by simpa using t,ae aj,H⟩
 case round =>
  clear H hb t;obtain⟨j,v',pre,hj,⟨z,rfl,hz⟩,hb,t,y,kr⟩:=hrel;by_cases h0:0<j
  ·obtain⟨j,rfl⟩:∃j',j=j'+1:=⟨j-1,af⟩;obtain rfl:z=(j:Int):=af;have aP:(0:Int)<=(j:Int):=af;have hj8:(8:Int)*(j:Int)<=24:=af;have M:IntKind.i64.wrap (8*(j:Int))=8*(j:Int):=IntWalk.i64_in _ af;have Q:¬(8*(j:Int)<0):=af;clear hz;have q:=hb.cells;have z:=hb.frozen;go_upto_region 3 with (fail);have qs:=And.intro q (And.intro M Q);refine dD 7 [([],[]),([],[]),([],[]),([2],[(14,2)]),([1,3],[(13,1),(15,3)]),([4],[(16,4)]),([5],[(17,5)]),([0,6],[(12,0),(18,6)]),([0,1,2,3,4,5,6,7],[(19,7)])] 20 ?_;iterate 6 refine au.i ?_
   refine au.row (N:=λ_=>True) (S:=Mn) 94 _ 1 1 TB rfl ay (.tmp 17) (UInt8.ofNat (n/256^j)) rfl rfl (λV W kW hp=>?_) ?_
   ·simp only[cd,aO,aQ,bW,bY,aJ]at hp;simp only[aE,List.lookup,beq_self_eq_true,hp];refine⟨rfl,λW' _=>?_⟩;show [Value.int .u8 _]=_;rw[show (8*(j:Int)).toNat=8*j by omega,show IntKind.u8.wrap ((n:Int)/2^(8*j))=(n:Int)/2^(8*j)%256 from by rw[IntKind.wrap_u8],acY]
   clear qs;intro V W kW hA;simp only[aO,aQ,cz,aJ,Nat.reduceAdd]at hA;obtain⟨U,-,-,-,-,-,e6,-⟩:=hA;have C:=Uf (aC _) t kW;have D:=hb.av kW;have J:v'.ownBlock≠some g:=λe=>by obtain⟨cur,h1⟩:=lI C e;exact absurd (h1.gM D) ay
   have hpl:pre.length<=4:=by have:=congrArg List.length y.aa;simp[uz]at this;omega
   have Y6:base<=W.heap.size:=by have:=kW.size;have:=kr.size;omega
   refine aH.push (.tmp 12) (.tmp 18) 94 _ 1 1 TB rfl rfl rfl v' (l++pre) (UInt8.ofNat (n/256^j)) ?_ (Own.sR (Y:=λ_=>True) C) ?_ ?_ Y6 ?_
   ·simp[aE,List.lookup,U]
   ·simp only[aE,List.lookup,beq_self_eq_true];exact e6.less λ_ _=>trivial
   ·simp;omega
   intro R B F G _ L;have hx2:=D.grown G (λe=>J e.symm);have A:=F.bytes;have I:R.ownBlock≠some g:=λe=>by obtain⟨cur,h1⟩:=lI A e;exact PR
   obtain⟨u,c2,rfl,-⟩:=A.slice;refine aH.skip (B.setCell ⟨g,0,none⟩ (.slice u (l++pre++[UInt8.ofNat (n/256^j)]).length c2)) rfl ?_ ?_
   ·have Z:=hx2.cell;have z2:=hx2.frozen;simp[aE,List.lookup,ba,execOp,aF,Z,z2,go_sem]
   refine aH.nil ?_;simp only[fX,Act.put,rJ,qM,qL,ba,Nat.reduceAdd,Nat.reduceEqDiff,if_false,if_true];have T:=hx2.aM 0 (.slice u (l++pre++[UInt8.ofNat (n/256^j)]).length c2);have lY:Own (B.setCell ⟨g,0,none⟩ (.slice u (l++pre++[UInt8.ofNat (n/256^j)]).length c2)) base 5 (.slice u (l++pre++[UInt8.ofNat (n/256^j)]).length c2) (l++(pre++[UInt8.ofNat (n/256^j)])):=by rw[<- dY];exact iK A (ag.bL (X:=λk=>k=g) rfl 0 _) λb hb e=>I (by rw[hb,e])
   have k9:Below lo w (B.setCell ⟨g,0,none⟩ (.slice u (l++pre++[UInt8.ofNat (n/256^j)]).length c2)) :=
    ((kr.trans (kW.mono (by have:=kr.size;omega))).trans (L.mono E.2.1)).setCell (p:=⟨g,0,none⟩) E.1 _
   have O:Hid (pre++[UInt8.ofNat (n/256^j)]++be j n=be k n):=ae (by have:=y.aa;rw[be]at this;simpa using this);clear y F A L hx2 G I t hb q z D C J;generalize B.setCell _ _=w9 at *;go_wp2;go_roundw
   case rel=>exact⟨j,_,_,af,⟨_,rfl,af⟩,T,lY,O,k9⟩
   case measure=>simp[intOf]
  ·obtain rfl:j=0:=af;have HE:=ae (by have:=y.aa;simpa [be]using this);go_wp2;go_end0;exact⟨_,rfl,hb,by rw[<- HE.aa];exact t,kr⟩
