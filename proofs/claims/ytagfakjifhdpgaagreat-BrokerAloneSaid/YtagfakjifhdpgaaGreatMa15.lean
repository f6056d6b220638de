/-
  Lists of a call's own whose elements stay whatever becomes of some blocks; how they grow by one element, in a region or in a walk. Conditions: none.
-/
import Derived.Test.YtagfakjifhdpgaaGreatMa14
import Derived.Laws.BitsAllLaws
set_option maxRecDepth 100000
set_option maxHeartbeats 16000000
set_option linter.unusedVariables false
set_option linter.unusedSimpArgs false
namespace Go.Proofs.YtagfakjifhdpgaaGreat
open Go Go.RowKit
section
variable {α:Type} {S:Shp α} {Y:Nat->Prop} {base:Nat} {e:TypeId} {l:List α} {v:Value} {w w':World}
def OwnY (Y:Nat->Prop) (base:Nat) (e:TypeId) (S:Shp α) (l:List α) (v:Value) (w:World):Prop :=
 ∃ css,w.ownsRow base e S.size v l.length css.flatten/\css.length=l.length/\∀ w',UpN (fun k=>Y k∨v.ownBlock=some k) w w'->Each S l css w'
theorem OwnY.nil (Y:Nat->Prop) (base:Nat) (e:TypeId) (S:Shp α) (w:World):OwnY Y base e S [] (.slice none 0 0) w:=⟨[],World.ownsRow_nil _ _ _ _,rfl,fun _ _=>Each.nil _ _⟩
theorem OwnY.st (h:OwnY Y base e S l v w) (k:K w w'):OwnY Y base e S l v w':=by
 obtain⟨css,h1,h2,h3⟩:=h
 exact⟨css,row_below h1 k,h2,fun w'' u=>h3 w'' ((UpN.of_k k _).tr u)⟩
theorem OwnY.blk (h:OwnY Y base e S l v w):∀ g,v.ownBlock=some g->base<=g/\g<w.heap.size:=by
 obtain⟨css,h1,-,-⟩:=h
 exact fun g hg=>h1.lt g hg
theorem OwnY.up {Y':Nat->Prop} (h:OwnY Y base e S l v w) (u:UpN Y' w w') (hY:∀ k,Y' k->Y k) (hb:∀ k,Y' k->k<base):OwnY Y base e S l v w':=by
 have hbl:=h.blk
 obtain⟨css,h1,h2,h3⟩:=h
 exact⟨css,row_upn h1 u fun b h4 h5=>by have:=hbl b h4;have:=hb b h5;omega,h2,fun w'' u'=>h3 w'' ((u.more fun k hk=>.inl (hY k hk)).tr u')⟩
theorem OwnY.less {Y':Nat->Prop} (h:OwnY Y base e S l v w) (hY:∀ k,Y' k->Y k):OwnY Y' base e S l v w:=by
 obtain⟨css,h1,h2,h3⟩:=h
 exact⟨css,h1,h2,fun w' u=>h3 w' (u.more fun k hk=>hk.imp (hY k) id)⟩
theorem OwnY.low {base':Nat} (h:OwnY Y base e S l v w) (hb:base'<=base):OwnY Y base' e S l v w:=by
 obtain⟨css,h1,h2,h3⟩:=h
 exact⟨css,row_base hb h1,h2,h3⟩
theorem OwnY.lst (h:OwnY Y base e S l v w):lst S l v w:=by
 obtain⟨css,h1,h2,h3⟩:=h
 exact lst_of_own h1 (h3 w (UpN.rf _ _))
theorem OwnY.fx (h:OwnY Y base e S l v w) (hb:∀ k,Y k->k<base):Fx Y (fun W=>Go.Proofs.YtagfakjifhdpgaaGreat.lst S l v W) w:=fun _ u=>(h.up u (fun _ h=>h) hb).lst
theorem OwnY.slice (h:OwnY Y base e S l v w):∃ A c,v=.slice A l.length c:=lst_slice h.lst
theorem OwnL.toY {lo:Nat} (h:OwnL base lo e S l v w):OwnY (fun k=>k<lo) base e S l v w:=by
 obtain⟨css,h1,h2,h3⟩:=h
 exact⟨css,h1,h2,fun w' u=>h3 w' (u.upB fun k h1 _ h3 h4=>by rcases h4 with h4|h4;omega;exact h3 h4.symm)⟩
def elY (N:Nat->Prop) (S:Shp α) (x:α) (v:Value) (W:World):Prop:=v.cells.size=S.size/\Fx N (fun W=>S.rel x v.cells.toList W) W
def rowY (N:Nat->Prop) (lo:Nat) (e:TypeId) (S:Shp α) (x:α) (v:Value) (W:World):Prop:=∃ g cs,v=.slice (some ⟨g,0,none⟩) 1 1/\lo<=g/\Blk W g e cs/\Fx N (fun W=>S.rel x cs.toList W) W
theorem rowY_st (N:Nat->Prop) (lo:Nat) (e:TypeId) (S:Shp α) (x:α):∀ v w w',rowY N lo e S x v w->Below w.heap.size w w'->rowY N lo e S x v w':=by
 rintro v w w' ⟨g,cs,e1,h1,h2,h3⟩ k
 exact⟨g,cs,e1,h1,h2.below k h2.lt,h3.k k⟩
variable {P:Program} {ρ:Operand->Value}
theorem fold_sets (a b:Array Value) (h:a.size=b.size) (m:Nat):b.zipIdx.foldl (fun cs (x:Value×Nat)=>cs.setIfInBounds (0 * m+x.2) x.1) a=b:=by
 obtain⟨la⟩:=a
 obtain⟨lb⟩:=b
 simp at h
 have key:∀ (r pre q:List Value),la.length=pre.length+r.length->q.length=r.length->(List.zipIdx r pre.length).foldl (fun (cs:Array Value) (x:Value×Nat)=>cs.setIfInBounds x.2 x.1) (pre++q).toArray=(pre++r).toArray:=by
  intro r
  induction r with
  | nil=>intro pre q _ hq;simp at hq;subst hq;simp
  | cons x r ih =>
    intro pre q h1 h2
    cases q with
    | nil=>simp at h2
    | cons y q =>
      simp only[List.zipIdx_cons,List.foldl_cons]
      have e1:(pre++y :: q).toArray.setIfInBounds pre.length x=(pre++[x]++q).toArray:=by simp
      rw[e1]
      have:=ih (pre++[x]) q (by simp at h1 ⊢;omega) (by simpa using h2)
      simp only[List.length_append,List.length_cons,List.length_nil,Nat.zero_add] at this
      rw[this]
      simp
 have:=key lb [] la (by simpa using h) h
 simpa using this
theorem fill_one (size:Nat) (a:Array Value) (v:Value) (hs:v.cells.size=size) (ha:a.size=size):Instr.fill (fun i=>some (i * size,size)) a [(0,v)]=some v.cells:=by
 have h:=fold_sets a v.cells (by omega) size
 have h2:¬ (0 * size+v.cells.size > a.size):=by omega
 have h3:¬ (v.cells.size≠size):=by omega
 simp only[Instr.fill,h3,h2,decide_false,Bool.or_false,Bool.false_eq_true,if_false]
 exact congrArg some h
theorem run_build1 (t:TypeId) (z:Value) (size bytes:Nat) (T:SliceT P t e z size bytes) (hs:v.cells.size=size) (h24:size<=16777216) :
 (Instr.buildSlice t 1 #[(0,v)]).run P w=.ok (.slice (some ⟨w.heap.size,0,none⟩) 1 1) (w.alloc (.cells v.cells e)):=by
 obtain⟨i,hi,hz0,hz1,hz2⟩:=T.fit
 have hsz:=T.pos
 have e1:¬ (1 * size > 2 ^ 24):=by omega
 have e2:¬ (1 * size=0):=by omega
 have hz:(zeroValue e).run P w=.ok z w:=by simp[zeroValue,typeInfo,hi,hz0]
 have e4:=fill_one size ((Array.range (1 * size)).map fun k=>z.cells[k % z.cells.size]!) v hs (by simp)
 have hsi:(sizeOf e).run P w=.ok size w:=by simp[sizeOf,typeInfo,hi,hz1]
 unfold Instr.buildSlice
 simp only[Sem.run_bind,Result.andThen_ok,run_underlying T.und,hsi,e1,e2,if_false,Sem.run_pure,hz,e4]
 simp[newRow,go_sem]
theorem exec_build1 (t ty:TypeId) (z:Value) (size bytes:Nat) (T:SliceT P t e z size bytes) (x:Operand) (hx:ρ x=v) (hs:v.cells.size=size) (h24:size<=16777216) :
 (execOp ρ (bareOp (.buildSlice t 1 #[(0,x)]) ty)).run P w=.ok (.value (.slice (some ⟨w.heap.size,0,none⟩) 1 1)) (w.alloc (.cells v.cells e)):=by
 have h:=run_build1 (P:=P) (w:=w) t z size bytes T hs h24
 subst hx
 simp only[execOp,bareOp,List.map_toArray,List.map_cons,List.map_nil,Sem.run_bind,h,Result.andThen_ok,Sem.run_pure]
theorem run_push (t ty:TypeId) (z:Value) (size bytes:Nat) (T:SliceT P t e z size bytes) (hsz:S.size=size) (hO:OwnY Y base e S l v w) (u:Value) (x:α) (hu:rowY (fun k=>Y k∨v.ownBlock=some k) 0 e S x u w)
 (hbytes:(l.length+1) * (bytes+1)<=140737488355328) (hbase:base<=w.heap.size) :
 ∃ v' w',(Builtin.append_ #[t,t] ty #[v,u]).run P w=.ok v' w'/\OwnY Y base e S (l++[x]) v' w'/\w.grownBy w' v.ownBlock/\(v'.ownBlock=v.ownBlock∨v'.ownBlock=some w.heap.size)/\Below base w w':=by
 subst hsz
 obtain⟨g,cs,rfl,-,hb,hF⟩:=hu
 obtain⟨css,hown,hcl,hE⟩:=hO
 have hrel:=hF.now
 have hln:=S.len hrel
 have hR:Reads w w.heap.size S.size (some ⟨g,0,none⟩) 1 cs.toList:=⟨by omega,fun _=>⟨g,0,rfl,hb.lt,fun j u hu=>by
  rw[Nat.zero_add,hb.cell j];simpa using hu⟩⟩
 obtain⟨v',w',hrun,h2,h3,h4,h5⟩:=run_app w base t ty e z S.size bytes T v l.length css.flatten hown w.heap.size _ 1 1 _ hR (S.one hrel) hbytes hbase
 refine⟨v',w',hrun,⟨css++[cs.toList],by simpa using h2,by simp[hcl],fun w'' u=>?_⟩,h3,h4,h5⟩
 have u2:UpN (fun k=>Y k∨v.ownBlock=some k) w w'':=(UpN.of_mut (X:=fun k=>Y k∨v.ownBlock=some k) h3 (fun g hg=>.inr hg)).tr2 u fun k hk h=>by
  rcases h with h|h
  · exact .inl h
  · rcases h4 with h4|h4 <;> rw[h4] at h
    · exact .inr h
    · injection h with h;omega
 exact (hE w'' u2).snoc (hF w'' u2)
theorem exec_push (s x:Operand) (t ty:TypeId) (z:Value) (size bytes:Nat) (T:SliceT P t e z size bytes) (hsz:S.size=size) (hs:ρ s=v) (hO:OwnY Y base e S l v w) (u:Value) (hx:ρ x=u) (a:α) (hu:rowY (fun k=>Y k∨v.ownBlock=some k) 0 e S a u w)
 (hbytes:(l.length+1) * (bytes+1)<=140737488355328) (hbase:base<=w.heap.size) :
 ∃ v' w',(execOp ρ (bareOp (.call { callee:=.builtin .append,args:=#[s,x],argTypes:=#[t,t] }) ty)).run P w=.ok (.value v') w'/\OwnY Y base e S (l++[a]) v' w'/\w.grownBy w' v.ownBlock/\(v'.ownBlock=v.ownBlock∨v'.ownBlock=some w.heap.size)/\Below base w w':=by
 obtain⟨v',w',hrun,h⟩:=run_push (P:=P) t ty z size bytes T hsz hO u a hu hbytes hbase
 refine⟨v',w',?_,h⟩
 subst hs hx
 simp only[execOp,bareOp,resolve,invoke,builtin,Sem.run_bind,Sem.run_pure,Result.andThen_ok,List.map_toArray,List.map_cons,List.map_nil,hrun]
theorem wpList_push {ops:Array Oper} {rest:List Oper} {o:Oper} {a:Act} {Q:Exit->Act->World->Prop} (hgd:o.guard=none) (s x:Operand) (t:TypeId)
 (ho:o.op=.call { callee:=.builtin .append,args:=#[s,x],argTypes:=#[t,t] })
 (z:Value) (size bytes:Nat) (T:SliceT P t e z size bytes) (hsz:S.size=size) (hs:a.eval s=v) (hO:OwnY Y base e S l v w) (u:Value) (hx:a.eval x=u) (b:α) (hu:rowY (fun k=>Y k∨v.ownBlock=some k) 0 e S b u w)
 (hbytes:(l.length+1) * (bytes+1)<=140737488355328) (hbase:base<=w.heap.size)
 (h:∀ v' w',OwnY Y base e S (l++[b]) v' w'->w.grownBy w' v.ownBlock->(v'.ownBlock=v.ownBlock∨v'.ownBlock=some w.heap.size)->Below base w w'->wpList P ops Q rest (a.put o.dst v') w') :
 wpList P ops Q (o :: rest) a w:=by
 refine wpList_plain hgd fun K hK=>?_
 obtain⟨v',w',hrun,h1,h2,h3,h4⟩:=run_push (P:=P) t o.type z size bytes T hsz hO u b hu hbytes hbase
 unfold Oper.wp execOp
 simp only[ho,resolve,invoke,builtin,Sem.run_bind,Sem.run_pure,Result.andThen_ok,List.map_toArray,List.map_cons,List.map_nil,hs,hx,hrun]
 exact hK _ _ (h v' w' h1 h2 h3 h4)
theorem rowY.new {N:Nat->Prop} {x:α} (h:Fx N (fun W=>S.rel x v.cells.toList W) w) (lo:Nat) (hlo:lo<=w.heap.size):rowY N lo e S x (.slice (some ⟨w.heap.size,0,none⟩) 1 1) (w.alloc (.cells v.cells e)) :=
 ⟨w.heap.size,v.cells,rfl,hlo,Blk.new _ _ _,h.k ((K.rf w).al _)⟩
theorem rowY.less {N N':Nat->Prop} {lo:Nat} {x:α} (h:rowY N lo e S x v w) (hN:∀ k,N' k->N k):rowY N' 0 e S x v w:=by
 obtain⟨g,cs,e1,h1,h2,h3⟩:=h
 exact⟨g,cs,e1,by omega,h2,h3.less hN⟩
end
theorem AutoQ.is {P:Program} {a0:Act} {w0:World} {Fin:List (Value->World->Prop)->Prop} {o:Oper} {r:List Oper} {x:List Nat×List (Nat×Nat)} {xs:List (List Nat×List (Nat×Nat))} {t:List (Value->World->Prop)} (c:Value)
 (h:∀ (V:Nat->Value) (w:World),K w0 w->(∀ j∈x.1,tab t j (V j) w)->if wantsG V o.guard=true then ResG P (isV c) w ((execOp (rhoP x.2 a0 V) (bareOp o.op o.type)).run P w) else isV c undef w)
 (k:AutoQ P a0 w0 Fin r xs (t++[isV c])):AutoQ P a0 w0 Fin (o :: r) (x :: xs) t:=AutoQ.op (isV c) (isV_st c) h k
section
variable {α:Type} {S:Shp α} {P:Program} {a0:Act} {w0:World} {Fin:List (Value->World->Prop)->Prop} {o:Oper} {r:List Oper} {x:List Nat×List (Nat×Nat)} {xs:List (List Nat×List (Nat×Nat))} {t:List (Value->World->Prop)} {N Y:Nat->Prop} {lo base:Nat} {e:TypeId} {E:(Nat->Value)->World->Prop} {k:Nat} {V:Nat->Value} {w:World}
theorem AutoQ.row (tt:TypeId) (z:Value) (size bytes:Nat) (T:SliceT P tt e z size bytes) (hS:S.size=size) (h24:size<=16777216) (xo:Operand) (y:α) (hop:o.op=.buildSlice tt 1 #[(0,xo)]) (hg:o.guard=none) (hlo:lo<=w0.heap.size)
 (h:∀ (V:Nat->Value) (w:World),K w0 w->(∀ j∈x.1,tab t j (V j) w)->elY N S y (rhoP x.2 a0 V xo) w)
 (k:AutoQ P a0 w0 Fin r xs (t++[rowY N lo e S y])):AutoQ P a0 w0 Fin (o :: r) (x :: xs) t:=by
 refine AutoQ.op (rowY N lo e S y) (rowY_st _ _ _ _ _) (fun V w kw hp=>?_) k
 obtain⟨h1,h2⟩:=h V w kw hp
 rw[hg,if_pos (show wantsG V none=true from rfl),hop,exec_build1 (P:=P) (w:=w) tt _ z size bytes T xo rfl (by rw[h1,hS]) h24]
 exact⟨rowY.new h2 lo (Nat.le_trans hlo kw.size),(K.rf w).al _⟩
theorem TailQ.push (s u:Operand) (tt:TypeId) (z:Value) (size bytes:Nat) (T:SliceT P tt e z size bytes) (hS:S.size=size) (hop:o.op=.call { callee:=.builtin .append,args:=#[s,u],argTypes:=#[tt,tt] }) (hg:o.guard=none)
 (v:Value) (l:List α) (y:α) (hs:rhoP x.2 a0 V s=v) (hO:OwnY Y base e S l v w) (hu:rowY (fun k=>Y k∨v.ownBlock=some k) 0 e S y (rhoP x.2 a0 V u) w) (hbytes:(l.length+1) * (bytes+1)<=140737488355328) (hbase:base<=w.heap.size)
 (h:∀ v' w',OwnY Y base e S (l++[y]) v' w'->w.grownBy w' v.ownBlock->(v'.ownBlock=v.ownBlock∨v'.ownBlock=some w.heap.size)->Below base w w'->TailQ P a0 E (k+1) r xs (updV V k v') w') :
 TailQ P a0 E k (o :: r) (x :: xs) V w:=by
 obtain⟨v',w',hrun,h1,h2,h3,h4⟩:=exec_push (P:=P) (ρ:=rhoP x.2 a0 V) s u tt o.type z size bytes T hS hs hO _ rfl y hu hbytes hbase
 unfold TailQ
 rw[hg,if_pos (show wantsG V none=true from rfl),hop,hrun]
 exact h v' w' h1 h2 h3 h4
theorem TailQ.app (s u:Operand) (tt:TypeId) (z:Value) (size bytes:Nat) (T:SliceT P tt e z size bytes) (hop:o.op=.call { callee:=.builtin .append,args:=#[s,u],argTypes:=#[tt,tt] }) (hg:o.guard=none)
 (v:Value) (n:Nat) (vs:List Value) (hs:rhoP x.2 a0 V s=v) (hO:w.ownsRow base e size v n vs) (B:Nat) (A:Option Addr) (m c:Nat) (news:List Value) (hu:rhoP x.2 a0 V u=.slice A m c) (hr:Reads w B size A m news) (h1:∀ u∈news,u.oneCell'=true)
 (hbytes:(n+m) * (bytes+1)<=140737488355328) (hbase:base<=w.heap.size)
 (h:∀ v' w',w'.ownsRow base e size v' (n+m) (vs++news)->w.grownBy w' v.ownBlock->(v'.ownBlock=v.ownBlock∨v'.ownBlock=some w.heap.size)->Below base w w'->TailQ P a0 E (k+1) r xs (updV V k v') w') :
 TailQ P a0 E k (o :: r) (x :: xs) V w:=by
 obtain⟨v',w',hrun,h2,h3,h4,h5⟩:=run_app (P:=P) w base tt o.type e z size bytes T v n vs hO B A m c news hr h1 hbytes hbase
 have hx:(execOp (rhoP x.2 a0 V) (bareOp (.call { callee:=.builtin .append,args:=#[s,u],argTypes:=#[tt,tt] }) o.type)).run P w=.ok (.value v') w':=by
  subst hs
  simp only[execOp,bareOp,resolve,invoke,builtin,Sem.run_bind,Sem.run_pure,Result.andThen_ok,List.map_toArray,List.map_cons,List.map_nil,hu,hrun]
 unfold TailQ
 rw[hg,if_pos (show wantsG V none=true from rfl),hop,hx]
 exact h v' w' h2 h3 h4 h5
theorem TailQ.nil (h:E V w):TailQ P a0 E k [] xs V w:=by cases xs <;> exact h
theorem TailQ.skip (w':World) (hg:o.guard=none) (hx:(execOp (rhoP x.2 a0 V) (bareOp o.op o.type)).run P w=.ok .skip w') (h:TailQ P a0 E (k+1) r xs (updV V k undef) w'):TailQ P a0 E k (o :: r) (x :: xs) V w:=by
 unfold TailQ
 rw[hg,if_pos (show wantsG V none=true from rfl),hx]
 exact h
theorem TailQ.pure (v:Value) (hg:o.guard=none) (hx:(execOp (rhoP x.2 a0 V) (bareOp o.op o.type)).run P w=.ok (.value v) w) (h:TailQ P a0 E (k+1) r xs (updV V k v) w):TailQ P a0 E k (o :: r) (x :: xs) V w:=by
 unfold TailQ
 rw[hg,if_pos (show wantsG V none=true from rfl),hx]
 exact h
theorem TailQ.val (v:Value) (w':World) (hg:o.guard=none) (hx:(execOp (rhoP x.2 a0 V) (bareOp o.op o.type)).run P w=.ok (.value v) w') (h:TailQ P a0 E (k+1) r xs (updV V k v) w'):TailQ P a0 E k (o :: r) (x :: xs) V w:=by
 unfold TailQ
 rw[hg,if_pos (show wantsG V none=true from rfl),hx]
 exact h
end
def u8S:Shp UInt8 where
 size:=1
 rel:=fun b cs _=>cs=[.int .u8 (b.toNat:Int)]
 len:=by rintro x cs w rfl;rfl
 one:=by
  rintro x cs w rfl u hu
  simp at hu
  subst hu
  rfl
 st:=fun h _=>h
theorem bys_flat (l:List UInt8):(l.map fun b=>[Value.int .u8 (b.toNat:Int)]).flatten=bys l:=by
 induction l with
 | nil=>rfl
 | cons a l ih=>simp[ih,bys]
theorem Own.toY {Y:Nat->Prop} {w:World} {base:Nat} {e:TypeId} {v:Value} {l:List UInt8} (h:Own w base e v l):OwnY Y base e u8S l v w :=
 ⟨l.map fun b=>[.int .u8 (b.toNat:Int)],by rw[bys_flat];exact h,by simp,fun w' _=>⟨by simp,fun i h h'=>by simp[u8S]⟩⟩
theorem OwnY.bytes {Y:Nat->Prop} {w:World} {base:Nat} {e:TypeId} {v:Value} {l:List UInt8} (h:OwnY Y base e u8S l v w):Own w base e v l:=by
 obtain⟨css,h1,h2,h3⟩:=h
 have h4:=h3 w (UpN.rf _ _)
 have:css=l.map fun b=>[Value.int .u8 (b.toNat:Int)]:=List.ext_getElem (by simp[h2]) fun i h1 h2=>by
  have:=h4.2 i (by simpa using h2) h1
  simpa [u8S] using this
 rw[this,bys_flat] at h1
 exact h1
def crcB (s:Nat):Nat:=if s &&& 1=1 then (s / 2) ^^^ 3945912366 else s / 2
def crcI:Nat->Nat->Nat
 | 0,s=>s
 | k+1,s=>crcB (crcI k s)
def crcT (l:List UInt8):Nat:=l.foldl (fun s b=>crcI 8 (s ^^^ b.toNat)) 4294967295
def crcS (l:List UInt8):Nat:=4294967295 ^^^ crcT l
theorem xor_lt32 {a b:Nat} (ha:a<4294967296) (hb:b<4294967296):a ^^^ b<4294967296:=Nat.xor_lt_two_pow (n:=32) ha hb
theorem crcB_lt {s:Nat} (h:s<4294967296):crcB s<4294967296:=by
 unfold crcB
 split
 · exact xor_lt32 (by omega) (by decide)
 · omega
theorem crcI_lt (k:Nat) {s:Nat} (h:s<4294967296):crcI k s<4294967296:=by
 induction k with
 | zero=>exact h
 | succ k ih=>exact crcB_lt ih
theorem crcT_snoc (l:List UInt8) (b:UInt8):crcT (l++[b])=crcI 8 (crcT l ^^^ b.toNat):=by simp[crcT]
theorem crcT_lt (l:List UInt8):crcT l<4294967296:=by
 rcases List.eq_nil_or_concat l with rfl|⟨l',b,rfl⟩
 · decide
 · rw[List.concat_eq_append,crcT_snoc]
   have ih:=crcT_lt l'
   exact crcI_lt 8 (xor_lt32 ih (by have:=b.toNat_lt;omega))
termination_by l.length
decreasing_by all_goals (subst_vars;simp)
theorem crcS_lt (l:List UInt8):crcS l<4294967296:=xor_lt32 (by decide) (crcT_lt l)
theorem FSum_calls (l:List UInt8) (v:Value) (w:World) (h:sl l v w) (hn:l.length<=1000000000) :
 Calls Tryz.prog 212 #[v] w fun e w'=>e=.returned (.int .u32 (crcS l:Int))/\K w w':=by
 obtain⟨A,c,rfl,hR⟩:=h
 have kk:=K.rf w
 have HC:Hid (crcS l=4294967295 ^^^ crcT l):=Lib.hid rfl
 generalize crcS l=R at *
 go_enter Tryz.func212,Tryz.ntmps212
 go_wp2_with fail
 go_loop [3,5,6,9] (fun s _ _ i=>∃ j:Nat,j<=l.length/\i=.int .i64 (j:Int)/\∃ n:Nat,s=.int .u32 (n:Int)/\n<4294967296/\Hid (n=crcT (l.take j))) (fun _ _ _ i=>l.length - (intOf i).toNat)
 case atStart=>exact⟨0,by omega,rfl,4294967295,rfl,by omega,Lib.hid (by simp[crcT])⟩
 case round =>
  obtain⟨j,hj,rfl,n,rfl,hn,HN⟩:=hrel
  by_cases hlt:j<l.length
  · have hji:(j:Int)<(l.length:Int):=by omega
    obtain⟨b,off,rfl,-,hc⟩:=hR.at_ (by omega)
    have cj:=hc j hlt
    have hx:l[j].toNat<256:=l[j].toNat_lt
    have HT:Hid (crcT (l.take (j+1))=crcI 8 (n ^^^ l[j].toNat)):=Lib.hid (by rw[List.take_succ_eq_append_getElem hlt,crcT_snoc,HN.out])
    generalize l[j]=x at *
    have HX:=Lib.hid (u32_xor_nat n x.toNat hn (by omega))
    have h0:=xor_lt32 hn (show x.toNat<4294967296 by omega)
    clear hc
    go_wp2_with fail
    rw[HX.out]
    generalize n ^^^ x.toNat=s0 at *
    go_loop [3,6,17] (fun s _ k=>∃ k':Nat,k'<=8/\k=.int .i64 (k':Int)/\∃ m:Nat,s=.int .u32 (m:Int)/\m<4294967296/\Hid (m=crcI k' s0)) (fun _ _ k=>8 - (intOf k).toNat)
    case atStart=>exact⟨0,by omega,rfl,s0,rfl,h0,Lib.hid rfl⟩
    case round =>
     obtain⟨k',hk,rfl,m,rfl,hm,HM⟩:=hrel
     by_cases hk8:k'<8
     · have hki:(k':Int)<8:=by omega
       have hl:=crcB_lt hm
       have ha:=u32_and_nat m 1 hm (by decide)
       by_cases h1:m &&& 1=1
       · have hb:(bits BinOp.and IntKind.u32 (m:Int) 1==1)=true:=by rw[show (1:Int)=((1:Nat):Int) from rfl,ha,h1];rfl
         have hB:crcB m=(m / 2) ^^^ 3945912366:=by rw[crcB,if_pos h1]
         have HX:=Lib.hid (show bits BinOp.xor IntKind.u32 ((m:Int) / 2) 3945912366=((crcB m:Nat):Int) by rw[hB];exact u32_xor_nat (m / 2) 3945912366 (by omega) (by decide))
         have HB:Hid (crcB m=crcI (k'+1) s0):=Lib.hid (by rw[crcI,<- HM.out])
         clear hB ha h1
         go_wp2
         go_round
         case rel=>exact⟨k'+1,by omega,by go_num,crcB m,by rw[HX.out],hl,HB⟩
         case measure=>simp[intOf];omega
       · have hb:(bits BinOp.and IntKind.u32 (m:Int) 1==1)=false:=by
          rw[show (1:Int)=((1:Nat):Int) from rfl,ha]
          simp only[beq_eq_false_iff_ne]
          omega
         have hB:crcB m=m / 2:=by rw[crcB,if_neg h1]
         have HX:=Lib.hid (show (m:Int) / 2=((crcB m:Nat):Int) by rw[hB];simp)
         have HB:Hid (crcB m=crcI (k'+1) s0):=Lib.hid (by rw[crcI,<- HM.out])
         clear hB ha h1
         go_wp2
         go_round
         case rel=>exact⟨k'+1,by omega,by go_num,crcB m,by rw[HX.out],hl,HB⟩
         case measure=>simp[intOf];omega
     · have hki:¬ (k':Int)<8:=by omega
       obtain rfl:k'=8:=by omega
       have HH:Hid (m=crcT (l.take (j+1))):=Lib.hid (by rw[HT.out,HM.out])
       go_wp2
       go_round
       case rel=>exact⟨j+1,by omega,by go_num,m,rfl,hm,HH⟩
       case measure=>simp[intOf];omega
  · have hji:¬ (j:Int)<(l.length:Int):=by omega
    obtain rfl:j=l.length:=by omega
    have HR:Hid (R=4294967295 ^^^ n):=Lib.hid (by rw[HC.out,HN.out,List.take_length])
    have HX:=Lib.hid (u32_xor_nat 4294967295 n (by decide) hn)
    go_wp2
    go_ret
    refine⟨?_,kk⟩
    rw[HR.out]
    exact congrArg (fun z=>Ending.returned (Value.int IntKind.u32 z)) HX.out
theorem FWrap1_calls (g lo base k n:Nat) (v:Value) (l:List UInt8) (w:World) (hb:Blk w g 62 #[v]) (ho:Own w base 5 v l) (hlo:lo<=g/\lo<=base/\lo<=w.heap.size) (hbase:base<=w.heap.size) (hk:k<=4) (hn:n<4294967296) (hl:l.length<=1000000000) :
 Calls Tryz.prog 252 #[.int .u32 (n:Int),.int .i64 (k:Int),.pointer (some ⟨g,0,none⟩)] w fun e w'=>∃ v',e=.returned (.tuple #[])/\Blk w' g 62 #[v']/\Own w' base 5 v' (l++be k n)/\Below lo w w':=by
 have kk:=Below.refl lo w
 go_enter Tryz.func252,Tryz.ntmps252
 go_wp2_with fail
 go_loopw [5] (fun i W=>∃ (j:Nat) (v':Value) (pre:List UInt8),j<=k/\(∃ z:Int,i=.int .i64 z/\z+1=(j:Int))/\Blk W g 62 #[v']/\Own W base 5 v' (l++pre)/\Hid (pre++be j n=be k n)/\Below lo w W) (fun i _=>(intOf i+1).toNat)
 case atStart=>exact⟨k,v,[],by omega,⟨_,rfl,by omega⟩,hb,by simpa using ho,Lib.hid (by simp),kk⟩
 case round =>
  clear kk hb ho
  obtain⟨j,v',pre,hj,⟨z,rfl,hz⟩,hb,ho,HP,kr⟩:=hrel
  by_cases h0:0<j
  · obtain⟨j,rfl⟩:∃ j',j=j'+1:=⟨j - 1,by omega⟩
    obtain rfl:z=(j:Int):=by omega
    have hji:(0:Int)<=(j:Int):=by omega
    have hj8:(8:Int) * (j:Int)<=24:=by omega
    have hwr:IntKind.i64.wrap (8 * (j:Int))=8 * (j:Int):=IntWalk.i64_in _ (by omega)
    have hnn:¬ (8 * (j:Int)<0):=by omega
    clear hz
    have q:=hb.cells
    have z:=hb.frozen
    go_upto_region 3 with (fail)
    refine wp_region_auto 7 [([],[]),([],[]),([],[]),([2],[(14,2)]),([1,3],[(13,1),(15,3)]),([4],[(16,4)]),([5],[(17,5)]),([0,6],[(12,0),(18,6)]),([0,1,2,3,4,5,6,7],[(19,7)])] 20 rfl (by kernel_rfl) (by kernel_rfl) (by kernel_rfl) (by kernel_rfl) (by decide) ?_
    simp only[List.take_succ_cons,List.take_zero,List.drop_succ_cons,List.drop_zero]
    iterate 6 (apply AutoQ.is;intro V W kW hp;(try simp only[List.forall_mem_cons,List.nil_append,List.cons_append,tab_zero,tab_succ,isV] at hp);simp[wantsG,rhoP,List.lookup,hp,ResG,execOp,bareOp,isV,Below.refl,kW,q,hwr,hnn,go_sem];rfl)
    refine AutoQ.row (N:=fun _=>True) (lo:=0) (S:=u8S) 62 _ 1 1 TB rfl (by decide) (.tmp 17) (UInt8.ofNat (n / 256 ^ j)) rfl rfl (Nat.zero_le _) (fun V W kW hp=>?_) ?_
    · simp only[List.forall_mem_cons,List.nil_append,List.cons_append,tab_zero,tab_succ,isV] at hp
      simp only[rhoP,List.lookup,beq_self_eq_true,hp]
      refine⟨rfl,fun W' _=>?_⟩
      show [Value.int .u8 _]=_
      rw[show (8 * (j:Int)).toNat=8 * j by omega,show IntKind.u8.wrap ((n:Int) / 2 ^ (8 * j))=(n:Int) / 2 ^ (8 * j) % 256 from by rw[IntKind.wrap_u8],byte_cell]
    intro V W kW hA
    simp only[List.nil_append,List.cons_append,AllT,isV,Nat.reduceAdd] at hA
    obtain⟨e0,-,-,-,-,-,e6,-⟩:=hA
    have hoW:=own_below (Nat.le_refl _) ho kW
    have hbW:=hb.below kW hb.lt
    have hne:v'.ownBlock≠some g:=fun e=>by
     obtain⟨cur,h1⟩:=row_blk hoW e
     exact absurd (h1.unlike hbW) (by decide)
    have hpl:pre.length<=4:=by have:=congrArg List.length HP.out;simp[be_length] at this;omega
    have hbz:base<=W.heap.size:=by have:=kW.size;have:=kr.size;omega
    refine TailQ.push (.tmp 12) (.tmp 18) 62 _ 1 1 TB rfl rfl rfl v' (l++pre) (UInt8.ofNat (n / 256 ^ j)) ?_ (Own.toY (Y:=fun _=>True) hoW) ?_ ?_ hbz ?_
    · simp[rhoP,List.lookup,e0]
    · simp only[rhoP,List.lookup,beq_self_eq_true]
      exact e6.less fun _ _=>trivial
    · simp;omega
    intro v2 w2 hO2 hg2 _ hb2
    have hx2:Blk w2 g 62 #[v']:=hbW.grown hg2 (fun e=>hne e.symm)
    have ho2:=hO2.bytes
    have hne2:v2.ownBlock≠some g:=fun e=>by
     obtain⟨cur,h1⟩:=row_blk ho2 e
     exact absurd (h1.unlike hx2) (by decide)
    obtain⟨A2,c2,rfl,-⟩:=ho2.slice
    refine TailQ.skip (w2.setCell ⟨g,0,none⟩ (.slice A2 (l++pre++[UInt8.ofNat (n / 256 ^ j)]).length c2)) rfl ?_ ?_
    · have q2:=hx2.cell
      have z2:=hx2.frozen
      simp[rhoP,List.lookup,updV,execOp,bareOp,q2,z2,go_sem]
    refine TailQ.nil ?_
    simp only[putAll,Act.put,List.setIfInBounds_toArray,List.set_cons_succ,List.set_cons_zero,updV,Nat.reduceAdd,Nat.reduceEqDiff,if_false,if_true]
    have hb9:=hx2.set_ 0 (.slice A2 (l++pre++[UInt8.ofNat (n / 256 ^ j)]).length c2)
    have ho9:Own (w2.setCell ⟨g,0,none⟩ (.slice A2 (l++pre++[UInt8.ofNat (n / 256 ^ j)]).length c2)) base 5 (.slice A2 (l++pre++[UInt8.ofNat (n / 256 ^ j)]).length c2) (l++(pre++[UInt8.ofNat (n / 256 ^ j)])):=by
     rw[<- List.append_assoc]
     exact row_upn ho2 (UpN.set1 (X:=fun k=>k=g) rfl 0 _) fun b hb e=>hne2 (by rw[hb,e])
    have k9:Below lo w (w2.setCell ⟨g,0,none⟩ (.slice A2 (l++pre++[UInt8.ofNat (n / 256 ^ j)]).length c2)) :=
     ((kr.trans (kW.mono (by have:=kr.size;omega))).trans (hb2.mono hlo.2.1)).setCell (p:=⟨g,0,none⟩) hlo.1 _
    have HP9:Hid (pre++[UInt8.ofNat (n / 256 ^ j)]++be j n=be k n):=Lib.hid (by have:=HP.out;rw[be] at this;simpa using this)
    clear HP hO2 ho2 hb2 hx2 hg2 hne2 ho hb q z hbW hoW hne
    generalize w2.setCell _ _=w9 at *
    go_wp2
    go_roundw
    case rel=>exact⟨j,_,_,by omega,⟨_,rfl,by omega⟩,hb9,ho9,HP9,k9⟩
    case measure=>simp[intOf]
  · obtain rfl:j=0:=by omega
    have hz1:z<0:=by omega
    have HE:Hid (pre=be k n):=Lib.hid (by have:=HP.out;simpa [be] using this)
    go_wp2
    go_end0
    exact⟨_,rfl,hb,by rw[<- HE.out];exact ho,kr⟩
def okFr (b:List UInt8):Bool:=decide (1<=b.length)&&decide (b.length<=4000)
def frame (b:List UInt8):List UInt8:=be 2 b.length++be 4 (crcS b)++b
def frameR (b:List UInt8):List UInt8:=if okFr b then frame b else []
def chkFr (b:List UInt8):Int:=if okFr b then 0 else 30
theorem frame_len (b:List UInt8):(frame b).length=frN b:=by simp[frame,be_length,frN];omega
theorem FWrap_calls (b:List UInt8) (v:Value) (w:World) (h:sl b v w) (hn:b.length<=1000000000) :
 Calls Tryz.prog 226 #[v] w fun e w'=>∃ v',e=.returned (.tuple #[v',.int .i64 (chkFr b)])/\Own w' w.heap.size 5 v' (frameR b)/\K w w':=by
 have CS:=Lib.hid fun W (k:K w W)=>FSum_calls b v W (sl_st _ _ _ _ h k) hn
 have hcs:=crcS_lt b
 obtain⟨A,c,rfl,hR⟩:=h
 have kk:=K.rf w
 have HF:Hid (frameR b=if okFr b then be 2 b.length++be 4 (crcS b)++b else []):=Lib.hid rfl
 have HC:Hid (chkFr b=if okFr b then 0 else 30):=Lib.hid rfl
 have HK:Hid (okFr b=(decide (1<=b.length)&&decide (b.length<=4000))):=Lib.hid rfl
 generalize chkFr b=R at *
 generalize frameR b=F at *
 generalize okFr b=ok at *
 generalize crcS b=s at *
 go_enter Tryz.func226,Tryz.ntmps226
 by_cases h0:0<b.length
 rotate_left
 · have h0':((b.length:Int)==0)=true:=by rw[beq_iff_eq];omega
   obtain rfl:ok=false:=by rw[HK.out,decide_eq_false (show ¬ 1<=b.length by omega)];rfl
   have HR:Hid (R=30/\F=[]):=Lib.hid ⟨HC.out,HF.out⟩
   clear HK CS HC HF
   go_wp2
   go_ret2
   exact⟨_,by rw[HR.out.1];rfl,by rw[HR.out.2];exact World.ownsRow_nil _ _ _ _,kk⟩
 have h0':((b.length:Int)==0)=false:=by rw[beq_eq_false_iff_ne];omega
 by_cases h1:4000<b.length
 · have h1':4000<(b.length:Int):=by omega
   obtain rfl:ok=false:=by rw[HK.out,decide_eq_false (show ¬ b.length<=4000 by omega),Bool.and_false]
   have HR:Hid (R=30/\F=[]):=Lib.hid ⟨HC.out,HF.out⟩
   clear HK CS HC HF
   go_wp2
   go_ret2
   exact⟨_,by rw[HR.out.1];rfl,by rw[HR.out.2];exact World.ownsRow_nil _ _ _ _,kk⟩
 have h1':(b.length:Int)<=4000:=by omega
 obtain rfl:ok=true:=by rw[HK.out,decide_eq_true (show 1<=b.length by omega),decide_eq_true (show b.length<=4000 by omega)];rfl
 have HR:Hid (R=0/\F=be 2 b.length++be 4 s++b):=Lib.hid ⟨HC.out,HF.out⟩
 clear HK HC HF
 obtain⟨i,hi,hz0,hz1,hz2⟩:=info_parts infoU8
 have hmk:∀ W:World,(Instr.makeSlice 62 (.int .i64 0) (.int .i64 (6+(b.length:Int)))).run Tryz.prog W=.ok (.slice (some ⟨W.heap.size,0,none⟩) 0 (6+b.length)) (W.alloc (.cells (madeCells #[.int .u8 0] (6+b.length)) 5)):=by
  intro W
  have h:=run_make (P:=Tryz.prog) W 62 5 i (.int .u8 0) Tryz.underlying62 hi hz0 .i64 .i64 0 (6+(b.length:Int)) (by omega) (by omega) (by rw[hz2];omega) (by omega)
  rw[hz1] at h
  simpa [Value.cells,show ((6:Int)+(b.length:Int)).toNat=6+b.length from by omega] using h
 clear hi hz0 hz1 hz2
 have hB:=Blk.new w 5 (madeCells #[.int .u8 0] (6+b.length))
 have hx0:=Blk.new (w.alloc (.cells (madeCells #[.int .u8 0] (6+b.length)) 5)) 62 #[.slice (some ⟨w.heap.size,0,none⟩) 0 (6+b.length)]
 have hB0:=hB.alloc (.cells #[.slice (some ⟨w.heap.size,0,none⟩) 0 (6+b.length)] 62)
 have k0:K w ((w.alloc (.cells (madeCells #[.int .u8 0] (6+b.length)) 5)).alloc (.cells #[.slice (some ⟨w.heap.size,0,none⟩) 0 (6+b.length)] 62)):=((K.rf w).al _).al _
 simp only[World.size_alloc] at hx0
 go_wp2_with fail
 generalize (w.alloc (.cells (madeCells #[.int .u8 0] (6+b.length)) 5)).alloc (.cells #[.slice (some ⟨w.heap.size,0,none⟩) 0 (6+b.length)] 62)=w0 at *
 have ho0:Own w0 w.heap.size 5 (.slice (some ⟨w.heap.size,0,none⟩) 0 (6+b.length)) [] :=
  own_of_block (xs:=[]) (rest:=List.replicate (6+b.length) (.int .u8 0)) (Nat.le_refl _) (by rw[List.nil_append,<- toList_madeCells_one];exact hB0) rfl (by simp) (by unfold maxLen;omega)
 have hz0:=hx0.lt
 refine (FWrap1_calls (w.heap.size+1) w.heap.size w.heap.size 2 b.length _ [] w0 hx0 ho0 ⟨by omega,by omega,by omega⟩ (by omega) (by omega) (by omega) (by simp)).mono ?_
 rintro e w1 ⟨v1,rfl,hx1,ho1,k1⟩
 replace k0:=k0.trans k1
 rw[List.nil_append] at ho1
 have hl2:=be_length 2 b.length
 generalize be 2 b.length=l2 at *
 clear hx0 ho0 hB0 hB k1 hmk
 go_wp2_with fail
 refine (CS.out w1 k0).mono ?_
 rintro e w2 ⟨rfl,k2⟩
 have hx2:=hx1.below k2 hx1.lt
 have ho2:=own_below (Nat.le_refl _) ho1 k2
 replace k0:=k0.tr k2
 have hz2:=hx2.lt
 clear hx1 ho1 k2 CS
 go_wp2_with fail
 refine (FWrap1_calls (w.heap.size+1) w.heap.size w.heap.size 4 s v1 l2 w2 hx2 ho2 ⟨by omega,by omega,by omega⟩ (by omega) (by omega) hcs (by omega)).mono ?_
 rintro e w3 ⟨v3,rfl,hx3,ho3,k3⟩
 replace k0:=k0.trans k3
 have hR3:=(hR.below k0 (Nat.le_refl _)).more k0.size
 have q3:=hx3.cell
 have hl4:(l2++be 4 s).length=6:=by simp[be_length,hl2]
 have hbz:=k0.size
 clear hx2 ho2 k3 hR
 generalize l2++be 4 s=hd at *
 go_wp2_with (at_builtin;refine wpList_app rfl _ _ 62 rfl w.heap.size 5 _ 1 1 TB _ _ _ rfl ho3 _ A b.length c (bys b) rfl hR3 (bys_one b) ?p1 hbz ?_)
 case p1=>omega
 intro v4 w4 ho4 _ _ hb4
 have HO:Hid (Own w4 w.heap.size 5 v4 (hd++b)):=Lib.hid (by unfold Own;rw[bys_append,List.length_append,hl4];exact ho4)
 have k4:=k0.trans hb4
 clear ho4 ho3 hx3 q3
 go_wp2
 go_ret2
 exact⟨_,by rw[HR.out.1];rfl,by rw[HR.out.2];exact HO.out,k4⟩
theorem eqlIn_nil {P:Program} (w:World) (d:Nat) (t e:TypeId) (a:Option Addr) (l c:Nat) (h:P.underlying t=some (.slice e)):(Op.equalIn (d+1) t (.slice a l c) (.slice none 0 0)).run P w=.ok a.isNone w:=by
 cases a <;> simp[Op.equalIn,run_underlying h]
theorem equal_nil {P:Program} (w:World) (t e:TypeId) (a:Option Addr) (l c:Nat) (h:P.underlying t=some (.slice e)):(Op.equal t (.slice a l c) (.slice none 0 0)).run P w=.ok a.isNone w:=eqlIn_nil w 9999 t e a l c h
theorem eql_nil {P:Program} (w:World) (t e:TypeId) (a:Option Addr) (l c:Nat) (h:P.underlying t=some (.slice e)):(binOp .eql t (.slice a l c) (.slice none 0 0)).run P w=.ok (.bool a.isNone) w:=by
 simp[binOp,equal_nil w t e a l c h]
theorem CloneB_calls (A:Option Addr) (n c:Nat) (xs:List Value) (w:World) (hR:Reads w w.heap.size 1 A n xs) (h1:∀ u∈xs,u.oneCell'=true) (hn:n<=1000000000) :
 Calls Tryz.prog 214 #[.slice A n c] w fun e w'=>∃ v',e=.returned v'/\w'.ownsRow w.heap.size 5 1 v' n xs/\K w w':=by
 have kk:=K.rf w
 have hq:=fun (W:World) (a:Option Addr) (l c:Nat)=>eql_nil (P:=Tryz.prog) W 62 5 a l c Tryz.underlying62
 go_enter Tryz.func214,Tryz.ntmps214
 cases A with
 | none =>
   obtain⟨rfl,rfl⟩:xs=[]/\n=0:=by
    rcases Nat.eq_zero_or_pos xs.length with h|h
    · refine⟨List.eq_nil_of_length_eq_zero h,?_⟩
      have:=hR.1
      omega
    · obtain⟨b,off,e,-⟩:=hR.2 h
      cases e
   go_wp2
   go_ret
   exact⟨_,rfl,World.ownsRow_nil _ _ _ _,kk⟩
 | some ad =>
   have hb:=Blk.new w 5 #[]
   have k1:K w (w.alloc (.cells #[] 5)):=(K.rf w).al _
   have ho:(w.alloc (.cells #[] 5)).ownsRow w.heap.size 5 1 (.slice (some ⟨w.heap.size,0,none⟩) 0 0) 0 [] :=
    ⟨rfl,.inr ⟨w.heap.size,0,_,rfl,Nat.le_refl _,hb,Nat.le_refl _,by unfold maxLen;omega,by simp,by simp⟩⟩
   have hR1:=(hR.below k1 (Nat.le_refl _)).more k1.size
   go_wp2_with (at_builtin;refine wpList_app rfl _ _ 62 rfl w.heap.size 5 _ 1 1 TB _ 0 [] rfl ho _ (some ad) n c xs rfl hR1 h1 ?p1 k1.size ?_)
   case p1=>omega
   intro v4 w4 ho4 _ _ hb4
   have HO:Hid (w4.ownsRow w.heap.size 5 1 v4 n xs):=Lib.hid (by simpa using ho4)
   have k4:=k1.trans hb4
   clear ho4 ho hb
   go_wp2
   go_ret
   exact⟨_,rfl,HO.out,k4⟩
theorem CloneBb_calls (A:Option Addr) (n c:Nat) (xs:List Value) (w:World) (hR:Reads w w.heap.size 1 A n xs) (h1:∀ u∈xs,u.oneCell'=true) (hn:n<=1000000000) :
 Calls Tryz.prog 213 #[.slice A n c] w fun e w'=>∃ v',e=.returned v'/\w'.ownsRow w.heap.size 5 1 v' n xs/\K w w':=by
 have kk:=K.rf w
 have hq:=fun (W:World) (a:Option Addr) (l c:Nat)=>eql_nil (P:=Tryz.prog) W 62 5 a l c Tryz.underlying62
 go_enter Tryz.func213,Tryz.ntmps213
 cases A with
 | none =>
   obtain⟨rfl,rfl⟩:xs=[]/\n=0:=by
    rcases Nat.eq_zero_or_pos xs.length with h|h
    · refine⟨List.eq_nil_of_length_eq_zero h,?_⟩
      have:=hR.1
      omega
    · obtain⟨b,off,e,-⟩:=hR.2 h
      cases e
   go_wp2
   go_ret
   exact⟨_,rfl,World.ownsRow_nil _ _ _ _,kk⟩
 | some ad =>
   have hb:=Blk.new w 5 #[]
   have k1:K w (w.alloc (.cells #[] 5)):=(K.rf w).al _
   have ho:(w.alloc (.cells #[] 5)).ownsRow w.heap.size 5 1 (.slice (some ⟨w.heap.size,0,none⟩) 0 0) 0 [] :=
    ⟨rfl,.inr ⟨w.heap.size,0,_,rfl,Nat.le_refl _,hb,Nat.le_refl _,by unfold maxLen;omega,by simp,by simp⟩⟩
   have hR1:=(hR.below k1 (Nat.le_refl _)).more k1.size
   go_wp2_with (at_builtin;refine wpList_app rfl _ _ 62 rfl w.heap.size 5 _ 1 1 TB _ 0 [] rfl ho _ (some ad) n c xs rfl hR1 h1 ?p1 k1.size ?_)
   case p1=>omega
   intro v4 w4 ho4 _ _ hb4
   have HO:Hid (w4.ownsRow w.heap.size 5 1 v4 n xs):=Lib.hid (by simpa using ho4)
   have k4:=k1.trans hb4
   clear ho4 ho hb
   go_wp2
   go_ret
   exact⟨_,rfl,HO.out,k4⟩
theorem CloneI_calls (A:Option Addr) (n c:Nat) (xs:List Value) (w:World) (hR:Reads w w.heap.size 3 A n xs) (h1:∀ u∈xs,u.oneCell'=true) (hn:n<=1000000000) :
 Calls Tryz.prog 53 #[.slice A n c] w fun e w'=>∃ v',e=.returned v'/\w'.ownsRow w.heap.size 35 3 v' n xs/\K w w':=by
 have kk:=K.rf w
 have hq:=fun (W:World) (a:Option Addr) (l c:Nat)=>eql_nil (P:=Tryz.prog) W 51 35 a l c Tryz.underlying51
 go_enter Tryz.func53,Tryz.ntmps53
 cases A with
 | none =>
   obtain⟨rfl,rfl⟩:xs=[]/\n=0:=by
    rcases Nat.eq_zero_or_pos xs.length with h|h
    · refine⟨List.eq_nil_of_length_eq_zero h,?_⟩
      have:=hR.1
      omega
    · obtain⟨b,off,e,-⟩:=hR.2 h
      cases e
   go_wp2
   go_ret
   exact⟨_,rfl,World.ownsRow_nil _ _ _ _,kk⟩
 | some ad =>
   have hb:=Blk.new w 35 #[]
   have k1:K w (w.alloc (.cells #[] 35)):=(K.rf w).al _
   have ho:(w.alloc (.cells #[] 35)).ownsRow w.heap.size 35 3 (.slice (some ⟨w.heap.size,0,none⟩) 0 0) 0 [] :=
    ⟨rfl,.inr ⟨w.heap.size,0,_,rfl,Nat.le_refl _,hb,Nat.le_refl _,by unfold maxLen;omega,by simp,by simp⟩⟩
   have hR1:=(hR.below k1 (Nat.le_refl _)).more k1.size
   go_wp2_with (at_builtin;refine wpList_app rfl _ _ 51 rfl w.heap.size 35 _ 3 24 TId _ 0 [] rfl ho _ (some ad) n c xs rfl hR1 h1 ?p1 k1.size ?_)
   case p1=>omega
   intro v4 w4 ho4 _ _ hb4
   have HO:Hid (w4.ownsRow w.heap.size 35 3 v4 n xs):=Lib.hid (by simpa using ho4)
   have k4:=k1.trans hb4
   clear ho4 ho hb
   go_wp2
   go_ret
   exact⟨_,rfl,HO.out,k4⟩
theorem i64_or_nat (a b:Nat) (ha:a<4294967296) (hb:b<4294967296):bits .or .i64 (a:Int) (b:Int)=((a ||| b:Nat):Int):=by
 have hx:a ||| b<2 ^ 32:=Nat.or_lt_two_pow (by omega) (by omega)
 show IntKind.i64.wrap ((BitVec.ofInt 64 (a:Int) ||| BitVec.ofInt 64 (b:Int)).toNat:Int)=_
 rw[BitVec.toNat_or,ofInt_u64 a (by omega),ofInt_u64 b (by omega),IntKind.wrap_i64]
 omega
theorem FScan1_calls (g bk off c fr k:Nat) (l:List UInt8) (w:World) (hb:Blk w g 62 #[.slice (some ⟨bk,off,none⟩) l.length c]) (hc:∀ j (hj:j<l.length),w.cell? ⟨bk,off+j,none⟩=some (.int .u8 (l[j].toNat:Int)))
 (hfk:fr+k<=l.length) (hlc:l.length<=c) (hk0:0<k) (hk:k<=4) (hl:l.length<=1000000000) :
 Calls Tryz.prog 211 #[.int .i64 (fr:Int),.int .i64 (k:Int),.pointer (some ⟨g,0,none⟩)] w fun e w'=>e=.returned (.int .i64 (ofBe ((l.drop fr).take k):Int))/\K w w':=by
 have kk:=K.rf w
 have q:=hb.cell
 have HCC:=Lib.hid hc
 have hfi:(fr:Int)+(k:Int)<=(l.length:Int):=by omega
 have hli:(l.length:Int)<=(c:Int):=by omega
 have hne:¬ c=fr:=by omega
 clear hc hb
 go_enter Tryz.func211,Tryz.ntmps211
 go_wp2_with fail
 go_loop [6,8,16] (fun n _ i=>∃ j:Nat,j<=k/\i=.int .i64 (j:Int)/\∃ m:Nat,n=.int .i64 (m:Int)/\Hid (m=ofBe ((l.drop fr).take j))) (fun _ _ i=>k - (intOf i).toNat)
 case atStart=>exact⟨0,by omega,rfl,0,rfl,Lib.hid (by simp[ofBe])⟩
 case round =>
  obtain⟨j,hj,rfl,m,rfl,HM⟩:=hrel
  by_cases hlt:j<k
  · have hji:(j:Int)<(k:Int):=by omega
    have cj:w.cell? ⟨bk,off+fr+j,none⟩=some (.int .u8 ((l[fr+j]'(by omega)).toNat:Int)):=by
     have:=HCC.out (fr+j) (by omega)
     rwa [Nat.add_assoc]
    have hx:=(l[fr+j]'(by omega)).toNat_lt
    have HT:Hid (ofBe ((l.drop fr).take (j+1))=m * 256+(l[fr+j]'(by omega)).toNat):=Lib.hid (by rw[List.take_succ_eq_append_getElem (by simp;omega),ofBe_snoc,HM.out];simp)
    have hm:m<16777216:=by
     have:=ofBe_lt ((l.drop fr).take j)
     rw[<- HM.out] at this
     have h2:((l.drop fr).take j).length<=3:=by simp;omega
     have h3:256 ^ ((l.drop fr).take j).length<=256 ^ 3:=Nat.pow_le_pow_right (by decide) h2
     omega
    generalize (l[fr+j]'(by omega)).toNat=x at *
    have HO:=Lib.hid (show bits BinOp.or IntKind.i64 ((m:Int) * 256) (x:Int)=((m * 256+x:Nat):Int) by
     rw[show (m:Int) * 256=((m * 256:Nat):Int) by simp,i64_or_nat _ _ (by omega) (by omega),nat_join 8 _ _ (by omega) (by omega)])
    go_wp2
    go_round
    case rel=>exact⟨j+1,by omega,by go_num,m * 256+x,by rw[HO.out],Lib.hid HT.out.symm⟩
    case measure=>simp[intOf];omega
  · have hji:¬ (j:Int)<(k:Int):=by omega
    obtain rfl:j=k:=by omega
    go_wp2
    go_ret
    exact⟨by rw[<- HM.out];rfl,kk⟩
def frames (rs:List (List UInt8)):List UInt8:=rs.flatMap frame
theorem frames_at (rs:List (List UInt8)) (j:Nat) (h:j<rs.length) (hok:okFr rs[j]=true) :
 ∃ rest,frames rs=frames (rs.take j)++(frame rs[j]++rest)/\ofBe (((frames rs).drop (frames (rs.take j)).length).take 2)=rs[j].length/\ofBe (((frames rs).drop ((frames (rs.take j)).length+2)).take 4)=crcS rs[j] /\
   ((frames rs).take ((frames (rs.take j)).length+6+rs[j].length)).drop ((frames (rs.take j)).length+6)=rs[j]/\(frames rs).length=(frames (rs.take j)).length+6+rs[j].length+rest.length/\(frames (rs.take (j+1))).length=(frames (rs.take j)).length+6+rs[j].length:=by
 have e:frames rs=frames (rs.take j)++(frame rs[j]++frames (rs.drop (j+1))):=by
  unfold frames
  conv=>lhs;rw[<- List.take_append_drop j rs,List.flatMap_append,<- List.getElem_cons_drop h,List.flatMap_cons]
 have h4:rs[j].length<=4000:=by
  simp only[okFr,Bool.and_eq_true,decide_eq_true_eq] at hok
  exact hok.2
 have hs:=crcS_lt rs[j]
 refine⟨_,e,?_,?_,?_,?_,?_⟩
 · rw[e,List.drop_left,frame,List.append_assoc,List.append_assoc,List.take_left' (be_length 2 _),ofBe_be]
   exact Nat.mod_eq_of_lt (by omega)
 · rw[e,List.drop_append,List.drop_of_length_le (by omega),List.nil_append,Nat.add_sub_cancel_left,frame,List.append_assoc,List.append_assoc,List.drop_left' (be_length 2 _),List.take_left' (be_length 4 _),ofBe_be]
   exact Nat.mod_eq_of_lt (by omega)
 · rw[e,Nat.add_assoc,List.take_append,List.take_of_length_le (show (frames (rs.take j)).length<=_ by omega),Nat.add_sub_cancel_left,List.drop_append,List.drop_of_length_le (by omega),List.nil_append,Nat.add_sub_cancel_left,
    List.take_left' (by rw[frame_len];rfl),frame,List.drop_left' (by simp[be_length])]
 · rw[e];simp only[List.length_append,frame_len,frN];omega
 · rw[List.take_succ_eq_append_getElem h]
   simp only[frames,List.flatMap_append,List.flatMap_cons,List.flatMap_nil,List.append_nil,List.length_append,frame_len,frN]
   omega
theorem FScan_calls (rs:List (List UInt8)) (v:Value) (w:World) (A:Option Addr) (c:Nat) (hv:v=.slice A (frames rs).length c) (hR:Reads w w.heap.size 1 A (frames rs).length (bys (frames rs))) (hlc:(frames rs).length<=c) (hn:(frames rs).length<=1000000000) (hok:∀ b∈rs,okFr b=true) :
 Calls Tryz.prog 160 #[v] w fun e w'=>∃ v',e=.returned (.tuple #[v',.int .i64 ((frames rs).length:Int)])/\OwnY (fun k=>k<w.heap.size) w.heap.size 62 byS rs v' w'/\K w w':=by
 subst hv
 have HOK:=Lib.hid hok
 have HAT:=Lib.hid fun j h=>frames_at rs j h (hok _ (List.getElem_mem h))
 have hrl:rs.length<=(frames rs).length:=by
  clear hR hlc hn HOK HAT
  induction rs with
  | nil=>simp
  | cons b rs ih =>
    have:=ih (fun b hb=>hok b (by simp[hb]))
    simp only[frames,List.flatMap_cons,List.length_append,List.length_cons,frame_len,frN] at this ⊢
    omega
 have HE:Hid ((frames (rs.take rs.length)).length=(frames rs).length):=Lib.hid (by rw[List.take_length])
 obtain⟨L,hL⟩:∃ L,L=frames rs:=⟨_,rfl⟩
 have HL:=Lib.hid hL
 rw[<- hL] at hR hlc hn hrl HE HAT ⊢
 clear hL hok
 have hb0:=Blk.new w 62 #[.slice A L.length c]
 have k0:K w (w.alloc (.cells #[.slice A L.length c] 62)):=(K.rf w).al _
 go_enter Tryz.func160,Tryz.ntmps160
 go_wp2
 go_step3
 go_wp2_with fail
 generalize w.alloc _=w0 at *
 have hR0:=(hR.below k0 (Nat.le_refl _)).more k0.size
 have hO0:=OwnY.nil (fun k=>k<w.heap.size) w0.heap.size 62 byS w0
 clear hR
 go_step3
 go_wp2_with fail
 go_loopw [4,5,7,8,9] (fun o at_ _ _ _ W=>∃ j:Nat,j<=rs.length/\at_=.int .i64 ((frames (rs.take j)).length:Int)/\OwnY (fun k=>k<w.heap.size) w0.heap.size 62 byS (rs.take j) o W/\K w0 W) (fun _ at_ _ _ _ _=>L.length+1 - (intOf at_).toNat)
 case atStart=>exact⟨0,by omega,rfl,by simpa using hO0,K.rf w0⟩
 case round =>
  clear hO0
  obtain⟨j,hj,rfl,hO,kr⟩:=hrel
  have hbr:=hb0.below kr hb0.lt
  have q:=hbr.cell
  have hgr:=hbr.lt
  have krw:=k0.tr kr
  by_cases hlt:j<rs.length
  · obtain⟨rest,h1,h2,h3,h4,h5,h6⟩:=HAT.out j hlt
    have hx:=HOK.out _ (List.getElem_mem hlt)
    have HT:Hid (rs.take (j+1)=rs.take j++[rs[j]]):=Lib.hid (List.take_succ_eq_append_getElem hlt)
    simp only[okFr,Bool.and_eq_true,decide_eq_true_eq] at hx
    obtain⟨hx1,hx2⟩:=hx
    have H6:=Lib.hid h6
    have H1:=Lib.hid h1
    have HX:=Lib.hid h4
    generalize (frames (rs.take j)).length=n0 at *
    generalize rs[j]=x at *
    have hli:(L.length:Int)=(n0:Int)+6+(x.length:Int)+(rest.length:Int):=by omega
    have hL6:6<(L.length:Int) - (n0:Int):=by omega
    have hb1:((x.length:Int)==0)=false:=by rw[beq_eq_false_iff_ne];omega
    have hb2:¬ 4000<(x.length:Int):=by omega
    have hb3:¬ ((L.length:Int) - ((n0:Int)+6)<(x.length:Int)):=by omega
    have hb4:(n0:Int)+6+(x.length:Int)<=(c:Int):=by omega
    have HLI:=Lib.hid hli
    clear hli
    have h0L:0<L.length:=by omega
    have hRr:=(hR0.below kr (Nat.le_refl _)).more kr.size
    obtain⟨bk,off,rfl,hbk,hcell⟩:=hRr.at_ h0L
    have C1:=Lib.hid (FScan1_calls w.heap.size bk off c n0 2 L wr hbr hcell (by omega) hlc (by omega) (by omega) hn)
    rw[h2] at C1
    have C2:Hid (∀ W,K wr W->Calls Tryz.prog 211 #[.int .i64 ((n0:Int)+2),.int .i64 4,.pointer (some ⟨w.heap.size,0,none⟩)] W fun e w'=>e=.returned (.int .i64 (crcS x:Int))/\K W w'):=Lib.hid fun W k=>by
     have h:=FScan1_calls w.heap.size bk off c (n0+2) 4 L W (hbr.below k hgr) (fun i hi=>(k.cell (p:=⟨bk,off+i,none⟩) hbk).trans (hcell i hi)) (by omega) hlc (by omega) (by omega) hn
     rw[h3] at h
     exact h
    have hcut:=hRr.cut (n0+6) (n0+6+x.length) c (by omega) (by omega) hlc
    rw[show ((bys L).take (n0+6+x.length)).drop (n0+6)=bys x from by unfold bys;rw[<- List.map_take,<- List.map_drop,h4],show n0+6+x.length - (n0+6)=x.length by omega,if_neg (show ¬ c=n0+6 by omega)] at hcut
    have CS:=Lib.hid fun W (k:K wr W)=>FSum_calls x (.slice (some ⟨bk,off+(n0+6),none⟩) x.length (c - (n0+6))) W ⟨_,_,rfl,(hcut.below k (Nat.le_refl _)).more k.size⟩ (by omega)
    have CB:=Lib.hid fun W (k:K wr W)=>CloneBb_calls (some ⟨bk,off+(n0+6),none⟩) x.length (c - (n0+6)) (bys x) W ((hcut.below k (Nat.le_refl _)).more k.size) (bys_one x) (by omega)
    have hcs:=crcS_lt x
    have hne:¬ c=n0+6:=by omega
    clear h1 h2 h3 h4 h5 h6 hcut hcell hRr
    go_wp2_with fail
    refine C1.out.mono ?_
    rintro e w1 ⟨rfl,k1⟩
    have q1:=(hbr.below k1 hgr).cell
    clear q
    go_wp2_with fail
    rw[show n0+6+x.length - (n0+6)=x.length from by omega]
    refine (C2.out w1 k1).mono ?_
    rintro e w2 ⟨rfl,k2⟩
    have k12:=k1.tr k2
    go_wp2_with fail
    refine (CS.out w2 k12).mono ?_
    rintro e w3 ⟨rfl,k3⟩
    have k13:=k12.tr k3
    have hcb:((crcS x:Int) != (crcS x:Int))=false:=by simp
    clear q1 k1 k2 k12 k3
    generalize crcS x=sx at *
    go_wp2_with fail
    refine (CB.out w3 k13).mono ?_
    rintro e w4 ⟨v4,rfl,ho4,k4⟩
    replace ho4:Own w4 w3.heap.size 5 v4 x:=by unfold Own;exact ho4
    have k14:=k13.tr k4
    have hbl:=hO.blk
    have hO4:=(hO.st k14).st ((K.rf w4).al (.cells #[v4] 62))
    have hz:=k13.size
    have hF:Fx (fun k=>k<w3.heap.size) (fun W=>byS.rel x [v4] W) w4:=fun W u=>⟨v4,rfl,sl_own (row_upn ho4 u fun b hb h=>by have:=(ho4.lt b hb).1;omega)⟩
    obtain⟨A4,c4,rfl,-⟩:=ho4.slice
    have hr:=rowY.new (S:=byS) (e:=62) (v:=.slice A4 x.length c4) hF 0 (Nat.zero_le _)
    have krf:=(kr.tr k14).tr ((K.rf w4).al (.cells #[.slice A4 x.length c4] 62))
    have hwz:=krw.size
    clear hO hF ho4 C1 C2 CS CB
    go_wp2_with (at_builtin;refine wpList_push rfl _ _ 153 rfl _ 1 24 TBy rfl rfl hO4 _ rfl x ?p1 ?p2 ?p3 ?_)
    case p1=>exact hr.less fun k hk=>by rcases hk with hk|hk;omega;have:=hbl k hk;omega
    case p2=>simp;omega
    case p3=>exact krf.size
    intro v9 w9 hO9 hg9 _ hb9
    rw[<- HT.out] at hO9
    have k9:K w0 w9:=by
     exact krf.trans hb9
    clear hr hO4
    go_wp2
    go_roundw
    case rel=>exact⟨j+1,by omega,by rw[H6.out];go_num,hO9,k9⟩
    case measure=>simp[intOf];omega
  · obtain rfl:j=rs.length:=by omega
    rw[List.take_length] at hO
    have hli:((frames (rs.take rs.length)).length:Int)=(L.length:Int):=by rw[HE.out]
    rw[hli]
    have hL6:¬ 6<(L.length:Int) - (L.length:Int):=by omega
    clear hli
    go_wp2
    try rw[Exit.noGoto_ret]
    go_ret2
    exact⟨_,rfl,hO.low k0.size,krw⟩
