/-
  A state of the call's own in memory, and how its lists grow (layer 16). Conditions: none.
-/
import Derived.Test.YtagfakjifhdpgaaGreatMa09
set_option maxRecDepth 100000
set_option maxHeartbeats 16000000
set_option linter.unusedVariables false
set_option linter.unusedSimpArgs false
namespace Go.Proofs.YtagfakjifhdpgaaGreat
open Go Go.RowKit
section
variable {α:Type} {S:Shp α}
def elF (S:Shp α) (gb:Nat) (x:α) (v:Value) (W:World):Prop:=(∃ arr,v=.agg arr)/\(v.cells.toList.length=S.size)/\∀ W',UpB gb none W W'->S.rel x v.cells.toList W'
def rowS (S:Shp α) (gb:Nat) (T:TypeId) (x:α) (v:Value) (W:World):Prop:=∃ g' cs,v=.slice (some ⟨g',0,none⟩) 1 1/\gb<=g'/\Blk W g' T cs/\cs.toList.length=S.size/\∀ W',UpB gb none W W'->S.rel x cs.toList W'
def appS (S:Shp α) (base gb:Nat) (T:TypeId) (row:Option Nat) (n:Nat) (xs:List Value) (x:α) (v:Value) (W:World):Prop :=
 ∃ cs,W.ownsRow base T S.size v (n+1) (xs++cs)/\(v.ownBlock=row∨∀ b,v.ownBlock=some b->gb<=b)/\∀ W',UpN (fun k=>k<gb∨v.ownBlock=some k) W W'->S.rel x cs W'
theorem elF_st (gb:Nat) (x:α):∀ v w w',elF S gb x v w->Below w.heap.size w w'->elF S gb x v w':=by
 rintro v w w' ⟨ha,hl,h⟩ k
 exact⟨ha,hl,fun W' u=>h W' ((UpB.of_k k _ _).tr u)⟩
theorem elF_row {gb:Nat} {x:α} {row:Option Nat} (hr:∀ b,row=some b->b<gb):∀ v w w',elF S gb x v w->w.grownBy w' row->elF S gb x v w':=by
 rintro v w w' ⟨ha,hl,h⟩ k
 exact⟨ha,hl,fun W' u=>h W' ((UpB.row k hr).tr u)⟩
theorem rowS_st (gb:Nat) (T:TypeId) (x:α):∀ v w w',rowS S gb T x v w->Below w.heap.size w w'->rowS S gb T x v w':=by
 rintro v w w' ⟨g',cs,e,hg,hb,hl,h⟩ k
 exact⟨g',cs,e,hg,hb.below k hb.lt,hl,fun W' u=>h W' ((UpB.of_k k _ _).tr u)⟩
theorem rowS_row {gb:Nat} {T:TypeId} {x:α} {row:Option Nat} (hr:∀ b,row=some b->b<gb):∀ v w w',rowS S gb T x v w->w.grownBy w' row->rowS S gb T x v w':=by
 rintro v w w' ⟨g',cs,e,hg,hb,hl,h⟩ k
 exact⟨g',cs,e,hg,hb.grown k (fun e=>by have:=hr g' e.symm;omega),hl,fun W' u=>h W' ((UpB.row k hr).tr u)⟩
theorem appS_st (base gb:Nat) (T:TypeId) (row:Option Nat) (n:Nat) (xs:List Value) (x:α):∀ v w w',appS S base gb T row n xs x v w->Below w.heap.size w w'->appS S base gb T row n xs x v w':=by
 rintro v w w' ⟨cs,h1,h2,h3⟩ k
 exact⟨cs,row_below h1 k,h2,fun W' u=>h3 W' ((UpN.of_k k _).tr u)⟩
theorem exec_appS {P:Program} {ρ:Operand->Value} {w:World} (s x:Operand) (t ty e:TypeId) (base:Nat) (z:Value) (bytes n:Nat) (xs:List Value) (T:SliceT P t e z S.size bytes) (u:Value) (hs:ρ s=u) (ho:w.ownsRow base e S.size u n xs)
 (gb:Nat) (hg:base<=gb) (hgw:∀ b,u.ownBlock=some b->b<gb) (hgz:gb<=w.heap.size) (a:α) (v:Value) (hx:ρ x=v) (hr:rowS S gb e a v w)
 (hbytes:(n+1) * (bytes+1)<=140737488355328) :
 ∃ v' w',(execOp ρ (bareOp (.call { callee:=.builtin .append,args:=#[s,x],argTypes:=#[t,t] }) ty)).run P w=.ok (.value v') w'/\appS S base gb e u.ownBlock n xs a v' w'/\Below base w w'/\w.grownBy w' u.ownBlock:=by
 obtain⟨g',cs,rfl,hg',hb,hl,hF⟩:=hr
 have hR:Reads w w.heap.size S.size (some ⟨g',0,none⟩) 1 cs.toList:=⟨by omega,fun _=>⟨g',0,rfl,hb.lt,fun j u hu=>by
  rw[Nat.zero_add,hb.cell j];simpa using hu⟩⟩
 obtain⟨v',w',hrun,h2,h3,h4,h5⟩:=run_app w base t ty e z S.size bytes T u n xs ho w.heap.size _ 1 1 _ hR (S.one (hF w (UpB.rf _ _ _))) hbytes (by omega)
 refine⟨v',w',?_,⟨cs.toList,h2,h4.imp id (fun h=>?_),fun W' up=>?_⟩,h5,h3⟩
 · simp only[execOp,bareOp,resolve,invoke,builtin,Sem.run_bind,Sem.run_pure,Result.andThen_ok,List.map_toArray,List.map_cons,List.map_nil,hs,hx,hrun]
 · intro b hb'
   rw[h] at hb'
   injection hb' with hb'
   omega
 · refine hF W' ⟨up.os.trans h3.os,up.tape.trans h3.tape,up.output.trans h3.output,Nat.le_trans h3.size up.size,fun k h1 h2' h3'=>?_⟩
   have hv':v'.ownBlock≠some k:=by
    rcases h4 with h|h <;> rw[h]
    · intro e;have:=hgw k e;omega
    · intro e;injection e with e;omega
   have hu:some k≠u.ownBlock:=by
    intro e;have:=hgw k e.symm;omega
   exact (up.block k (Nat.lt_of_lt_of_le h2' h3.size) (fun h=>h.elim (fun h=>by omega) (fun h=>hv' h))).trans (h3.block k h2' hu)
end
theorem infoEn:(Tryz.prog.info? 42).map (fun i=>(i.zero,i.size,i.bytes))=some (some (.agg zEnt),8,96):=by kernel_rfl
theorem TEn:SliceT Tryz.prog 32 42 (.agg zEnt) 8 96:=⟨Tryz.underlying32,infoEn,rfl,by decide⟩
theorem infoId:(Tryz.prog.info? 35).map (fun i=>(i.zero,i.size,i.bytes))=some (some (.agg #[.int .i64 0,.int .u64 0,.int .u64 0]),3,24):=by kernel_rfl
theorem TId:SliceT Tryz.prog 51 35 (.agg #[.int .i64 0,.int .u64 0,.int .u64 0]) 3 24:=⟨Tryz.underlying51,infoId,rfl,by decide⟩
abbrev stA (s:Stt) (vl vp va:Value):Array Value:=#[.int .u64 (s.life:Int),vl,vp,va]
def stv (s:Stt) (v:Value) (w:World):Prop:=∃ vl vp va,v=.agg (stA s vl vp va)/\lst enS s.list vl w/\lst enS s.prom vp w/\lst idS s.ab va w
theorem stv_st {s:Stt} {v:Value} {w w':World} (h:stv s v w) (k:K w w'):stv s v w':=by
 obtain⟨vl,vp,va,e,h1,h2,h3⟩:=h
 exact⟨vl,vp,va,e,lst_st h1 k,lst_st h2 k,lst_st h3 k⟩
def StoX (base g:Nat) (vl vp va:Value) (k:Nat):Prop:=k<base∨k=g∨vl.ownBlock=some k∨vp.ownBlock=some k∨va.ownBlock=some k
structure StoV (base g:Nat) (s:Stt) (vl vp va:Value) (c1 c2:List (List Value)) (W:World):Prop where
 blk:Blk W g 53 (stA s vl vp va)
 low:base<=g
 l:W.ownsRow base 42 8 vl s.list.length c1.flatten
 p:W.ownsRow base 42 8 vp s.prom.length c2.flatten
 a:W.ownsRow base 35 3 va s.ab.length (s.ab.flatMap idc)
 ne:∀ b,vl.ownBlock=some b->vp.ownBlock≠some b
 len1:c1.length=s.list.length
 len2:c2.length=s.prom.length
 el:∀ W',UpN (StoX base g vl vp va) W W'->Each enS s.list c1 W'/\Each enS s.prom c2 W'
def Sto (base g:Nat) (s:Stt) (W:World):Prop:=∃ vl vp va c1 c2,StoV base g s vl vp va c1 c2 W
section
variable {base g:Nat} {s:Stt} {vl vp va:Value} {c1 c2:List (List Value)} {W W':World}
theorem StoV.st (h:StoV base g s vl vp va c1 c2 W) (k:K W W'):StoV base g s vl vp va c1 c2 W' :=
 ⟨h.blk.below k h.blk.lt,h.low,row_below h.l k,row_below h.p k,row_below h.a k,h.ne,h.len1,h.len2,fun W'' u=>h.el W'' ((UpN.of_k k _).tr u)⟩
theorem flat_ids (l:List Idn):(l.map idc).flatten=l.flatMap idc:=by rw[List.flatMap_def]
theorem each_ids (l:List Idn) (W:World):Each idS l (l.map idc) W:=⟨by simp,fun i h h'=>by simp[idS]⟩
theorem StoV.stv (h:StoV base g s vl vp va c1 c2 W):stv s (.agg (stA s vl vp va)) W:=by
 obtain⟨e1,e2⟩:=h.el W (UpN.rf _ _)
 exact⟨vl,vp,va,rfl,lst_of_own h.l e1,lst_of_own h.p e2,lst_of_own (by rw[flat_ids];exact h.a) (each_ids _ _)⟩
theorem StoV.rowl (h:StoV base g s vl vp va c1 c2 W) {b:Nat} (hb:vl.ownBlock=some b):base<=b/\b<W.heap.size/\b≠g/\vp.ownBlock≠some b/\va.ownBlock≠some b:=by
 obtain⟨cur,h1⟩:=row_blk h.l hb
 have:=h.l.lt b hb
 refine⟨this.1,this.2,?_,h.ne b hb,?_⟩
 · rintro rfl;exact absurd (h1.unlike h.blk) (by decide)
 · intro e;obtain⟨cur2,h2⟩:=row_blk h.a e;exact absurd (h1.unlike h2) (by decide)
theorem StoV.rowp (h:StoV base g s vl vp va c1 c2 W) {b:Nat} (hb:vp.ownBlock=some b):base<=b/\b<W.heap.size/\b≠g/\vl.ownBlock≠some b/\va.ownBlock≠some b:=by
 obtain⟨cur,h1⟩:=row_blk h.p hb
 have:=h.p.lt b hb
 refine⟨this.1,this.2,?_,fun e=>h.ne b e hb,?_⟩
 · rintro rfl;exact absurd (h1.unlike h.blk) (by decide)
 · intro e;obtain⟨cur2,h2⟩:=row_blk h.a e;exact absurd (h1.unlike h2) (by decide)
theorem StoV.rowa (h:StoV base g s vl vp va c1 c2 W) {b:Nat} (hb:va.ownBlock=some b):base<=b/\b<W.heap.size/\b≠g/\vl.ownBlock≠some b/\vp.ownBlock≠some b:=by
 obtain⟨cur,h1⟩:=row_blk h.a hb
 have:=h.a.lt b hb
 refine⟨this.1,this.2,?_,fun e=>?_,fun e=>?_⟩
 · rintro rfl;exact absurd (h1.unlike h.blk) (by decide)
 · obtain⟨cur2,h2⟩:=row_blk h.l e;exact absurd (h1.unlike h2) (by decide)
 · obtain⟨cur2,h2⟩:=row_blk h.p e;exact absurd (h1.unlike h2) (by decide)
theorem UpN.setF {X:Nat->Prop} {g i:Nat} (hX:X g) (w:World) (u:Value):UpN X w (w.setCell ⟨g,i,none⟩ u):=UpN.sets hX [u] i w
theorem UpN.more {X Y:Nat->Prop} (h:UpN X W W') (hX:∀ k,X k->Y k):UpN Y W W':=⟨h.os,h.tape,h.output,h.size,fun i h1 h2=>h.block i h1 fun h=>h2 (hX i h)⟩
theorem row_upn {X:Nat->Prop} {e:TypeId} {size n:Nat} {v:Value} {xs:List Value} (h:W.ownsRow base e size v n xs) (u:UpN X W W') (hX:∀ b,v.ownBlock=some b->¬ X b):W'.ownsRow base e size v n xs :=
 row_keep h fun b _ h2 h3=>u.block b h2 (hX b h3)
theorem StoV.setLife (h:StoV base g s vl vp va c1 c2 W) (n:Nat):StoV base g ⟨n,s.list,s.prom,s.ab⟩ vl vp va c1 c2 (W.setCell ⟨g,0,none⟩ (.int .u64 (n:Int))):=by
 have u:UpN (fun k=>k=g) W (W.setCell ⟨g,0,none⟩ (.int .u64 (n:Int))):=UpN.setF (X:=fun k=>k=g) rfl _ _
 refine⟨h.blk.set_ 0 _,h.low,row_upn h.l u fun b hb=>(h.rowl hb).2.2.1,row_upn h.p u fun b hb=>(h.rowp hb).2.2.1,row_upn h.a u fun b hb=>(h.rowa hb).2.2.1,h.ne,h.len1,h.len2,fun W'' u'=>h.el W'' ((u.more fun k e=>?_).tr u')⟩
 exact .inr (.inl e)
theorem grow_upn {X Y:Nat->Prop} {row:Option Nat} {i:Nat} {v:Value} (u:UpB 0 row W W') {W'':World} (u':UpN X (W'.setCell ⟨g,i,none⟩ v) W'') (hY:∀ k,k<W.heap.size->k=g∨some k=row∨X k->Y k):UpN Y W W'':=by
 have us:UpN (fun k=>k=g) W' (W'.setCell ⟨g,i,none⟩ v):=UpN.setF (X:=fun k=>k=g) rfl _ _
 refine⟨u'.os.trans (us.os.trans u.os),u'.tape.trans (us.tape.trans u.tape),u'.output.trans (us.output.trans u.output),Nat.le_trans u.size (Nat.le_trans us.size u'.size),fun k h1 h2=>?_⟩
 have hy:=fun e=>h2 (hY k h1 e)
 exact (u'.block k (Nat.lt_of_lt_of_le (Nat.lt_of_lt_of_le h1 u.size) us.size) (fun e=>hy (.inr (.inr e)))).trans ((us.block k (Nat.lt_of_lt_of_le h1 u.size) (fun e=>hy (.inl e))).trans (u.block k (Nat.zero_le _) h1 (fun e=>hy (.inr (.inl e)))))
theorem store_upn {X Y:Nat->Prop} {i:Nat} {v:Value} {W'':World} (u':UpN X (W.setCell ⟨g,i,none⟩ v) W'') (hY:∀ k,k=g∨X k->Y k):UpN Y W W'':=by
 have us:UpN (fun k=>k=g) W (W.setCell ⟨g,i,none⟩ v):=UpN.setF (X:=fun k=>k=g) rfl _ _
 exact (us.more fun k e=>hY k (.inl e)).tr (u'.more fun k e=>hY k (.inr e))
theorem StoV.pushL (h:StoV base g s vl vp va c1 c2 W) (hbg:base<=W.heap.size) (u:UpB 0 vl.ownBlock W W') {x:Ent} {v':Value} (ha:appS enS base W.heap.size 42 vl.ownBlock s.list.length c1.flatten x v' W') :
 Sto base g ⟨s.life,s.list++[x],s.prom,s.ab⟩ (W'.setCell ⟨g,1,none⟩ v'):=by
 obtain⟨cs,ho,hr,hF⟩:=ha
 have hg:=h.blk.lt
 have hv:∀ b,v'.ownBlock=some b->vl.ownBlock=some b∨W.heap.size<=b:=fun b hb=>hr.elim (fun e=>.inl (by rw[<- e];exact hb)) (fun e=>.inr (e b hb))
 have hvg:v'.ownBlock≠some g:=fun e=>(hv g e).elim (fun e=>(h.rowl e).2.2.1 rfl) (fun e=>by omega)
 have u1:UpN (fun k=>vl.ownBlock=some k) W W':=u.upN (fun k hk=>hk.elim (fun h=>by omega) (fun h=>h.symm))
 have us:UpN (fun k=>k=g) W' (W'.setCell ⟨g,1,none⟩ v'):=UpN.setF (X:=fun k=>k=g) rfl _ _
 have hbl:Blk W' g 53 (stA s vl vp va):=(u1.block g h.blk.lt (fun e=>(h.rowl e).2.2.1 rfl)).trans h.blk
 refine⟨v',vp,va,c1++[cs],c2,hbl.set_ 1 _,h.low,?_,?_,?_,?_,by simp[h.len1],h.len2,fun W'' u'=>?_⟩
 · have:=row_upn ho us (fun b hb e=>hvg (by rw[hb,e]))
   simpa [show enS.size=8 from rfl] using this
 · exact row_upn (row_upn h.p u1 fun b hb e=>h.ne b e hb) us fun b hb=>(h.rowp hb).2.2.1
 · exact row_upn (row_upn h.a u1 fun b hb=>(h.rowa hb).2.2.2.1) us fun b hb=>(h.rowa hb).2.2.1
 · intro b hb hp
   rcases hv b hb with e|e
   · exact h.ne b e hp
   · have:=(h.rowp hp).2.1;omega
 · have uW:UpN (StoX base g vl vp va) W W'':=grow_upn u u' fun k hk e=>by
    rcases e with e|e|e|e|e|e|e
    · exact .inr (.inl e)
    · exact .inr (.inr (.inl e.symm))
    · exact .inl e
    · exact .inr (.inl e)
    · exact (hv k e).elim (fun e=>.inr (.inr (.inl e))) (fun e=>by omega)
    · exact .inr (.inr (.inr (.inl e)))
    · exact .inr (.inr (.inr (.inr e)))
   obtain⟨e1,e2⟩:=h.el W'' uW
   refine⟨e1.snoc (hF W'' (store_upn u' fun k e=>?_)),e2⟩
   rcases e with rfl|e|rfl|e|e|e
   · exact .inl hg
   · exact .inl (by omega)
   · exact .inl hg
   · exact .inr e
   · exact .inl (h.rowp e).2.1
   · exact .inl (h.rowa e).2.1
theorem StoV.pushP (h:StoV base g s vl vp va c1 c2 W) (hbg:base<=W.heap.size) (u:UpB 0 vp.ownBlock W W') {x:Ent} {v':Value} (ha:appS enS base W.heap.size 42 vp.ownBlock s.prom.length c2.flatten x v' W') :
 Sto base g ⟨s.life,s.list,s.prom++[x],s.ab⟩ (W'.setCell ⟨g,2,none⟩ v'):=by
 obtain⟨cs,ho,hr,hF⟩:=ha
 have hg:=h.blk.lt
 have hv:∀ b,v'.ownBlock=some b->vp.ownBlock=some b∨W.heap.size<=b:=fun b hb=>hr.elim (fun e=>.inl (by rw[<- e];exact hb)) (fun e=>.inr (e b hb))
 have hvg:v'.ownBlock≠some g:=fun e=>(hv g e).elim (fun e=>(h.rowp e).2.2.1 rfl) (fun e=>by omega)
 have u1:UpN (fun k=>vp.ownBlock=some k) W W':=u.upN (fun k hk=>hk.elim (fun h=>by omega) (fun h=>h.symm))
 have us:UpN (fun k=>k=g) W' (W'.setCell ⟨g,2,none⟩ v'):=UpN.setF (X:=fun k=>k=g) rfl _ _
 have hbl:Blk W' g 53 (stA s vl vp va):=(u1.block g h.blk.lt (fun e=>(h.rowp e).2.2.1 rfl)).trans h.blk
 refine⟨vl,v',va,c1,c2++[cs],hbl.set_ 2 _,h.low,?_,?_,?_,?_,h.len1,by simp[h.len2],fun W'' u'=>?_⟩
 · exact row_upn (row_upn h.l u1 fun b hb e=>h.ne b hb e) us fun b hb=>(h.rowl hb).2.2.1
 · have:=row_upn ho us (fun b hb e=>hvg (by rw[hb,e]))
   simpa [show enS.size=8 from rfl] using this
 · exact row_upn (row_upn h.a u1 fun b hb=>(h.rowa hb).2.2.2.2) us fun b hb=>(h.rowa hb).2.2.1
 · intro b hb hp
   rcases hv b hp with e|e
   · exact h.ne b hb e
   · have:=(h.rowl hb).2.1;omega
 · have uW:UpN (StoX base g vl vp va) W W'':=grow_upn u u' fun k hk e=>by
    rcases e with e|e|e|e|e|e|e
    · exact .inr (.inl e)
    · exact .inr (.inr (.inr (.inl e.symm)))
    · exact .inl e
    · exact .inr (.inl e)
    · exact .inr (.inr (.inl e))
    · exact (hv k e).elim (fun e=>.inr (.inr (.inr (.inl e)))) (fun e=>by omega)
    · exact .inr (.inr (.inr (.inr e)))
   obtain⟨e1,e2⟩:=h.el W'' uW
   refine⟨e1,e2.snoc (hF W'' (store_upn u' fun k e=>?_))⟩
   rcases e with rfl|e|rfl|e|e|e
   · exact .inl hg
   · exact .inl (by omega)
   · exact .inl hg
   · exact .inl (h.rowl e).2.1
   · exact .inr e
   · exact .inl (h.rowa e).2.1
theorem StoV.pushA (h:StoV base g s vl vp va c1 c2 W) (_:base<=W.heap.size) (u:UpB 0 va.ownBlock W W') {x:Idn} {v':Value} (ha:appS idS base W.heap.size 35 va.ownBlock s.ab.length (s.ab.flatMap idc) x v' W') :
 Sto base g ⟨s.life,s.list,s.prom,s.ab++[x]⟩ (W'.setCell ⟨g,3,none⟩ v'):=by
 obtain⟨cs,ho,hr,hF⟩:=ha
 have hg:=h.blk.lt
 obtain rfl:cs=idc x:=hF W' (UpN.rf _ _)
 have hv:∀ b,v'.ownBlock=some b->va.ownBlock=some b∨W.heap.size<=b:=fun b hb=>hr.elim (fun e=>.inl (by rw[<- e];exact hb)) (fun e=>.inr (e b hb))
 have hvg:v'.ownBlock≠some g:=fun e=>(hv g e).elim (fun e=>(h.rowa e).2.2.1 rfl) (fun e=>by omega)
 have u1:UpN (fun k=>va.ownBlock=some k) W W':=u.upN (fun k hk=>hk.elim (fun h=>by omega) (fun h=>h.symm))
 have us:UpN (fun k=>k=g) W' (W'.setCell ⟨g,3,none⟩ v'):=UpN.setF (X:=fun k=>k=g) rfl _ _
 have hbl:Blk W' g 53 (stA s vl vp va):=(u1.block g h.blk.lt (fun e=>(h.rowa e).2.2.1 rfl)).trans h.blk
 refine⟨vl,vp,v',c1,c2,hbl.set_ 3 _,h.low,?_,?_,?_,h.ne,h.len1,h.len2,fun W'' u'=>?_⟩
 · exact row_upn (row_upn h.l u1 fun b hb=>(h.rowl hb).2.2.2.2) us fun b hb=>(h.rowl hb).2.2.1
 · exact row_upn (row_upn h.p u1 fun b hb=>(h.rowp hb).2.2.2.2) us fun b hb=>(h.rowp hb).2.2.1
 · have:=row_upn ho us (fun b hb e=>hvg (by rw[hb,e]))
   simpa [show idS.size=3 from rfl] using this
 · exact h.el W'' (grow_upn u u' fun k hk e=>by
    rcases e with e|e|e|e|e|e|e
    · exact .inr (.inl e)
    · exact .inr (.inr (.inr (.inr e.symm)))
    · exact .inl e
    · exact .inr (.inl e)
    · exact .inr (.inr (.inl e))
    · exact .inr (.inr (.inr (.inl e)))
    · exact (hv k e).elim (fun e=>.inr (.inr (.inr (.inr e)))) (fun e=>by omega))
end
theorem any_take_succ {α:Type} (p:α->Bool) (l:List α) (j:Nat) (hj:j<l.length):(l.take (j+1)).any p=((l.take j).any p||p l[j]):=by
 rw[List.take_succ_eq_append_getElem hj,List.any_append];simp
theorem any_of_take {α:Type} (p:α->Bool) (l:List α) (j:Nat) (h:(l.take j).any p=true):l.any p=true:=by
 rw[List.any_eq_true] at h ⊢
 obtain⟨x,hx,hp⟩:=h
 exact⟨x,List.mem_of_mem_take hx,hp⟩
theorem Of_calls (l:List Ent) (a:Idn) (v:Value) (w:World) (h:lst enS l v w) (hlen:l.length<=1000000) :
 Calls Tryz.prog 78 #[v,idv a] w fun e w'=>e=.returned (.bool (hasE l a))/\K w w':=by
 obtain⟨D,d,rfl,hl,-⟩:=h
 have HI:Hid (hasE l a=l.any fun x=>decide (idE x=a)):=Lib.hid rfl
 generalize hasE l a=R at *
 have hx:=Blk.new w 35 #[.int .i64 a.1,.int .u64 (a.2.1:Int),.int .u64 (a.2.2:Int)]
 have k1:K w (w.alloc (.cells #[.int .i64 a.1,.int .u64 (a.2.1:Int),.int .u64 (a.2.2:Int)] 35)):=(K.rf w).al _
 go_enter Tryz.func78,Tryz.ntmps78
 go_upto_region 1 with (fail)
 generalize w.alloc _=w1 at *
 generalize w.heap.size=g at hx ⊢
 have qx:=hx.cells
 have kk:=K.rf w1
 clear hx
 go_wp2_with fail
 go_loopw [5,8] (fun _ i wr=>∃ j:Nat,j<=l.length/\i=.int .i64 (j:Int)/\Hid ((l.take j).any (fun x=>decide (idE x=a))=false)/\K w1 wr) (fun _ i _=>l.length - (intOf i).toNat)
 case atStart=>exact⟨0,by omega,rfl,Lib.hid (by simp),kk⟩
 case round =>
  clear kk
  obtain⟨j,hj,rfl,HT,kr⟩:=hrel
  by_cases hlt:j<l.length
  · have hji:(j:Int)<(l.length:Int):=by omega
    obtain⟨b1,o1,cs1,rfl,hcl1,hr1,d0,dd⟩:=lsr_cells hl j hlt (by decide)
    have HB:=Lib.hid (any_take_succ (fun x=>decide (idE x=a)) l j hlt)
    have HA:=Lib.hid (any_of_take (fun x=>decide (idE x=a)) l (j+1))
    generalize l[j]=x at *
    obtain⟨vf1,ve1,rfl,hf1,hv1⟩:=hr1 w (K.rf w)
    have qr:=fun W (kW:K wr W)=>qx W (kr.tr kW)
    have p1:∀ W,K wr W->W.cell? ⟨b1,o1+j * 8+1,none⟩=some (.int .i64 x.br):=fun W kW=>dd W (k1.tr (kr.tr kW)) 1 (by decide)
    have p2:∀ W,K wr W->W.cell? ⟨b1,o1+j * 8+2,none⟩=some (.int .u64 (x.life:Int)):=fun W kW=>dd W (k1.tr (kr.tr kW)) 2 (by decide)
    have p3:∀ W,K wr W->W.cell? ⟨b1,o1+j * 8+3,none⟩=some (.int .u64 (x.ser:Int)):=fun W kW=>dd W (k1.tr (kr.tr kW)) 3 (by decide)
    clear hcl1 hr1 d0 dd hf1 hv1
    go_upto_region 4 with (fail)
    refine wp_region_K [isV (.slice (some ⟨b1,o1,none⟩) l.length d),
     isV (.int .i64 ((j:Int))),
     isV (.pointer (some ⟨b1,o1+j * 8,none⟩)),
     isV (.pointer (some ⟨b1,o1+j * 8+1,none⟩)),
     isV (idv (idE x)),
     isV (idv a),
     isV (.bool (decide (idE x=a)))]
     [([],[]),([],[]),([0,1],[(11,0),(12,1)]),([2],[(13,2)]),([3],[(14,3)]),([],[]),([4,5],[(15,4),(16,5)])] 19 rfl (by kernel_rfl) (by kernel_rfl) (by kernel_rfl) ?st6 ?ow6 ?_
    case st6 =>
     simp only[List.forall_mem_cons]
     and_intros
     all_goals first|exact isV_st _|exact sl_st _|exact anyV_st|simp
    case ow6 =>
     simp only[OwedQ]
     and_intros
     all_goals try trivial
     all_goals
      intro V W kW hp
      try simp only[List.forall_mem_cons,tab_zero,tab_succ,isV] at hp
      try simp[wantsG,rhoP,List.lookup,hp,tab_zero,tab_succ,ResG,execOp,bareOp,isV,Below.refl,kW,p1,p2,p3,qr,hji,go_sem]
     · exact⟨rfl,rfl,rfl⟩
     by_cases h1:(idE x).1=a.1
     · by_cases h2:(idE x).2.1=a.2.1
       · by_cases h3:(idE x).2.2=a.2.2
         · rw[show decide (idE x=a)=true from decide_eq_true (Prod.ext h1 (Prod.ext h2 h3))]
           simp[h1,h2,h3,Below.refl]
         · rw[show decide (idE x=a)=false from decide_eq_false (fun e=>h3 (by rw[<- e]))]
           try simp only[h1,h2,if_true]
           rw[if_neg (by omega)];exact⟨rfl,Below.refl _ _⟩
       · rw[show decide (idE x=a)=false from decide_eq_false (fun e=>h2 (by rw[<- e]))]
         try simp only[h1,if_true]
         rw[if_neg (by omega)];exact⟨rfl,Below.refl _ _⟩
     · rw[show decide (idE x=a)=false from decide_eq_false (fun e=>h1 (by rw[<- e]))]
       simp[h1,Below.refl]
    intro V W kW hp
    have h9:=hp 6 (by simp)
    simp only[tab_zero,tab_succ,isV] at h9
    clear hp
    simp only[putAll,Act.put,List.setIfInBounds_toArray,List.set_cons_succ,List.set_cons_zero,h9]
    have krW:=kr.tr kW
    generalize hq:decide (idE x=a)=q at *
    have HQ:=Lib.hid hq
    clear hq h9 p1 p2 p3 qr
    cases q
    · have HT2:Hid ((l.take (j+1)).any (fun x=>decide (idE x=a))=false):=Lib.hid (by rw[HB.out,HT.out];rfl)
      go_wp2
      go_roundw
      case rel=>exact⟨j+1,by omega,by go_num,HT2,krW⟩
      case measure=>simp[intOf];omega
    · have HR:Hid (R=true):=Lib.hid (by rw[HI.out];exact HA.out (by rw[HB.out];simp))
      go_wp2
      go_ret
      exact⟨by rw[HR.out];rfl,k1.tr krW⟩
  · have hji:¬ (j:Int)<(l.length:Int):=by omega
    have HR:Hid (R=false):=Lib.hid (by
     have h1:=HT.out
     rw[List.take_of_length_le (by omega)] at h1
     rw[HI.out,h1])
    go_wp2
    go_ret
    exact⟨by rw[HR.out];rfl,k1.tr kr⟩
theorem idx_hit {l:List Idn} {a:Idn} {k:Nat} (hk:k<l.length) (h:l[k]=a):hasI l a=true:=by
 unfold hasI
 rw[List.any_eq_true]
 exact⟨l[k],List.getElem_mem hk,by simpa using h⟩
theorem idx_miss {l:List Idn} {a:Idn} (h:∀ x∈l,x≠a):hasI l a=false:=by
 unfold hasI
 rw[List.any_eq_false]
 intro x hx
 simpa using h x hx
theorem IIndex_calls (l:List Idn) (a:Idn) (v:Value) (w:World) (h:lst idS l v w) (hlen:l.length<=1000000) :
 Calls Tryz.prog 178 #[v,idv a] w fun e w'=>∃ i:Int,e=.returned (.int .i64 i)/\K w w'/\hasI l a=decide (0<=i):=by
 obtain⟨D,d,rfl,hl,-⟩:=h
 have HM:=Lib.hid (@idx_miss l a)
 have HH:=Lib.hid fun k hk=>@idx_hit l a k hk
 have hx:=Blk.new w 35 #[.int .i64 a.1,.int .u64 (a.2.1:Int),.int .u64 (a.2.2:Int)]
 have k1:K w (w.alloc (.cells #[.int .i64 a.1,.int .u64 (a.2.1:Int),.int .u64 (a.2.2:Int)] 35)):=(K.rf w).al _
 go_enter Tryz.func178,Tryz.ntmps178
 go_upto_region 1 with (fail)
 generalize w.alloc _=w1 at *
 generalize w.heap.size=g at hx ⊢
 have qx:=hx.cells
 have kk:=K.rf w1
 clear hx
 go_wp2_with fail
 go_loopw [5,8] (fun _ i wr=>∃ j:Nat,j<=l.length/\i=.int .i64 (j:Int)/\Hid (∀ x∈l.take j,x≠a)/\K w1 wr) (fun _ i _=>l.length - (intOf i).toNat)
 case atStart=>exact⟨0,by omega,rfl,Lib.hid (by simp),kk⟩
 case round =>
  clear kk
  obtain⟨j,hj,rfl,HT,kr⟩:=hrel
  by_cases hlt:j<l.length
  · have hji:(j:Int)<(l.length:Int):=by omega
    obtain⟨b1,o1,cs1,rfl,hcl1,hr1,d0,dd⟩:=lsr_cells hl j hlt (by decide)
    have HB:Hid (l[j]≠a->∀ x∈l.take (j+1),x≠a):=by
     refine Lib.hid fun h x hx=>?_
     rw[List.take_succ_eq_append_getElem hlt] at hx
     rcases List.mem_append.1 hx with hx|hx
     · exact HT.out x hx
     · simp at hx;rw[hx];exact h
    have HA:=Lib.hid (HH.out j hlt)
    generalize l[j]=x at *
    obtain rfl:=hr1 w (K.rf w)
    have qr:=fun W (kW:K wr W)=>qx W (kr.tr kW)
    have p1:∀ W,K wr W->W.cell? ⟨b1,o1+j * 3,none⟩=some (.int .i64 x.1):=fun W kW=>d0 W (k1.tr (kr.tr kW))
    have p2:∀ W,K wr W->W.cell? ⟨b1,o1+j * 3+1,none⟩=some (.int .u64 (x.2.1:Int)):=fun W kW=>dd W (k1.tr (kr.tr kW)) 1 (by decide)
    have p3:∀ W,K wr W->W.cell? ⟨b1,o1+j * 3+2,none⟩=some (.int .u64 (x.2.2:Int)):=fun W kW=>dd W (k1.tr (kr.tr kW)) 2 (by decide)
    clear hcl1 hr1 d0 dd
    go_upto_region 4 with (fail)
    refine wp_region_K [isV (idv a),
     isV (.slice (some ⟨b1,o1,none⟩) l.length d),
     isV (.int .i64 ((j:Int))),
     isV (.pointer (some ⟨b1,o1+j * 3,none⟩)),
     isV (idv x),
     isV (.bool (decide (a=x)))]
     [([],[]),([],[]),([],[]),([1,2],[(12,1),(13,2)]),([3],[(14,3)]),([0,4],[(11,0),(15,4)])] 19 rfl (by kernel_rfl) (by kernel_rfl) (by kernel_rfl) ?st6 ?ow6 ?_
    case st6 =>
     simp only[List.forall_mem_cons]
     and_intros
     all_goals first|exact isV_st _|exact sl_st _|exact anyV_st|simp
    case ow6 =>
     simp only[OwedQ]
     and_intros
     all_goals try trivial
     all_goals
      intro V W kW hp
      try simp only[List.forall_mem_cons,tab_zero,tab_succ,isV] at hp
      try simp[wantsG,rhoP,List.lookup,hp,tab_zero,tab_succ,ResG,execOp,bareOp,isV,Below.refl,kW,p1,p2,p3,qr,hji,go_sem]
     by_cases h1:a.1=x.1
     · by_cases h2:a.2.1=x.2.1
       · by_cases h3:a.2.2=x.2.2
         · rw[show decide (a=x)=true from decide_eq_true (Prod.ext h1 (Prod.ext h2 h3))]
           simp[h1,h2,h3,Below.refl]
         · rw[show decide (a=x)=false from decide_eq_false (fun e=>h3 (by rw[<- e]))]
           try simp only[h1,h2,if_true]
           rw[if_neg (by omega)];exact⟨rfl,Below.refl _ _⟩
       · rw[show decide (a=x)=false from decide_eq_false (fun e=>h2 (by rw[<- e]))]
         try simp only[h1,if_true]
         rw[if_neg (by omega)];exact⟨rfl,Below.refl _ _⟩
     · rw[show decide (a=x)=false from decide_eq_false (fun e=>h1 (by rw[<- e]))]
       simp[h1,Below.refl]
    intro V W kW hp
    have h9:=hp 5 (by simp)
    simp only[tab_zero,tab_succ,isV] at h9
    clear hp
    simp only[putAll,Act.put,List.setIfInBounds_toArray,List.set_cons_succ,List.set_cons_zero,h9]
    have krW:=kr.tr kW
    generalize hq:decide (a=x)=q at *
    have HQ:=Lib.hid hq
    clear hq h9 p1 p2 p3 qr
    cases q
    · have HT2:=Lib.hid (HB.out fun e=>by have:=of_decide_eq_false HQ.out;exact this e.symm)
      go_wp2
      go_roundw
      case rel=>exact⟨j+1,by omega,by go_num,HT2,krW⟩
      case measure=>simp[intOf];omega
    · have HR:=Lib.hid (HA.out (of_decide_eq_true HQ.out).symm)
      go_wp2
      go_ret
      exact⟨_,rfl,k1.tr krW,by rw[HR.out];simp⟩
  · have hji:¬ (j:Int)<(l.length:Int):=by omega
    have HR:=Lib.hid (HM.out (by
     have h1:=HT.out
     rw[List.take_of_length_le (by omega)] at h1
     exact h1))
    go_wp2
    go_ret
    exact⟨_,rfl,k1.tr kr,by rw[HR.out];rfl⟩
theorem IContains_calls (l:List Idn) (a:Idn) (v:Value) (w:World) (h:lst idS l v w) (hlen:l.length<=1000000) :
 Calls Tryz.prog 97 #[v,idv a] w fun e w'=>e=.returned (.bool (hasI l a))/\K w w':=by
 have h':=h
 obtain⟨D,d,rfl,hl,-⟩:=h
 have hx:=Blk.new w 35 #[.int .i64 a.1,.int .u64 (a.2.1:Int),.int .u64 (a.2.2:Int)]
 have k1:K w (w.alloc (.cells #[.int .i64 a.1,.int .u64 (a.2.1:Int),.int .u64 (a.2.2:Int)] 35)):=(K.rf w).al _
 have C1:=Lib.hid fun W (kW:K w W)=>IIndex_calls l a _ W (lst_st h' kW) hlen
 clear h' hl
 go_enter Tryz.func97,Tryz.ntmps97
 go_wp2_with fail
 generalize w.alloc _=w1 at *
 refine (C1.out w1 k1).mono ?_
 rintro e w2 ⟨i,rfl,k2,hi⟩
 have HI:=Lib.hid hi
 clear hi
 go_wp2
 go_ret
 exact⟨by rw[HI.out];rfl,k1.tr k2⟩
theorem Has_calls (s:Stt) (a:Idn) (v:Value) (w:World) (h:stv s v w) (hlen:s.list.length<=1000000) :
 Calls Tryz.prog 30 #[v,idv a] w fun e w'=>e=.returned (.bool (hasE s.list a))/\K w w':=by
 obtain⟨vl,vp,va,rfl,hl,hp,ha⟩:=h
 have C1:=Lib.hid fun W (kW:K w W)=>Of_calls s.list a _ W (lst_st hl kW) hlen
 have k1:K w ((w.alloc (.cells (stA s vl vp va) 53)).alloc (.cells #[.int .i64 a.1,.int .u64 (a.2.1:Int),.int .u64 (a.2.2:Int)] 35)):=((K.rf w).al _).al _
 clear hl hp ha
 go_enter Tryz.func30,Tryz.ntmps30
 go_wp2_with fail
 generalize World.alloc (World.alloc w _) _=w1 at *
 refine (C1.out w1 k1).mono ?_
 rintro e w2 ⟨rfl,k2⟩
 go_wp2
 go_ret
 exact⟨rfl,k1.tr k2⟩
theorem Promised_calls (s:Stt) (a:Idn) (v:Value) (w:World) (h:stv s v w) (hlen:s.prom.length<=1000000) :
 Calls Tryz.prog 157 #[v,idv a] w fun e w'=>e=.returned (.bool (hasE s.prom a))/\K w w':=by
 obtain⟨vl,vp,va,rfl,hl,hp,ha⟩:=h
 have C1:=Lib.hid fun W (kW:K w W)=>Of_calls s.prom a _ W (lst_st hp kW) hlen
 have k1:K w ((w.alloc (.cells (stA s vl vp va) 53)).alloc (.cells #[.int .i64 a.1,.int .u64 (a.2.1:Int),.int .u64 (a.2.2:Int)] 35)):=((K.rf w).al _).al _
 clear hl hp ha
 go_enter Tryz.func157,Tryz.ntmps157
 go_wp2_with fail
 generalize World.alloc (World.alloc w _) _=w1 at *
 refine (C1.out w1 k1).mono ?_
 rintro e w2 ⟨rfl,k2⟩
 go_wp2
 go_ret
 exact⟨rfl,k1.tr k2⟩
theorem Aborted_calls (s:Stt) (a:Idn) (v:Value) (w:World) (h:stv s v w) (hlen:s.ab.length<=1000000) :
 Calls Tryz.prog 114 #[v,idv a] w fun e w'=>e=.returned (.bool (hasI s.ab a))/\K w w':=by
 obtain⟨vl,vp,va,rfl,hl,hp,ha⟩:=h
 have C1:=Lib.hid fun W (kW:K w W)=>IContains_calls s.ab a _ W (lst_st ha kW) hlen
 have k1:K w ((w.alloc (.cells (stA s vl vp va) 53)).alloc (.cells #[.int .i64 a.1,.int .u64 (a.2.1:Int),.int .u64 (a.2.2:Int)] 35)):=((K.rf w).al _).al _
 clear hl hp ha
 go_enter Tryz.func114,Tryz.ntmps114
 go_wp2_with fail
 generalize World.alloc (World.alloc w _) _=w1 at *
 refine (C1.out w1 k1).mono ?_
 rintro e w2 ⟨rfl,k2⟩
 go_wp2
 go_ret
 exact⟨rfl,k1.tr k2⟩
def isIdE (a:Idn) (x:Ent):Bool:=decide (idE x=a)
theorem isIdE_iff (a:Idn) (x:Ent):isIdE a x=(decide (x.br=a.1)&&decide (x.life=a.2.1)&&decide (x.ser=a.2.2)):=by
 obtain⟨a0,a1,a2⟩:=a
 unfold isIdE idE
 rw[Bool.eq_iff_iff]
 simp[and_assoc]
theorem ForgetC_calls (x:Ent) (a:Idn) (v:Value) (g:Nat) (w:World) (h:ent x v w) (hg:Blk w g 35 #[.int .i64 a.1,.int .u64 (a.2.1:Int),.int .u64 (a.2.2:Int)]) :
 Calls Tryz.prog 251 #[v,.pointer (some ⟨g,0,none⟩)] w fun e w'=>e=.returned (.bool (isIdE a x))/\K w w':=by
 obtain⟨vf,ve,rfl,hf,he⟩:=h
 obtain⟨A,c,rfl⟩:=flt_slice hf
 obtain⟨D,d,rfl⟩:=lst_slice he
 clear hf he
 have HI:=Lib.hid (isIdE_iff a x)
 have q:=hg.cells
 have ka:=fun o=>(K.rf w).al o
 obtain⟨a0,a1,a2⟩:=a
 obtain⟨k,b,l,s,cl,u,f,es⟩:=x
 simp only at q HI ⊢
 generalize isIdE (a0,a1,a2) ⟨k,b,l,s,cl,u,f,es⟩=R at *
 go_enter Tryz.func251,Tryz.ntmps251
 go_wp2
 all_goals
  go_ret
  refine⟨?_,(K.rf w).al _⟩
  rw[HI.out]
  show Ending.returned (.bool _)=Ending.returned (.bool _)
  clear q ka
  first|(simp_all;done)|(simp_all;omega)|(congr 2;rw[Bool.eq_iff_iff];simp_all;omega)
theorem EIndexFunc_calls (A:Option Addr) (c:Nat) (l:List Ent) (a:Idn) (g:Nat) (w:World) (h:lsr enS l A w) (hlen:l.length<=1000000) (hg:Blk w g 35 #[.int .i64 a.1,.int .u64 (a.2.1:Int),.int .u64 (a.2.2:Int)]) :
 Calls Tryz.prog 177 #[.slice A l.length c,.func (Fn.func 251) #[] #[.pointer (some ⟨g,0,none⟩)]] w fun e w'=>∃ i:Int,e=.returned (.int .i64 i)/\K w w'/\((i=-1/\∀ x∈l,isIdE a x=false)∨∃ k:Nat,k<l.length/\i=(k:Int)/\(∀ x∈l.take k,isIdE a x=false)/\∀ x,l[k]?=some x->isIdE a x=true):=by
 have kk:=K.rf w
 go_enter Tryz.func177,Tryz.ntmps177
 go_wp2_with fail
 go_loopw [5,8] (fun _ i wr=>∃ k:Nat,k<=l.length/\i=.int .i64 (k:Int)/\Hid (∀ t∈l.take k,isIdE a t=false)/\K w wr) (fun _ i _=>l.length - (intOf i).toNat)
 case atStart=>exact⟨0,by omega,rfl,Lib.hid (by simp),kk⟩
 case round =>
  clear kk
  obtain⟨k,hk,rfl,hall,kr⟩:=hrel
  by_cases hlt:k<l.length
  · have hki:(k:Int)<(l.length:Int):=by omega
    obtain⟨b1,off,cs,rfl,hcl,hrl,d0,d⟩:=lsr_cells h k hlt (by decide)
    have HT:Hid (isIdE a l[k]=false->∀ t∈l.take (k+1),isIdE a t=false):=by
     refine Lib.hid fun h x hx=>?_
     rw[List.take_succ_eq_append_getElem hlt] at hx
     rcases List.mem_append.1 hx with hx|hx
     · exact hall.out x hx
     · simp at hx;rw[hx];exact h
    have HK:Hid (isIdE a l[k]=true->∀ x,l[k]?=some x->isIdE a x=true):=Lib.hid fun h x hx=>by
     rw[List.getElem?_eq_getElem hlt] at hx;injection hx with hx;rw[<- hx];exact h
    generalize l[k]=t at *
    obtain⟨vf,ve,rfl,hf,he⟩:=hrl wr kr
    have d0:∀ W,K w W->W.cell? ⟨b1,off+k * 8,none⟩=some (.int .i64 t.kind):=d0
    have d:∀ W,K w W->∀ i,i<8->W.cell? ⟨b1,off+k * 8+i,none⟩=(entA t vf ve)[i]?:=fun W j hj=>fun hi=>(d W j hj hi).trans Array.getElem?_toList
    clear hrl hcl
    go_wp2_with fail
    refine (ForgetC_calls t a _ g wr ⟨vf,ve,rfl,hf,he⟩ (hg.below kr hg.lt)).mono ?_
    rintro e w2 ⟨rfl,k2⟩
    have kW:=kr.tr k2
    clear d d0 hf he
    cases hx:isIdE a t
    · have hrr:=Lib.hid (HT.out hx)
      go_wp2
      go_roundw
      case rel=>exact⟨k+1,by omega,by go_num,hrr,kW⟩
      case measure=>simp[intOf];omega
    · have HE:=Lib.hid (HK.out hx)
      go_wp2
      go_ret
      exact⟨_,rfl,kW,.inr ⟨k,hlt,rfl,hall.out,HE.out⟩⟩
  · have hki:¬ (k:Int)<(l.length:Int):=by omega
    have HE:Hid (∀ x∈l,isIdE a x=false):=Lib.hid (by
     have:=hall.out
     rw[List.take_of_length_le (by omega)] at this
     exact this)
    go_wp2
    go_ret
    exact⟨_,rfl,kr,.inl ⟨rfl,HE.out⟩⟩
def keepZ (a:Idn) (z:List (Ent×List Value)):List (Ent×List Value):=z.filter fun p=>!isIdE a p.1
theorem zip_fst {α β:Type}:∀ (l:List α) (m:List β),m.length=l.length->(l.zip m).map (·.1)=l
 | [],[],_=>rfl
 | _ :: _,[],h=>by simp at h
 | [],_ :: _,h=>by simp at h
 | x :: l,y :: m,h=>by simp at h;simp[zip_fst l m h]
theorem zip_snd {α β:Type}:∀ (l:List α) (m:List β),m.length=l.length->(l.zip m).map (·.2)=m
 | [],[],_=>rfl
 | _ :: _,[],h=>by simp at h
 | [],_ :: _,h=>by simp at h
 | x :: l,y :: m,h=>by simp at h;simp[zip_snd l m h]
theorem each_zip {α:Type} {S:Shp α} {W:World}:∀ (z:List (α×List Value)),(∀ p∈z,S.rel p.1 p.2 W)->Each S (z.map (·.1)) (z.map (·.2)) W:=by
 intro z h
 refine⟨by simp,fun i hi hi'=>?_⟩
 simp only[List.getElem_map]
 exact h _ (List.getElem_mem _)
theorem each_of_zip {α:Type} {S:Shp α} {W:World} {l:List α} {css:List (List Value)} (h:Each S l css W):∀ p∈l.zip css,S.rel p.1 p.2 W:=by
 intro p hp
 obtain⟨i,hi,rfl⟩:=List.mem_iff_getElem.1 hp
 simp only[List.getElem_zip]
 have h1:=h.1
 rw[List.length_zip] at hi
 exact h.2 i (by omega) (by omega)
theorem keep_map {l:List Ent} {css:List (List Value)} (hl:css.length=l.length) (a:Idn):(keepZ a (l.zip css)).map (·.1)=dropE l a:=by
 unfold keepZ dropE
 rw[show (fun p:Ent×List Value=>!isIdE a p.1)=(fun x=>!decide (idE x=a)) ∘ (·.1) from rfl,<- List.filter_map,zip_fst l css hl]
theorem setsL_eq:∀ (us xs:List Value) (q:Nat),q+us.length<=xs.length->setsL xs q us=xs.take q++us++xs.drop (q+us.length)
 | [],xs,q,_=>by simp[setsL]
 | u :: us,xs,q,h=>by
   simp only[List.length_cons] at h
   rw[setsL,setsL_eq us _ (q+1) (by simp;omega)]
   rw[List.take_succ_eq_append_getElem (by simp;omega),List.take_set_of_le (Nat.le_refl _),List.drop_set_of_lt (by omega)]
   simp[Nat.add_assoc,Nat.add_comm 1]
theorem run_clear_end {P:Program} {w:World} {t e:TypeId} {z:Value} {cur:Array Value} (ht:P.underlying t=some (.slice e)) (hv:∀ w,(zeroValue e).run P w=.ok z w) (g o m:Nat) (hb:Blk w g e cur) (hl:o+m * z.cells.size<=cur.size) (h0:0<m) (h1:∀ u∈z.cells.toList,u.oneCell'=true) (hz:0<z.cells.size) :
 ∃ w' cur',(∀ ty c,(Builtin.clear_ #[t] ty #[.slice (some ⟨g,o,none⟩) m c]).run P w=.ok (.tuple #[]) w')/\Blk w' g e cur'/\cur'.size=cur.size/\cur'.toList.take o=cur.toList.take o/\w.grownBy w' (some g):=by
 have hzl:(Builtin.zeroCells z.cells m).toList.length=m * z.cells.size:=by simp[Builtin.zeroCells]
 have hz1:∀ u∈(Builtin.zeroCells z.cells m).toList,u.oneCell'=true:=by
  intro u hu
  simp only[Builtin.zeroCells,Array.toList_map,List.mem_map] at hu
  obtain⟨i,hi,rfl⟩:=hu
  rw[getElem!_pos z.cells (i % z.cells.size) (Nat.mod_lt _ hz)]
  exact h1 _ (by simp)
 have hst:=run_storeCells_at P g o e (Builtin.zeroCells z.cells m).toList 0 cur w hb (by rw[hzl];simpa using hl) hz1
 simp only[Nat.add_zero] at hst
 refine⟨_,(cur.toList.take o++(Builtin.zeroCells z.cells m).toList++cur.toList.drop (o+(Builtin.zeroCells z.cells m).toList.length)).toArray,fun ty c=>?_,setRow_heap w g cur _ e _ hb,?_,?_,⟨rfl,rfl,rfl,by simp,fun k hk hne=>setRow_other w g k _ (fun e=>hne (by simp[e]))⟩⟩
 · cases m with
   | zero=>omega
   | succ m=>simp[Builtin.clear_,run_underlying ht,hv,hst]
 · simp at hzl;simp;omega
 · show List.take o (cur.toList.take o++(Builtin.zeroCells z.cells m).toList++cur.toList.drop (o+(Builtin.zeroCells z.cells m).toList.length))=_
   rw[List.append_assoc,List.take_append_of_le_length (by simp;omega),List.take_take,Nat.min_self]
theorem flatten_take_n8 {α:Type} {n:Nat}:∀ (css:List (List α)),(∀ cs∈css,cs.length=n)->∀ k,(css.take k).flatten=css.flatten.take (k * n)
 | [],_,k=>by simp
 | c :: css,h,0=>by simp
 | c :: css,h,k+1=>by
   have hc:=h c (by simp)
   have ih:=flatten_take_n8 css (fun x hx=>h x (by simp[hx])) k
   rw[List.take_succ_cons,List.flatten_cons,List.flatten_cons,ih,List.take_append,List.take_of_length_le (l:=c) (by rw[hc,Nat.succ_mul];omega),hc,show (k+1) * n - n=k * n by rw[Nat.succ_mul];omega]
theorem zeroEn (W:World):(zeroValue 42).run Tryz.prog W=.ok (.agg zEnt) W:=by kernel_rfl
