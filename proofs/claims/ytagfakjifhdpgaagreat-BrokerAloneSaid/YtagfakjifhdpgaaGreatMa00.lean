/-
  Words for memory that the walks of this claim share: a slice that reads as a list of cells, bytes, and how these facts go on when memory grows. Conditions: none.
-/
import Derived.WalkKit
import Derived.WalkLawsBesides
import Derived.WalkSpells
import Derived.Deep.Draws
import Derived.Deep.AppendLies
import Derived.Maps.AppendAt
import Derived.Laws.CopyOwn
import Derived.Lib.Hide
import Derived.ScopeJumps
import Derived.Laws.IdiomStrings
import Derived.Laws.BytesArg
import Derived.WalkMore
import Derived.Test.YtagfakjifhdpgaaGreatProg
import Derived.BigQuiet
import Derived.Deep.QuietTactic
set_option maxRecDepth 100000
set_option maxHeartbeats 16000000
set_option linter.unusedVariables false
set_option linter.unusedSimpArgs false
namespace Go.Proofs.YtagfakjifhdpgaaGreat
open Go Go.RowKit
def Reads (w:World) (B size:Nat) (A:Option Addr) (n:Nat) (xs:List Value):Prop :=
 xs.length=n * size/\(0<xs.length->∃ b off,A=some ⟨b,off,none⟩/\b<B/\∀ j u,xs[j]?=some u->w.cell? ⟨b,off+j,none⟩=some u)
theorem block_lt {w:World} {a:Addr} {u:Value} (h:w.cell? a=some u):a.block<w.heap.size:=World.block_lt_of_cell? w a h
section
variable {w w':World} {B B' size n:Nat} {A:Option Addr} {xs:List Value}
theorem Reads.nil (w:World) (B size:Nat) (A:Option Addr):Reads w B size A 0 []:=⟨by simp,fun h=>absurd h (by simp)⟩
theorem Reads.keep (h:Reads w B size A n xs) (hk:∀ k,k<B->w'.heap[k]?=w.heap[k]?):Reads w' B size A n xs :=
 ⟨h.1,fun hn=>by
  obtain⟨b,off,e,hb,hc⟩:=h.2 hn
  exact⟨b,off,e,hb,fun j u hu=>(World.cell?_of_block (hk b hb)).trans (hc j u hu)⟩⟩
theorem Reads.more (h:Reads w B size A n xs) (hB:B<=B'):Reads w B' size A n xs :=
 ⟨h.1,fun hn=>by
  obtain⟨b,off,e,hb,hc⟩:=h.2 hn
  exact⟨b,off,e,by omega,hc⟩⟩
theorem Reads.below {C:Nat} (h:Reads w B size A n xs) (hb:Below C w w') (hBC:B<=C):Reads w' B size A n xs:=h.keep fun _ hk=>hb.block _ (by omega)
theorem Reads.drew (h:Reads w B size A n xs):Reads w.drew B size A n xs:=h
theorem Reads.len (h:Reads w B 1 A n xs):xs.length=n:=by simpa using h.1
theorem Reads.cut (h:Reads w B 1 A n xs) (l m cap:Nat) (hl:l<=m) (hm:m<=n) (hc:n<=cap) :
 Reads w B 1 (if cap=l then A else A.map (·.add l)) (m - l) ((xs.take m).drop l):=by
 have h0:=h.len
 refine⟨by simp;omega,fun hn=>?_⟩
 simp at hn
 obtain⟨b,off,rfl,hb,hcell⟩:=h.2 (by omega)
 rw[if_neg (by omega)]
 refine⟨b,off+l,by simp[Addr.add_lit],hb,fun j u hu=>?_⟩
 rw[List.getElem?_drop] at hu
 have hj:l+j<m:=by
  have:=(List.getElem?_eq_some_iff.1 hu).1
  simp at this;omega
 rw[List.getElem?_take_of_lt hj] at hu
 rw[Nat.add_assoc]
 exact hcell _ u hu
theorem Reads.of_own {base:Nat} {e:TypeId} {c:Nat} (h:w.ownsRow base e size (.slice A n c) n xs):Reads w w.heap.size size A n xs:=by
 refine⟨h.1,fun hn=>?_⟩
 rcases h.2 with ⟨_,rfl⟩|⟨g,cap,cur,hv,_,hg,_,_,_,hx⟩
 · have:=h.1;simp at this;subst this;simp at hn
 · injection hv with hA
   subst hA
   refine⟨g,0,rfl,?_,fun j u hu=>?_⟩
   · exact (Array.getElem?_eq_some_iff.1 hg).1
   · have:=h.cells (g:=g) rfl j u hu
     simpa [Addr.add_lit] using this
end
theorem mut_refl (w:World) (row:Option Nat):w.grownBy w row:=World.grownBy.refl w row
theorem mut_alloc {a w:World} {row:Option Nat} (h:a.grownBy w row) (o:Obj):a.grownBy (w.alloc o) row :=
 ⟨h.os,h.tape,h.output,Nat.le_trans h.size (by simp),fun i hi hne=>(Below.heap_alloc w o i (Nat.lt_of_lt_of_le hi h.size)).trans (h.block i hi hne)⟩
theorem mut_set {a w:World} {g:Nat} (h:a.grownBy w (some g)) {p:Addr} (hp:p.block=g) (u:Value):a.grownBy (w.setCell p u) (some g) :=
 ⟨h.os,h.tape,h.output,by simpa [World.setCell] using h.size,fun i hi hne=>(Below.heap_setCell w p u i (by rintro rfl;exact hne (by rw[hp]))).trans (h.block i hi hne)⟩
theorem mut_new {a w:World} {row:Option Nat} (h:a.grownBy w row) {p:Addr} (hp:a.heap.size<=p.block) (u:Value):a.grownBy (w.setCell p u) row :=
 ⟨h.os,h.tape,h.output,by simpa [World.setCell] using h.size,fun i hi hne=>(Below.heap_setCell w p u i (by omega)).trans (h.block i hi hne)⟩
theorem mut_of_below {a w:World} (h:Below a.heap.size a w) (row:Option Nat):a.grownBy w row:=⟨h.os,h.tape,h.output,h.size,fun i hi _=>h.block i hi⟩
theorem mut_trans {a b c:World} {row:Option Nat} (h:a.grownBy b row) (k:b.grownBy c row):a.grownBy c row:=h.trans k
theorem below_of_mut {a w:World} {g B:Nat} (h:a.grownBy w (some g)) (hB:B<=g) (hz:B<=a.heap.size):Below B a w :=
 ⟨h.os,h.tape,h.output,h.size,fun i hi=>h.block i (by omega) (by intro e;injection e with e;omega)⟩
def bys (l:List UInt8):List Value:=l.map fun b=>.int .u8 (b.toNat:Int)
@[simp] theorem bys_length (l:List UInt8):(bys l).length=l.length:=by simp[bys]
theorem bys_append (a b:List UInt8):bys (a++b)=bys a++bys b:=by simp[bys]
theorem bys_one (l:List UInt8):∀ u∈bys l,u.oneCell'=true:=by
 intro u hu
 obtain⟨_,_,rfl⟩:=List.mem_map.1 hu
 rfl
theorem bys_get (l:List UInt8) (j:Nat) (h:j<l.length):(bys l)[j]?=some (.int .u8 (l[j].toNat:Int)):=by simp[bys,h]
theorem Reads.pre {w:World} {B:Nat} {A:Option Addr} {n:Nat} {l:List UInt8} (h:Reads w B 1 A n (bys l)) (k:Nat) (hk:k<=n):Reads w B 1 A k (bys (l.take k)):=by
 have hl:l.length=n:=by simpa using h.len
 refine⟨by simp;omega,fun h0=>?_⟩
 simp at h0
 obtain⟨b,off,e,hb,hc⟩:=h.2 (by simp;omega)
 refine⟨b,off,e,hb,fun j u hu=>hc j u ?_⟩
 rw[<- hu]
 unfold bys
 rw[List.map_take,List.getElem?_take_of_lt]
 have:=(List.getElem?_eq_some_iff.1 hu).1
 simp at this;omega
theorem Reads.post {w:World} {B:Nat} {A A':Option Addr} {n:Nat} {l:List UInt8} (h:Reads w B 1 A n (bys l)) (k:Nat) (hA:k<n->A'=A.map (·.add k)):Reads w B 1 A' (n - k) (bys (l.drop k)):=by
 have hl:l.length=n:=by simpa using h.len
 refine⟨by simp;omega,fun h0=>?_⟩
 simp at h0
 obtain⟨b,off,rfl,hb,hc⟩:=h.2 (by simp;omega)
 refine⟨b,off+k,by rw[hA (by omega)];simp[Addr.add_lit],hb,fun j u hu=>?_⟩
 rw[Nat.add_assoc]
 refine hc _ u ?_
 rw[<- hu]
 unfold bys
 rw[List.map_drop,List.getElem?_drop]
theorem run_str {P:Program} (w:World) (src dst e:TypeId) (hs:P.underlying src=some (.slice e)) (he:P.underlying e=some (.int .u8)) (hd:P.underlying dst=some .string)
 (B:Nat) (A:Option Addr) (n c:Nat) (l:List UInt8) (hR:Reads w B 1 A n (bys l)):(convert src dst (.slice A n c)).run P w=.ok (.string ⟨l.toArray⟩) w:=by
 have hl:l.length=n:=by simpa using hR.len
 rcases A with _|ad
 · have h0:l=[]:=by
    rcases Nat.eq_zero_or_pos l.length with h|h
    · exact List.eq_nil_of_length_eq_zero h
    · obtain⟨b,off,e,_⟩:=hR.2 (by simpa using h)
      cases e
   subst h0
   exact run_convert_bytes_nil w src e hs he _ _ dst hd
 · have hc:∀ j (hj:j<l.length),w.cell? (ad.add j)=some (.int .u8 (l[j].toNat:Int)):=by
    intro j hj
    obtain⟨b,off,e,_,hcell⟩:=hR.2 (by simp;omega)
    injection e with e
    subst e
    rw[Addr.add_lit]
    exact hcell j _ (bys_get l j hj)
   rw[<- hl]
   exact run_convert_bytes_back w src dst e ad c l hs he hd hc
abbrev Own (w:World) (base:Nat) (e:TypeId) (v:Value) (l:List UInt8):Prop:=w.ownsRow base e 1 v l.length (bys l)
theorem own_base {w:World} {base base':Nat} {e:TypeId} {v:Value} {l l':List UInt8} (hb:base<=base') (h:Own w base' e v l) (hl:l=l':=by simp):Own w base e v l':=by
 subst hl
 refine⟨h.1,h.2.imp id ?_⟩
 rintro ⟨g,cap,cur,h1,h2,h3⟩
 exact⟨g,cap,cur,h1,by omega,h3⟩
theorem own_below {w w':World} {base B:Nat} {e:TypeId} {v:Value} {l:List UInt8} (_:B<=w.heap.size) (h:Own w base e v l) (hb:Below w.heap.size w w'):Own w' base e v l:=by
 refine⟨h.1,h.2.imp id ?_⟩
 rintro ⟨g,cap,cur,h1,h2,h3,h4⟩
 exact⟨g,cap,cur,h1,h2,(hb.block g (Array.getElem?_eq_some_iff.1 h3).1).trans h3,h4⟩
theorem own_of_block {w:World} {base g cap:Nat} {e:TypeId} {xs rest:List Value} {n:Nat} (hb:base<=g) (hg:w.heap[g]?=some (.cells (xs++rest).toArray e (0,0))) (hn:xs.length=n) (hc:n+rest.length=cap) (hm:cap<=maxLen) :
 w.ownsRow base e 1 (.slice (some ⟨g,0,none⟩) n cap) n xs :=
 ⟨by simp[hn],.inr ⟨g,cap,_,rfl,hb,hg,by omega,hm,by simp;omega,by simp[hn]⟩⟩
theorem Own.slice {w:World} {base:Nat} {e:TypeId} {v:Value} {l:List UInt8} (h:Own w base e v l):∃ A c,v=.slice A l.length c/\Reads w w.heap.size 1 A l.length (bys l):=by
 have h':=h
 rcases h.2 with ⟨rfl,h0⟩|⟨g,cap,cur,rfl,_⟩
 · obtain rfl:l=[]:=List.eq_nil_of_length_eq_zero h0
   exact⟨none,0,rfl,Reads.of_own h'⟩
 · exact⟨_,_,rfl,Reads.of_own h'⟩
def Blk (w:World) (g:Nat) (t:TypeId) (cs:Array Value):Prop:=w.heap[g]?=some (.cells cs t (0,0))
section
variable {w w':World} {g:Nat} {t:TypeId} {cs:Array Value}
theorem Blk.lt (h:Blk w g t cs):g<w.heap.size:=(Array.getElem?_eq_some_iff.1 h).1
theorem Blk.cell (h:Blk w g t cs) (i:Nat):w.cell? ⟨g,i,none⟩=cs[i]?:=cell_of_row w g i cs t (0,0) h
theorem Blk.frozen (h:Blk w g t cs) (i:Nat):w.frozen? ⟨g,i,none⟩=false:=by
 unfold Blk at h
 simp[World.frozen?,h]
theorem Blk.new (w:World) (t:TypeId) (cs:Array Value):Blk (w.alloc (.cells cs t)) w.heap.size t cs:=heap_alloc_new w _
theorem Blk.drew (h:Blk w g t cs):Blk w.drew g t cs:=h
theorem Blk.alloc (h:Blk w g t cs) (o:Obj):Blk (w.alloc o) g t cs:=(Below.heap_alloc w o g h.lt).trans h
theorem Blk.set_ (h:Blk w g t cs) (i:Nat) (u:Value):Blk (w.setCell ⟨g,i,none⟩ u) g t (cs.setIfInBounds i u):=by
 unfold Blk at h ⊢
 simp[World.setCell,Array.getElem?_modify,h]
theorem Blk.far (h:Blk w g t cs) {p:Addr} (hp:g≠p.block) (u:Value):Blk (w.setCell p u) g t cs:=(Below.heap_setCell w p u g hp).trans h
theorem Blk.grown {row:Option Nat} (h:Blk w g t cs) (hb:w.grownBy w' row) (hg:some g≠row):Blk w' g t cs:=(hb.block g h.lt hg).trans h
theorem Blk.below {B:Nat} (h:Blk w g t cs) (hb:Below B w w') (hg:g<B):Blk w' g t cs:=(hb.block g hg).trans h
end
theorem wp_scope_fwd {P:Program} {a:Act} {w:World} {Q:Exit->Act->World->Prop} {c rest:Code} (l:Nat) (hf:findLabel c l=some rest)
 (first:c.wp P (Exit.jump l (fun a w=>rest.wp P (Exit.noGoto Q) a w) Q) a w):(Code.scope c).wp P Q a w:=by
 refine wp_scope_jumps l _ (fun _ _=>0) hf first ?_
 intro a w h
 refine wp_mono h ?_
 intro e a w he
 cases e <;> first|exact he|exact False.elim he
structure SliceT (P:Program) (t e:TypeId) (z:Value) (size bytes:Nat):Prop where
 und:P.underlying t=some (.slice e)
 info:(P.info? e).map (fun i=>(i.zero,i.size,i.bytes))=some (some z,size,bytes)
 zsz:z.cells.size=size
 pos:0<size
theorem SliceT.fit {P:Program} {t e:TypeId} {z:Value} {size bytes:Nat} (h:SliceT P t e z size bytes) :
 ∃ i,P.info? e=some i/\i.zero=some z/\i.size=size/\i.bytes=bytes:=info_parts h.info
section
variable {P:Program}
theorem run_app (w:World) (base:Nat) (t ty e:TypeId) (z:Value) (size bytes:Nat) (T:SliceT P t e z size bytes) (v:Value) (n:Nat) (xs:List Value) (hown:w.ownsRow base e size v n xs)
 (B:Nat) (A:Option Addr) (m c:Nat) (news:List Value) (hr:Reads w B size A m news) (h1:∀ u∈news,u.oneCell'=true)
 (hbytes:(n+m) * (bytes+1)<=140737488355328) (hbase:base<=w.heap.size) :
 ∃ v' w',(Builtin.append_ #[t,t] ty #[v,.slice A m c]).run P w=.ok v' w'/\w'.ownsRow base e size v' (n+m) (xs++news)/\w.grownBy w' v.ownBlock /\
   (v'.ownBlock=v.ownBlock∨v'.ownBlock=some w.heap.size)/\Below base w w':=by
 obtain⟨i,hi,hz0,hz1,hz2⟩:=T.fit
 have hsz:=T.pos
 have hB2:(n+m) * bytes<=140737488355328:=Nat.le_trans (Nat.mul_le_mul_left _ (Nat.le_succ _)) hbytes
 have hB3:n+m<=140737488355328:=Nat.le_trans (Nat.le_mul_of_pos_right _ (by omega)) hbytes
 rcases Nat.eq_zero_or_pos news.length with h0|h0
 · obtain rfl:news=[]:=List.eq_nil_of_length_eq_zero h0
   have hm:m=0:=by
    have:=hr.1
    simp only[List.length_nil] at this
    rcases Nat.eq_zero_or_pos m with h|h
    · exact h
    · have:=Nat.mul_pos h hsz;omega
   subst hm
   rcases A with _|ad
   · refine⟨v,w,?_,by simpa using hown,World.grownBy.refl w _,.inl rfl,Below.refl _ _⟩
     rcases hown.2 with ⟨rfl,rfl⟩|⟨g,cap,cur,rfl,_,_,hnc,_⟩
     · simp[Builtin.append_,run_underlying T.und,sizeOf,typeInfo,hi,Builtin.lenOf,Builtin.firstCells]
     · simp[Builtin.append_,run_underlying T.und,sizeOf,typeInfo,hi,Builtin.lenOf,Builtin.firstCells,hnc,storeCells]
   · obtain⟨v',w',hrun,h2,h3,_,h5⟩:=run_append_own_at (P:=P) w base t ty e i z size bytes T.und hi hz0 hz1 hz2 T.zsz hsz v n xs hown ad 0 c [] (by simp) (by simp) (by simp) (by unfold maxLen;omega) hB2 hbase
     exact⟨v',w',hrun,h2,h3,h5,(Below.refl _ _).grown h3 hbase fun k hk=>(hown.lt k hk).1⟩
 · obtain⟨b,off,rfl,_,hc⟩:=hr.2 h0
   obtain⟨v',w',hrun,h2,h3,_,h5⟩:=run_append_own_at (P:=P) w base t ty e i z size bytes T.und hi hz0 hz1 hz2 T.zsz hsz v n xs hown ⟨b,off,none⟩ m c news hr.1 (fun j u hu=>by rw[Addr.add_lit];exact hc j u hu) h1 (by unfold maxLen;omega) hB2 hbase
   exact⟨v',w',hrun,h2,h3,h5,(Below.refl _ _).grown h3 hbase fun k hk=>(hown.lt k hk).1⟩
theorem wpList_app {w:World} {ops:Array Oper} {rest:List Oper} {o:Oper} {a:Act} {Q:Exit->Act->World->Prop} (hgd:o.guard=none) (s x:Operand) (t:TypeId)
 (ho:o.op=.call { callee:=.builtin .append,args:=#[s,x],argTypes:=#[t,t] })
 (base:Nat) (e:TypeId) (z:Value) (size bytes:Nat) (T:SliceT P t e z size bytes) (v:Value) (n:Nat) (xs:List Value) (hs:a.eval s=v) (hown:w.ownsRow base e size v n xs)
 (B:Nat) (A:Option Addr) (m c:Nat) (news:List Value) (hx:a.eval x=.slice A m c) (hr:Reads w B size A m news) (h1:∀ u∈news,u.oneCell'=true)
 (hbytes:(n+m) * (bytes+1)<=140737488355328) (hbase:base<=w.heap.size)
 (h:∀ v' w',w'.ownsRow base e size v' (n+m) (xs++news)->w.grownBy w' v.ownBlock->(v'.ownBlock=v.ownBlock∨v'.ownBlock=some w.heap.size)->Below base w w'->wpList P ops Q rest (a.put o.dst v') w') :
 wpList P ops Q (o :: rest) a w:=by
 refine wpList_plain hgd fun K hK=>?_
 obtain⟨v',w',hrun,h2,h3,h4,h5⟩:=run_app w base t o.type e z size bytes T v n xs hown B A m c news hr h1 hbytes hbase
 unfold Oper.wp execOp
 simp only[ho,resolve,invoke,builtin,Sem.run_bind,Sem.run_pure,Result.andThen_ok,List.map_toArray,List.map_cons,List.map_nil,hs,hx,hrun]
 exact hK _ _ (h v' w' h2 h3 h4 h5)
theorem Reads.new (w:World) (cs:List Value) (t:TypeId) (size n:Nat) (h:cs.length=n * size):Reads (w.alloc (.cells cs.toArray t)) (w.heap.size+1) size (some ⟨w.heap.size,0,none⟩) n cs :=
 ⟨h,fun _=>⟨w.heap.size,0,rfl,by omega,fun j u hu=>by
  have h1:=heap_alloc_new w (.cells cs.toArray t)
  simp only[World.cell?,h1]
  simpa using hu⟩⟩
end
theorem infoU8:(Tryz.prog.info? 5).map (fun i=>(i.zero,i.size,i.bytes))=some (some (.int .u8 0),1,1):=by kernel_rfl
theorem own_calls (A:Option Addr) (n c:Nat) (l:List UInt8) (more:Int) (w:World) (B:Nat) (hR:Reads w B 1 A n (bys l)) (hB:B<=w.heap.size) (hn:n<=1099511627776) (hm0:0<=more) (hm1:more<=1099511627776) :
 Calls Tryz.prog 141 #[.slice A n c,.int .i64 more] w fun e w' =>
  ∃ g cap,e=.returned (.slice (some ⟨g,0,none⟩) n cap)/\w'.ownsRow w.heap.size 5 1 (.slice (some ⟨g,0,none⟩) n cap) n (bys l)/\Below w.heap.size w w'/\n<=cap/\cap<=2199023255552:=by
 obtain⟨m,rfl⟩:=Int.eq_ofNat_of_zero_le hm0
 obtain⟨i,hi,hz0,hz1,hz2⟩:=info_parts infoU8
 have hmk:∀ W:World,(Instr.makeSlice 62 (.int .i64 (n:Int)) (.int .i64 ((n:Int)+(m:Int)))).run Tryz.prog W=.ok (.slice (some ⟨W.heap.size,0,none⟩) n (n+m)) (W.alloc (.cells (madeCells #[.int .u8 0] (n+m)) 5)):=by
  intro W
  have h:=run_make (P:=Tryz.prog) W 62 5 i (.int .u8 0) Tryz.underlying62 hi hz0 .i64 .i64 (n:Int) ((n:Int)+(m:Int)) (by omega) (by omega) (by rw[hz2];omega) (by omega)
  rw[hz1] at h
  simpa [Value.cells,show ((n:Int)+(m:Int)).toNat=n+m from by omega] using h
 go_enter Tryz.func141,Tryz.ntmps141
 go_wp2_with (with_reducible refine wpList_copy_splice rfl (.tmp 13) (.tmp 14) 62 62 rfl 5 Tryz.underlying62 (by rw[hi];simp[hz1]) _ A _ _ _ _ rfl rfl w.heap.size 0 (List.replicate (n+m) (.int .u8 0)) 5 ?hg (bys l) ?hn ?hpos ?hfit (bys_one l) w.heap.size w ?hb (Nat.le_refl _) ?_)
 case hg=>rw[heap_alloc_new,<- toList_madeCells_one]
 case hn=>rw[hR.len];simp
 case hpos =>
  intro h0
  obtain⟨b,off,rfl,hb,hc⟩:=hR.2 (by simpa using h0)
  refine⟨_,rfl,fun j v hj=>?_⟩
  rw[Addr.add_lit,World.cell?_alloc_lt _ _ _ (by simp;omega)]
  exact hc j v hj
 case hfit=>rw[hR.len];simp
 case hb=>exact (Below.refl _ _).alloc (Nat.le_refl _) _
 intro w2 HG hb2
 go_wp2
 go_ret
 refine⟨_,_,rfl,?_,hb2,by omega,by omega⟩
 have h2:=HG.out
 have hl:=hR.len
 rw[show splice (List.replicate (n+m) (Value.int .u8 0)) 0 (bys l)=bys l++List.replicate m (Value.int .u8 0) from by simp only[splice];simp[show l.length=n from by simpa using hl]] at h2
 exact own_of_block (Nat.le_refl _) h2 hl (by simp) (by unfold maxLen;omega)
def longN (n:Nat):Nat:=if n=0 then 0 else longN (n / 256)+1
decreasing_by omega
theorem longN_zero:longN 0=0:=by unfold longN;simp
theorem longN_pos (n:Nat) (h:0<n):longN n=longN (n / 256)+1:=by rw[longN];simp;omega
theorem longN_lt (k:Nat):∀ n,n<256 ^ k->longN n<=k:=by
 induction k with
 | zero => intro n h;have:n=0:=by simpa using h
           subst this;simp[longN_zero]
 | succ k ih =>
   intro n h
   rcases Nat.eq_zero_or_pos n with h0|h0
   · subst h0;simp[longN_zero]
   · rw[longN_pos n h0]
     have:=ih (n / 256) (by rw[Nat.pow_succ] at h;omega)
     omega
theorem long_calls (n:Nat) (hn:n<18446744073709551616) (w:World) :
 Calls Tryz.prog 201 #[.int .u64 (n:Int)] w fun e w'=>e=.returned (.int .i64 (longN n:Nat))/\w=w':=by
 have hlong:=longN_lt 8 n (by omega)
 go_enter Tryz.func201,Tryz.ntmps201
 go_wp2_with fail
 go_loop [0,3] (fun x c=>∃ m k:Nat,m<=n/\k+longN m=longN n/\x=.int .u64 (m:Int)/\c=.int .i64 (k:Int)) (fun x _=>(intOf x).toNat)
 case atStart=>exact⟨n,0,Nat.le_refl _,by omega,rfl,rfl⟩
 case round =>
  obtain⟨m,k,hm,hk,rfl,rfl⟩:=hrel
  have Hk:=Lib.hid hk
  have hk8:k<=8:=by omega
  clear hk
  rcases Nat.eq_zero_or_pos m with h0|h0
  · subst h0
    go_wp2
    go_ret
    have e:k=longN n:=by have:=Hk.out;rw[longN_zero] at this;omega
    exact⟨by rw[<- e];rfl,rfl⟩
  · have hb:(0:Int)<(m:Int):=by omega
    go_wp2
    have hl:=longN_pos m h0
    go_round
    case rel=>exact⟨m / 256,k+1,by omega,by have:=Hk.out;omega,by simp,by go_num⟩
    case measure=>simp[intOf];omega
def be:Nat->Nat->List UInt8
 | 0,_=>[]
 | k+1,n=>UInt8.ofNat (n / 256 ^ k) :: be k n
def packN (n:Nat):List UInt8:=UInt8.ofNat (longN n) :: be (longN n) n
theorem be_length (k n:Nat):(be k n).length=k:=by
 induction k generalizing n with
 | zero=>rfl
 | succ k ih=>simp[be,ih]
theorem be_get (N n k:Nat) (h:k<N):(be N n)[k]?=some (UInt8.ofNat (n / 256 ^ (N - 1 - k))):=by
 induction N generalizing k with
 | zero=>omega
 | succ N ih =>
   cases k with
   | zero=>simp[be]
   | succ k =>
     rw[be,List.getElem?_cons_succ,ih k (by omega)]
     congr 4
     omega
theorem be_take (N n k:Nat) (h:k<N):(be N n).take (k+1)=(be N n).take k++[UInt8.ofNat (n / 256 ^ (N - 1 - k))]:=by
 rw[List.take_add_one,be_get N n k h];rfl
theorem byte_cell (n j:Nat):((n:Int) / 2 ^ (8 * j) % 256)=((UInt8.ofNat (n / 256 ^ j)).toNat:Int):=by
 rw[show (256:Nat) ^ j=2 ^ (8 * j) by rw[Nat.pow_mul]]
 simp
theorem packN_len (n:Nat) (h:n<18446744073709551616):(packN n).length<=9:=by
 have:=longN_lt 8 n (by omega)
 simp[packN,be_length];omega
theorem TB:SliceT Tryz.prog 62 5 (.int .u8 0) 1 1:=⟨Tryz.underlying62,infoU8,rfl,by decide⟩
theorem number_calls (v:Value) (l:List UInt8) (n:Nat) (hn:n<18446744073709551616) (w:World) (base:Nat) (hown:Own w base 5 v l) (hbase:base<=w.heap.size) (hl:l.length<=1099511627776) :
 Calls Tryz.prog 140 #[v,.int .u64 (n:Int)] w fun e w' =>
  ∃ v',e=.returned v'/\Own w' base 5 v' (l++packN n)/\Below base w w':=by
 have hlong:=longN_lt 8 n (by omega)
 go_enter Tryz.func140,Tryz.ntmps140
 go_wp2_with fail
 refine (long_calls n hn _).mono ?_
 rintro e w' ⟨rfl,rfl⟩
 generalize hN:longN n=N at *
 have HN:=Lib.hid hN
 clear hN
 have hNu:(UInt8.ofNat N).toNat=N:=by simp;omega
 have HNu:=Lib.hid hNu
 clear hNu
 go_wp2_with (at_builtin;refine wpList_app rfl _ _ 62 rfl base 5 _ 1 1 TB _ _ _ rfl (hown.alloc _) (w.heap.size+1) _ 1 1 (bys [UInt8.ofNat N]) rfl ?c1 ?c2 ?c3 ?c5 ?_)
 case c1 =>
  have:=Reads.new w (bys [UInt8.ofNat N]) 5 1 1 rfl
  simpa [bys,HNu.out] using this
 case c2=>exact bys_one _
 case c3=>omega
 case c5=>simp;omega
 intro v1 w1 hown1 hg1 hat1 hb1
 have hbw:Below base w w1:=((Below.refl _ _).alloc hbase _).trans hb1
 have hown2:Own w1 base 5 v1 (l++[UInt8.ofNat N]):=by
  unfold Own
  rw[bys_append]
  simpa using hown1
 have hz1:base<=w1.heap.size:=Nat.le_trans hbase hbw.size
 clear hown1 hg1 hat1 hb1 hown
 go_wp2_with fail
 go_loopw [0,15] (fun u i wr=>∃ k:Nat,k<=N/\i=.int .i64 (k:Int)/\Own wr base 5 u (l++[UInt8.ofNat N]++(be N n).take k)/\Below base w wr) (fun _ i _=>N - (intOf i).toNat)
 case atStart=>exact⟨0,by omega,rfl,by simpa using hown2,hbw⟩
 case round =>
  obtain⟨k,hk,rfl,hownk,hbk⟩:=hrel
  have hzk:base<=wr.heap.size:=Nat.le_trans hbase hbk.size
  by_cases hlt:k<N
  · have hi:(k:Int)<(N:Int):=by omega
    have hcell:=Lib.hid (byte_cell n (N - 1 - k))
    have htk:=Lib.hid (be_take N n k hlt)
    have hlen:(l++[UInt8.ofNat N]++(be N n).take k).length<=l.length+9:=by
     simp[be_length];omega
    go_wp2_with (at_builtin;refine wpList_app rfl _ _ 62 rfl base 5 _ 1 1 TB _ _ _ rfl (World.ownsRow.alloc hownk _) (wr.heap.size+1) _ 1 1 (bys [UInt8.ofNat (n / 256 ^ (N - 1 - k))]) rfl ?d1 ?d2 ?d3 ?d5 ?_)
    case d1 =>
     have:=Reads.new wr (bys [UInt8.ofNat (n / 256 ^ (N - 1 - k))]) 5 1 1 rfl
     rw[hcell.out]
     exact this
    case d2=>exact bys_one _
    case d3=>omega
    case d5=>simp;omega
    intro v2 w2 hown3 hg3 hat3 hb3
    have hbw2:Below base w w2:=(hbk.alloc hzk _).trans hb3
    have hown4:Own w2 base 5 v2 (l++[UInt8.ofNat N]++(be N n).take (k+1)):=by
     unfold Own
     rw[htk.out,<- List.append_assoc,bys_append]
     simpa [Nat.add_assoc] using hown3
    clear hown3 hg3 hat3 hb3
    go_wp2
    go_roundw
    case rel=>exact⟨k+1,by omega,by go_num,hown4,hbw2⟩
    case measure=>simp[intOf];omega
  · have hge:¬ (k:Int)<(N:Int):=by omega
    have Ho:Hid (Own wr base 5 u0 (l++packN n)):=by
     unfold packN
     rw[HN.out]
     have:(be N n).take k=be N n:=List.take_of_length_le (by rw[be_length];omega)
     rw[this] at hownk
     exact Lib.hid (by simpa using hownk)
    clear hownk
    go_wp2
    go_ret
    exact⟨_,rfl,Ho.out,hbk⟩
theorem Number_calls (A:Option Addr) (m c:Nat) (l:List UInt8) (n:Nat) (hn:n<18446744073709551616) (w:World) (B:Nat) (hR:Reads w B 1 A m (bys l)) (hB:B<=w.heap.size) (hm:m<=1000000000) :
 Calls Tryz.prog 68 #[.slice A m c,.int .u64 (n:Int)] w fun e w' =>
  ∃ v',e=.returned v'/\Own w' w.heap.size 5 v' (l++packN n)/\Below w.heap.size w w':=by
 have hl:l.length=m:=by simpa using hR.len
 go_enter Tryz.func68,Tryz.ntmps68
 go_wp2_with fail
 refine (own_calls A m c l 9 w B hR hB (by omega) (by omega) (by omega)).mono ?_
 rintro e w1 ⟨g,cap,rfl,ho,hb,_,_⟩
 go_wp2_with fail
 refine (number_calls _ l n hn w1 w.heap.size (by unfold Own;rw[hl];exact ho) hb.size (by omega)).mono ?_
 rintro e w2 ⟨v',rfl,ho2,hb2⟩
 go_wp2
 go_ret
 exact⟨_,rfl,ho2,hb.trans hb2⟩
theorem Bytes_calls (A D:Option Addr) (m c k d:Nat) (l b:List UInt8) (w:World) (B:Nat) (hR:Reads w B 1 A m (bys l)) (hS:Reads w B 1 D k (bys b)) (hB:B<=w.heap.size) (hm:m<=1000000000) (hk:k<=1000000000) :
 Calls Tryz.prog 143 #[.slice A m c,.slice D k d] w fun e w' =>
  ∃ v',e=.returned v'/\Own w' w.heap.size 5 v' (l++packN b.length++b)/\Below w.heap.size w w':=by
 have hl:l.length=m:=by simpa using hR.len
 have hb:b.length=k:=by simpa using hS.len
 have hp:=packN_len k (by omega)
 have Hl:=Lib.hid hl
 have Hb:=Lib.hid hb
 clear hl hb
 go_enter Tryz.func143,Tryz.ntmps143
 go_wp2_with fail
 refine (own_calls A m c l (9+k) w B hR hB (by omega) (by omega) (by omega)).mono ?_
 rintro e w1 ⟨g,cap,rfl,ho,hb1,_,_⟩
 go_wp2_with fail
 refine (number_calls _ l k (by omega) w1 w.heap.size (by unfold Own;rw[Hl.out];exact ho) hb1.size (by have:=Hl.out;omega)).mono ?_
 rintro e w2 ⟨v',rfl,ho2,hb2⟩
 have hb12:=hb1.trans hb2
 have hS2:=hS.below hb12 hB
 go_wp2_with (at_builtin;refine wpList_app rfl _ _ 62 rfl w.heap.size 5 _ 1 1 TB _ _ _ rfl ho2 B _ k d (bys b) rfl hS2 (bys_one _) ?d3 hb12.size ?_)
 case d3=>have:=Hl.out;simp;omega
 intro v3 w3 ho3 hg3 hat3 hb3
 go_wp2
 go_ret
 refine⟨_,rfl,?_,hb12.trans hb3⟩
 unfold Own
 rw[bys_append,Hb.out]
 simpa [Hb.out,Nat.add_assoc] using ho3
abbrev byt (s:ByteArray):List UInt8:=s.data.toList
def okV (k n:Int) (s:ByteArray):Bool :=
 if k==1 then s.toList.isEmpty else if k==2 then n==0&&decide ((s.size:Int)<=40) else if k==3 then (n==0||n==1)&&s.toList.isEmpty else false
def chk (k n:Int) (s:ByteArray):Int:=if okV k n s then 0 else 10
def foldI (n:Int):Nat:=if n<0 then (-2 * n - 1).toNat else (2 * n).toNat
def unfoldI (n:Nat):Int:=if n % 2=1 then -((n / 2:Nat):Int) - 1 else ((n / 2:Nat):Int)
theorem fold_calls (n:Int) (w:World) (h0:-9223372036854775808<=n) (h1:n<=9223372036854775807) :
 Calls Tryz.prog 269 #[.int .i64 n] w fun e w'=>e=.returned (.int .u64 (foldI n:Nat))/\w=w':=by
 by_cases hn:n<0
 · have e:(foldI n:Int)=-2 * n - 1:=by simp[foldI,hn];omega
   have HE:=Lib.hid e
   clear e
   go_enter Tryz.func269,Tryz.ntmps269
   go_wp2
   go_ret
   refine⟨?_,rfl⟩
   rw[HE.out]
   show Ending.returned (.int _ _)=Ending.returned (.int _ _)
   congr 2
   all_goals omega
 · have e:(foldI n:Int)=2 * n:=by simp[foldI,hn];omega
   have HE:=Lib.hid e
   clear e
   go_enter Tryz.func269,Tryz.ntmps269
   go_wp2
   go_ret
   refine⟨?_,rfl⟩
   rw[HE.out]
   show Ending.returned (.int _ _)=Ending.returned (.int _ _)
   congr 2
   all_goals omega
theorem unfold_calls (n:Nat) (w:World) (hn:n<18446744073709551616) :
 Calls Tryz.prog 289 #[.int .u64 (n:Int)] w fun e w'=>e=.returned (.int .i64 (unfoldI n))/\w=w':=by
 by_cases hm:n % 2=1
 · have e:unfoldI n=-((n / 2:Nat):Int) - 1:=by simp[unfoldI,hm]
   have HE:=Lib.hid e
   have hb:(((n:Int) % 2)==1)=true:=by simp;omega
   clear e hm
   go_enter Tryz.func289,Tryz.ntmps289
   go_wp2
   go_ret
   refine⟨?_,rfl⟩
   rw[HE.out]
   show Ending.returned (.int _ _)=Ending.returned (.int _ _)
   congr 2
   all_goals omega
 · have e:unfoldI n=((n / 2:Nat):Int):=by simp[unfoldI,hm]
   have HE:=Lib.hid e
   have hb:(((n:Int) % 2)==1)=false:=by simp;omega
   clear e hm
   go_enter Tryz.func289,Tryz.ntmps289
   go_wp2
   go_ret
   refine⟨?_,rfl⟩
   rw[HE.out]
   show Ending.returned (.int _ _)=Ending.returned (.int _ _)
   congr 2
   all_goals omega
theorem Check_calls (k n:Int) (s:ByteArray) (w:World) :
 Calls Tryz.prog 170 #[.agg #[.int .i64 k,.int .i64 n,.string s]] w fun e w'=>e=.returned (.int .i64 (chk k n s))/\Below w.heap.size w w':=by
 go_enter Tryz.func170,Tryz.ntmps170
 go_wp2
 all_goals
  go_ret
  refine⟨?_,(Below.refl _ _).alloc (Nat.le_refl _) _⟩
  show Ending.returned (.int _ _)=Ending.returned (.int _ _)
  simp_all [chk,okV]
abbrev vv (k n:Int) (s:ByteArray):Value:=.agg #[.int .i64 k,.int .i64 n,.string s]
def numV (k n:Int):Nat:=if k=1 then foldI n else (n % 18446744073709551616).toNat
def kindN (k:Int):Nat:=(k % 18446744073709551616).toNat
def packV (k n:Int) (s:ByteArray):List UInt8:=packN (kindN k)++packN (numV k n)++(packN s.size++byt s)
theorem u64_wrap (k:Int):IntKind.u64.wrap k=(kindN k:Int):=by
 unfold kindN
 show k % 2 ^ 64=_
 omega
theorem kindN_lt (k:Int):kindN k<18446744073709551616:=by unfold kindN;omega
theorem foldI_lt (n:Int) (h0:-9223372036854775808<=n) (h1:n<=9223372036854775807):foldI n<18446744073709551616:=by
 unfold foldI;split <;> omega
theorem numV_lt (k n:Int) (h0:-9223372036854775808<=n) (h1:n<=9223372036854775807):numV k n<18446744073709551616:=by
 unfold numV;split
 · exact foldI_lt n h0 h1
 · exact kindN_lt n
theorem Reads.conv (w:World) (s:ByteArray) (c:Nat) (x:Nat×Nat) (e:TypeId):Reads (w.alloc (.cells (bytesRow s c) e x)) (w.heap.size+1) 1 (some ⟨w.heap.size,0,none⟩) s.size (bys (byt s)) :=
 ⟨by simp,fun _=>⟨w.heap.size,0,rfl,by omega,fun j u hu=>by
  have h1:=heap_alloc_new w (.cells (bytesRow s c) e x)
  simp only[World.cell?,h1]
  have hj:j<s.data.size:=by
   have:=(List.getElem?_eq_some_iff.1 hu).1
   simpa using this
  have hj':j<s.size:=hj
  simp[bytesRow,Array.getElem?_append,hj']
  simp[bys] at hu
  obtain⟨a,ha,rfl⟩:=hu
  rw[Array.getElem?_eq_getElem hj] at ha
  injection ha with ha
  rw[ha]⟩⟩
theorem Value_calls (A:Option Addr) (m c:Nat) (l:List UInt8) (k n:Int) (s:ByteArray) (w:World) (B:Nat) (hR:Reads w B 1 A m (bys l)) (hB:B<=w.heap.size) (hm:m<=900000000) (hs:s.size<=900000000)
 (h0:-9223372036854775808<=n) (h1:n<=9223372036854775807) :
 Calls Tryz.prog 241 #[.slice A m c,vv k n s] w fun e w' =>
  ∃ v',e=.returned v'/\Own w' w.heap.size 5 v' (l++packV k n s)/\Below w.heap.size w w':=by
 have hnl:=numV_lt k n h0 h1
 have hkl:=kindN_lt k
 have hfl:=packN_len _ hkl
 have hgl:=packN_len _ hnl
 have hpl:=packN_len s.size (by omega)
 have hml:l.length=m:=by simpa using hR.len
 have Hml:=Lib.hid hml
 clear hml
 generalize hNV:numV k n=NV at *
 generalize hKN:kindN k=KN at *
 have HNV:=Lib.hid hNV
 have HKN:=Lib.hid hKN
 clear hNV hKN
 have hcv:=fun W=>run_bytes_of_string (P:=Tryz.prog) W 9 62 5 s Tryz.underlying9 Tryz.underlying62 Tryz.underlying5
 have hbox:Below w.heap.size w (w.alloc (.cells #[.int .i64 k,.int .i64 n,.string s] 85)):=(Below.refl _ _).alloc (Nat.le_refl _) _
 by_cases hk:k=1
 rotate_left
 · have hkb:(k==1)=false:=by simpa using hk
   have HF:Hid (kindN n=NV):=by rw[<- HNV.out];exact Lib.hid (by simp[numV,hk];rfl)
   clear hk
   go_enter Tryz.func241,Tryz.ntmps241
   go_wp2_with fail
   rw[u64_wrap n,HF.out]
   rw[u64_wrap k,HKN.out]
   refine (Number_calls A m c l KN hkl _ B (hR.below hbox hB) (by simp;omega) (by omega)).mono ?_
   rintro e w1 ⟨v1,rfl,ho1,hb1⟩
   have hx1:=(Blk.new w 85 #[.int .i64 k,.int .i64 n,.string s]).below hb1 (by simp)
   have hc2:=hx1.cell 2
   simp at hc2
   obtain⟨A1,c1,rfl,hR1⟩:=ho1.slice
   have hl1:(l++packN KN).length<=m+9:=by have:=Hml.out;simp;omega
   generalize hm1:(l++packN KN).length=m1 at *
   clear hm1 ho1
   have hz1:=hb1.size
   simp only[World.size_alloc] at hz1
   go_wp2_with fail
   refine (Number_calls A1 m1 c1 _ NV hnl w1 w1.heap.size hR1 (Nat.le_refl _) (by omega)).mono ?_
   rintro e w2 ⟨v2,rfl,ho2,hb2⟩
   have hx2:=hx1.below hb2 (by omega)
   have hc3:=hx2.cell 2
   simp at hc3
   clear hc2 hx1 hR1
   obtain⟨A2,c2,rfl,hR2⟩:=ho2.slice
   have hl2:(l++packN KN++packN NV).length<=m+18:=by have:=Hml.out;simp;omega
   generalize hm2:(l++packN KN++packN NV).length=m2 at *
   clear hm2 ho2
   have hz2:=hb2.size
   go_wp2_with fail
   have hcb:Below w2.heap.size w2 (w2.drew.alloc (.cells (bytesRow s (grownCap w2 s.size 0 5)) 5 ((bytesRow s (grownCap w2 s.size 0 5)).size,(bytesRow s (grownCap w2 s.size 0 5)).size+1))):=((Below.refl _ w2).drew).alloc (Nat.le_refl _) _
   refine (Bytes_calls A2 _ m2 c2 s.size _ _ (byt s) _ (w2.heap.size+1) ((hR2.below hcb (Nat.le_refl _)).more (by omega)) (Reads.conv w2.drew s _ _ _) (by simp) (by omega) (by omega)).mono ?_
   rintro e w3 ⟨v3,rfl,ho3,hb3⟩
   go_wp2
   go_ret
   refine⟨_,rfl,?_,?_⟩
   · unfold packV
     rw[HKN.out,HNV.out]
     refine own_base ?_ ho3
     simp;omega
   · exact ((hbox.trans (hb1.mono (by simp))).trans (hb2.mono (by omega))).trans ((hcb.mono (by omega)).trans (hb3.mono (by simp;omega)))
 · have hkb:(k==1)=true:=by simpa using hk
   have HF:Hid (foldI n=NV):=by rw[<- HNV.out];exact Lib.hid (by simp[numV,hk])
   clear hk
   go_enter Tryz.func241,Tryz.ntmps241
   go_wp2_with fail
   refine (fold_calls n _ h0 h1).mono ?_
   rintro e w' ⟨rfl,rfl⟩
   rw[HF.out]
   go_wp2_with fail
   rw[u64_wrap k,HKN.out]
   refine (Number_calls A m c l KN hkl _ B (hR.below hbox hB) (by simp;omega) (by omega)).mono ?_
   rintro e w1 ⟨v1,rfl,ho1,hb1⟩
   have hx1:=(Blk.new w 85 #[.int .i64 k,.int .i64 n,.string s]).below hb1 (by simp)
   have hc2:=hx1.cell 2
   simp at hc2
   obtain⟨A1,c1,rfl,hR1⟩:=ho1.slice
   have hl1:(l++packN KN).length<=m+9:=by have:=Hml.out;simp;omega
   generalize hm1:(l++packN KN).length=m1 at *
   clear hm1 ho1
   have hz1:=hb1.size
   simp only[World.size_alloc] at hz1
   go_wp2_with fail
   refine (Number_calls A1 m1 c1 _ NV hnl w1 w1.heap.size hR1 (Nat.le_refl _) (by omega)).mono ?_
   rintro e w2 ⟨v2,rfl,ho2,hb2⟩
   have hx2:=hx1.below hb2 (by omega)
   have hc3:=hx2.cell 2
   simp at hc3
   clear hc2 hx1 hR1
   obtain⟨A2,c2,rfl,hR2⟩:=ho2.slice
   have hl2:(l++packN KN++packN NV).length<=m+18:=by have:=Hml.out;simp;omega
   generalize hm2:(l++packN KN++packN NV).length=m2 at *
   clear hm2 ho2
   have hz2:=hb2.size
   go_wp2_with fail
   have hcb:Below w2.heap.size w2 (w2.drew.alloc (.cells (bytesRow s (grownCap w2 s.size 0 5)) 5 ((bytesRow s (grownCap w2 s.size 0 5)).size,(bytesRow s (grownCap w2 s.size 0 5)).size+1))):=((Below.refl _ w2).drew).alloc (Nat.le_refl _) _
   refine (Bytes_calls A2 _ m2 c2 s.size _ _ (byt s) _ (w2.heap.size+1) ((hR2.below hcb (Nat.le_refl _)).more (by omega)) (Reads.conv w2.drew s _ _ _) (by simp) (by omega) (by omega)).mono ?_
   rintro e w3 ⟨v3,rfl,ho3,hb3⟩
   go_wp2
   go_ret
   refine⟨_,rfl,?_,?_⟩
   · unfold packV
     rw[HKN.out,HNV.out]
     refine own_base ?_ ho3
     simp;omega
   · exact ((hbox.trans (hb1.mono (by simp))).trans (hb2.mono (by omega))).trans ((hcb.mono (by omega)).trans (hb3.mono (by simp;omega)))
def Rd (w:World) (g:Nat) (l:List UInt8) (wr:Bool):Prop :=
 ∃ A c,Blk w g 270 #[.slice A l.length c,.bool wr]/\Reads w g 1 A l.length (bys l)/\l.length<=c/\c<=2199023255552
def ofBe (l:List UInt8):Nat:=l.foldl (fun n b=>n * 256+b.toNat) 0
def rdN (l:List UInt8) (wr:Bool):Nat×List UInt8×Bool :=
 match l with
 | []=>(0,l,true)
 | b :: r =>
   if wr||decide (8<b.toNat)||decide (r.length<b.toNat)||(decide (0<b.toNat)&&r.head?==some 0) then (0,l,true)
   else (ofBe (r.take b.toNat),r.drop b.toNat,false)
theorem New_calls (A:Option Addr) (n c:Nat) (l:List UInt8) (w:World) (B:Nat) (hR:Reads w B 1 A n (bys l)) (hB:B<=w.heap.size) (hn:n<=1000000000) :
 Calls Tryz.prog 145 #[.slice A n c] w fun e w' =>
  ∃ g,e=.returned (.pointer (some ⟨g,0,none⟩))/\w.heap.size<=g/\Rd w' g l false/\Below w.heap.size w w':=by
 have hl:l.length=n:=by simpa using hR.len
 subst hl
 go_enter Tryz.func145,Tryz.ntmps145
 go_wp2_with fail
 refine (own_calls A _ c l 0 w B hR hB (by omega) (by omega) (by omega)).mono ?_
 rintro e w1 ⟨g,cap,rfl,ho,hb,hc1,hc2⟩
 go_wp2
 go_ret
 refine⟨w1.heap.size,rfl,hb.size,⟨_,_,Blk.new _ _ _,?_,?_,?_⟩,hb.alloc hb.size _⟩
 · exact (Reads.of_own ho).below (Below.alloc (Below.refl _ _) (Nat.le_refl _) _) (Nat.le_refl _)
 · exact hc1
 · exact hc2
theorem len0 (l:List UInt8):((l.length:Int)==0)=l.isEmpty:=by cases l <;> simp;omega
theorem Done_calls (g:Nat) (l:List UInt8) (wr:Bool) (w:World) (h:Rd w g l wr) :
 Calls Tryz.prog 154 #[.pointer (some ⟨g,0,none⟩)] w fun e w'=>e=.returned (.bool (!wr&&l.isEmpty))/\w=w':=by
 obtain⟨A,c,hb,hr,h1,h2⟩:=h
 have hc:=hb.cell 1
 have hc0:=hb.cell 0
 simp at hc hc0
 cases wr
 · go_enter Tryz.func154,Tryz.ntmps154
   go_wp2
   go_ret
   exact⟨by show Ending.returned (.bool _)=_;rw[len0];rfl,rfl⟩
 · go_enter Tryz.func154,Tryz.ntmps154
   go_wp2
   go_ret
   exact⟨rfl,rfl⟩
def Went (g:Nat) (l:List UInt8) (wr:Bool) (w w':World):Prop:=Rd w' g l wr/\w.grownBy w' (some g)
theorem RNumber_wrong (g:Nat) (l:List UInt8) (wr:Bool) (w:World) (h:Rd w g l wr) (hw:(rdN l wr).2.2=true) :
 Calls Tryz.prog 147 #[.pointer (some ⟨g,0,none⟩)] w fun e w'=>e=.returned (.int .u64 0)/\Went g l true w w':=by
 obtain⟨A,c,hb,hr,h1,h2⟩:=h
 have hc:=hb.cell 1
 have hc0:=hb.cell 0
 have hf1:=hb.frozen 1
 simp at hc hc0
 have hend:∀ W:World,W=w.setCell ⟨g,1,none⟩ (.bool true)->Went g l true w W:=by
  rintro W rfl
  refine⟨⟨A,c,hb.set_ 1 _,?_,h1,h2⟩,mut_set (mut_refl _ _) rfl _⟩
  exact hr.keep fun k hk=>Below.heap_setCell w _ _ k (by simp;omega)
 cases wr
 · cases l with
   | nil =>
     go_enter Tryz.func147,Tryz.ntmps147
     go_wp2
     refine wp_scope_fwd 0 rfl ?_
     go_wp2
     go_step3
     refine⟨rfl,?_⟩
     go_wp2
     rw[Exit.noGoto_ret]
     go_ret
     exact⟨rfl,hend _ rfl⟩
   | cons b r =>
     obtain⟨bb,off,rfl,hbb,hcell⟩:=hr.2 (by simp)
     have hc1:w.cell? ⟨bb,off,none⟩=some (.int .u8 (b.toNat:Int)):=hcell 0 _ (by simp[bys])
     simp only[List.length_cons] at hc0 h1 hb
     have h256:b.toNat<256:=b.toNat_lt
     by_cases h8:8<b.toNat
     · have h8':(8:Int)<(b.toNat:Int):=by omega
       go_enter Tryz.func147,Tryz.ntmps147
       go_wp2
       refine wp_scope_fwd 0 rfl ?_
       go_wp2
       go_step3
       refine⟨rfl,?_⟩
       go_wp2
       rw[Exit.noGoto_ret]
       go_ret
       exact⟨rfl,hend _ rfl⟩
     · have h8':¬ (8:Int)<(b.toNat:Int):=by omega
       have hbl:b.toNat<=8:=by omega
       by_cases h9:r.length<b.toNat
       · have h9':(r.length:Int)+1<1+(b.toNat:Int):=by omega
         go_enter Tryz.func147,Tryz.ntmps147
         go_wp2
         refine wp_scope_fwd 0 rfl ?_
         go_wp2
         go_step3
         refine⟨rfl,?_⟩
         go_wp2
         rw[Exit.noGoto_ret]
         go_ret
         exact⟨rfl,hend _ rfl⟩
       · have h9':¬ (r.length:Int)+1<1+(b.toNat:Int):=by omega
         cases r with
         | nil =>
           have h0:b.toNat=0:=by simp at h9;omega
           simp[rdN,h0] at hw
         | cons x r =>
           have hx:(x==0)=true/\0<b.toNat:=by
            simp only[rdN] at hw
            split at hw
            · rename_i hq
              simp[h8] at hq
              rcases hq with hq|hq
              · simp at h9;omega
              · simp[hq.2];omega
            · simp at hw
           obtain⟨hx,hb0⟩:=hx
           have hx:x=0:=by simpa using hx
           subst hx
           have hc2:w.cell? ⟨bb,off+1,none⟩=some (.int .u8 0):=hcell 1 _ (by simp[bys])
           clear hcell
           have hb0':(0:Int)<(b.toNat:Int):=by omega
           simp only[List.length_cons] at hc0 h1 hb h9' h9
           go_enter Tryz.func147,Tryz.ntmps147
           go_wp2
           refine wp_scope_fwd 0 rfl ?_
           go_wp2
           go_step3
           refine⟨rfl,?_⟩
           go_wp2
           rw[Exit.noGoto_ret]
           go_ret
           exact⟨rfl,hend _ rfl⟩
 · go_enter Tryz.func147,Tryz.ntmps147
   go_wp2
   refine wp_scope_fwd 0 rfl ?_
   go_wp2
   go_step3
   refine⟨rfl,?_⟩
   go_wp2
   rw[Exit.noGoto_ret]
   go_ret
   exact⟨rfl,hend _ rfl⟩
theorem Reads.at_ {w:World} {B:Nat} {A:Option Addr} {l:List UInt8} {n:Nat} (h:Reads w B 1 A n (bys l)) (h0:0<l.length) :
 ∃ b off,A=some ⟨b,off,none⟩/\b<B/\∀ j (hj:j<l.length),w.cell? ⟨b,off+j,none⟩=some (.int .u8 (l[j].toNat:Int)):=by
 obtain⟨b,off,e,hb,hc⟩:=h.2 (by simpa using h0)
 exact⟨b,off,e,hb,fun j hj=>hc j _ (bys_get l j hj)⟩
theorem ofBe_snoc (l:List UInt8) (b:UInt8):ofBe (l++[b])=ofBe l * 256+b.toNat:=by simp[ofBe]
theorem ofBe_lt (l:List UInt8):ofBe l<256 ^ l.length:=by
 induction h:l.length generalizing l with
 | zero=>simp[List.eq_nil_of_length_eq_zero h,ofBe]
 | succ n ih =>
   have hne:l≠[]:=by rintro rfl;simp at h
   rw[<- List.dropLast_concat_getLast hne,ofBe_snoc]
   have:=ih l.dropLast (by simp[h])
   have hb:=(l.getLast hne).toNat_lt
   rw[Nat.pow_succ]
   omega
theorem RNumber_right (g:Nat) (b:UInt8) (r:List UInt8) (w:World) (h:Rd w g (b :: r) false) (h8:b.toNat<=8) (hl:b.toNat<=r.length) (hx:0<b.toNat->∃ x r',r=x :: r'/\0<x.toNat) :
 Calls Tryz.prog 147 #[.pointer (some ⟨g,0,none⟩)] w fun e w'=>e=.returned (.int .u64 (ofBe (r.take b.toNat):Nat))/\Went g (r.drop b.toNat) false w w':=by
 obtain⟨A,c,hb,hr,h1,h2⟩:=h
 have hc:=hb.cell 1
 have hc0:=hb.cell 0
 have hf0:=hb.frozen 0
 simp at hc hc0
 obtain⟨bb,off,rfl,hbb,hcell⟩:=hr.at_ (by simp)
 have hc1:=hcell 0 (by simp)
 simp at hc1
 have H1:=Lib.hid hcell
 clear hcell
 simp only[List.length_cons] at hc0 h1 hb
 generalize hN:b.toNat=N at *
 have HN:=Lib.hid hN
 clear hN
 have h8':¬ (8:Int)<(N:Int):=by omega
 have h9':¬ (r.length:Int)+1<1+(N:Int):=by omega
 have hend:∀ (A':Option Addr) (m c':Nat),m=r.length - N->(0<m->A'=some ⟨bb,off+(1+N),none⟩)->m<=c'->c'<=c->Went g (r.drop N) false w (w.setCell ⟨g,0,none⟩ (.slice A' m c')):=by
  rintro A' m c' rfl hA hm hc'
  have hb':=hb.set_ 0 (.slice A' (r.length - N) c')
  refine⟨⟨A',c',by simpa using hb',⟨by simp,fun h0=>?_⟩,by simpa using hm,by omega⟩,mut_set (mut_refl _ _) rfl _⟩
  simp at h0
  refine⟨bb,off+(1+N),hA (by omega),hbb,fun j u hu=>?_⟩
  rw[World.cell?_setCell_other _ _ _ _ (by intro e;injection e;omega)]
  have hj:j<(r.drop N).length:=by
   have:=(List.getElem?_eq_some_iff.1 hu).1
   simpa using this
  rw[bys_get _ _ hj] at hu
  injection hu with hu
  rw[<- hu,List.getElem_drop]
  simp at hj
  have:=H1.out (1+N+j) (by simp;omega)
  rw[show off+(1+N)+j=off+(1+N+j) by omega,this]
  simp[show 1+N+j=(N+j)+1 by omega]
 by_cases hN0:0<N
 · obtain⟨x,r',rfl,hx0⟩:=hx hN0
   have hc2:=H1.out 1 (by simp)
   simp at hc2
   have hxb:((x.toNat:Int)==0)=false:=by simp;omega
   have hNi:(0:Int)<(N:Int):=by omega
   generalize hR:x :: r'=r at *
   have HR:=Lib.hid hR
   clear hR
   go_enter Tryz.func147,Tryz.ntmps147
   go_wp2
   go_step3
   go_wp2_with fail
   go_loop [3,51] (fun n i=>∃ k:Nat,k<=N/\i=.int .i64 (k:Int)/\n=.int .u64 (ofBe (r.take k):Nat)) (fun _ i=>N - (intOf i).toNat)
   case atStart=>exact⟨0,by omega,rfl,rfl⟩
   case round =>
    obtain⟨k,hk,rfl,rfl⟩:=hrel
    by_cases hlt:k<N
    · have hki:(k:Int)<(N:Int):=by omega
      have hck:w.cell? ⟨bb,off+(1+k),none⟩=some (.int .u8 (r[k].toNat:Int)):=by
       have:=H1.out (1+k) (by simp;omega)
       simpa [Nat.add_comm 1 k] using this
      have hb7:ofBe (r.take k)<72057594037927936:=by
       have:=ofBe_lt (r.take k)
       have h2:(r.take k).length<=7:=by simp;omega
       have h3:256 ^ (r.take k).length<=256 ^ 7:=Nat.pow_le_pow_right (by decide) h2
       omega
      generalize hv:ofBe (r.take k)=v at *
      have htk:ofBe (r.take (k+1))=v * 256+r[k].toNat:=by
       rw[List.take_succ_eq_append_getElem (by omega),ofBe_snoc,hv]
      have hx256:r[k].toNat<256:=r[k].toNat_lt
      have hor:bits BinOp.or IntKind.u64 ((v:Int) * 256) (r[k].toNat:Int)=((v * 256+r[k].toNat:Nat):Int):=by
       rw[show (v:Int) * 256=((v * 256:Nat):Int) by simp,u64_or_nat _ _ (by omega) (by omega),nat_join 8 _ _ (by omega) (by omega)]
      have HV:=Lib.hid hv
      have HT:=Lib.hid htk
      have HO:=Lib.hid hor
      clear hv htk hor
      go_wp2
      go_round
      case rel=>exact⟨k+1,by omega,by go_num,by rw[HO.out,HT.out]⟩
      case measure=>simp[intOf];omega
    · have hki:¬ (k:Int)<(N:Int):=by omega
      have hkN:k=N:=by omega
      subst hkN
      go_wp2
      all_goals
       go_ret
       refine⟨rfl,hend _ _ _ (by omega) (fun hpos=>?_) (by omega) (by omega)⟩
       first|rfl|omega
 · obtain rfl:N=0:=by omega
   have hNi:¬ (0:Int)<((0:Nat):Int):=by omega
   go_enter Tryz.func147,Tryz.ntmps147
   go_wp2
   go_step3
   go_wp2_with fail
   refine wp_loop_rounds 1 ?_
   rw[rounds_succ]
   go_wp2
   all_goals
    go_ret
    refine⟨rfl,hend _ _ _ (by omega) (fun hpos=>?_) (by omega) (by omega)⟩
    first|rfl|omega
theorem RNumber_calls (g:Nat) (l:List UInt8) (wr:Bool) (w:World) (h:Rd w g l wr) :
 Calls Tryz.prog 147 #[.pointer (some ⟨g,0,none⟩)] w fun e w'=>e=.returned (.int .u64 ((rdN l wr).1:Nat))/\Went g (rdN l wr).2.1 (rdN l wr).2.2 w w':=by
 by_cases hw:(rdN l wr).2.2=true
 · have e:rdN l wr=(0,l,true):=by
    unfold rdN at hw ⊢
    split at hw
    · rfl
    · split at hw
      · rename_i hq;simp[hq]
      · simp at hw
   rw[e]
   exact RNumber_wrong g l wr w h hw
 · match l,h,hw with
   | [],_,hw=>simp[rdN] at hw
   | b :: r,h,hw =>
     have hq:(wr||decide (8<b.toNat)||decide (r.length<b.toNat)||(decide (0<b.toNat)&&r.head?==some 0))=false:=by
      cases hq:(wr||decide (8<b.toNat)||decide (r.length<b.toNat)||(decide (0<b.toNat)&&r.head?==some 0))
      · rfl
      · simp only[rdN,hq] at hw;simp at hw
     have e:rdN (b :: r) wr=(ofBe (r.take b.toNat),r.drop b.toNat,false):=by simp only[rdN,hq];rfl
     rw[e]
     simp at hq
     obtain⟨⟨⟨rfl,h8⟩,h9⟩,h10⟩:=hq
     refine RNumber_right g b r w h h8 h9 fun h0=>?_
     have:=h10 h0
     match r,h9,this with
     | [],h9,_=>simp at h9;omega
     | x :: r',_,h11 =>
       refine⟨x,r',rfl,?_⟩
       rcases Nat.eq_zero_or_pos x.toNat with h|h
       · exact absurd (by simpa using UInt8.toNat_inj.1 (show x.toNat=(0:UInt8).toNat from h)) h11
       · exact h
