/-
  What is known of a law's argument that can be read as data, by its type. Conditions: none.
-/
import Derived.Test.YtagfakjifhdpgaaGreatMa33
import Derived.Test.YtagfakjifhdpgaaGreatProg
import Derived.WalkKit
import Derived.WalkLawsBesides
import Derived.WalkSpells
import Derived.Deep.Draws
import Derived.Deep.AppendLies
import Derived.Maps.AppendAt
import Derived.Laws.CopyOwn
import Derived.Lib.Hide
import Derived.ScopeJumps
import Derived.Laws.IdiomStrings
import Derived.Laws.BytesArg
import Derived.WalkMore
import Derived.BigQuiet
import Derived.Deep.QuietTactic
import Derived.ProofKit
import Derived.OpenShut
import Derived.ShutString
import Derived.ChangeOld
import Derived.Below
import Derived.Lib.SmallJoins
import Derived.Deep.Slices
import Derived.Deep.Fields
import Derived.Deep.CutRange
import Derived.Deep.LoopGhost
import Derived.Orders
import Derived.IntWalk
import Derived.Deep.RegionHeld3
import Derived.Deep.DrawnRows
import Derived.Deep.CutBlock
import Derived.Maps.OwnSet
import Derived.Carry
set_option maxRecDepth 100000
set_option maxHeartbeats 16000000
set_option linter.unusedVariables false
set_option linter.unusedSimpArgs false
namespace Go.Proofs.YtagfakjifhdpgaaGreat
open Go Go.RowKit
section
open Go Go.RowKit Go.ChangeShapes Go.WideShapes Go.ChangeAt
open Go.ChangeMaps (open_string shut_string)
set_option linter.unusedVariables false
def repI64 (_:World) (v:Value):Prop:=∃ n:Int,v=.int .i64 n/\-9223372036854775808<=n/\n<=9223372036854775807
def repBytes (w:World) (v:Value):Prop:=∃ (A:Option Addr) (c:Nat) (l:List UInt8),v=.slice A l.length c/\Reads w w.heap.size 1 A l.length (bys l)/\l.length<=c/\c<=maxLen
abbrev valc (x:Int×Int×ByteArray):List Value:=[.int .i64 x.1,.int .i64 x.2.1,.string x.2.2]
section
variable {H:Type} {enc:TypeId×Value->H} {w:World} {base:Nat} {r:Reach} {b0:Nat} {spare:Nat->Bool} {held:Bool} {v:Value} {d:DataW H} {p:List MemPlace}
theorem repI64_of (hv:Value.okWide Tryz.prog w r b0 3 v) (h:DataW.Trod enc Tryz.prog w base spare held 3 v d p):repI64 w v:=by
 obtain⟨a,rfl,rfl,rfl,hw⟩:=open_int Tryz.underlying3 hv h
 have hb:=bounds_i64 hw
 exact⟨a,rfl,by omega,by omega⟩
theorem bytes_of_ints {w:World} {B:Nat} {a:Addr} {len:Nat} {zs:List Int} (hB:w.heap.size<=B) (hl:len<=zs.length) (hc:∀ i,i<zs.length->w.cell? (a.add i)=some (.int .u8 (zs.getD i 0))) (hw:∀ n∈zs,(Lit.int .u8 n).wf=true) :
 ∃ l:List UInt8,l.length=len/\Reads w B 1 (some a) len (bys l):=by
 refine⟨(zs.take len).map fun n=>UInt8.ofNat n.toNat,by simp;omega,by simp;omega,fun h0=>?_⟩
 simp at h0
 have hlen:0<zs.length:=by omega
 have h1:=hc 0 hlen
 obtain⟨b,off,spot⟩:=a
 have hs:spot=none:=by simpa [Addr.add] using World.cell?_spot h1
 subst hs
 refine⟨b,off,rfl,?_,fun j u hu=>?_⟩
 · have:=World.block_lt_of_cell? w _ h1
   simp[Addr.add] at this
   omega
 · have hj:j<len:=by
    have:=(List.getElem?_eq_some_iff.1 hu).1
    simp at this;omega
   have h2:=hc j (by omega)
   rw[Addr.add_lit] at h2
   rw[h2,<- hu]
   have hj2:j<zs.length:=by omega
   have hm:=bounds_u8 (hw zs[j] (List.getElem_mem hj2))
   have h3:(zs.take len)[j]?=some zs[j]:=by rw[List.getElem?_take_of_lt hj,List.getElem?_eq_getElem hj2]
   have h4:(UInt8.ofNat zs[j].toNat).toNat=zs[j].toNat:=by simp;omega
   simp only[bys,List.getElem?_map,h3,Option.map_some,h4,List.getD_eq_getElem?_getD,List.getElem?_eq_getElem hj2,Option.getD_some]
   congr 2
   omega
theorem reads_of_slice {T E:TypeId} (hT:Tryz.prog.underlying T=some (.slice E)) (C:Nat) (hC:Tryz.prog.cellsOf E=C) (Rep:List Value->Prop)
 (hE:∀ (fuel:Nat) (cs:List Value) (x:DataW H×List MemPlace),cs.length=C->DataW.trod enc Tryz.prog w base spare held fuel E cs=some x->Rep cs)
 (hv:Value.okWide Tryz.prog w r b0 T v) (h:DataW.Trod enc Tryz.prog w base spare held T v d p) :
 ∃ (A:Option Addr) (n c:Nat) (css:List (List Value)),v=.slice A n c/\css.length=n/\n<=c/\c<=maxLen/\(∀ cs∈css,cs.length=C/\Rep cs)/\(0<C->Reads w w.heap.size C A n css.flatten):=by
 obtain⟨a0,len0,cap0,rfl⟩:=okWide_slice hT hv
 obtain⟨fuel,hf⟩:=h
 rcases Go.Deep.open_slice hT hf with ⟨hcs,_⟩|⟨a,len,cap,m,n,D,Pl,hcs,hb,hl,hm,hmm,hx,hi⟩
 · simp[Value.cells] at hcs
   obtain⟨rfl,rfl,rfl⟩:=hcs
   exact⟨none,0,0,[],rfl,rfl,by simp,by simp,by simp,fun _=>Reads.nil _ _ _ _⟩
 · simp[Value.cells] at hcs
   obtain⟨rfl,rfl,rfl⟩:=hcs
   have hlm:len0<=m:=by rw[hmm];split <;> omega
   have hex:∀ i,i<len0->∃ cs,cs.length=C/\Rep cs/\∀ j,j<C->w.cell? (a.add (i * C+j))=cs[j]?:=by
    intro i hil
    obtain⟨cs',hc,ht⟩:=hi i (by omega)
    rw[hC] at hc
    obtain⟨_,hcl,hat⟩:=World.cells?_some hc
    refine⟨cs',hcl,hE _ _ _ hcl ht,fun j hj=>?_⟩
    rw[<- Go.Deep.add_add]
    exact hat j hj
   have key:∀ k,k<=len0->∃ css:List (List Value),css.length=k/\(∀ cs∈css,cs.length=C/\Rep cs)/\∀ i j,i<k->j<C->w.cell? (a.add (i * C+j))=(css[i]?.getD [])[j]?:=by
    intro k
    induction k with
    | zero=>intro _;exact⟨[],rfl,by simp,by simp⟩
    | succ k ih =>
      intro hk
      obtain⟨css,h1,h2,h3⟩:=ih (by omega)
      obtain⟨cs,h4,h5,h6⟩:=hex k (by omega)
      refine⟨css++[cs],by simp[h1],?_,fun i j hik hj=>?_⟩
      · intro x hx
        rcases List.mem_append.1 hx with hx|hx
        · exact h2 x hx
        · simp at hx;subst hx;exact⟨h4,h5⟩
      · by_cases hik':i<k
        · rw[h3 i j hik' hj,List.getElem?_append_left (by omega)]
        · obtain rfl:i=k:=by omega
          rw[h6 j hj,List.getElem?_append_right (by omega),h1]
          simp
   obtain⟨css,h1,h2,h3⟩:=key len0 (Nat.le_refl _)
   refine⟨some a,len0,cap0,css,rfl,h1,hl,hm,h2,fun hC0=>?_⟩
   have hfl:css.flatten.length=len0 * C:=by rw[<- h1];exact flatten_len C css fun cs hcs=>(h2 cs hcs).1
   have hfg:∀ i j,i<len0->j<C->css.flatten[i * C+j]?=(css[i]?.getD [])[j]?:=fun i j hi' hj=>flatten_at C css (fun cs hcs=>(h2 cs hcs).1) i j (by omega) hj
   refine⟨hfl,fun h0=>?_⟩
   rw[hfl] at h0
   have hl0:0<len0:=Nat.pos_of_mul_pos_right h0
   have hcell:∀ q,q<len0 * C->w.cell? (a.add q)=css.flatten[q]?:=by
    intro q hq
    have e:q=q / C * C+q % C:=by rw[Nat.mul_comm];exact (Nat.div_add_mod q C).symm
    have hq1:q / C<len0:=Nat.div_lt_of_lt_mul (by rwa [Nat.mul_comm] at hq)
    have hq2:q % C<C:=Nat.mod_lt _ hC0
    rw[e,h3 _ _ hq1 hq2,hfg _ _ hq1 hq2]
   have h00:=hcell 0 h0
   have hsome:∃ u,css.flatten[0]?=some u:=⟨css.flatten[0]'(by omega),List.getElem?_eq_getElem (by omega)⟩
   obtain⟨u,hu⟩:=hsome
   rw[hu] at h00
   obtain⟨b,off,spot⟩:=a
   have hs:spot=none:=by simpa [Addr.add] using World.cell?_spot h00
   subst hs
   refine⟨b,off,rfl,?_,fun j u hju=>?_⟩
   · have:=World.block_lt_of_cell? w _ h00
     simpa [Addr.add] using this
   · have hj:j<len0 * C:=by
      have:=(List.getElem?_eq_some_iff.1 hju).1
      omega
     have:=hcell j hj
     rw[Addr.add_lit] at this
     rw[this,hju]
theorem bytes_cells {cs:List Value} {fuel:Nat} {x:DataW H×List MemPlace} (h:DataW.trod enc Tryz.prog w base spare held fuel 62 cs=some x):∃ v,cs=[v]/\repBytes w v:=by
 rcases open_ints Tryz.underlying62 Tryz.underlying5 (by kernel_rfl) h with ⟨hcs,_⟩|⟨x,l,c,zs,hcs,_,hl,hm,hz,_,hcell,hwz⟩
 · exact⟨_,hcs,none,0,[],rfl,Reads.nil _ _ _ _,by simp,by simp⟩
 · have hlz:l<=zs.length:=by rw[hz];split <;> omega
   obtain⟨bl,h1,h2⟩:=bytes_of_ints (B:=w.heap.size) (Nat.le_refl _) hlz hcell hwz
   exact⟨_,hcs,_,_,bl,by rw[h1],by rw[h1];exact h2,by omega,hm⟩
theorem val_cells {cs:List Value} {fuel:Nat} {x:DataW H×List MemPlace} (h:DataW.trod enc Tryz.prog w base spare held fuel 85 cs=some x):∃ y,cs=valc y/\i64ok y.1/\i64ok y.2.1:=by
 obtain⟨xs,n,_,_,hlen,hxl,hf⟩:=DataW.trod_struct Tryz.underlying85 h
 have hC:Tryz.prog.cellsOf 85=3:=by kernel_rfl
 rw[hC] at hlen
 match cs,hlen with
 | [c0,c1,c2],_ =>
   have h0:=hf 0 _ rfl
   have h1:=hf 1 _ rfl
   have h2:=hf 2 _ rfl
   have e1:Tryz.prog.cellsOf 3=1:=by kernel_rfl
   have e2:Tryz.prog.cellsOf 2=1:=by kernel_rfl
   have e3:Tryz.prog.cellsOf 9=1:=by kernel_rfl
   simp[e1,e2,e3] at h0 h1 h2
   have hxl':xs.length=3:=hxl
   rw[List.getElem?_eq_getElem (by omega)] at h0 h1 h2
   obtain⟨a,ea,_,wa⟩:=DataW.trod_int Tryz.underlying3 h0
   obtain⟨b,eb,_,wb⟩:=DataW.trod_int Tryz.underlying2 h1
   obtain⟨s,es,_,_⟩:=DataW.trod_string Tryz.underlying9 h2
   simp at ea eb es
   subst ea eb es
   have h3:=bounds_i64 wa
   have h4:=bounds_i64 wb
   exact⟨(a,b,s),rfl,(by show i64ok a;unfold i64ok;omega),(by show i64ok b;unfold i64ok;omega)⟩
theorem list_of_cells {α:Type} (f:α->List Value) (Ok:α->Prop):∀ css:List (List Value),(∀ cs∈css,∃ y,cs=f y/\Ok y)->∃ l:List α,l.length=css.length/\css=l.map f/\∀ y∈l,Ok y
 | [],_=>⟨[],rfl,rfl,by simp⟩
 | c :: css,h=>by
   obtain⟨y,rfl,hy⟩:=h c (by simp)
   obtain⟨l,h1,h2,h3⟩:=list_of_cells f Ok css fun cs hcs=>h cs (by simp[hcs])
   refine⟨y :: l,by simp[h1],by simp[h2],?_⟩
   intro z hz
   rcases List.mem_cons.1 hz with rfl|hz
   · exact hy
   · exact h3 z hz
end
end
section
open Go Go.RowKit Go.ChangeShapes Go.WideShapes Go.ChangeAt
open Go.ChangeMaps (open_string shut_string)
section
variable {H:Type} {enc:TypeId×Value->H} {w:World} {base:Nat} {r:Reach} {b0:Nat} {spare:Nat->Bool} {held:Bool} {v:Value} {d:DataW H} {p:List MemPlace}
theorem att_cells {cs:List Value} {fuel:Nat} {x:DataW H×List MemPlace} (h:DataW.trod enc Tryz.prog w base spare held fuel 90 cs=some x):∃ y:Att,cs=attc y/\i64ok y.2.1/\i64ok y.2.2.1:=by
 obtain⟨xs,n,_,_,hlen,hxl,hf⟩:=DataW.trod_struct Tryz.underlying90 h
 have hC:Tryz.prog.cellsOf 90=4:=by kernel_rfl
 rw[hC] at hlen
 match cs,hlen with
 | [c0,c1,c2,c3],_ =>
   have h0:=hf 0 _ rfl
   have h1:=hf 1 _ rfl
   have e1:Tryz.prog.cellsOf 9=1:=by kernel_rfl
   have e2:Tryz.prog.cellsOf 85=3:=by kernel_rfl
   simp[e1,e2] at h0 h1
   have hxl':xs.length=2:=hxl
   rw[List.getElem?_eq_getElem (by omega)] at h0 h1
   obtain⟨s,es,_,_⟩:=DataW.trod_string Tryz.underlying9 h0
   obtain⟨y,ey,w1,w2⟩:=val_cells h1
   simp at es ey
   obtain⟨rfl,rfl,rfl⟩:=ey
   subst es
   exact⟨(s,y),rfl,w1,w2⟩
end
end
section
open Go Go.RowKit Go.ChangeShapes Go.WideShapes Go.ChangeAt
section
variable {H:Type} {enc:TypeId×Value->H} {w:World} {base:Nat} {r:Reach} {b0:Nat} {spare:Nat->Bool} {held:Bool} {v:Value} {d:DataW H} {p:List MemPlace}
theorem tst_cells {cs:List Value} {fuel:Nat} {x:DataW H×List MemPlace} (h:DataW.trod enc Tryz.prog w base spare held fuel 87 cs=some x):∃ y:Tst,cs=tstc y/\fitT y:=by
 obtain⟨xs,n,_,_,hlen,hxl,hf⟩:=DataW.trod_struct Tryz.underlying87 h
 have hC:Tryz.prog.cellsOf 87=5:=by kernel_rfl
 rw[hC] at hlen
 match cs,hlen with
 | [c0,c1,c2,c3,c4],_ =>
   have h0:=hf 0 _ rfl
   have h1:=hf 1 _ rfl
   have h2:=hf 2 _ rfl
   have e1:Tryz.prog.cellsOf 9=1:=by kernel_rfl
   have e2:Tryz.prog.cellsOf 3=1:=by kernel_rfl
   have e3:Tryz.prog.cellsOf 85=3:=by kernel_rfl
   simp[e1,e2,e3] at h0 h1 h2
   have hxl':xs.length=3:=hxl
   rw[List.getElem?_eq_getElem (by omega)] at h0 h1 h2
   obtain⟨s,es,_,_⟩:=DataW.trod_string Tryz.underlying9 h0
   obtain⟨a,ea,_,wa⟩:=DataW.trod_int Tryz.underlying3 h1
   obtain⟨y,ey,w1,w2⟩:=val_cells h2
   simp at es ea ey
   obtain⟨rfl,rfl,rfl⟩:=ey
   subst es ea
   have hb:=bounds_i64 wa
   exact⟨(s,a,y),rfl,(by show i64ok a;unfold i64ok;omega),w1,w2⟩
end
end
section
open Go Go.RowKit Go.ChangeShapes Go.WideShapes Go.ChangeAt
section
variable {H:Type} {enc:TypeId×Value->H} {w:World} {base:Nat} {r:Reach} {b0:Nat} {spare:Nat->Bool} {held:Bool} {v:Value} {d:DataW H} {p:List MemPlace} {α:Type}
theorem reads_of_cells {T E:TypeId} (hT:Tryz.prog.underlying T=some (.slice E)) (C:Nat) (hC:Tryz.prog.cellsOf E=C) (Rep:List Value->Prop)
 (hE:∀ (fuel:Nat) (cs:List Value) (x:DataW H×List MemPlace),cs.length=C->DataW.trod enc Tryz.prog w base spare held fuel E cs=some x->Rep cs)
 {fuel:Nat} {cs:List Value} {x:DataW H×List MemPlace} (hf:DataW.trod enc Tryz.prog w base spare held fuel T cs=some x) :
 ∃ (A:Option Addr) (n c:Nat) (css:List (List Value)),cs=[.slice A n c]/\css.length=n/\n<=c/\c<=maxLen/\(∀ cs∈css,cs.length=C/\Rep cs)/\(0<C->Reads w w.heap.size C A n css.flatten):=by
 rcases Go.Deep.open_slice hT hf with ⟨hcs,_⟩|⟨a,len,cap,m,n,D,Pl,hcs,hb,hl,hm,hmm,hx,hi⟩
 · exact⟨none,0,0,[],hcs,rfl,by simp,by simp,by simp,fun _=>Reads.nil _ _ _ _⟩
 · have hlm:len<=m:=by rw[hmm];split <;> omega
   have hex:∀ i,i<len->∃ cs,cs.length=C/\Rep cs/\∀ j,j<C->w.cell? (a.add (i * C+j))=cs[j]?:=by
    intro i hil
    obtain⟨cs',hc,ht⟩:=hi i (by omega)
    rw[hC] at hc
    obtain⟨_,hcl,hat⟩:=World.cells?_some hc
    refine⟨cs',hcl,hE _ _ _ hcl ht,fun j hj=>?_⟩
    rw[<- Go.Deep.add_add]
    exact hat j hj
   have key:∀ k,k<=len->∃ css:List (List Value),css.length=k/\(∀ cs∈css,cs.length=C/\Rep cs)/\∀ i j,i<k->j<C->w.cell? (a.add (i * C+j))=(css[i]?.getD [])[j]?:=by
    intro k
    induction k with
    | zero=>intro _;exact⟨[],rfl,by simp,by simp⟩
    | succ k ih =>
      intro hk
      obtain⟨css,h1,h2,h3⟩:=ih (by omega)
      obtain⟨cs,h4,h5,h6⟩:=hex k (by omega)
      refine⟨css++[cs],by simp[h1],?_,fun i j hik hj=>?_⟩
      · intro x hx
        rcases List.mem_append.1 hx with hx|hx
        · exact h2 x hx
        · simp at hx;subst hx;exact⟨h4,h5⟩
      · by_cases hik':i<k
        · rw[h3 i j hik' hj,List.getElem?_append_left (by omega)]
        · obtain rfl:i=k:=by omega
          rw[h6 j hj,List.getElem?_append_right (by omega),h1]
          simp
   obtain⟨css,h1,h2,h3⟩:=key len (Nat.le_refl _)
   refine⟨some a,len,cap,css,hcs,h1,hl,hm,h2,fun hC0=>?_⟩
   have hfl:css.flatten.length=len * C:=by rw[<- h1];exact flatten_len C css fun cs hcs=>(h2 cs hcs).1
   have hfg:∀ i j,i<len->j<C->css.flatten[i * C+j]?=(css[i]?.getD [])[j]?:=fun i j hi' hj=>flatten_at C css (fun cs hcs=>(h2 cs hcs).1) i j (by omega) hj
   refine⟨hfl,fun h0=>?_⟩
   rw[hfl] at h0
   have hl0:0<len:=Nat.pos_of_mul_pos_right h0
   have hcell:∀ q,q<len * C->w.cell? (a.add q)=css.flatten[q]?:=by
    intro q hq
    have e:q=q / C * C+q % C:=by rw[Nat.mul_comm];exact (Nat.div_add_mod q C).symm
    have hq1:q / C<len:=Nat.div_lt_of_lt_mul (by rwa [Nat.mul_comm] at hq)
    have hq2:q % C<C:=Nat.mod_lt _ hC0
    rw[e,h3 _ _ hq1 hq2,hfg _ _ hq1 hq2]
   have h00:=hcell 0 h0
   have hsome:∃ u,css.flatten[0]?=some u:=⟨css.flatten[0]'(by omega),List.getElem?_eq_getElem (by omega)⟩
   obtain⟨u,hu⟩:=hsome
   rw[hu] at h00
   obtain⟨b,off,spot⟩:=a
   have hs:spot=none:=by simpa [Addr.add] using World.cell?_spot h00
   subst hs
   refine⟨b,off,rfl,?_,fun j u hju=>?_⟩
   · have:=World.block_lt_of_cell? w _ h00
     simpa [Addr.add] using this
   · have hj:j<len * C:=by
      have:=(List.getElem?_eq_some_iff.1 hju).1
      omega
     have:=hcell j hj
     rw[Addr.add_lit] at this
     rw[this,hju]
theorem lst_cells {T E:TypeId} (hT:Tryz.prog.underlying T=some (.slice E)) (S:Shp α) (Ok:α->Prop) (hC:Tryz.prog.cellsOf E=S.size) (h0:0<S.size)
 (hE:∀ (fuel:Nat) (cs:List Value) (x:DataW H×List MemPlace),cs.length=S.size->DataW.trod enc Tryz.prog w base spare held fuel E cs=some x->∃ y,S.rel y cs w/\Ok y)
 {fuel:Nat} {cs:List Value} {x:DataW H×List MemPlace} (hf:DataW.trod enc Tryz.prog w base spare held fuel T cs=some x):∃ v l,cs=[v]/\lst S l v w/\∀ y∈l,Ok y:=by
 obtain⟨A,n,c,css,rfl,h1,h2,_,h4,h5⟩:=reads_of_cells hT S.size hC (fun cs=>∃ y,S.rel y cs w/\Ok y) hE hf
 have key:∀ css:List (List Value),(∀ cs∈css,∃ y,S.rel y cs w/\Ok y)->∃ l,Each S l css w/\∀ y∈l,Ok y:=by
  intro css
  induction css with
  | nil=>intro _;exact⟨[],Each.nil _ _,by simp⟩
  | cons cs css ih =>
    intro h
    obtain⟨y,hy,ho⟩:=h cs (by simp)
    obtain⟨l,hl,hol⟩:=ih fun c hc=>h c (by simp[hc])
    refine⟨[y]++l,(Each.one hy).append hl,?_⟩
    intro z hz
    simp at hz
    rcases hz with rfl|hz
    · exact ho
    · exact hol z hz
 obtain⟨l,hl,hol⟩:=key css fun cs hcs=>(h4 cs hcs).2
 have hn:l.length=n:=by rw[<- h1];exact hl.1.symm
 subst hn
 exact⟨_,l,rfl,⟨A,c,rfl,⟨css,hl,h5 h0⟩,h2⟩,hol⟩
theorem ev_cells {fuel:Nat} {cs:List Value} {x:DataW H×List MemPlace} (hf:DataW.trod enc Tryz.prog w base spare held fuel 45 cs=some x):∃ l,evS.rel l cs w/\∀ a∈l,fitA a:=by
 obtain⟨A,n,c,css,rfl,h1,h2,h3,h4,h5⟩:=reads_of_cells Tryz.underlying45 4 (by kernel_rfl) (fun cs=>∃ y:Att,cs=attc y/\i64ok y.2.1/\i64ok y.2.2.1) (fun _ _ _ _ ht=>att_cells ht) hf
 obtain⟨l,h6,h7,h8⟩:=list_of_cells attc (fun y:Att=>i64ok y.2.1/\i64ok y.2.2.1) css fun cs hcs=>(h4 cs hcs).2
 have h9:=h5 (by decide)
 subst h1
 rw[<- h6] at h9 ⊢
 refine⟨l,⟨_,rfl,A,c,rfl,?_⟩,h8⟩
 rw[h7] at h9
 rwa [List.flatMap_def]
theorem fl_cells {fuel:Nat} {cs:List Value} {x:DataW H×List MemPlace} (hf:DataW.trod enc Tryz.prog w base spare held fuel 40 cs=some x):∃ v l,cs=[v]/\flt l v w/\∀ a∈l,fitT a:=by
 obtain⟨A,n,c,css,rfl,h1,h2,h3,h4,h5⟩:=reads_of_cells Tryz.underlying40 5 (by kernel_rfl) (fun cs=>∃ y:Tst,cs=tstc y/\fitT y) (fun _ _ _ _ ht=>tst_cells ht) hf
 obtain⟨l,h6,h7,h8⟩:=list_of_cells tstc fitT css fun cs hcs=>(h4 cs hcs).2
 have h9:=h5 (by decide)
 subst h1
 rw[<- h6] at h9 ⊢
 refine⟨_,l,rfl,⟨A,c,rfl,?_⟩,h8⟩
 rw[h7] at h9
 rwa [List.flatMap_def]
theorem i64_cells {fuel:Nat} {cs:List Value} {x:DataW H×List MemPlace} (hf:DataW.trod enc Tryz.prog w base spare held fuel 3 cs=some x):∃ n,cs=[.int .i64 n]/\i64ok n:=by
 obtain⟨a,ea,_,wa⟩:=DataW.trod_int Tryz.underlying3 hf
 have:=bounds_i64 wa
 exact⟨a,ea,by show i64ok a;unfold i64ok;omega⟩
theorem u64_cells {fuel:Nat} {cs:List Value} {x:DataW H×List MemPlace} (hf:DataW.trod enc Tryz.prog w base spare held fuel 33 cs=some x):∃ n:Nat,cs=[.int .u64 (n:Int)]/\n<18446744073709551616:=by
 obtain⟨a,ea,_,wa⟩:=DataW.trod_int Tryz.underlying33 hf
 have:=bounds_u64 wa
 exact⟨a.toNat,by rw[ea,Int.toNat_of_nonneg this.1],by omega⟩
theorem bool_cells {fuel:Nat} {cs:List Value} {x:DataW H×List MemPlace} (hf:DataW.trod enc Tryz.prog w base spare held fuel 4 cs=some x):∃ b,cs=[.bool b]:=by
 obtain⟨a,ea,_⟩:=DataW.trod_bool Tryz.underlying4 hf
 exact⟨a,ea⟩
theorem id_cells {fuel:Nat} {cs:List Value} {x:DataW H×List MemPlace} (h:DataW.trod enc Tryz.prog w base spare held fuel 35 cs=some x):∃ y:Idn,cs=idc y/\fitI y:=by
 obtain⟨xs,n,_,_,hlen,hxl,hf⟩:=DataW.trod_struct Tryz.underlying35 h
 have hC:Tryz.prog.cellsOf 35=3:=by kernel_rfl
 rw[hC] at hlen
 have e1:Tryz.prog.cellsOf 3=1:=by kernel_rfl
 have e2:Tryz.prog.cellsOf 33=1:=by kernel_rfl
 have hxl':xs.length=3:=hxl
 match cs,hlen with
 | [c0,c1,c2],_ =>
   have h0:=hf 0 _ rfl
   have h1:=hf 1 _ rfl
   have h2:=hf 2 _ rfl
   simp[e1,e2] at h0 h1 h2
   rw[List.getElem?_eq_getElem (by omega)] at h0 h1 h2
   obtain⟨a,ea,wa⟩:=i64_cells h0
   obtain⟨b,eb,wb⟩:=u64_cells h1
   obtain⟨c,ec,wc⟩:=u64_cells h2
   simp at ea eb ec
   subst ea eb ec
   exact⟨(a,b,c),rfl,wa,wb,wc⟩
theorem en_cells {fuel:Nat} {cs:List Value} {x:DataW H×List MemPlace} (h:DataW.trod enc Tryz.prog w base spare held fuel 42 cs=some x):∃ y:Ent,enS.rel y cs w/\fitEn y:=by
 obtain⟨xs,n,_,_,hlen,hxl,hf⟩:=DataW.trod_struct Tryz.underlying42 h
 have hC:Tryz.prog.cellsOf 42=8:=by kernel_rfl
 rw[hC] at hlen
 have e1:Tryz.prog.cellsOf 3=1:=by kernel_rfl
 have e2:Tryz.prog.cellsOf 33=1:=by kernel_rfl
 have e3:Tryz.prog.cellsOf 35=3:=by kernel_rfl
 have e4:Tryz.prog.cellsOf 40=1:=by kernel_rfl
 have e5:Tryz.prog.cellsOf 38=1:=by kernel_rfl
 have hxl':xs.length=6:=hxl
 match cs,hlen with
 | [c0,c1,c2,c3,c4,c5,c6,c7],_ =>
   have h0:=hf 0 _ rfl
   have h1:=hf 1 _ rfl
   have h2:=hf 2 _ rfl
   have h3:=hf 3 _ rfl
   have h4:=hf 4 _ rfl
   have h5:=hf 5 _ rfl
   simp[e1,e2,e3,e4,e5] at h0 h1 h2 h3 h4 h5
   rw[List.getElem?_eq_getElem (by omega)] at h0 h1 h2 h3 h4 h5
   obtain⟨k,ek,wk⟩:=i64_cells h0
   obtain⟨i,ei,wi⟩:=id_cells h1
   obtain⟨c,ec,wc⟩:=i64_cells h2
   obtain⟨s,es,ws⟩:=u64_cells h3
   obtain⟨vf,f,ef,hfl,wf⟩:=fl_cells h4
   obtain⟨ve,l,el,hl,wl⟩:=lst_cells Tryz.underlying38 evS (fun l=>∀ a∈l,fitA a) (by kernel_rfl) (by decide) (fun _ _ _ _ ht=>ev_cells ht) h5
   obtain⟨i0,i1,i2⟩:=i
   simp at ek ei ec es ef el
   obtain⟨rfl,rfl,rfl⟩:=ei
   subst ek ec es ef el
   exact⟨⟨k,i0,i1,i2,c,s,f,l⟩,⟨c6,c7,rfl,hfl,hl⟩,wk,wi.1,wc,wi.2.1,wi.2.2,ws,wf,wl⟩
end
end
def unsubB (B:Brk) (c:Int) (n:Nat):Brk×Idn×Int:=callB B c (askT B.txns (subE B 3 c n []))
