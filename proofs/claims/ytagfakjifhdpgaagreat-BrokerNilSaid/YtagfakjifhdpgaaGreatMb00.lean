/-
  What is known of a law's argument that can be read as data, by its type. Conditions: none.
-/
import Derived.Test.YtagfakjifhdpgaaGreatMa33
import Derived.Test.YtagfakjifhdpgaaGreatProg
import Derived.WalkKit
import Derived.WalkLawsBesides
import Derived.WalkSpells
import Derived.Deep.Draws
import Derived.Deep.AppendLies
import Derived.Maps.AppendAt
import Derived.Laws.CopyOwn
import Derived.Lib.Hide
import Derived.ScopeJumps
import Derived.Laws.IdiomStrings
import Derived.Laws.BytesArg
import Derived.WalkMore
import Derived.BigQuiet
import Derived.Deep.QuietTactic
import Derived.ProofKit
import Derived.OpenShut
import Derived.ShutString
import Derived.ChangeOld
import Derived.Below
import Derived.Lib.SmallJoins
import Derived.Deep.Slices
import Derived.Deep.Fields
import Derived.Deep.CutRange
import Derived.Deep.LoopGhost
import Derived.Orders
import Derived.IntWalk
import Derived.Deep.RegionHeld3
import Derived.Deep.DrawnRows
import Derived.Deep.CutBlock
import Derived.Maps.OwnSet
import Derived.Carry
import Derived.RangeFuncKeeps
import Derived.RangeFuncLeaves
import Derived.RangeFuncFrom
import Derived.RangeFuncBox
import Derived.Shelf.Abstract
import Derived.OwnWalkIn
import Derived.TacticsInMore
import Derived.LoopNIn
import Derived.LoopIn
import Derived.Laws.BitsAllLaws
import Derived.Deep.RegionLaw
import Derived.Lib.SlicesDelete
set_option maxRecDepth 100000
set_option maxHeartbeats 16000000
set_option linter.unusedVariables false
set_option linter.unusedSimpArgs false
namespace Go.Proofs.YtagfakjifhdpgaaGreat
open Go Go.RowKit
section
open Go Go.RowKit Go.ChangeShapes Go.WideShapes Go.ChangeAt
open Go.ChangeMaps (open_string shut_string)
set_option linter.unusedVariables false
def repI64 (_:World) (v:Value):Prop:=∃ n:Int,v=.int .i64 n/\-9223372036854775808<=n/\n<=9223372036854775807
def repBytes (w:World) (v:Value):Prop:=∃ (A:Option Addr) (c:Nat) (l:List UInt8),v=.slice A l.length c/\Reads w w.heap.size 1 A l.length (bys l)/\l.length<=c/\c<=maxLen
section
variable {H:Type} {enc:TypeId×Value->H} {w:World} {base:Nat} {r:Reach} {b0:Nat} {spare:Nat->Bool} {held:Bool} {v:Value} {d:DataW H} {p:List MemPlace}
theorem repI64_of (hv:Value.okWide Tryz.prog w r b0 3 v) (h:DataW.Trod enc Tryz.prog w base spare held 3 v d p):repI64 w v:=by
 obtain⟨a,rfl,rfl,rfl,hw⟩:=open_int Tryz.underlying3 hv h
 have hb:=bounds_i64 hw
 exact⟨a,rfl,by omega,by omega⟩
theorem bytes_of_ints {w:World} {B:Nat} {a:Addr} {len:Nat} {zs:List Int} (hB:w.heap.size<=B) (hl:len<=zs.length) (hc:∀ i,i<zs.length->w.cell? (a.add i)=some (.int .u8 (zs.getD i 0))) (hw:∀ n∈zs,(Lit.int .u8 n).wf=true) :
 ∃ l:List UInt8,l.length=len/\Reads w B 1 (some a) len (bys l):=by
 refine⟨(zs.take len).map fun n=>UInt8.ofNat n.toNat,by simp;omega,by simp;omega,fun h0=>?_⟩
 simp at h0
 have hlen:0<zs.length:=by omega
 have h1:=hc 0 hlen
 obtain⟨b,off,spot⟩:=a
 have hs:spot=none:=by simpa [Addr.add] using World.cell?_spot h1
 subst hs
 refine⟨b,off,rfl,?_,fun j u hu=>?_⟩
 · have:=World.block_lt_of_cell? w _ h1
   simp[Addr.add] at this
   omega
 · have hj:j<len:=by
    have:=(List.getElem?_eq_some_iff.1 hu).1
    simp at this;omega
   have h2:=hc j (by omega)
   rw[Addr.add_lit] at h2
   rw[h2,<- hu]
   have hj2:j<zs.length:=by omega
   have hm:=bounds_u8 (hw zs[j] (List.getElem_mem hj2))
   have h3:(zs.take len)[j]?=some zs[j]:=by rw[List.getElem?_take_of_lt hj,List.getElem?_eq_getElem hj2]
   have h4:(UInt8.ofNat zs[j].toNat).toNat=zs[j].toNat:=by simp;omega
   simp only[bys,List.getElem?_map,h3,Option.map_some,h4,List.getD_eq_getElem?_getD,List.getElem?_eq_getElem hj2,Option.getD_some]
   congr 2
   omega
theorem repBytes_of (hv:Value.okWide Tryz.prog w r b0 62 v) (h:DataW.Trod enc Tryz.prog w base spare held 62 v d p):repBytes w v:=by
 obtain⟨a0,len0,cap0,rfl⟩:=okWide_slice Tryz.underlying62 hv
 obtain⟨fuel,hf⟩:=h
 rcases open_ints Tryz.underlying62 Tryz.underlying5 (by kernel_rfl) hf with ⟨hcs,_⟩|⟨x,l,c,zs,hcs,_,hl,hm,hz,_,hcell,hwz⟩
 · simp[Value.cells] at hcs
   obtain⟨rfl,rfl,rfl⟩:=hcs
   exact⟨none,0,[],rfl,Reads.nil _ _ _ _,by simp,by simp⟩
 · simp[Value.cells] at hcs
   obtain⟨rfl,rfl,rfl⟩:=hcs
   have hlz:len0<=zs.length:=by rw[hz];split <;> omega
   obtain⟨bl,h1,h2⟩:=bytes_of_ints (B:=w.heap.size) (Nat.le_refl _) hlz hcell hwz
   exact⟨_,_,bl,by rw[h1],by rw[h1];exact h2,by omega,hm⟩
end
end
section
open Go Go.RowKit Go.ChangeShapes Go.WideShapes Go.ChangeAt
section
variable {H:Type} {enc:TypeId×Value->H} {w:World} {base:Nat} {r:Reach} {b0:Nat} {spare:Nat->Bool} {held:Bool} {v:Value} {d:DataW H} {p:List MemPlace} {α:Type}
theorem i64_cells {fuel:Nat} {cs:List Value} {x:DataW H×List MemPlace} (hf:DataW.trod enc Tryz.prog w base spare held fuel 3 cs=some x):∃ n,cs=[.int .i64 n]/\i64ok n:=by
 obtain⟨a,ea,_,wa⟩:=DataW.trod_int Tryz.underlying3 hf
 have:=bounds_i64 wa
 exact⟨a,ea,by show i64ok a;unfold i64ok;omega⟩
theorem u64_cells {fuel:Nat} {cs:List Value} {x:DataW H×List MemPlace} (hf:DataW.trod enc Tryz.prog w base spare held fuel 33 cs=some x):∃ n:Nat,cs=[.int .u64 (n:Int)]/\n<18446744073709551616:=by
 obtain⟨a,ea,_,wa⟩:=DataW.trod_int Tryz.underlying33 hf
 have:=bounds_u64 wa
 exact⟨a.toNat,by rw[ea,Int.toNat_of_nonneg this.1],by omega⟩
theorem id_cells {fuel:Nat} {cs:List Value} {x:DataW H×List MemPlace} (h:DataW.trod enc Tryz.prog w base spare held fuel 35 cs=some x):∃ y:Idn,cs=idc y/\fitI y:=by
 obtain⟨xs,n,_,_,hlen,hxl,hf⟩:=DataW.trod_struct Tryz.underlying35 h
 have hC:Tryz.prog.cellsOf 35=3:=by kernel_rfl
 rw[hC] at hlen
 have e1:Tryz.prog.cellsOf 3=1:=by kernel_rfl
 have e2:Tryz.prog.cellsOf 33=1:=by kernel_rfl
 have hxl':xs.length=3:=hxl
 match cs,hlen with
 | [c0,c1,c2],_ =>
   have h0:=hf 0 _ rfl
   have h1:=hf 1 _ rfl
   have h2:=hf 2 _ rfl
   simp[e1,e2] at h0 h1 h2
   rw[List.getElem?_eq_getElem (by omega)] at h0 h1 h2
   obtain⟨a,ea,wa⟩:=i64_cells h0
   obtain⟨b,eb,wb⟩:=u64_cells h1
   obtain⟨c,ec,wc⟩:=u64_cells h2
   simp at ea eb ec
   subst ea eb ec
   exact⟨(a,b,c),rfl,wa,wb,wc⟩
def repID (_:World) (v:Value):Prop:=∃ a:Idn,v=idv a/\fitI a
theorem repID_of (hv:Value.okWide Tryz.prog w r b0 35 v) (h:DataW.Trod enc Tryz.prog w base spare held 35 v d p):repID w v:=by
 obtain⟨cs,rfl,hsz⟩:=okWide_struct Tryz.underlying35 hv
 obtain⟨fuel,hf⟩:=h
 obtain⟨y,h1,h4⟩:=id_cells hf
 refine⟨y,?_,h4⟩
 have:cs.toList=idc y:=by simpa [Value.cells] using h1
 obtain⟨l⟩:=cs
 simp at this
 rw[this]
end
end
section
open Go Go.RowKit Go.Shelf
attribute [local go_sem] Oper.semAt_some
end
section
open Go Go.RowKit Go.Shelf
attribute [local go_sem] Oper.semAt_some
end
theorem NPublish (w:World) (a:Idn) (v:Value):Calls Tryz.prog 14 #[.pointer none,idv a,v] w fun e w'=>e=.returned (.int .i64 1)/\K w w':=by
 have kk:=K.rf w
 have ka:=fun o=>(K.rf w).al o
 go_enter Tryz.func14,Tryz.ntmps14
 go_wp2
 go_ret
 exact⟨rfl,ka _⟩
theorem NCommit (w:World) (a:Idn):Calls Tryz.prog 15 #[.pointer none,idv a] w fun e w'=>e=.returned (.int .i64 1)/\K w w':=by
 have kk:=K.rf w
 have ka:=fun o=>(K.rf w).al o
 go_enter Tryz.func15,Tryz.ntmps15
 go_wp2
 go_ret
 exact⟨rfl,ka _⟩
theorem NAbort (w:World) (a:Idn):Calls Tryz.prog 31 #[.pointer none,idv a] w fun e w'=>e=.returned (.int .i64 1)/\K w w':=by
 have kk:=K.rf w
 have ka:=fun o=>(K.rf w).al o
 go_enter Tryz.func31,Tryz.ntmps31
 go_wp2
 go_ret
 exact⟨rfl,ka _⟩
theorem NStatus (w:World) (a:Idn):Calls Tryz.prog 22 #[.pointer none,idv a] w fun e w'=>e=.returned (.int .i64 0)/\K w w':=by
 have kk:=K.rf w
 have ka:=fun o=>(K.rf w).al o
 go_enter Tryz.func22,Tryz.ntmps22
 go_wp2
 go_ret
 exact⟨rfl,ka _⟩
theorem NTick (w:World):Calls Tryz.prog 16 #[.pointer none] w fun e w'=>e=.returned (.slice none 0 0)/\K w w':=by
 have kk:=K.rf w
 have ka:=fun o=>(K.rf w).al o
 go_enter Tryz.func16,Tryz.ntmps16
 go_wp2
 go_ret
 exact⟨rfl,kk⟩
theorem NWaiting (w:World):Calls Tryz.prog 32 #[.pointer none] w fun e w'=>e=.returned (.slice none 0 0)/\K w w':=by
 have kk:=K.rf w
 have ka:=fun o=>(K.rf w).al o
 go_enter Tryz.func32,Tryz.ntmps32
 go_wp2
 go_ret
 exact⟨rfl,kk⟩
theorem NStage (w:World):Calls Tryz.prog 19 #[.pointer none] w fun e w'=>e=.returned (.slice none 0 0)/\K w w':=by
 have kk:=K.rf w
 have ka:=fun o=>(K.rf w).al o
 go_enter Tryz.func19,Tryz.ntmps19
 go_wp2
 go_ret
 exact⟨rfl,kk⟩
theorem NHandle (w:World) (n:Int) (v:Value):Calls Tryz.prog 28 #[.pointer none,.int .i64 n,v] w fun e w'=>e=.returned (.int .i64 1)/\K w w':=by
 have kk:=K.rf w
 have ka:=fun o=>(K.rf w).al o
 go_enter Tryz.func28,Tryz.ntmps28
 go_wp2
 go_ret
 exact⟨rfl,kk⟩
theorem NPoll (w:World) (n m:Int):Calls Tryz.prog 24 #[.pointer none,.int .i64 n,.int .i64 m] w fun e w'=>e=.returned (.tuple #[.slice none 0 0,.int .i64 0,.int .i64 1])/\K w w':=by
 have kk:=K.rf w
 have ka:=fun o=>(K.rf w).al o
 go_enter Tryz.func24,Tryz.ntmps24
 go_wp2
 go_ret3
 exact⟨rfl,kk⟩
theorem NCall (c:Int) (f:Value) (w:World):Calls Tryz.prog 37 #[.pointer none,.int .i64 c,f] w fun e w'=>e=.returned (.tuple #[idv (0,0,0),.int .i64 1])/\K w w':=by
 have k0:K w (w.alloc (.cells #[.int .i64 0,.int .u64 0,.int .u64 0] 35)):=(K.rf w).al _
 have hr2:=Blk.new w 35 #[.int .i64 0,.int .u64 0,.int .u64 0]
 go_enter Tryz.func37,Tryz.ntmps37
 go_upto_region 1 with (fail)
 generalize w.alloc _=w2 at *
 generalize hgw:w.heap.size=g9 at hr2 ⊢
 have HGW:=Lib.hid hgw
 clear hgw
 have qr:=hr2.cell
 have zr:=hr2.frozen
 go_wp2
 have hr91:Blk (World.setCell (World.setCell (World.setCell w2 _ _) _ _) _ _) g9 35 #[.int .i64 0,.int .u64 0,.int .u64 0]:=((hr2.set_ 0 (.int .i64 0)).set_ 1 (.int .u64 0)).set_ 2 (.int .u64 0)
 have kS:=K.set (K.set (K.set k0 (r:=g9) (by have:=HGW.out;omega) 0 (.int .i64 0)) (r:=g9) (by have:=HGW.out;omega) 1 (.int .u64 0)) (r:=g9) (by have:=HGW.out;omega) 2 (.int .u64 0)
 clear qr zr hr2
 generalize World.setCell (World.setCell (World.setCell w2 _ _) _ _) _ _=W9 at *
 have e9:=hr91.cell
 try rw[Exit.noGoto_ret]
 refine bodyPost_ret (v:=.tuple #[idv (0,0,0),.int .i64 1]) (by simp[results,Tryz.results37,go_sem,e9]) rfl ?_
 exact⟨rfl,kS⟩
theorem NBegin (c:Int) (w:World):Calls Tryz.prog 12 #[.pointer none,.int .i64 c] w fun e w'=>e=.returned (.tuple #[idv (0,0,0),.int .i64 1])/\K w w':=by
 have k0:K w (((w.alloc (.cells #[.pointer none] 28)).alloc (.cells #[.int .i64 c] 3)).alloc (.cells #[.int .i64 0,.int .u64 0,.int .u64 0] 35)):=((((K.rf w).al _).al _).al _)
 have hr2:=Blk.new ((w.alloc (.cells #[.pointer none] 28)).alloc (.cells #[.int .i64 c] 3)) 35 #[.int .i64 0,.int .u64 0,.int .u64 0]
 have hz:((w.alloc (.cells #[.pointer none] 28)).alloc (.cells #[.int .i64 c] 3)).heap.size=w.heap.size+2:=by simp
 rw[hz] at hr2
 clear hz
 have C1:=Lib.hid fun f W=>NCall c f W
 go_enter Tryz.func12,Tryz.ntmps12
 go_wp2_with fail
 generalize World.alloc (World.alloc (World.alloc w _) _) _=w2 at *
 generalize hgw:w.heap.size+2=g9 at hr2 ⊢
 have HGW:=Lib.hid hgw
 clear hgw
 refine (C1.out _ w2).mono ?_
 rintro e w3 ⟨rfl,k3⟩
 have hr3:=hr2.below k3 hr2.lt
 have k03:=k0.tr k3
 have qr:=hr3.cell
 have zr:=hr3.frozen
 clear C1 hr2
 go_wp2
 have hr91:Blk (World.setCell (World.setCell (World.setCell w3 _ _) _ _) _ _) g9 35 #[.int .i64 0,.int .u64 0,.int .u64 0]:=((hr3.set_ 0 (.int .i64 0)).set_ 1 (.int .u64 0)).set_ 2 (.int .u64 0)
 have kS:=K.set (K.set (K.set k03 (r:=g9) (by have:=HGW.out;omega) 0 (.int .i64 0)) (r:=g9) (by have:=HGW.out;omega) 1 (.int .u64 0)) (r:=g9) (by have:=HGW.out;omega) 2 (.int .u64 0)
 clear qr zr hr3
 generalize World.setCell (World.setCell (World.setCell w3 _ _) _ _) _ _=W9 at *
 have e9:=hr91.cell
 refine bodyPost_ret (v:=.tuple #[idv (0,0,0),.int .i64 1]) (by simp[results,Tryz.results12,go_sem,e9]) rfl ?_
 exact⟨rfl,kS⟩
theorem NSub (c n:Int) (w:World):Calls Tryz.prog 23 #[.pointer none,.int .i64 c,.int .u64 n,.slice none 0 0] w fun e w'=>e=.returned (.tuple #[idv (0,0,0),.int .i64 1])/\K w w':=by
 have k0:K w (((((w.alloc (.cells #[.pointer none] 28)).alloc (.cells #[.int .i64 c] 3)).alloc (.cells #[.int .u64 n] 33)).alloc (.cells #[.slice none 0 0] 40)).alloc (.cells #[.int .i64 0,.int .u64 0,.int .u64 0] 35)):=((((((K.rf w).al _).al _).al _).al _).al _)
 have hr2:=Blk.new ((((w.alloc (.cells #[.pointer none] 28)).alloc (.cells #[.int .i64 c] 3)).alloc (.cells #[.int .u64 n] 33)).alloc (.cells #[.slice none 0 0] 40)) 35 #[.int .i64 0,.int .u64 0,.int .u64 0]
 have hz:((((w.alloc (.cells #[.pointer none] 28)).alloc (.cells #[.int .i64 c] 3)).alloc (.cells #[.int .u64 n] 33)).alloc (.cells #[.slice none 0 0] 40)).heap.size=w.heap.size+4:=by simp
 rw[hz] at hr2
 clear hz
 have C1:=Lib.hid fun f W=>NCall c f W
 go_enter Tryz.func23,Tryz.ntmps23
 go_wp2_with fail
 generalize World.alloc (World.alloc (World.alloc (World.alloc (World.alloc w _) _) _) _) _=w2 at *
 generalize hgw:w.heap.size+4=g9 at hr2 ⊢
 have HGW:=Lib.hid hgw
 clear hgw
 refine (C1.out _ w2).mono ?_
 rintro e w3 ⟨rfl,k3⟩
 have hr3:=hr2.below k3 hr2.lt
 have k03:=k0.tr k3
 have qr:=hr3.cell
 have zr:=hr3.frozen
 clear C1 hr2
 go_wp2
 have hr91:Blk (World.setCell (World.setCell (World.setCell w3 _ _) _ _) _ _) g9 35 #[.int .i64 0,.int .u64 0,.int .u64 0]:=((hr3.set_ 0 (.int .i64 0)).set_ 1 (.int .u64 0)).set_ 2 (.int .u64 0)
 have kS:=K.set (K.set (K.set k03 (r:=g9) (by have:=HGW.out;omega) 0 (.int .i64 0)) (r:=g9) (by have:=HGW.out;omega) 1 (.int .u64 0)) (r:=g9) (by have:=HGW.out;omega) 2 (.int .u64 0)
 clear qr zr hr3
 generalize World.setCell (World.setCell (World.setCell w3 _ _) _ _) _ _=W9 at *
 have e9:=hr91.cell
 refine bodyPost_ret (v:=.tuple #[idv (0,0,0),.int .i64 1]) (by simp[results,Tryz.results23,go_sem,e9]) rfl ?_
 exact⟨rfl,kS⟩
theorem NUnsub (c n:Int) (w:World):Calls Tryz.prog 20 #[.pointer none,.int .i64 c,.int .u64 n] w fun e w'=>e=.returned (.tuple #[idv (0,0,0),.int .i64 1])/\K w w':=by
 have k0:K w ((((w.alloc (.cells #[.pointer none] 28)).alloc (.cells #[.int .i64 c] 3)).alloc (.cells #[.int .u64 n] 33)).alloc (.cells #[.int .i64 0,.int .u64 0,.int .u64 0] 35)):=(((((K.rf w).al _).al _).al _).al _)
 have hr2:=Blk.new (((w.alloc (.cells #[.pointer none] 28)).alloc (.cells #[.int .i64 c] 3)).alloc (.cells #[.int .u64 n] 33)) 35 #[.int .i64 0,.int .u64 0,.int .u64 0]
 have hz:(((w.alloc (.cells #[.pointer none] 28)).alloc (.cells #[.int .i64 c] 3)).alloc (.cells #[.int .u64 n] 33)).heap.size=w.heap.size+3:=by simp
 rw[hz] at hr2
 clear hz
 have C1:=Lib.hid fun f W=>NCall c f W
 go_enter Tryz.func20,Tryz.ntmps20
 go_wp2_with fail
 generalize World.alloc (World.alloc (World.alloc (World.alloc w _) _) _) _=w2 at *
 generalize hgw:w.heap.size+3=g9 at hr2 ⊢
 have HGW:=Lib.hid hgw
 clear hgw
 refine (C1.out _ w2).mono ?_
 rintro e w3 ⟨rfl,k3⟩
 have hr3:=hr2.below k3 hr2.lt
 have k03:=k0.tr k3
 have qr:=hr3.cell
 have zr:=hr3.frozen
 clear C1 hr2
 go_wp2
 have hr91:Blk (World.setCell (World.setCell (World.setCell w3 _ _) _ _) _ _) g9 35 #[.int .i64 0,.int .u64 0,.int .u64 0]:=((hr3.set_ 0 (.int .i64 0)).set_ 1 (.int .u64 0)).set_ 2 (.int .u64 0)
 have kS:=K.set (K.set (K.set k03 (r:=g9) (by have:=HGW.out;omega) 0 (.int .i64 0)) (r:=g9) (by have:=HGW.out;omega) 1 (.int .u64 0)) (r:=g9) (by have:=HGW.out;omega) 2 (.int .u64 0)
 clear qr zr hr3
 generalize World.setCell (World.setCell (World.setCell w3 _ _) _ _) _ _=W9 at *
 have e9:=hr91.cell
 refine bodyPost_ret (v:=.tuple #[idv (0,0,0),.int .i64 1]) (by simp[results,Tryz.results20,go_sem,e9]) rfl ?_
 exact⟨rfl,kS⟩
theorem NState (w:World):Calls Tryz.prog 18 #[.pointer none] w fun e w'=>e=.returned (.agg zSt)/\K w w':=by
 have k0:K w (w.alloc (.cells zSt 53)):=(K.rf w).al _
 have hr2:=Blk.new w 53 zSt
 go_enter Tryz.func18,Tryz.ntmps18
 go_upto_region 1 with (fail)
 generalize w.alloc _=w2 at *
 generalize hgw:w.heap.size=g9 at hr2 ⊢
 have HGW:=Lib.hid hgw
 clear hgw
 have qr:=hr2.cell
 have zr:=hr2.frozen
 go_wp2
 have hr91:Blk (World.setCell (World.setCell (World.setCell (World.setCell w2 _ _) _ _) _ _) _ _) g9 53 zSt:=(((hr2.set_ 0 (.int .u64 0)).set_ 1 (.slice none 0 0)).set_ 2 (.slice none 0 0)).set_ 3 (.slice none 0 0)
 have kS:=K.set (K.set (K.set (K.set k0 (r:=g9) (by have:=HGW.out;omega) 0 (.int .u64 0)) (r:=g9) (by have:=HGW.out;omega) 1 (.slice none 0 0)) (r:=g9) (by have:=HGW.out;omega) 2 (.slice none 0 0)) (r:=g9) (by have:=HGW.out;omega) 3 (.slice none 0 0)
 clear qr zr hr2
 generalize World.setCell (World.setCell (World.setCell (World.setCell w2 _ _) _ _) _ _) _ _=W9 at *
 have e9:=hr91.cell
 try rw[Exit.noGoto_ret]
 refine bodyPost_ret (v:=.agg zSt) (by simp[results,Tryz.results18,go_sem,e9]) rfl ?_
 exact⟨rfl,kS⟩
