/-
  What is known of an argument that is a script of a broker's calls (layer 20). Conditions: none.
-/
import Derived.Test.YtagfakjifhdpgaaGreatMa33
import Derived.Test.YtagfakjifhdpgaaGreatMd01
import Derived.WalkKit
import Derived.WalkLawsBesides
import Derived.WalkSpells
import Derived.Deep.Draws
import Derived.Deep.AppendLies
import Derived.Maps.AppendAt
import Derived.Laws.CopyOwn
import Derived.Lib.Hide
import Derived.ScopeJumps
import Derived.Laws.IdiomStrings
import Derived.Laws.BytesArg
import Derived.WalkMore
import Derived.Orders
import Derived.Test.YtagfakjifhdpgaaGreatProg
import Derived.BigQuiet
import Derived.Deep.QuietTactic
import Derived.Deep.CutRange
import Derived.Deep.LoopGhost
import Derived.IntWalk
import Derived.Deep.RegionHeld3
import Derived.Deep.DrawnRows
import Derived.Deep.CutBlock
import Derived.Maps.OwnSet
import Derived.Carry
set_option maxRecDepth 100000
set_option maxHeartbeats 16000000
set_option linter.unusedVariables false
set_option linter.unusedSimpArgs false
namespace Go.Proofs.YtagfakjifhdpgaaGreat
open Go Go.RowKit
section
open Go Go.RowKit Go.ChangeShapes Go.WideShapes Go.ChangeAt
structure CallB where
 kind:Int
 cl:Int
 n:Int
 e:List Att
 f:List Tst
 m:Msg
 b:List UInt8
def fitB (c:CallB):Prop:=i64ok c.kind/\i64ok c.cl/\i64ok c.n/\(∀ a∈c.e,fitA a)/\(∀ t∈c.f,fitT t)/\fitM c.m
abbrev cbA (c:CallB) (ve vf v1 v2 v3 v4 v5 v6 vb:Value):Array Value:=#[.int .i64 c.kind,.int .i64 c.cl,.int .i64 c.n,ve,vf,.int .i64 c.m.kind,.int .u64 (c.m.got:Int),v1,v2,v3,v4,v5,v6,vb]
def cbS:Shp CallB where
 size:=14
 rel c cs w:=∃ ve vf v1 v2 v3 v4 v5 v6 vb,cs=(cbA c ve vf v1 v2 v3 v4 v5 v6 vb).toList/\evt c.e ve w/\flt c.f vf w/\lst voS c.m.votes v1 w/\lst enS c.m.asks v2 w/\lst enS c.m.entries v3 w/\lst enS c.m.prepares v4 w/\lst idS c.m.aborts v5 w/\lst idS c.m.ends v6 w/\sl c.b vb w
 len:=by rintro _ _ _ ⟨ve,vf,v1,v2,v3,v4,v5,v6,vb,rfl,_⟩;rfl
 one:=by
  rintro x _ _ ⟨ve,vf,v1,v2,v3,v4,v5,v6,vb,rfl,⟨_,_,rfl,_⟩,⟨_,_,rfl,_⟩,⟨_,_,rfl,_⟩,⟨_,_,rfl,_⟩,⟨_,_,rfl,_⟩,⟨_,_,rfl,_⟩,⟨_,_,rfl,_⟩,⟨_,_,rfl,_⟩,⟨_,_,rfl,_⟩⟩ u hu
  simp at hu
  rcases hu with rfl|rfl|rfl|rfl|rfl|rfl|rfl|rfl|rfl|rfl|rfl|rfl|rfl|rfl <;> rfl
 st:=by
  rintro _ _ _ _ ⟨ve,vf,v1,v2,v3,v4,v5,v6,vb,rfl,h1,h2,h3,h4,h5,h6,h7,h8,h9⟩ k
  exact⟨ve,vf,v1,v2,v3,v4,v5,v6,vb,rfl,evt_st _ _ _ _ h1 k,flt_st _ _ _ _ h2 k,lst_st h3 k,lst_st h4 k,lst_st h5 k,lst_st h6 k,lst_st h7 k,lst_st h8 k,sl_st _ _ _ _ h9 k⟩
def repCallsB (w:World) (v:Value):Prop:=∃ l,lst cbS l v w/\∀ c∈l,fitB c
section
variable {H:Type} {enc:TypeId×Value->H} {w:World} {base:Nat} {r:Reach} {b0:Nat} {spare:Nat->Bool} {held:Bool} {v:Value} {d:DataW H} {p:List MemPlace}
theorem cb_cells {fuel:Nat} {cs:List Value} {x:DataW H×List MemPlace} (h:DataW.trod enc Tryz.prog w base spare held fuel 64 cs=some x):∃ c:CallB,cbS.rel c cs w/\fitB c:=by
 obtain⟨xs,n,_,_,hlen,hxl,hf⟩:=DataW.trod_struct Tryz.underlying64 h
 have hC:Tryz.prog.cellsOf 64=14:=by kernel_rfl
 rw[hC] at hlen
 have e1:Tryz.prog.cellsOf 3=1:=by kernel_rfl
 have e4:Tryz.prog.cellsOf 45=1:=by kernel_rfl
 have e5:Tryz.prog.cellsOf 40=1:=by kernel_rfl
 have e6:Tryz.prog.cellsOf 61=8:=by kernel_rfl
 have e7:Tryz.prog.cellsOf 62=1:=by kernel_rfl
 have hxl':xs.length=7:=hxl
 match cs,hlen with
 | [c0,c1,c2,c3,c4,c5,c6,c7,c8,c9,c10,c11,c12,c13],_ =>
   have h0:=hf 0 _ rfl
   have h1:=hf 1 _ rfl
   have h2:=hf 2 _ rfl
   have h3:=hf 3 _ rfl
   have h4:=hf 4 _ rfl
   have h5:=hf 5 _ rfl
   have h6:=hf 6 _ rfl
   simp[e1,e4,e5,e6,e7] at h0 h1 h2 h3 h4 h5 h6
   rw[List.getElem?_eq_getElem (by omega)] at h0 h1 h2 h3 h4 h5 h6
   obtain⟨k,ek,wk⟩:=i64_cells h0
   obtain⟨c,ec,wc⟩:=i64_cells h1
   obtain⟨m,em,wm⟩:=i64_cells h2
   obtain⟨e,⟨v,ev,he⟩,we⟩:=ev_cells h3
   obtain⟨vf,f,ef,hfl,wf⟩:=fl_cells h4
   obtain⟨ms,v1,v2,v3,v4,v5,v6,es,⟨g1,g2,g3,g4,g5,g6⟩,wms⟩:=ms_cells h5
   obtain⟨vb,eb,B,cb,bl,evb,hb,-⟩:=bytes_cells h6
   simp at ek ec em ev ef es eb
   obtain⟨rfl,rfl,rfl,rfl,rfl,rfl,rfl,rfl⟩:=es
   subst ek ec em ev ef eb
   exact⟨⟨k,c,m,e,f,ms,bl⟩,⟨_,_,_,_,_,_,_,_,_,rfl,he,hfl,g1,g2,g3,g4,g5,g6,⟨B,cb,evb,hb⟩⟩,wk,wc,wm,we,wf,wms⟩
theorem repCallsB_of (hv:Value.okWide Tryz.prog w r b0 58 v) (h:DataW.Trod enc Tryz.prog w base spare held 58 v d p):repCallsB w v:=by
 obtain⟨A,n,c,rfl⟩:=okWide_slice Tryz.underlying58 hv
 obtain⟨fuel,hf⟩:=h
 obtain⟨v,l,e,hl,ho⟩:=lst_cells Tryz.underlying58 cbS fitB (by kernel_rfl) (by decide) (fun _ _ _ _ ht=>cb_cells ht) hf
 simp[Value.cells] at e
 subst e
 exact⟨l,hl,ho⟩
end
end
def DkS (Z:Nat->Prop) (gd:Nat) (d:Dsk) (W:World):Prop:=∃ vh,DkR gd vh d W/\∀ k,Z k->¬ DkX gd vh k/\k<W.heap.size
section
variable {X Z:Nat->Prop} {g gd:Nat} {B:Brk} {W W':World}
theorem LivX.dk (h:LivX X Z g gd B W):DkS Z gd B.dk W:=by
 obtain⟨-,p,hb,hg,hz⟩:=h
 obtain rfl:p.gd=gd:=congrArg Prod.snd hg
 exact⟨p.vd,hb.lg.dk,fun k hk=>⟨fun hx=>(hz k hk).1 (.inr (.inr (.inr (.inr (.inr hx))))),(hz k hk).2⟩⟩
theorem KCrash {d:Dsk} (h:DkS Z gd d W) (keep:Int) (hk:i64ok keep) :
 Calls Tryz.prog 21 #[.pointer (some ⟨gd,0,none⟩),.int .i64 keep] W fun e w'=>e=.returned (.tuple #[])/\DkS Z gd d w'/\UpN (fun k=>¬ Z k) W w':=by
 obtain⟨vh,hd,hz⟩:=h
 refine (DCrash_calls gd vh (dkB d) d.room keep W hd hk).mono ?_
 rintro e w' ⟨rfl,h1,h2⟩
 exact⟨rfl,⟨vh,h1,fun k hk=>⟨(hz k hk).1,Nat.lt_of_lt_of_le (hz k hk).2 h2.up.size⟩⟩,h2.up.more fun k hk hZ=>(hz k hZ).1 hk⟩
theorem KOpen {d:Dsk} {s:Stt} (h:DkS Z gd d W) (hG:DskG d s) (hl:s.life+1<18446744073709551616) (p hom:List Int) (me:Int) (v1 v2:Value) (h1:Fx (fun k=>¬ Z k) (fun W=>lst inS p v1 W) W) (h2:Fx (fun k=>¬ Z k) (fun W=>lst inS hom v2 W) W)
 (ht:okTr p=true) (hm:inR p me=true) (hh:okHm p hom=true) (hr:dkLen (recsS (lifeS s))<=d.room) (hX:∀ k,X k->Z k) :
 Calls Tryz.prog 11 #[.int .i64 me,v1,v2,.pointer (some ⟨gd,0,none⟩)] W fun e w'=>∃ g,e=.returned (.tuple #[.pointer (some ⟨g,0,none⟩),.int .i64 0])/\LivX X Z g gd (openB me p hom ⟨recsS (lifeS s),d.room⟩ (lifeS s)) w'/\UpN (fun k=>¬ Z k) W w'/\W.heap.size<=g:=by
 obtain⟨vh,hd,hz⟩:=h
 have hM:∀ k,DkX gd vh k->¬ Z k:=fun k hk hZ=>(hz k hZ).1 hk
 refine (BOpen_calls gd vh d s p hom me v1 v2 W hd hG hl (h1.less hM) (h2.less hM) ht hm hh).mono ?_
 intro e w' hp
 unfold OpPost at hp
 rw[if_pos hr] at hp
 obtain⟨q,hq⟩:=hp
 obtain⟨hL,u⟩:=LivX.new (X:=X) hq (GoodB.open_ ht hm hh (hG.life hr)) (fun k hk=>(hz k (hX k hk)).2) hz
 exact⟨q.g,hq.ret,hL,u,hq.g⟩
theorem OwnY.ids {N:Nat->Prop} {base:Nat} {e:TypeId} {l:List Idn} {v:Value} (h:OwnY (fun _=>True) base e idS l v W) (u:UpN N W W') (hN:∀ k,v.ownBlock=some k->¬ N k):OwnY (fun _=>True) base e idS l v W':=by
 obtain⟨css,h1,h2,h3⟩:=h
 exact⟨css,row_upn h1 u hN,h2,fun w'' u'=>h3 w'' ((u.more fun _ _=>.inl trivial).tr u')⟩
end
structure IdsI (me:Int) (par hom:List Int) (B:Brk) (n:Nat) (l:List Idn):Prop where
 hme:B.me=me
 hpar:B.par=par
 hhom:B.hom=hom
 st:∃ k,k<=n+1/\B.st=⟨k,[],[],[]⟩
 told:B.told=[]
 calls:B.calls<=n
 dk:B.dk.room=60000
 ids:∀ a∈l,a.1=me/\(a.2.1<B.st.life∨a.2.1=B.st.life/\a.2.2<=B.calls)
theorem ids_room:∀ n:Fin 64,dkLen (recsS (lifeS ⟨n.val,[],[],[]⟩))<=60000:=by decide +kernel
theorem ids_life {n:Nat} (h:n<64):lifeS ⟨n,[],[],[]⟩=⟨n+1,[],[],[]⟩:=by unfold lifeS;simp only[Nat.mod_eq_of_lt (show n+1<18446744073709551616 by omega)]
section
variable {me:Int} {par hom:List Int} {B:Brk} {n:Nat} {l:List Idn}
theorem IdsI.step (h:IdsI me par hom B n l):IdsI me par hom B (n+1) l:=by
 obtain⟨k,hk,hs⟩:=h.st
 exact⟨h.hme,h.hpar,h.hhom,⟨k,by omega,hs⟩,h.told,by have:=h.calls;omega,h.dk,h.ids⟩
theorem IdsI.start:IdsI me par hom (openB me par hom ⟨recsS (lifeS st0),60000⟩ (lifeS st0)) 0 []:=⟨rfl,rfl,rfl,⟨1,by omega,rfl⟩,rfl,by simp[openB],rfl,by simp⟩
theorem IdsI.again (h:IdsI me par hom B n l) (hn:n<60):dkLen (recsS (lifeS B.st))<=60000/\B.st.life+1<18446744073709551616/\IdsI me par hom (openB me par hom ⟨recsS (lifeS B.st),60000⟩ (lifeS B.st)) (n+1) l:=by
 obtain⟨k,hk,hs⟩:=h.st
 have h1:=And.intro (ids_room ⟨k,by omega⟩) (ids_life (n:=k) (by omega))
 have hids:=h.ids
 rw[hs] at hids ⊢
 refine⟨h1.1,by show k+1<_;omega,rfl,rfl,rfl,⟨k+1,by omega,h1.2⟩,rfl,by simp[openB],rfl,fun a ha=>⟨(hids a ha).1,.inl ?_⟩⟩
 show a.2.1<(lifeS ⟨k,[],[],[]⟩).life
 rw[h1.2]
 rcases (hids a ha).2 with h|⟨h,-⟩
 · have:a.2.1<k:=h
   show a.2.1<k+1
   omega
 · have:a.2.1=k:=h
   show a.2.1<k+1
   omega
theorem IdsI.call (h:IdsI me par hom B n l) (c:Int) {t:Txn} (ht:idE t.e=newB B) :
 ((callB B c (addT B.txns t)).2.2≠0/\(callB B c (addT B.txns t)).1=B) ∨
 ((callB B c (addT B.txns t)).2.2=0/\IdsI me par hom (callB B c (addT B.txns t)).1 (n+1) (l++[(callB B c (addT B.txns t)).2.1])/\(callB B c (addT B.txns t)).2.1 ∉ l/\(callB B c (addT B.txns t)).2.1=(me,(callB B c (addT B.txns t)).1.st.life,B.calls+1)/\statusB (callB B c (addT B.txns t)).1 (callB B c (addT B.txns t)).2.1≠0):=by
 obtain⟨k,hk,hs⟩:=h.st
 unfold callB
 cases hh:homeB' B c
 · left;simp
 by_cases h0:(addT B.txns t).2=0
 · right
   have hl:(addT B.txns t).1=B.txns++[t]:=by
    revert h0
    unfold addT
    split
    · intro h;simp at h
    split
    · intro h;simp at h
    split
    · intro h;simp at h
    split
    · intro h;simp at h
    · intro _;rfl
   simp only[h0,if_true,hl,reduceIte]
   have hnew:newB B ∉ l:=fun hm=>by
    obtain⟨-,h1⟩:=h.ids _ hm
    simp only[newB] at h1
    omega
   refine⟨trivial,⟨h.hme,h.hpar,h.hhom,⟨k,by omega,hs⟩,h.told,by have:=h.calls;show B.calls+1<=n+1;omega,h.dk,fun a ha=>?_⟩,hnew,by simp[newB,h.hme],?_⟩
   · rcases List.mem_append.1 ha with ha|ha
     · obtain⟨h1,h2⟩:=h.ids a ha
       refine⟨h1,?_⟩
       rcases h2 with h2|⟨h2,h3⟩
       · exact .inl h2
       · exact .inr ⟨h2,by show a.2.2<=B.calls+1;omega⟩
     · simp at ha
       subst ha
       exact⟨h.hme,.inr ⟨rfl,Nat.le_refl _⟩⟩
   · have h1:hasE B.st.list (newB B)=false:=by rw[hs];rfl
     have h2:abortedB { B with txns:=B.txns++[t],calls:=B.calls+1 } (newB B)=false:=by
      unfold abortedB
      show (hasI B.told (newB B)||hasI B.st.ab (newB B))=false
      rw[h.told,hs];rfl
     have h3:(findT (B.txns++[t]) (newB B)).2=true:=by
      unfold findT
      have:((B.txns++[t]).find? (isId (newB B))).isSome=true:=by
       rw[List.find?_isSome]
       exact⟨t,by simp,by simp[isId,<- ht];rfl⟩
      cases hf:(B.txns++[t]).find? (isId (newB B)) with
      | none=>rw[hf] at this;simp at this
      | some y=>rfl
     unfold statusB
     show (if hasE B.st.list (newB B)=true then (3:Int) else if abortedB { B with txns:=B.txns++[t],calls:=B.calls+1 } (newB B)=true then 4 else if (findT (B.txns++[t]) (newB B)).2=true then (if (findT (B.txns++[t]) (newB B)).1.asked then 2 else 1) else 0)≠0
     rw[h1,h2,h3]
     simp only[Bool.false_eq_true,if_false,reduceIte]
     split <;> decide
 · left
   simp[h0]
end
def hA1 (m c:Int):List Txn×Int:=beginT [] (m,1,1) c
def hA2 (m c:Int):List Txn×Int:=askT (hA1 m c).1 ⟨2,m,1,2,c,1,[],[]⟩
def hA3 (m c:Int):List Txn×Int:=askT (hA2 m c).1 ⟨3,m,1,3,c,1,[],[]⟩
theorem homes_room:dkLen (recsS (lifeS st0))<=60000:=by decide +kernel
def repInts (w:World) (v:Value):Prop:=∃ l:List Int,lst inS l v w/\∀ n∈l,i64ok n
