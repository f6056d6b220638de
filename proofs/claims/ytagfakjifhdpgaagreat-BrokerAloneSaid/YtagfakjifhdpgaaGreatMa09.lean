/-
  The walks of the document's Same and SameRecord, and of the statements' Few, of entries (layer 11). Conditions: of Same: lists of at most a million.
-/
import Derived.Test.YtagfakjifhdpgaaGreatMa08
set_option maxRecDepth 100000
set_option maxHeartbeats 16000000
set_option linter.unusedVariables false
set_option linter.unusedSimpArgs false
namespace Go.Proofs.YtagfakjifhdpgaaGreat
open Go Go.RowKit
def smallEn (x:Ent):Prop:=x.f.length<=1000000/\x.es.length<=1000000/\∀ e∈x.es,e.length<=1000000
structure Stt where
 life:Nat
 list:List Ent
 prom:List Ent
 ab:List Idn
def st0:Stt:=⟨0,[],[],[]⟩
def idE (x:Ent):Idn:=(x.br,x.life,x.ser)
def idR (x:Rec):Idn:=(x.br,x.life,x.ser)
def hasE (l:List Ent) (a:Idn):Bool:=l.any fun x=>decide (idE x=a)
def hasI (l:List Idn) (a:Idn):Bool:=l.any fun x=>decide (x=a)
def dropE (l:List Ent) (a:Idn):List Ent:=l.filter fun x=>!decide (idE x=a)
def on1 (s:Stt) (r:Rec):Option Stt:=if r.n<=s.life then none else some ⟨r.n,s.list,s.prom,s.ab⟩
def on2 (s:Stt) (r:Rec):Option Stt:=if ¬ r.n=s.list.length then none else if hasE s.list (idE r.e) then none else if hasI s.ab (idE r.e) then none else some ⟨s.life,s.list++[r.e],dropE s.prom (idE r.e),s.ab⟩
def on3 (s:Stt) (r:Rec):Option Stt:=if hasE s.list (idE r.e) then none else if hasE s.prom (idE r.e) then none else if hasI s.ab (idE r.e) then none else some ⟨s.life,s.list,s.prom++[r.e],s.ab⟩
def on4 (s:Stt) (r:Rec):Option Stt:=if hasE s.list (idR r) then none else if hasI s.ab (idR r) then none else some ⟨s.life,s.list,dropE s.prom (idR r),s.ab++[idR r]⟩
def on5 (s:Stt) (r:Rec):Option Stt:=if hasE s.prom (idR r) then some ⟨s.life,s.list,dropE s.prom (idR r),s.ab⟩ else none
def onS (s:Stt) (r:Rec):Option Stt:=if r.kind=1 then on1 s r else if r.kind=2 then on2 s r else if r.kind=3 then on3 s r else if r.kind=4 then on4 s r else on5 s r
def stepS (s:Stt) (r:Rec):Stt×Int:=if okRec r then (match onS s r with|none=>(s,160)|some t=>(t,0)) else (s,110)
structure Txn where
 e:Ent
 asked:Bool
 deriving DecidableEq
def idOf (x:Ent):Idn:=(x.br,x.life,x.ser)
def encOf (x:Ent):List UInt8:=if okEn x then encEn x else []
def bigE (x:Ent):Bool:=decide (3000<(encOf x).length)
def isId (a:Idn) (t:Txn):Bool:=decide (idOf t.e=a)
def seekT (l:List Txn) (a:Idn):Option Nat:=l.findIdx? (isId a)
def seekI (l:List Txn) (a:Idn):Int:=match seekT l a with|some k=>(k:Int)|none=>-1
def openT (l:List Txn) (a:Idn):Option Nat:=match seekT l a with|some k=>if (l[k]?.map Txn.asked)=some true then none else some k|none=>none
def openI (l:List Txn) (a:Idn):Int:=match openT l a with|some k=>(k:Int)|none=>-1
def addT (l:List Txn) (t:Txn):List Txn×Int :=
 if (seekT l (idOf t.e)).isSome then (l,170) else if okEn t.e=false then (l,110) else if 8<=l.length then (l,171) else if bigE t.e then (l,172) else (l++[t],0)
def pubE (a:Idn) (c:Int):Ent:=⟨1,a.1,a.2.1,a.2.2,c,0,[],[]⟩
def beginT (l:List Txn) (a:Idn) (c:Int):List Txn×Int:=addT l ⟨pubE a c,false⟩
def moreE (x:Ent) (e:List Att):Ent:={ x with es:=x.es++[e] }
def publishT (l:List Txn) (a:Idn) (e:List Att):List Txn×Int :=
 match openT l a with
 | none=>(l,170)
 | some k=>match l[k]? with
   | none=>(l,170)
   | some t=>if okE e=false then (l,40) else if 8<=t.e.es.length then (l,171) else if bigE (moreE t.e e) then (l,172) else (l.set k ⟨moreE t.e e,t.asked⟩,0)
def commitT (l:List Txn) (a:Idn):List Txn×Int :=
 match openT l a with
 | none=>(l,170)
 | some k=>match l[k]? with
   | none=>(l,170)
   | some t=>(l.set k ⟨t.e,true⟩,0)
def settleT (l:List Txn) (a:Idn):List Txn:=match seekT l a with|none=>l|some k=>l.eraseIdx k
def abortT (l:List Txn) (a:Idn):List Txn×Int:=if (openT l a).isSome then (settleT l a,0) else (l,170)
def askT (l:List Txn) (x:Ent):List Txn×Int:=addT l ⟨x,true⟩
def asksT (l:List Txn):List Ent:=((l.filter Txn.asked).map Txn.e).take 4
def txn0:Txn:=⟨ent0,false⟩
def findT (l:List Txn) (a:Idn):Txn×Bool:=match l.find? (isId a) with|some t=>(t,true)|none=>(txn0,false)
structure CallT where
 kind:Int
 id:Idn
 cl:Int
 e:List Att
 x:Ent
def nextT (l:List Txn) (c:CallT):List Txn×Int :=
 if c.kind=1 then beginT l c.id c.cl else if c.kind=2 then publishT l c.id c.e else if c.kind=3 then commitT l c.id else if c.kind=4 then abortT l c.id
 else if c.kind=5 then askT l c.x else if c.kind=6 then (settleT l c.id,0) else (l,0)
structure OkT (l:List Txn):Prop where
 len:l.length<=8
 each:∀ t∈l,okEn t.e=true/\fitEn t.e/\bigE t.e=false
 uni:∀ (i j:Nat) (s t:Txn),l[i]?=some s->l[j]?=some t->idOf s.e=idOf t.e->i=j
theorem seekT_some {l:List Txn} {a:Idn} {k:Nat} (h:seekT l a=some k):∃ t,l[k]?=some t/\idOf t.e=a/\∀ j,j<k->∀ s,l[j]?=some s->idOf s.e≠a:=by
 unfold seekT at h
 rw[List.findIdx?_eq_some_iff_getElem] at h
 obtain⟨hk,h1,h2⟩:=h
 refine⟨l[k],List.getElem?_eq_getElem hk,by simpa [isId] using h1,fun j hj s hs=>?_⟩
 have:=h2 j hj
 rw[List.getElem?_eq_getElem (by omega)] at hs
 injection hs with hs
 rw[hs] at this
 simpa [isId] using this
theorem seekT_none {l:List Txn} {a:Idn} (h:seekT l a=none):∀ t∈l,idOf t.e≠a:=by
 unfold seekT at h
 rw[List.findIdx?_eq_none_iff] at h
 intro t ht
 simpa [isId] using h t ht
theorem find_false {l:List Txn} {a:Idn} (h:∀ t∈l,idOf t.e≠a):findT l a=(txn0,false):=by
 unfold findT
 rw[List.find?_eq_none.2 (fun t ht=>by simpa [isId] using h t ht)]
theorem openT_some {l:List Txn} {a:Idn} {k:Nat} (h:openT l a=some k):∃ t,l[k]?=some t/\idOf t.e=a/\t.asked=false/\seekT l a=some k:=by
 unfold openT at h
 split at h
 · rename_i j hj
   obtain⟨t,h1,h2,_⟩:=seekT_some hj
   split at h
   · cases h
   · rename_i hn
     injection h with h
     subst h
     rw[h1] at hn
     exact⟨t,h1,h2,by simpa using hn,hj⟩
 · cases h
theorem OkT.nil:OkT []:=⟨by simp,by simp,by simp⟩
theorem OkT.set {l:List Txn} (hl:OkT l) {k:Nat} {t u:Txn} (hk:l[k]?=some t) (hi:idOf u.e=idOf t.e) (hu:okEn u.e=true/\fitEn u.e/\bigE u.e=false):OkT (l.set k u):=by
 have hlt:k<l.length:=(List.getElem?_eq_some_iff.1 hk).1
 refine⟨by simpa using hl.len,fun s hs=>?_,fun i j s r hs hr hsr=>?_⟩
 · rcases List.mem_or_eq_of_mem_set hs with hs|rfl
   · exact hl.each s hs
   · exact hu
 · have key:∀ (i:Nat) (s:Txn),(l.set k u)[i]?=some s->∃ s',l[i]?=some s'/\idOf s'.e=idOf s.e:=by
    intro i s hs
    by_cases hik:k=i
    · subst hik
      rw[List.getElem?_set_self hlt] at hs
      injection hs with hs
      exact⟨t,hk,by rw[<- hs,hi]⟩
    · rw[List.getElem?_set_ne hik] at hs
      exact⟨s,hs,rfl⟩
   obtain⟨s',h1,h2⟩:=key i s hs
   obtain⟨r',h3,h4⟩:=key j r hr
   exact hl.uni i j s' r' h1 h3 (by rw[h2,h4,hsr])
theorem OkT.snoc {l:List Txn} (hl:OkT l) {t:Txn} (h8:l.length<8) (hn:∀ s∈l,idOf s.e≠idOf t.e) (ht:okEn t.e=true/\fitEn t.e/\bigE t.e=false):OkT (l++[t]):=by
 refine⟨by simp;omega,fun s hs=>?_,fun i j s r hs hr hsr=>?_⟩
 · rcases List.mem_append.1 hs with hs|hs
   · exact hl.each s hs
   · simp at hs;subst hs;exact ht
 · have key:∀ (i:Nat) (s:Txn),(l++[t])[i]?=some s->(i<l.length/\l[i]?=some s)∨(i=l.length/\s=t):=by
    intro i s hs
    by_cases hi:i<l.length
    · rw[List.getElem?_append_left hi] at hs
      exact .inl ⟨hi,hs⟩
    · rw[List.getElem?_append_right (by omega)] at hs
      have h0:i - l.length=0:=by
       by_cases h:i - l.length=0
       · exact h
       · rw[List.getElem?_eq_none (by simp;omega)] at hs;cases hs
      rw[h0] at hs
      simp at hs
      exact .inr ⟨by omega,hs.symm⟩
   rcases key i s hs with ⟨hi,h1⟩|⟨rfl,rfl⟩
   · rcases key j r hr with ⟨hj,h2⟩|⟨rfl,rfl⟩
     · exact hl.uni i j s r h1 h2 hsr
     · exact absurd hsr (hn s (List.mem_of_getElem? h1))
   · rcases key j r hr with ⟨hj,h2⟩|⟨rfl,rfl⟩
     · exact absurd hsr.symm (hn r (List.mem_of_getElem? h2))
     · rfl
theorem OkT.erase {l:List Txn} (hl:OkT l) (k:Nat):OkT (l.eraseIdx k):=by
 refine⟨Nat.le_trans (List.length_eraseIdx_le l k) hl.len,fun s hs=>hl.each s (List.mem_of_mem_eraseIdx hs),fun i j s r hs hr hsr=>?_⟩
 rw[List.getElem?_eraseIdx] at hs hr
 split at hs <;> split at hr
 · exact hl.uni i j s r hs hr hsr
 · have:=hl.uni i (j+1) s r hs hr hsr;omega
 · have:=hl.uni (i+1) j s r hs hr hsr;omega
 · have:=hl.uni (i+1) (j+1) s r hs hr hsr;omega
theorem addT_ok {l:List Txn} (hl:OkT l) (t:Txn) (hf:fitEn t.e):OkT (addT l t).1:=by
 unfold addT
 split
 · exact hl
 · rename_i hs
   split
   · exact hl
   · rename_i ho
     split
     · exact hl
     · split
       · exact hl
       · rename_i h8 hb
         have hn:seekT l (idOf t.e)=none:=by simpa using hs
         exact hl.snoc (by omega) (seekT_none hn) ⟨by simpa using ho,hf,by simpa using hb⟩
theorem okEn_more {x:Ent} {e:List Att} (h:okEn x=true) (hk:x.kind=1) (h8:x.es.length<8) (he:okE e=true):okEn (moreE x e)=true:=by
 obtain⟨kd,b,l,s,cl,u,f,es⟩:=x
 simp only[moreE]
 simp only at hk h8
 subst hk
 simp only[okEn,Bool.and_eq_true,decide_eq_true_eq,if_true,List.all_append,List.length_append,List.length_singleton] at h ⊢
 simp only[List.all_cons,List.all_nil,Bool.and_true,he]
 exact⟨h.1,⟨⟨h.2.1.1,by omega⟩,h.2.2,trivial⟩⟩
theorem nextT_ok {l:List Txn} (hl:OkT l) (c:CallT) (hi:i64ok c.id.1/\c.id.2.1<18446744073709551616/\c.id.2.2<18446744073709551616) (hc:i64ok c.cl) (he:∀ a∈c.e,fitA a) (hx:fitEn c.x)
 (hkind:∀ t∈l,t.asked=false->t.e.kind=1):OkT (nextT l c).1:=by
 unfold nextT
 split
 · exact addT_ok hl _ (by refine⟨by simp[pubE,i64ok],hi.1,hc,hi.2.1,hi.2.2,by simp[pubE],by simp[pubE],by simp[pubE]⟩)
 · split
   · unfold publishT
     split
     · exact hl
     · rename_i k hk
       obtain⟨t,h1,h2,h3,_⟩:=openT_some hk
       rw[h1]
       simp only
       split
       · exact hl
       · rename_i hoe
         split
         · exact hl
         · rename_i h8
           split
           · exact hl
           · rename_i hb
             obtain⟨o1,o2,o3⟩:=hl.each t (List.mem_of_getElem? h1)
             refine hl.set h1 rfl ⟨okEn_more o1 (hkind t (List.mem_of_getElem? h1) h3) (by omega) (by simpa using hoe),?_,by simpa using hb⟩
             obtain⟨f1,f2,f3,f4,f5,f6,f7,f8⟩:=o2
             refine⟨f1,f2,f3,f4,f5,f6,f7,?_⟩
             intro e he'
             rcases List.mem_append.1 he' with h|h
             · exact f8 e h
             · simp at h;subst h;exact he
   · split
     · unfold commitT
       split
       · exact hl
       · rename_i k hk
         obtain⟨t,h1,h2,h3,_⟩:=openT_some hk
         rw[h1]
         exact hl.set h1 rfl (hl.each t (List.mem_of_getElem? h1))
     · split
       · unfold abortT
         split
         · unfold settleT;split
           · exact hl
           · exact hl.erase _
         · exact hl
       · split
         · exact addT_ok hl _ hx
         · split
           · unfold settleT;split
             · exact hl
             · exact hl.erase _
           · exact hl
section
open Go Go.RowKit Go.ChangeShapes Go.WideShapes Go.ChangeAt
abbrev txA (t:Txn) (vf ve:Value):Array Value:=#[.int .i64 t.e.kind,.int .i64 t.e.br,.int .u64 (t.e.life:Int),.int .u64 (t.e.ser:Int),.int .i64 t.e.cl,.int .u64 (t.e.sub:Int),vf,ve,.bool t.asked]
def txS:Shp Txn where
 size:=9
 rel t cs w:=∃ vf ve,cs=(txA t vf ve).toList/\flt t.e.f vf w/\lst evS t.e.es ve w
 len:=by rintro _ _ _ ⟨vf,ve,rfl,_⟩;rfl
 one:=by
  rintro x _ _ ⟨vf,ve,rfl,⟨A,c,rfl,_⟩,⟨D,d,rfl,_⟩⟩ u hu
  simp at hu
  rcases hu with rfl|rfl|rfl|rfl|rfl|rfl|rfl|rfl|rfl <;> rfl
 st:=by rintro _ _ _ _ ⟨vf,ve,rfl,h1,h2⟩ k;exact⟨vf,ve,rfl,flt_st _ _ _ _ h1 k,lst_st h2 k⟩
def txv (t:Txn) (v:Value) (w:World):Prop:=∃ vf ve,v=.agg (txA t vf ve)/\flt t.e.f vf w/\lst evS t.e.es ve w
end
def entO (B:Nat) (x:Ent) (v:Value) (w:World):Prop:=∃ vf ve,v=.agg (entA x vf ve)/\OwnF w B vf x.f/\OwnL B B 45 evS x.es ve w
theorem entO_up {B:Nat} {x:Ent} {v:Value} {w:World} (h:entO B x v w):∀ w',UpB B none w w'->entO B x v w':=by
 obtain⟨vf,ve,e,h1,h2⟩:=h
 exact fun w' u=>⟨vf,ve,e,h1.up u,h2.up (Nat.le_refl _) u⟩
theorem entO_ent {B:Nat} {x:Ent} {v:Value} {w:World} (h:entO B x v w):ent x v w:=by
 obtain⟨vf,ve,e,h1,h2⟩:=h
 exact⟨vf,ve,e,flt_own h1,h2.lst⟩
theorem SWhole_calls (x:Ent) (v:Value) (w:World) (h:ent x v w) (hs:smallEn x) :
 Calls Tryz.prog 89 #[v] w fun e w'=>∃ v',e=.returned v'/\entO w.heap.size x v' w'/\K w w':=by
 obtain⟨vf,ve,rfl,hf,he⟩:=h
 obtain⟨A,c,e0,hfr⟩:=hf
 obtain rfl:=e0
 obtain⟨D,d,e0,he,hd⟩:=he
 obtain rfl:=e0
 obtain⟨hs1,hs2,hs3⟩:=hs
 obtain⟨k,b,l,s,cl,u,f,es⟩:=x
 simp only at hfr he hd hs1 hs2 hs3 ⊢
 have hx:=(Blk.new w 42 (entA ⟨k,b,l,s,cl,u,f,es⟩ (.slice A f.length c) (.slice D es.length d))).alloc (.cells zEnt 42)
 have hr:=Blk.new (w.alloc (.cells (entA ⟨k,b,l,s,cl,u,f,es⟩ (.slice A f.length c) (.slice D es.length d)) 42)) 42 zEnt
 have k1:K w ((w.alloc (.cells (entA ⟨k,b,l,s,cl,u,f,es⟩ (.slice A f.length c) (.slice D es.length d)) 42)).alloc (.cells zEnt 42)):=((K.rf w).al _).al _
 have hz:(w.alloc (.cells (entA ⟨k,b,l,s,cl,u,f,es⟩ (.slice A f.length c) (.slice D es.length d)) 42)).heap.size=w.heap.size+1:=by simp
 rw[hz] at hr
 clear hz
 have HS3:=Lib.hid hs3
 clear hs3
 go_enter Tryz.func89,Tryz.ntmps89
 go_upto_region 1 with (fail)
 generalize World.alloc (World.alloc w _) _=w1 at *
 have hfr1:=(hfr.below k1 (Nat.le_refl _)).more k1.size
 have hr1:=hr.lt
 clear hfr
 have q:=hx.cell
 have z:=hx.frozen
 go_wp2_with (at_builtin;refine wpList_app rfl _ _ 40 rfl w1.heap.size 87 _ 5 56 TF _ 0 [] rfl (World.ownsRow_nil _ _ _ _) _ A f.length c (f.flatMap tstc) rfl hfr1 (tsts_one' f) ?p1 (Nat.le_refl _) ?_)
 case p1=>omega
 intro v1 w2 ho1 _ _ hb1
 have hx2:=hx.below hb1 hx.lt
 have hr2:=hr.below hb1 hr.lt
 have k2:=k1.tr hb1
 obtain⟨A1,c1,rfl,-⟩:=(show OwnF w2 w1.heap.size v1 f from ho1).slice
 clear q z hx hr
 have q:=hx2.cell
 have z:=hx2.frozen
 have hz12:=hb1.size
 clear hb1
 go_upto_region 3 with (fail)
 have hx3:Blk (w2.setCell ⟨w.heap.size,6,none⟩ (.slice A1 f.length c1)) w.heap.size 42 #[.int .i64 k,.int .i64 b,.int .u64 (l:Int),.int .u64 (s:Int),.int .i64 cl,.int .u64 (u:Int),.slice A1 f.length c1,.slice D es.length d]:=hx2.set_ 6 (.slice A1 f.length c1)
 have hr3:=hr2.far (p:=⟨w.heap.size,6,none⟩) (by simp) (.slice A1 f.length c1)
 have k3:K w (w2.setCell ⟨w.heap.size,6,none⟩ (.slice A1 f.length c1)):=K.set k2 (Nat.le_refl _) 6 _
 have ho3:OwnF (w2.setCell ⟨w.heap.size,6,none⟩ (.slice A1 f.length c1)) w1.heap.size (.slice A1 f.length c1) f:=OwnF.up ho1 (UpB.set (by omega) 6 _)
 have hgz:w.heap.size+1<(w2.setCell ⟨w.heap.size,6,none⟩ (.slice A1 f.length c1)).heap.size:=by simp[World.setCell];omega
 clear hx2 hr2 k2 ho1 q z
 generalize w2.setCell _ _=w3 at *
 have TOK:=K.rf w3
 have q:=hx3.cell
 go_wp2_with fail
 clear q
 go_loopw [3,5,13] (fun o _ i W=>∃ j:Nat,j<=es.length/\i=.int .i64 (j:Int)/\OwnL w3.heap.size w3.heap.size 45 evS (es.take j) o W/\K w3 W) (fun _ _ i _=>es.length - (intOf i).toNat)
 case atStart=>exact⟨0,by omega,rfl,by simpa using OwnL.nil _ _ _ _ _,TOK⟩
 case round =>
  clear TOK
  obtain⟨j,hj,rfl,hO,kr⟩:=hrel
  have kwr:=k3.tr kr
  by_cases hlt:j<es.length
  · have hji:(j:Int)<(es.length:Int):=by omega
    obtain⟨b1,off,cs,rfl,hb1,hcl,⟨ve,rfl,hev⟩,hcell⟩:=lsr_at he j hlt (by decide)
    have d0:wr.cell? ⟨b1,off+j,none⟩=some ve:=by
     have:=hcell 0 (by decide)
     rw[kwr.cell (by simpa using hb1)]
     simpa [evS] using this
    have HT:Hid (es.take (j+1)=es.take j++[es[j]]):=Lib.hid (by rw[List.take_succ_eq_append_getElem hlt])
    have hej:=HS3.out _ (List.getElem_mem hlt)
    have hevr:=evt_st _ _ _ _ hev kwr
    generalize es[j]=ej at *
    obtain⟨Ae,ce,rfl,hRe⟩:=hevr
    have htl:(es.take j).length<=1000000:=by simp;omega
    have hbs:=kr.size
    clear hcell hev
    go_wp2_with (at_builtin;refine wpList_app rfl _ _ 45 rfl wr.heap.size 90 _ 4 48 TE _ 0 [] rfl (World.ownsRow_nil _ _ _ _) _ Ae ej.length ce (ej.flatMap attc) rfl hRe (atts_one ej) ?p1 (Nat.le_refl _) ?_)
    case p1=>omega
    intro v2 w4 ho2 _ _ hb2
    have HEv:=Lib.hid (OwnE.rel (show OwnE w4 wr.heap.size v2 ej from ho2))
    obtain⟨A2,c2,rfl,-⟩:=(show OwnE w4 wr.heap.size v2 ej from ho2).slice
    have hvc:=hO.blk
    have hO4:=hO.st hb2
    have kr4:=kr.tr hb2
    obtain⟨css,hown,hcl,hEa⟩:=hO4
    have hz4:=hb2.size
    clear hO hb2 ho2
    have kA:K w4 (w4.alloc (.cells #[.slice A2 ej.length c2] 45)):=(K.rf w4).al _
    have hbase:w3.heap.size<=(w4.alloc (.cells #[.slice A2 ej.length c2] 45)).heap.size:=by have:=kA.size;omega
    go_wp2_with (at_builtin;refine wpList_app rfl _ _ 38 rfl w3.heap.size 45 _ 1 24 TEv _ _ _ rfl (World.ownsRow.alloc hown _) (w4.heap.size+1) _ 1 1 [.slice A2 ej.length c2] rfl ?c1 ?c2 ?c3 hbase ?_)
    case c1=>exact Reads.new w4 [.slice A2 ej.length c2] 45 1 1 rfl
    case c2=>intro u hu;simp at hu;subst hu;rfl
    case c3=>omega
    intro v9 w9 hown9 hg9 hat9 hb9
    have k9:=(kr4.tr kA).trans hb9
    have hO9:OwnL w3.heap.size w3.heap.size 45 evS (es.take (j+1)) v9 w9:=by
     rw[HT.out]
     exact OwnL.snoc hcl (fun w' u=>hEa w' (UpB.tr (UpB.of_k kA _ _) u)) (by rw[List.length_take_of_le (show j<=es.length by omega)];exact hown9) hg9 (by rw[World.size_alloc];exact hat9)
      (fun w' u=>HEv.out w' ((UpB.tr (UpB.of_k kA _ _) u).more (by omega) (fun k hk _ e=>by have:=(hvc k e.symm).2;omega)))
    clear hown9 hg9 hat9 hb9 hown hEa
    go_wp2
    go_roundw
    case rel=>exact⟨j+1,by omega,by go_num,hO9,k9⟩
    case measure=>simp[intOf];omega
  · have hji:¬ (j:Int)<(es.length:Int):=by omega
    rw[List.take_of_length_le (by omega)] at hO
    have hxr:=hx3.below kr hx3.lt
    have hrr:=hr3.below kr hr3.lt
    have hor:OwnF wr w1.heap.size (.slice A1 f.length c1) f:=row_below ho3 kr
    obtain⟨Ao,co,rfl,-⟩:=hO.slice
    have q:=hxr.cell
    have z:=hxr.frozen
    have hzz:=kr.size
    go_upto_region 9 with (fail)
    have hx5:Blk (wr.setCell ⟨w.heap.size,7,none⟩ (.slice Ao es.length co)) w.heap.size 42 #[.int .i64 k,.int .i64 b,.int .u64 (l:Int),.int .u64 (s:Int),.int .i64 cl,.int .u64 (u:Int),.slice A1 f.length c1,.slice Ao es.length co]:=hxr.set_ 7 _
    have hr5:=hrr.far (p:=⟨w.heap.size,7,none⟩) (by simp) (.slice Ao es.length co)
    have k5:K w (wr.setCell ⟨w.heap.size,7,none⟩ (.slice Ao es.length co)):=K.set kwr (Nat.le_refl _) 7 _
    have ho5:=OwnF.up hor (w':=wr.setCell ⟨w.heap.size,7,none⟩ (.slice Ao es.length co)) (UpB.set (by omega) 7 _)
    have hO5:=hO.up (w':=wr.setCell ⟨w.heap.size,7,none⟩ (.slice Ao es.length co)) (Nat.le_refl _) (UpB.set (by omega) 7 _)
    clear hxr hrr hor hO q z
    generalize wr.setCell _ _=w5 at *
    have q:=hx5.cell
    have y:=hr5.cell
    have z:=hr5.frozen
    go_wp2
    have hr9:Blk (World.setCell w5 _ _) (w.heap.size+1) 42 #[.int .i64 k,.int .i64 0,.int .u64 0,.int .u64 0,.int .i64 0,.int .u64 0,.slice none 0 0,.slice none 0 0]:=(hr5).set_ 0 (.int .i64 k)
    have hr9:Blk (World.setCell (World.setCell w5 _ _) _ _) (w.heap.size+1) 42 #[.int .i64 k,.int .i64 b,.int .u64 0,.int .u64 0,.int .i64 0,.int .u64 0,.slice none 0 0,.slice none 0 0]:=(hr9).set_ 1 (.int .i64 b)
    have hr9:Blk (World.setCell (World.setCell (World.setCell w5 _ _) _ _) _ _) (w.heap.size+1) 42 #[.int .i64 k,.int .i64 b,.int .u64 (l:Int),.int .u64 0,.int .i64 0,.int .u64 0,.slice none 0 0,.slice none 0 0]:=(hr9).set_ 2 (.int .u64 (l:Int))
    have hr9:Blk (World.setCell (World.setCell (World.setCell (World.setCell w5 _ _) _ _) _ _) _ _) (w.heap.size+1) 42 #[.int .i64 k,.int .i64 b,.int .u64 (l:Int),.int .u64 (s:Int),.int .i64 0,.int .u64 0,.slice none 0 0,.slice none 0 0]:=(hr9).set_ 3 (.int .u64 (s:Int))
    have hr9:Blk (World.setCell (World.setCell (World.setCell (World.setCell (World.setCell w5 _ _) _ _) _ _) _ _) _ _) (w.heap.size+1) 42 #[.int .i64 k,.int .i64 b,.int .u64 (l:Int),.int .u64 (s:Int),.int .i64 cl,.int .u64 0,.slice none 0 0,.slice none 0 0]:=(hr9).set_ 4 (.int .i64 cl)
    have hr9:Blk (World.setCell (World.setCell (World.setCell (World.setCell (World.setCell (World.setCell w5 _ _) _ _) _ _) _ _) _ _) _ _) (w.heap.size+1) 42 #[.int .i64 k,.int .i64 b,.int .u64 (l:Int),.int .u64 (s:Int),.int .i64 cl,.int .u64 (u:Int),.slice none 0 0,.slice none 0 0]:=(hr9).set_ 5 (.int .u64 (u:Int))
    have hr9:Blk (World.setCell (World.setCell (World.setCell (World.setCell (World.setCell (World.setCell (World.setCell w5 _ _) _ _) _ _) _ _) _ _) _ _) _ _) (w.heap.size+1) 42 #[.int .i64 k,.int .i64 b,.int .u64 (l:Int),.int .u64 (s:Int),.int .i64 cl,.int .u64 (u:Int),.slice A1 f.length c1,.slice none 0 0]:=(hr9).set_ 6 (.slice A1 f.length c1)
    have hr9:Blk (World.setCell (World.setCell (World.setCell (World.setCell (World.setCell (World.setCell (World.setCell (World.setCell w5 _ _) _ _) _ _) _ _) _ _) _ _) _ _) _ _) (w.heap.size+1) 42 #[.int .i64 k,.int .i64 b,.int .u64 (l:Int),.int .u64 (s:Int),.int .i64 cl,.int .u64 (u:Int),.slice A1 f.length c1,.slice Ao es.length co]:=(hr9).set_ 7 (.slice Ao es.length co)
    have U9:=((((((((UpB.rf (w.heap.size+1+1) none w5).tr (UpB.set (b:=w.heap.size+1) (by omega) 0 (.int .i64 k))).tr (UpB.set (b:=w.heap.size+1) (by omega) 1 (.int .i64 b))).tr (UpB.set (b:=w.heap.size+1) (by omega) 2 (.int .u64 (l:Int)))).tr (UpB.set (b:=w.heap.size+1) (by omega) 3 (.int .u64 (s:Int)))).tr (UpB.set (b:=w.heap.size+1) (by omega) 4 (.int .i64 cl))).tr (UpB.set (b:=w.heap.size+1) (by omega) 5 (.int .u64 (u:Int)))).tr (UpB.set (b:=w.heap.size+1) (by omega) 6 (.slice A1 f.length c1))).tr (UpB.set (b:=w.heap.size+1) (by omega) 7 (.slice Ao es.length co))
    have K9:=(K.set (K.set (K.set (K.set (K.set (K.set (K.set (K.set k5 (r:=w.heap.size+1) (by omega) 0 (.int .i64 k)) (r:=w.heap.size+1) (by omega) 1 (.int .i64 b)) (r:=w.heap.size+1) (by omega) 2 (.int .u64 (l:Int))) (r:=w.heap.size+1) (by omega) 3 (.int .u64 (s:Int))) (r:=w.heap.size+1) (by omega) 4 (.int .i64 cl)) (r:=w.heap.size+1) (by omega) 5 (.int .u64 (u:Int))) (r:=w.heap.size+1) (by omega) 6 (.slice A1 f.length c1)) (r:=w.heap.size+1) (by omega) 7 (.slice Ao es.length co))
    clear q y z
    generalize (World.setCell (World.setCell (World.setCell (World.setCell (World.setCell (World.setCell (World.setCell (World.setCell w5 _ _) _ _) _ _) _ _) _ _) _ _) _ _) _ _)=W9 at *
    have e9:=hr9.cell
    refine bodyPost_ret (v:=.agg #[.int .i64 k,.int .i64 b,.int .u64 (l:Int),.int .u64 (s:Int),.int .i64 cl,.int .u64 (u:Int),.slice A1 f.length c1,.slice Ao es.length co]) (by simp[results,Tryz.results89,go_sem,e9]) rfl ?_
    exact⟨_,rfl,⟨_,_,rfl,row_base (by omega) (OwnF.up ho5 (U9.more (by omega) (fun _ _ _=>by simp))),(OwnL.low (OwnL.floor (hO5.up (Nat.le_refl _) (U9.more (by omega) (fun _ _ _=>by simp))) (by omega)) (by omega))⟩,K9⟩
theorem Whole_calls (x:Ent) (v:Value) (w:World) (h:ent x v w) (hs:smallEn x) :
 Calls Tryz.prog 220 #[v] w fun e w'=>∃ v',e=.returned v'/\entO w.heap.size x v' w'/\K w w':=by
 obtain⟨vf,ve,rfl,hf,he⟩:=h
 obtain⟨A,c,e0,hfr⟩:=hf
 obtain rfl:=e0
 obtain⟨D,d,e0,he,hd⟩:=he
 obtain rfl:=e0
 obtain⟨hs1,hs2,hs3⟩:=hs
 obtain⟨k,b,l,s,cl,u,f,es⟩:=x
 simp only at hfr he hd hs1 hs2 hs3 ⊢
 have hx:=(Blk.new w 42 (entA ⟨k,b,l,s,cl,u,f,es⟩ (.slice A f.length c) (.slice D es.length d))).alloc (.cells zEnt 42)
 have hr:=Blk.new (w.alloc (.cells (entA ⟨k,b,l,s,cl,u,f,es⟩ (.slice A f.length c) (.slice D es.length d)) 42)) 42 zEnt
 have k1:K w ((w.alloc (.cells (entA ⟨k,b,l,s,cl,u,f,es⟩ (.slice A f.length c) (.slice D es.length d)) 42)).alloc (.cells zEnt 42)):=((K.rf w).al _).al _
 have hz:(w.alloc (.cells (entA ⟨k,b,l,s,cl,u,f,es⟩ (.slice A f.length c) (.slice D es.length d)) 42)).heap.size=w.heap.size+1:=by simp
 rw[hz] at hr
 clear hz
 have HS3:=Lib.hid hs3
 clear hs3
 go_enter Tryz.func220,Tryz.ntmps220
 go_upto_region 1 with (fail)
 generalize World.alloc (World.alloc w _) _=w1 at *
 have hfr1:=(hfr.below k1 (Nat.le_refl _)).more k1.size
 have hr1:=hr.lt
 clear hfr
 have q:=hx.cell
 have z:=hx.frozen
 go_wp2_with (at_builtin;refine wpList_app rfl _ _ 40 rfl w1.heap.size 87 _ 5 56 TF _ 0 [] rfl (World.ownsRow_nil _ _ _ _) _ A f.length c (f.flatMap tstc) rfl hfr1 (tsts_one' f) ?p1 (Nat.le_refl _) ?_)
 case p1=>omega
 intro v1 w2 ho1 _ _ hb1
 have hx2:=hx.below hb1 hx.lt
 have hr2:=hr.below hb1 hr.lt
 have k2:=k1.tr hb1
 obtain⟨A1,c1,rfl,-⟩:=(show OwnF w2 w1.heap.size v1 f from ho1).slice
 clear q z hx hr
 have q:=hx2.cell
 have z:=hx2.frozen
 have hz12:=hb1.size
 clear hb1
 go_upto_region 3 with (fail)
 have hx3:Blk (w2.setCell ⟨w.heap.size,6,none⟩ (.slice A1 f.length c1)) w.heap.size 42 #[.int .i64 k,.int .i64 b,.int .u64 (l:Int),.int .u64 (s:Int),.int .i64 cl,.int .u64 (u:Int),.slice A1 f.length c1,.slice D es.length d]:=hx2.set_ 6 (.slice A1 f.length c1)
 have hr3:=hr2.far (p:=⟨w.heap.size,6,none⟩) (by simp) (.slice A1 f.length c1)
 have k3:K w (w2.setCell ⟨w.heap.size,6,none⟩ (.slice A1 f.length c1)):=K.set k2 (Nat.le_refl _) 6 _
 have ho3:OwnF (w2.setCell ⟨w.heap.size,6,none⟩ (.slice A1 f.length c1)) w1.heap.size (.slice A1 f.length c1) f:=OwnF.up ho1 (UpB.set (by omega) 6 _)
 have hgz:w.heap.size+1<(w2.setCell ⟨w.heap.size,6,none⟩ (.slice A1 f.length c1)).heap.size:=by simp[World.setCell];omega
 clear hx2 hr2 k2 ho1 q z
 generalize w2.setCell _ _=w3 at *
 have TOK:=K.rf w3
 have q:=hx3.cell
 go_wp2_with fail
 clear q
 go_loopw [3,5,13] (fun o _ i W=>∃ j:Nat,j<=es.length/\i=.int .i64 (j:Int)/\OwnL w3.heap.size w3.heap.size 45 evS (es.take j) o W/\K w3 W) (fun _ _ i _=>es.length - (intOf i).toNat)
 case atStart=>exact⟨0,by omega,rfl,by simpa using OwnL.nil _ _ _ _ _,TOK⟩
 case round =>
  clear TOK
  obtain⟨j,hj,rfl,hO,kr⟩:=hrel
  have kwr:=k3.tr kr
  by_cases hlt:j<es.length
  · have hji:(j:Int)<(es.length:Int):=by omega
    obtain⟨b1,off,cs,rfl,hb1,hcl,⟨ve,rfl,hev⟩,hcell⟩:=lsr_at he j hlt (by decide)
    have d0:wr.cell? ⟨b1,off+j,none⟩=some ve:=by
     have:=hcell 0 (by decide)
     rw[kwr.cell (by simpa using hb1)]
     simpa [evS] using this
    have HT:Hid (es.take (j+1)=es.take j++[es[j]]):=Lib.hid (by rw[List.take_succ_eq_append_getElem hlt])
    have hej:=HS3.out _ (List.getElem_mem hlt)
    have hevr:=evt_st _ _ _ _ hev kwr
    generalize es[j]=ej at *
    obtain⟨Ae,ce,rfl,hRe⟩:=hevr
    have htl:(es.take j).length<=1000000:=by simp;omega
    have hbs:=kr.size
    clear hcell hev
    go_wp2_with (at_builtin;refine wpList_app rfl _ _ 45 rfl wr.heap.size 90 _ 4 48 TE _ 0 [] rfl (World.ownsRow_nil _ _ _ _) _ Ae ej.length ce (ej.flatMap attc) rfl hRe (atts_one ej) ?p1 (Nat.le_refl _) ?_)
    case p1=>omega
    intro v2 w4 ho2 _ _ hb2
    have HEv:=Lib.hid (OwnE.rel (show OwnE w4 wr.heap.size v2 ej from ho2))
    obtain⟨A2,c2,rfl,-⟩:=(show OwnE w4 wr.heap.size v2 ej from ho2).slice
    have hvc:=hO.blk
    have hO4:=hO.st hb2
    have kr4:=kr.tr hb2
    obtain⟨css,hown,hcl,hEa⟩:=hO4
    have hz4:=hb2.size
    clear hO hb2 ho2
    have kA:K w4 (w4.alloc (.cells #[.slice A2 ej.length c2] 45)):=(K.rf w4).al _
    have hbase:w3.heap.size<=(w4.alloc (.cells #[.slice A2 ej.length c2] 45)).heap.size:=by have:=kA.size;omega
    go_wp2_with (at_builtin;refine wpList_app rfl _ _ 38 rfl w3.heap.size 45 _ 1 24 TEv _ _ _ rfl (World.ownsRow.alloc hown _) (w4.heap.size+1) _ 1 1 [.slice A2 ej.length c2] rfl ?c1 ?c2 ?c3 hbase ?_)
    case c1=>exact Reads.new w4 [.slice A2 ej.length c2] 45 1 1 rfl
    case c2=>intro u hu;simp at hu;subst hu;rfl
    case c3=>omega
    intro v9 w9 hown9 hg9 hat9 hb9
    have k9:=(kr4.tr kA).trans hb9
    have hO9:OwnL w3.heap.size w3.heap.size 45 evS (es.take (j+1)) v9 w9:=by
     rw[HT.out]
     exact OwnL.snoc hcl (fun w' u=>hEa w' (UpB.tr (UpB.of_k kA _ _) u)) (by rw[List.length_take_of_le (show j<=es.length by omega)];exact hown9) hg9 (by rw[World.size_alloc];exact hat9)
      (fun w' u=>HEv.out w' ((UpB.tr (UpB.of_k kA _ _) u).more (by omega) (fun k hk _ e=>by have:=(hvc k e.symm).2;omega)))
    clear hown9 hg9 hat9 hb9 hown hEa
    go_wp2
    go_roundw
    case rel=>exact⟨j+1,by omega,by go_num,hO9,k9⟩
    case measure=>simp[intOf];omega
  · have hji:¬ (j:Int)<(es.length:Int):=by omega
    rw[List.take_of_length_le (by omega)] at hO
    have hxr:=hx3.below kr hx3.lt
    have hrr:=hr3.below kr hr3.lt
    have hor:OwnF wr w1.heap.size (.slice A1 f.length c1) f:=row_below ho3 kr
    obtain⟨Ao,co,rfl,-⟩:=hO.slice
    have q:=hxr.cell
    have z:=hxr.frozen
    have hzz:=kr.size
    go_upto_region 9 with (fail)
    have hx5:Blk (wr.setCell ⟨w.heap.size,7,none⟩ (.slice Ao es.length co)) w.heap.size 42 #[.int .i64 k,.int .i64 b,.int .u64 (l:Int),.int .u64 (s:Int),.int .i64 cl,.int .u64 (u:Int),.slice A1 f.length c1,.slice Ao es.length co]:=hxr.set_ 7 _
    have hr5:=hrr.far (p:=⟨w.heap.size,7,none⟩) (by simp) (.slice Ao es.length co)
    have k5:K w (wr.setCell ⟨w.heap.size,7,none⟩ (.slice Ao es.length co)):=K.set kwr (Nat.le_refl _) 7 _
    have ho5:=OwnF.up hor (w':=wr.setCell ⟨w.heap.size,7,none⟩ (.slice Ao es.length co)) (UpB.set (by omega) 7 _)
    have hO5:=hO.up (w':=wr.setCell ⟨w.heap.size,7,none⟩ (.slice Ao es.length co)) (Nat.le_refl _) (UpB.set (by omega) 7 _)
    clear hxr hrr hor hO q z
    generalize wr.setCell _ _=w5 at *
    have q:=hx5.cell
    have y:=hr5.cell
    have z:=hr5.frozen
    go_wp2
    have hr9:Blk (World.setCell w5 _ _) (w.heap.size+1) 42 #[.int .i64 k,.int .i64 0,.int .u64 0,.int .u64 0,.int .i64 0,.int .u64 0,.slice none 0 0,.slice none 0 0]:=(hr5).set_ 0 (.int .i64 k)
    have hr9:Blk (World.setCell (World.setCell w5 _ _) _ _) (w.heap.size+1) 42 #[.int .i64 k,.int .i64 b,.int .u64 0,.int .u64 0,.int .i64 0,.int .u64 0,.slice none 0 0,.slice none 0 0]:=(hr9).set_ 1 (.int .i64 b)
    have hr9:Blk (World.setCell (World.setCell (World.setCell w5 _ _) _ _) _ _) (w.heap.size+1) 42 #[.int .i64 k,.int .i64 b,.int .u64 (l:Int),.int .u64 0,.int .i64 0,.int .u64 0,.slice none 0 0,.slice none 0 0]:=(hr9).set_ 2 (.int .u64 (l:Int))
    have hr9:Blk (World.setCell (World.setCell (World.setCell (World.setCell w5 _ _) _ _) _ _) _ _) (w.heap.size+1) 42 #[.int .i64 k,.int .i64 b,.int .u64 (l:Int),.int .u64 (s:Int),.int .i64 0,.int .u64 0,.slice none 0 0,.slice none 0 0]:=(hr9).set_ 3 (.int .u64 (s:Int))
    have hr9:Blk (World.setCell (World.setCell (World.setCell (World.setCell (World.setCell w5 _ _) _ _) _ _) _ _) _ _) (w.heap.size+1) 42 #[.int .i64 k,.int .i64 b,.int .u64 (l:Int),.int .u64 (s:Int),.int .i64 cl,.int .u64 0,.slice none 0 0,.slice none 0 0]:=(hr9).set_ 4 (.int .i64 cl)
    have hr9:Blk (World.setCell (World.setCell (World.setCell (World.setCell (World.setCell (World.setCell w5 _ _) _ _) _ _) _ _) _ _) _ _) (w.heap.size+1) 42 #[.int .i64 k,.int .i64 b,.int .u64 (l:Int),.int .u64 (s:Int),.int .i64 cl,.int .u64 (u:Int),.slice none 0 0,.slice none 0 0]:=(hr9).set_ 5 (.int .u64 (u:Int))
    have hr9:Blk (World.setCell (World.setCell (World.setCell (World.setCell (World.setCell (World.setCell (World.setCell w5 _ _) _ _) _ _) _ _) _ _) _ _) _ _) (w.heap.size+1) 42 #[.int .i64 k,.int .i64 b,.int .u64 (l:Int),.int .u64 (s:Int),.int .i64 cl,.int .u64 (u:Int),.slice A1 f.length c1,.slice none 0 0]:=(hr9).set_ 6 (.slice A1 f.length c1)
    have hr9:Blk (World.setCell (World.setCell (World.setCell (World.setCell (World.setCell (World.setCell (World.setCell (World.setCell w5 _ _) _ _) _ _) _ _) _ _) _ _) _ _) _ _) (w.heap.size+1) 42 #[.int .i64 k,.int .i64 b,.int .u64 (l:Int),.int .u64 (s:Int),.int .i64 cl,.int .u64 (u:Int),.slice A1 f.length c1,.slice Ao es.length co]:=(hr9).set_ 7 (.slice Ao es.length co)
    have U9:=((((((((UpB.rf (w.heap.size+1+1) none w5).tr (UpB.set (b:=w.heap.size+1) (by omega) 0 (.int .i64 k))).tr (UpB.set (b:=w.heap.size+1) (by omega) 1 (.int .i64 b))).tr (UpB.set (b:=w.heap.size+1) (by omega) 2 (.int .u64 (l:Int)))).tr (UpB.set (b:=w.heap.size+1) (by omega) 3 (.int .u64 (s:Int)))).tr (UpB.set (b:=w.heap.size+1) (by omega) 4 (.int .i64 cl))).tr (UpB.set (b:=w.heap.size+1) (by omega) 5 (.int .u64 (u:Int)))).tr (UpB.set (b:=w.heap.size+1) (by omega) 6 (.slice A1 f.length c1))).tr (UpB.set (b:=w.heap.size+1) (by omega) 7 (.slice Ao es.length co))
    have K9:=(K.set (K.set (K.set (K.set (K.set (K.set (K.set (K.set k5 (r:=w.heap.size+1) (by omega) 0 (.int .i64 k)) (r:=w.heap.size+1) (by omega) 1 (.int .i64 b)) (r:=w.heap.size+1) (by omega) 2 (.int .u64 (l:Int))) (r:=w.heap.size+1) (by omega) 3 (.int .u64 (s:Int))) (r:=w.heap.size+1) (by omega) 4 (.int .i64 cl)) (r:=w.heap.size+1) (by omega) 5 (.int .u64 (u:Int))) (r:=w.heap.size+1) (by omega) 6 (.slice A1 f.length c1)) (r:=w.heap.size+1) (by omega) 7 (.slice Ao es.length co))
    clear q y z
    generalize (World.setCell (World.setCell (World.setCell (World.setCell (World.setCell (World.setCell (World.setCell (World.setCell w5 _ _) _ _) _ _) _ _) _ _) _ _) _ _) _ _)=W9 at *
    have e9:=hr9.cell
    refine bodyPost_ret (v:=.agg #[.int .i64 k,.int .i64 b,.int .u64 (l:Int),.int .u64 (s:Int),.int .i64 cl,.int .u64 (u:Int),.slice A1 f.length c1,.slice Ao es.length co]) (by simp[results,Tryz.results220,go_sem,e9]) rfl ?_
    exact⟨_,rfl,⟨_,_,rfl,row_base (by omega) (OwnF.up ho5 (U9.more (by omega) (fun _ _ _=>by simp))),(OwnL.low (OwnL.floor (hO5.up (Nat.le_refl _) (U9.more (by omega) (fun _ _ _=>by simp))) (by omega)) (by omega))⟩,K9⟩
