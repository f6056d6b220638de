/-
  Laws on states that records make (layer 16): once, grows, back. Conditions: none.
-/
import Derived.Test.YtagfakjifhdpgaaGreatMa13
set_option maxRecDepth 100000
set_option maxHeartbeats 16000000
set_option linter.unusedVariables false
set_option linter.unusedSimpArgs false
namespace Go.Proofs.YtagfakjifhdpgaaGreat
open Go Go.RowKit
theorem hasE_iff {l:List Ent} {a:Idn}:hasE l a=true ↔ ∃ x∈l,idE x=a:=by simp[hasE]
theorem hasI_iff {l:List Idn} {a:Idn}:hasI l a=true ↔ a∈l:=by simp[hasI]
theorem dropE_mem {l:List Ent} {a:Idn} {x:Ent}:x∈dropE l a ↔ x∈l/\idE x≠a:=by simp[dropE]
structure InvS (s:Stt):Prop where
 nl:(s.list.map idE).Nodup
 np:(s.prom.map idE).Nodup
 na:s.ab.Nodup
 lp:∀ x∈s.list,∀ y∈s.prom,idE x≠idE y
 la:∀ x∈s.list,idE x ∉ s.ab
 pa:∀ x∈s.prom,idE x ∉ s.ab
 okl:∀ x∈s.list,okEn x=true/\fitEn x
 okp:∀ x∈s.prom,okEn x=true/\fitEn x
 oka:∀ a∈s.ab,homeB a.1=true/\fitI a
 life:s.life<18446744073709551616
theorem InvS.zero:InvS st0:=⟨by simp[st0],by simp[st0],by simp[st0],by simp[st0],by simp[st0],by simp[st0],by simp[st0],by simp[st0],by simp[st0],by decide⟩
theorem InvS.drop {s:Stt} (h:InvS s) (a:Idn):InvS ⟨s.life,s.list,dropE s.prom a,s.ab⟩:=by
 have hm:∀ x∈dropE s.prom a,x∈s.prom:=fun x hx=>(dropE_mem.1 hx).1
 refine⟨h.nl,?_,h.na,fun x hx y hy=>h.lp x hx y (hm y hy),h.la,fun x hx=>h.pa x (hm x hx),h.okl,fun x hx=>h.okp x (hm x hx),h.oka,h.life⟩
 exact (List.Sublist.map idE List.filter_sublist).nodup h.np
theorem nodup_snoc {α:Type} [DecidableEq α] {l:List α} {a:α} (h:l.Nodup) (ha:a ∉ l):(l++[a]).Nodup:=by
 rw[List.nodup_append]
 refine⟨h,by simp,fun x hx y hy=>?_⟩
 simp at hy
 subst hy
 rintro rfl
 exact ha hx
theorem InvS.on {s t:Stt} {r:Rec} (h:InvS s) (hok:okRec r=true) (hf:fitRec r) (e:onS s r=some t):InvS t:=by
 have hk:=okRec_kind hok
 obtain⟨-,hfn,hfe,hfb,hfl,hfs⟩:=hf
 unfold onS on1 on2 on3 on4 on5 at e
 split at e
 · split at e
   · cases e
   · injection e with e
     subst e
     exact⟨h.nl,h.np,h.na,h.lp,h.la,h.pa,h.okl,h.okp,h.oka,hfn⟩
 · rename_i hk1
   split at e
   · rename_i hk2
     have hoe:okEn r.e=true:=by
      rcases hk with ⟨g,_⟩|⟨_,g,_⟩|⟨g,_⟩
      · omega
      · exact g
      · omega
     split at e
     · cases e
     · split at e
       · cases e
       · rename_i h1
         split at e
         · cases e
         · rename_i h2
           injection e with e
           subst e
           have hm:∀ x∈dropE s.prom (idE r.e),x∈s.prom/\idE x≠idE r.e:=fun x hx=>dropE_mem.1 hx
           have hn1:∀ x∈s.list,idE x≠idE r.e:=fun x hx e=>h1 (hasE_iff.2 ⟨x,hx,e⟩)
           have hn2:idE r.e ∉ s.ab:=fun hx=>h2 (hasI_iff.2 hx)
           have hd:=h.drop (idE r.e)
           refine⟨?_,hd.np,h.na,?_,?_,hd.pa,?_,hd.okp,h.oka,h.life⟩
           · simp only[List.map_append,List.map_cons,List.map_nil]
             refine nodup_snoc h.nl ?_
             intro hx
             obtain⟨x,hx,e⟩:=List.mem_map.1 hx
             exact hn1 x hx e
           · intro x hx y hy
             rcases List.mem_append.1 hx with hx|hx
             · exact h.lp x hx y (hm y hy).1
             · simp at hx;subst hx
               exact fun e=>(hm y hy).2 e.symm
           · intro x hx
             rcases List.mem_append.1 hx with hx|hx
             · exact h.la x hx
             · simp at hx;subst hx
               exact hn2
           · intro x hx
             rcases List.mem_append.1 hx with hx|hx
             · exact h.okl x hx
             · simp at hx;subst hx
               exact⟨hoe,hfe⟩
   · rename_i hk2
     split at e
     · rename_i hk3
       have hoe:okEn r.e=true:=by
        rcases hk with ⟨g,_⟩|⟨_,g,_⟩|⟨g,_⟩
        · omega
        · exact g
        · omega
       split at e
       · cases e
       · rename_i h1
         split at e
         · cases e
         · rename_i h3
           split at e
           · cases e
           · rename_i h2
             injection e with e
             subst e
             have hn1:∀ x∈s.list,idE x≠idE r.e:=fun x hx e=>h1 (hasE_iff.2 ⟨x,hx,e⟩)
             have hn3:∀ x∈s.prom,idE x≠idE r.e:=fun x hx e=>h3 (hasE_iff.2 ⟨x,hx,e⟩)
             have hn2:idE r.e ∉ s.ab:=fun hx=>h2 (hasI_iff.2 hx)
             refine⟨h.nl,?_,h.na,?_,h.la,?_,h.okl,?_,h.oka,h.life⟩
             · simp only[List.map_append,List.map_cons,List.map_nil]
               refine nodup_snoc h.np ?_
               intro hx
               obtain⟨x,hx,e⟩:=List.mem_map.1 hx
               exact hn3 x hx e
             · intro x hx y hy
               rcases List.mem_append.1 hy with hy|hy
               · exact h.lp x hx y hy
               · simp at hy;subst hy
                 exact hn1 x hx
             · intro x hx
               rcases List.mem_append.1 hx with hx|hx
               · exact h.pa x hx
               · simp at hx;subst hx
                 exact hn2
             · intro x hx
               rcases List.mem_append.1 hx with hx|hx
               · exact h.okp x hx
               · simp at hx;subst hx
                 exact⟨hoe,hfe⟩
     · split at e
       · rename_i hk4
         have hb:homeB r.br=true:=by
          rcases hk with ⟨g,_⟩|⟨g,_⟩|⟨_,g,_⟩
          · omega
          · omega
          · simp[homeB,g.1,g.2]
         split at e
         · cases e
         · rename_i h1
           split at e
           · cases e
           · rename_i h2
             injection e with e
             subst e
             have hn1:∀ x∈s.list,idE x≠idR r:=fun x hx e=>h1 (hasE_iff.2 ⟨x,hx,e⟩)
             have hn2:idR r ∉ s.ab:=fun hx=>h2 (hasI_iff.2 hx)
             have hd:=h.drop (idR r)
             refine⟨h.nl,hd.np,nodup_snoc h.na hn2,hd.lp,?_,?_,h.okl,hd.okp,?_,h.life⟩
             · intro x hx hm
               rcases List.mem_append.1 hm with hm|hm
               · exact h.la x hx hm
               · simp at hm
                 exact hn1 x hx hm
             · intro x hx hm
               rcases List.mem_append.1 hm with hm|hm
               · exact hd.pa x hx hm
               · simp at hm
                 exact (dropE_mem.1 hx).2 hm
             · intro a ha
               rcases List.mem_append.1 ha with ha|ha
               · exact h.oka a ha
               · simp at ha;subst ha
                 exact⟨hb,hfb,hfl,hfs⟩
       · split at e
         · injection e with e
           subst e
           exact h.drop _
         · cases e
def runS:Stt->List Rec->Option Stt
 | s,[]=>some s
 | s,r :: l=>(onS s r).bind fun t=>runS t l
theorem runS_app (l m:List Rec):∀ s,runS s (l++m)=(runS s l).bind fun t=>runS t m:=by
 induction l with
 | nil=>intro s;rfl
 | cons r l ih =>
   intro s
   simp only[List.cons_append,runS]
   cases onS s r with
   | none=>rfl
   | some t=>exact ih t
theorem allG_run (l:List Rec) (h:∀ r∈l,okRec r=true/\fitRec r):∀ s t,runS s l=some t->allG s (l.map encRec)=(t,0):=by
 induction l with
 | nil=>intro s t e;injection e with e;subst e;rfl
 | cons r l ih =>
   intro s t e
   obtain⟨hok,hf⟩:=h r (by simp)
   simp only[runS] at e
   cases ho:onS s r with
   | none=>rw[ho] at e;cases e
   | some u =>
     rw[ho] at e
     have hd:=decRec_enc r hok hf
     have h1:oneG s (encRec r)=(u,0):=by
      unfold oneG
      rw[(decRec_some hd).1,(decRec_some hd).2,if_pos rfl,stepS_ok hok ho]
      rfl
     simp only[List.map_cons,allG,h1,if_true]
     exact ih (fun x hx=>h x (by simp[hx])) u t e
theorem run_1 (n:Nat):runS st0 (rec1 n)=some ⟨n,[],[],[]⟩:=by
 unfold rec1
 split
 · rename_i h;subst h;rfl
 · rename_i h
   simp[runS,onS,on1,st0,h]
theorem run_L (n:Nat) (l:List Ent):∀ a:List Ent,((a++l).map idE).Nodup->runS ⟨n,a,[],[]⟩ ((l.zipIdx a.length).map fun p=>⟨2,p.2,p.1,0,0,0⟩)=some ⟨n,a++l,[],[]⟩:=by
 induction l with
 | nil=>intro a _;simp[runS]
 | cons x l ih =>
   intro a h
   have hx:hasE a (idE x)=false:=by
    rw[Bool.eq_false_iff]
    intro hh
    obtain⟨y,hy,e⟩:=hasE_iff.1 hh
    simp only[List.map_append,List.map_cons] at h
    exact (List.nodup_append.1 h).2.2 (idE y) (List.mem_map_of_mem hy) (idE x) (by simp) e
   have h1:onS ⟨n,a,[],[]⟩ ⟨2,a.length,x,0,0,0⟩=some ⟨n,a++[x],[],[]⟩:=by
    simp[onS,on2,hx,hasI,dropE]
   simp only[List.zipIdx_cons,List.map_cons,runS,h1,Option.bind_some]
   have:=ih (a++[x]) (by simpa using h)
   simpa using this
theorem run_P (n:Nat) (L:List Ent) (l:List Ent):∀ a:List Ent,((a++l).map idE).Nodup->(∀ x∈L,∀ y∈l,idE x≠idE y)->runS ⟨n,L,a,[]⟩ (recP l)=some ⟨n,L,a++l,[]⟩:=by
 induction l with
 | nil=>intro a _ _;simp[runS,recP]
 | cons x l ih =>
   intro a h hl
   have hx:hasE a (idE x)=false:=by
    rw[Bool.eq_false_iff]
    intro hh
    obtain⟨y,hy,e⟩:=hasE_iff.1 hh
    simp only[List.map_append,List.map_cons] at h
    exact (List.nodup_append.1 h).2.2 (idE y) (List.mem_map_of_mem hy) (idE x) (by simp) e
   have hy:hasE L (idE x)=false:=by
    rw[Bool.eq_false_iff]
    intro hh
    obtain⟨y,hy,e⟩:=hasE_iff.1 hh
    exact hl y hy x (by simp) e
   have h1:onS ⟨n,L,a,[]⟩ ⟨3,0,x,0,0,0⟩=some ⟨n,L,a++[x],[]⟩:=by
    simp[onS,on3,hx,hy,hasI]
   simp only[recP,List.map_cons,runS,h1,Option.bind_some]
   have:=ih (a++[x]) (by simpa using h) (fun x hx y hy=>hl x hx y (by simp[hy]))
   simpa [recP] using this
theorem dropE_no {l:List Ent} {a:Idn} (h:∀ x∈l,idE x≠a):dropE l a=l:=by
 unfold dropE
 rw[List.filter_eq_self]
 intro x hx
 simpa using h x hx
theorem run_A (n:Nat) (L P:List Ent) (l:List Idn):∀ a:List Idn,(a++l).Nodup->(∀ x∈L,idE x ∉ l)->(∀ x∈P,idE x ∉ l)->runS ⟨n,L,P,a⟩ (recB l)=some ⟨n,L,P,a++l⟩:=by
 induction l with
 | nil=>intro a _ _ _;simp[runS,recB]
 | cons x l ih =>
   intro a h hl hp
   have hx:hasI a x=false:=by
    rw[Bool.eq_false_iff]
    intro hh
    exact (List.nodup_append.1 h).2.2 x (hasI_iff.1 hh) x (by simp) rfl
   have hy:hasE L x=false:=by
    rw[Bool.eq_false_iff]
    intro hh
    obtain⟨y,hy,e⟩:=hasE_iff.1 hh
    exact hl y hy (by simp[e])
   have hd:dropE P x=P:=dropE_no fun y hy e=>hp y hy (by simp[e])
   have h1:onS ⟨n,L,P,a⟩ ⟨4,0,ent0,x.1,x.2.1,x.2.2⟩=some ⟨n,L,P,a++[x]⟩:=by
    simp[onS,on4,idR,hx,hy,hd]
   simp only[recB,List.map_cons,runS,h1,Option.bind_some]
   have:=ih (a++[x]) (by simpa using h) (fun y hy hm=>hl y hy (by simp[hm])) (fun y hy hm=>hp y hy (by simp[hm]))
   simpa [recB] using this
theorem run_recs {s:Stt} (h:InvS s):runS st0 (recsS s)=some s:=by
 unfold recsS
 rw[runS_app,runS_app,runS_app,run_1]
 simp only[Option.bind_some]
 have h1:=run_L s.life s.list [] (by simpa using h.nl)
 simp only[List.length_nil,List.nil_append] at h1
 unfold recL
 rw[h1]
 simp only[Option.bind_some]
 rw[run_P s.life s.list s.prom [] (by simpa using h.np) h.lp]
 simp only[Option.bind_some,List.nil_append]
 rw[run_A s.life s.list s.prom s.ab [] (by simpa using h.na) h.la h.pa]
 rfl
theorem fit_ent0:fitEn ent0:=by simp[fitEn,ent0,i64ok]
theorem recs_ok {s:Stt} (h:InvS s) (hz:s.list.length<=1000000):∀ r∈recsS s,okRec r=true/\fitRec r:=by
 intro r hr
 have hi:i64ok 0:=by simp[i64ok]
 unfold recsS at hr
 simp only[List.mem_append] at hr
 rcases hr with ((hr|hr)|hr)|hr
 · unfold rec1 at hr
   split at hr
   · cases hr
   · simp at hr
     subst hr
     exact⟨by simp[okRec,noId],by simp[i64ok],h.life,fit_ent0,hi,by simp,by simp⟩
 · unfold recL at hr
   obtain⟨⟨x,k⟩,hx,rfl⟩:=List.mem_map.1 hr
   have hm:=List.mem_zipIdx hx
   obtain⟨h1,h2⟩:=h.okl x (by have:=hm.2.2;rw[this];exact List.getElem_mem _)
   have hk:=hm.2.1
   exact⟨by simp[okRec,h1,noId],by simp[i64ok],by simp only;omega,h2,hi,by simp,by simp⟩
 · unfold recP at hr
   obtain⟨x,hx,rfl⟩:=List.mem_map.1 hr
   obtain⟨h1,h2⟩:=h.okp x hx
   exact⟨by simp[okRec,h1,noId],by simp[i64ok],by simp,h2,hi,by simp,by simp⟩
 · unfold recB at hr
   obtain⟨a,ha,rfl⟩:=List.mem_map.1 hr
   obtain⟨h1,h2,h3,h4⟩:=h.oka a ha
   exact⟨by simp[okRec,h1],by simp[i64ok],by simp,fit_ent0,h2,h3,h4⟩
abbrev Rd3 (α:Type):=List UInt8->Bool->Bool->α×List UInt8×Bool×Bool
section
variable {α:Type} {enc:α->List UInt8} {ok:α->Prop} {rd:Rd3 α}
end
structure Vot where
 id:Idn
 yes:Bool
 deriving DecidableEq
structure Msg where
 kind:Int
 got:Nat
 votes:List Vot
 asks:List Ent
 entries:List Ent
 prepares:List Ent
 aborts:List Idn
 ends:List Idn
 deriving DecidableEq
def msg0:Msg:=⟨0,0,[],[],[],[],[],[]⟩
def okId (a:Idn):Bool:=homeB a.1
def okVo (v:Vot):Bool:=homeB v.id.1
def okLs {α:Type} (p:α->Bool) (l:List α):Bool:=decide (l.length<=16)&&l.all p
def okKd (m:Msg):Bool:=if m.kind=1 then m.entries.isEmpty&&m.prepares.isEmpty&&m.aborts.isEmpty&&m.ends.isEmpty else if m.kind=2 then m.votes.isEmpty&&m.asks.isEmpty else false
def okM (m:Msg):Bool:=okKd m&&okLs okVo m.votes&&okLs okEn m.asks&&okLs okEn m.entries&&okLs okEn m.prepares&&okLs okId m.aborts&&okLs okId m.ends
def fitM (m:Msg):Prop:=i64ok m.kind/\m.got<18446744073709551616/\(∀ v∈m.votes,fitI v.id)/\(∀ x∈m.asks,fitEn x)/\(∀ x∈m.entries,fitEn x)/\(∀ x∈m.prepares,fitEn x)/\(∀ a∈m.aborts,fitI a)/\∀ a∈m.ends,fitI a
abbrev idA (a:Idn):Array Value:=#[.int .i64 a.1,.int .u64 (a.2.1:Int),.int .u64 (a.2.2:Int)]
abbrev voA (v:Vot):Array Value:=#[.int .i64 v.id.1,.int .u64 (v.id.2.1:Int),.int .u64 (v.id.2.2:Int),.bool v.yes]
def voS:Shp Vot where
 size:=4
 rel v cs _:=cs=(voA v).toList
 len:=by rintro _ _ _ rfl;rfl
 one:=by
  rintro x _ _ rfl u hu
  simp at hu
  rcases hu with rfl|rfl|rfl|rfl <;> rfl
 st:=by rintro _ _ _ _ h _;exact h
abbrev msA (m:Msg) (v1 v2 v3 v4 v5 v6:Value):Array Value:=#[.int .i64 m.kind,.int .u64 (m.got:Int),v1,v2,v3,v4,v5,v6]
def msv (m:Msg) (v:Value) (w:World):Prop:=∃ v1 v2 v3 v4 v5 v6,v=.agg (msA m v1 v2 v3 v4 v5 v6)/\lst voS m.votes v1 w/\lst enS m.asks v2 w/\lst enS m.entries v3 w/\lst enS m.prepares v4 w/\lst idS m.aborts v5 w/\lst idS m.ends v6 w
def okTr (p:List Int):Bool:=decide (1<=p.length)&&decide (p.length<=16)&&decide (p[0]?=some (-1))&&(List.range p.length).all fun n=>n==0||match p[n]? with|some q=>decide (0<=q)&&decide (q<(n:Int))|none=>true
def inR (p:List Int) (n:Int):Bool:=decide (0<=n)&&decide (n<(p.length:Int))
def kidsU (p:List Int) (n:Int):List Int:=((List.range p.length).filter fun k=>decide (p[k]?=some n)).map fun (k:Nat)=>(k:Int)
def kidsP (p:List Int) (n:Int):List Int:=if inR p n&&okTr p then kidsU p n else []
structure Subn where
 cl:Int
 sub:Nat
 f:List Tst
 deriving DecidableEq
def sideS (s:Subn) (x:Ent):Int:=if ordI s.cl x.cl != 0 then ordI s.cl x.cl else ordI s.sub x.sub
def applyT (l:List Subn) (x:Ent):List Subn :=
 if x.kind=2 then l.filter (fun s=>decide (sideS s x<0))++[⟨x.cl,x.sub,x.f⟩]++l.filter (fun s=>decide (0<sideS s x))
 else if x.kind=3 then l.filter (fun s=>decide (sideS s x<0))++l.filter (fun s=>decide (0<sideS s x)) else l
def subsT (l:List Ent):List Subn:=l.foldl (fun o x=>if x.kind=1 then o else applyT o x) []
def ofCl (l:List Subn) (cs:List Int):List Subn:=l.filter fun s=>decide (s.cl∈cs)
def anyS (l:List Subn) (e:List Att):Bool:=l.any fun s=>matchesF s.f e
def batchT (l:List Subn) (c:Int) (x:Ent):List (List Att):=if x.kind=1 then x.es.filter (anyS (ofCl l [c])) else []
def saidV (k:Msg) (a:Idn) (y:Bool):Bool:=k.votes.any fun v=>decide (v=⟨a,y⟩)
def saysV (kids:List Msg) (a:Idn):Int:=if kids.any (fun k=>saidV k a false) then 2 else if kids.all (fun k=>saidV k a true) then 1 else 0
def admit1 (s:Stt) (p:List Ent×List Ent) (x:Ent):List Ent×List Ent :=
 if hasE s.list (idE x)||hasI s.ab (idE x)||hasE p.1 (idE x)||hasE p.2 (idE x) then p
 else if x.kind≠1 then (p.1,p.2++[x]) else if p.1.length<4 then (p.1++[x],p.2) else p
def admitO (s:Stt) (op asks:List Ent):List Ent×List Ent:=asks.foldl (admit1 s) (op,[])
def yesO (op:List Ent) (kids:List Msg):List Ent:=op.filter fun x=>decide (saysV kids (idE x)=1)
def noO (op:List Ent) (kids:List Msg):List Idn:=(op.filter fun x=>decide (saysV kids (idE x)=2)).map idE
structure Dsk where
 recs:List Rec
 room:Nat
def frN (b:List UInt8):Nat:=6+b.length
def dkLen (l:List Rec):Nat:=(l.map fun r=>frN (encRec r)).sum
def fitsR (d:Dsk) (r:Rec):Bool:=decide ((encRec r).length<=4000)&&decide (dkLen d.recs+frN (encRec r)<=d.room)
structure Brk where
 me:Int
 par:List Int
 hom:List Int
 st:Stt
 txns:List Txn
 calls:Nat
 reps:List (Int×Msg)
 refused:List Idn
 told:List Idn
 waits:List Ent
 dk:Dsk
def homeB' (B:Brk) (c:Int):Bool:=decide (0<=c)&&decide (c<(B.hom.length:Int))&&decide (B.hom[c.toNat]?=some B.me)
def rootB (B:Brk):Bool:=decide (B.me=0)
def repB (B:Brk) (k:Int):Msg:=((B.reps.find? fun p=>decide (p.1=k)).map (·.2)).getD msg0
def kidsB (B:Brk):List Int:=kidsP B.par B.me
def lastB (B:Brk):List Msg:=(kidsB B).map (repB B)
def abortedB (B:Brk) (a:Idn):Bool:=hasI B.told a||hasI B.st.ab a
def askB1 (B:Brk) (o:List Ent) (x:Ent):List Ent:=if hasE o (idE x)||hasE B.st.list (idE x)||abortedB B (idE x)||decide (16<=o.length) then o else o++[x]
def asksB (B:Brk):List Ent:=(lastB B).foldl (fun o k=>k.asks.foldl (askB1 B) o) ((asksT B.txns).foldl (askB1 B) [])
def noteB (B:Brk) (r:Rec):Brk×Bool :=
 if okRec r&&fitsR B.dk r then (match onS B.st r with
  | none=>(B,false)
  | some t=>({ B with st:=t,dk:=⟨B.dk.recs++[r],B.dk.room⟩,txns:=if r.kind=2 then settleT B.txns (idE r.e) else B.txns },true))
 else (B,false)
def recE (n:Nat) (x:Ent):Rec:=⟨2,n,x,0,0,0⟩
def recI (k:Int) (a:Idn):Rec:=⟨k,0,ent0,a.1,a.2.1,a.2.2⟩
def listB (B:Brk) (x:Ent):Brk×Bool:=noteB B (recE B.st.list.length x)
def abortB (B:Brk) (a:Idn):Brk×Bool:=if (noteB B (recI 4 a)).2 then ({ (noteB B (recI 4 a)).1 with txns:=settleT (noteB B (recI 4 a)).1.txns a },true) else (B,false)
def work1 (kids:List Msg) (p:Brk×List Ent) (x:Ent):Brk×List Ent :=
 if saysV kids (idE x)=1 then (if (listB p.1 x).2 then ((listB p.1 x).1,p.2) else (p.1,p.2++[x]))
 else if saysV kids (idE x)=2 then (if (abortB p.1 (idE x)).2 then ((abortB p.1 (idE x)).1,p.2) else (p.1,p.2++[x]))
 else (p.1,p.2++[x])
def workL (B:Brk):Brk:=(admitO B.st B.waits (asksB B)).2.foldl (fun b x=>(listB b x).1) B
def workD (B:Brk):Brk×List Ent:=(admitO B.st B.waits (asksB B)).1.foldl (work1 (lastB B)) (workL B,[])
def workB (B:Brk):Brk:=if rootB B then { (workD B).1 with waits:=(workD B).2 } else B
def newB (B:Brk):Idn:=(B.me,B.st.life,B.calls+1)
def callB (B:Brk) (c:Int) (lay:List Txn×Int):Brk×Idn×Int :=
 if homeB' B c then (if lay.2=0 then ({ B with txns:=lay.1,calls:=B.calls+1 },newB B,0) else (B,(0,0,0),lay.2)) else (B,(0,0,0),200)
def beginB (B:Brk) (c:Int):Brk×Idn×Int:=callB B c (beginT B.txns (newB B) c)
def subE (B:Brk) (k c:Int) (n:Nat) (f:List Tst):Ent:=⟨k,B.me,B.st.life,B.calls+1,c,n,f,[]⟩
def subB (B:Brk) (c:Int) (n:Nat) (f:List Tst):Brk×Idn×Int:=callB B c (askT B.txns (subE B 2 c n f))
def keepB (B:Brk) (r:List Txn×Int):Brk×Int:=if r.2=0 then ({ B with txns:=r.1 },0) else (B,r.2)
def statusB (B:Brk) (a:Idn):Int :=
 if hasE B.st.list a then 3 else if abortedB B a then 4 else if (findT B.txns a).2 then (if (findT B.txns a).1.asked then 2 else 1) else 0
def pollG (c:Int):List Ent->List Subn->Nat->List (List Att)×Nat
 | [],_,n=>([],n)
 | x :: r,s,n=>if batchT s c x=[] then pollG c r (if x.kind=1 then s else applyT s x) (n+1) else (batchT s c x,n+1)
def pollB (B:Brk) (c fr:Int):List (List Att)×Int×Int :=
 if homeB' B c then (if 0<=fr/\fr<=(B.st.list.length:Int) then ((pollG c (B.st.list.drop fr.toNat) (subsT (B.st.list.take fr.toNat)) fr.toNat).1,((pollG c (B.st.list.drop fr.toNat) (subsT (B.st.list.take fr.toNat)) fr.toNat).2:Int),0) else ([],0,1)) else ([],0,200)
def lifeS (s:Stt):Stt:=⟨(s.life+1) % 18446744073709551616,s.list,s.prom,s.ab⟩
def okHm (p hom:List Int):Bool:=decide (1<=hom.length)&&decide (hom.length<=32)&&hom.all (inR p)
section
variable {P:Program} {Q:Exit->Act->World->Prop}
def AutoQ (P:Program) (a0:Act) (w0:World) (Fin:List (Value->World->Prop)->Prop):List Oper->List (List Nat×List (Nat×Nat))->List (Value->World->Prop)->Prop
 | [],_,t=>Fin t
 | _ :: _,[],_=>False
 | o :: r,x :: xs,t=>∃ φ:Value->World->Prop,(∀ v w w',φ v w->Below w.heap.size w w'->φ v w') /\
     (∀ (V:Nat->Value) (w:World),K w0 w->(∀ j∈x.1,tab t j (V j) w)->if wantsG V o.guard=true then ResG P φ w ((execOp (rhoP x.2 a0 V) (bareOp o.op o.type)).run P w) else φ undef w) /\
     AutoQ P a0 w0 Fin r xs (t++[φ])
theorem AutoQ.op {a0:Act} {w0:World} {Fin:List (Value->World->Prop)->Prop} {o:Oper} {r:List Oper} {x:List Nat×List (Nat×Nat)} {xs:List (List Nat×List (Nat×Nat))} {t:List (Value->World->Prop)}
 (φ:Value->World->Prop) (st:∀ v w w',φ v w->Below w.heap.size w w'->φ v w')
 (h:∀ (V:Nat->Value) (w:World),K w0 w->(∀ j∈x.1,tab t j (V j) w)->if wantsG V o.guard=true then ResG P φ w ((execOp (rhoP x.2 a0 V) (bareOp o.op o.type)).run P w) else φ undef w)
 (k:AutoQ P a0 w0 Fin r xs (t++[φ])):AutoQ P a0 w0 Fin (o :: r) (x :: xs) t:=⟨φ,st,h,k⟩
def AllT (V:Nat->Value) (w:World):Nat->List (Value->World->Prop)->Prop
 | _,[]=>True
 | k,φ :: r=>φ (V k) w/\AllT V w (k+1) r
def TailQ (P:Program) (a0:Act) (E:(Nat->Value)->World->Prop):Nat->List Oper->List (List Nat×List (Nat×Nat))->(Nat->Value)->World->Prop
 | _,[],_,V,w=>E V w
 | _,_ :: _,[],_,_=>False
 | k,o :: r,x :: xs,V,w=>if wantsG V o.guard=true then Res P (fun v w'=>TailQ P a0 E (k+1) r xs (updV V k v) w') ((execOp (rhoP x.2 a0 V) (bareOp o.op o.type)).run P w) else TailQ P a0 E (k+1) r xs (updV V k undef) w
def tailOk (pl:List (List Nat×List (Nat×Nat))) (m n:Nat):Bool :=
 (List.range n).all fun k=>decide (k<m)||(List.range k).all fun j=>match pl[k]? with
  | none=>false
  | some x=>x.1.contains j||x.1.any (fore pl j n)
theorem autoQ_out {ops:Array Oper} {n:Nat} {a0:Act} {w0:World} {Fin:List (Value->World->Prop)->Prop} :
 ∀ (l:List Oper) (pl:List (List Nat×List (Nat×Nat))) (t:List (Value->World->Prop)),
   AutoQ P a0 w0 Fin l pl t->(∀ i o x,ops[t.length+i]?=some o->l[i]?=some o->pl[i]?=some x->∀ j∈x.1,j<t.length+i)->(∀ i o,l[i]?=some o->ops[t.length+i]?=some o) ->
   (∀ φ∈t,∀ v w w',φ v w->Below w.heap.size w w'->φ v w') ->
   ∃ s,Fin (t++s)/\s.length=l.length/\(∀ φ∈t++s,∀ v w w',φ v w->Below w.heap.size w w'->φ v w') /\
     ∀ i o x,l[i]?=some o->pl[i]?=some x->OwedG P a0 (K w0) (tab (t++s)) (t.length+i) o.op o.type o.guard x.1 x.2:=by
 intro l
 induction l with
 | nil =>
   intro pl t h _ _ hst
   have h':Fin t:=by cases pl <;> exact h
   exact⟨[],by simpa using h',rfl,by simpa using hst,fun i o x hi=>by simp at hi⟩
 | cons o r ih =>
   intro pl t h hal hops hst
   cases pl with
   | nil=>exact False.elim h
   | cons x xs =>
     obtain⟨φ,st,ho,hr⟩:=h
     have e:(t++[φ]).length=t.length+1:=by simp
     obtain⟨s,hF,hs,hst2,hq⟩:=ih xs (t++[φ]) hr
      (fun i o' x' h1 h2 h3 j hj=>by
       rw[e] at h1 ⊢
       have:=hal (i+1) o' x' (by rwa [show t.length+(i+1)=t.length+1+i by omega]) (by simpa using h2) (by simpa using h3) j hj
       omega)
      (fun i o' h1=>by
       rw[e,show t.length+1+i=t.length+(i+1) by omega]
       exact hops (i+1) o' (by simpa using h1))
      (fun ψ hψ=>by
       rcases List.mem_append.1 hψ with h1|h1
       · exact hst ψ h1
       · simp at h1;subst h1;exact st)
     refine⟨φ :: s,by simpa using hF,by simp[hs],by simpa using hst2,?_⟩
     intro i o' x' h1 h2
     have htab:∀ j,j<t.length->tab (t++φ :: s) j=tab t j:=by
      intro j hj
      unfold tab
      funext v w
      simp only[List.getD_eq_getElem?_getD]
      rw[List.getElem?_append_left hj]
     have htab2:tab (t++φ :: s) t.length=φ:=by
      unfold tab
      funext v w
      simp[List.getD_eq_getElem?_getD]
     cases i with
     | zero =>
       simp at h1 h2
       subst h1 h2
       intro V w hk hp
       rw[Nat.add_zero,htab2]
       exact ho V w hk fun j hj=>by
        have hlt:=hal 0 o x (hops 0 o (by simp)) (by simp) (by simp) j hj
        have:=hp j hj
        rwa [htab j (by omega)] at this
     | succ i =>
       have:=hq i o' x' (by simpa using h1) (by simpa using h2)
       rw[e] at this
       rw[show t.length+(i+1)=t.length+1+i by omega]
       simpa using this
theorem allT_of {V:Nat->Value} {w:World}:∀ (s t:List (Value->World->Prop)),(∀ j,t.length<=j->j<t.length+s.length->tab (t++s) j (V j) w)->AllT V w t.length s:=by
 intro s
 induction s with
 | nil=>intro t _;trivial
 | cons φ s ih =>
   intro t h
   refine⟨?_,?_⟩
   · have:=h t.length (Nat.le_refl _) (by simp)
     unfold tab at this
     simpa [List.getD_eq_getElem?_getD] using this
   · have:=ih (t++[φ]) (fun j h1 h2=>by
      simp at h1 h2
      have:=h j (by omega) (by simp;omega)
      simpa using this)
     simpa using this
def tailF (fr:List Nat) (pl:List (List Nat×List (Nat×Nat))) (m n:Nat):Bool :=
 fr.all (fun j=>decide (j<m))&&(List.range n).all fun k=>decide (k<m)||(List.range k).all fun j=>fr.contains j||match pl[k]? with
  | none=>false
  | some x=>x.1.contains j||x.1.any (fore pl j n)
theorem tail_before {ops:Array Oper} {fr:List Nat} {pl:List (List Nat×List (Nat×Nat))} {m:Nat} (hpl:planOk ops pl=true) (ht:tailF fr pl m ops.size=true) {L:Nat->Bool} (hcl:Closed ops L) {k:Nat} (hk:m<=k) {o:Oper} (ho:ops[k]?=some o) (hal:∀ j∈ahead o,L j=true):∀ j,j<k->j ∉ fr->L j=true:=by
 intro j hj hjf
 have hlt:k<ops.size:=(Array.getElem?_eq_some_iff.1 ho).1
 simp only[tailF,Bool.and_eq_true] at ht
 have h1:=List.all_eq_true.1 ht.2 k (List.mem_range.2 hlt)
 simp only[Bool.or_eq_true,decide_eq_true_eq] at h1
 rcases h1 with h1|h1
 · omega
 have h2:=List.all_eq_true.1 h1 j (List.mem_range.2 hj)
 simp only[Bool.or_eq_true,List.contains_iff_mem] at h2
 have h2:=h2.resolve_left hjf
 cases hx:pl[k]? with
 | none=>rw[hx] at h2;cases h2
 | some x =>
   rw[hx] at h2
   simp only[Bool.or_eq_true,List.contains_iff_mem,List.any_eq_true] at h2
   have h3:=List.all_eq_true.1 hpl (o,k) (List.mem_zipIdx_iff_getElem?.2 (by rw[Array.getElem?_toList];exact ho))
   simp only[hx,Bool.and_eq_true] at h3
   have hx1:∀ i∈x.1,L i=true:=fun i hi=>hal i (by simpa using List.all_eq_true.1 h3.1.1 i hi)
   rcases h2 with h2|⟨i,hi,h2⟩
   · exact hx1 j h2
   · exact fore_done hpl hcl _ _ h2 (hx1 i hi)
def FreeOk (P:Program) (a0:Act) (ops:Array Oper) (pl:List (List Nat×List (Nat×Nat))) (fr:List Nat) (cs:Nat->Value) (j:Nat):Prop :=
 ∃ o x,ops[j]?=some o/\pl[j]?=some x/\o.guard=none/\(∀ i∈x.1,i∈fr/\i<j)/\∀ (V:Nat->Value) (W:World),(∀ i∈x.1,V i=cs i)->(execOp (rhoP x.2 a0 V) (bareOp o.op o.type)).run P W=.ok (.value (cs j)) W
def vF (fr:List Nat) (cs V:Nat->Value) (j:Nat):Value:=if j∈fr then cs j else V j
theorem wp_region_free {id:Nat} {ops:Array Oper} {a0:Act} {w:World} (fr:List Nat) (cs:Nat->Value) (m:Nat) (pl:List (List Nat×List (Nat×Nat)))
 (n:Nat) (hn:a0.tmps.size=n) (hm:P.follows .mixedOrders=true) (hok:regionOk ops n=true) (hpl:planOk ops pl=true) (htl:tailF fr pl m ops.size=true) (hms:m<=ops.size) (hfr:∀ j∈fr,FreeOk P a0 ops pl fr cs j)
 (h:AutoQ P a0 w (fun t=>∀ (V:Nat->Value) (W:World),K w W->AllT V W 0 t->TailQ P a0 (fun V W=>Q .normal (putAll V ops.toList 0 a0) W) m (ops.toList.drop m) (pl.drop m) V W) (ops.toList.take m) pl []) :
 (Code.region id ops true).wp P Q a0 w:=by
 have hfm:∀ j∈fr,j<m:=by
  simp only[tailF,Bool.and_eq_true] at htl
  intro j hj
  simpa using List.all_eq_true.1 htl.1 j hj
 have hplx:∀ (i:Nat) (o:Oper),ops[i]?=some o->∃ x:List Nat×List (Nat×Nat),pl[i]?=some x/\∀ j∈x.1,j∈ahead o:=by
  intro i o ho
  have h3:=List.all_eq_true.1 hpl (o,i) (List.mem_zipIdx_iff_getElem?.2 (by rw[Array.getElem?_toList];exact ho))
  cases hx:pl[i]? with
  | none=>simp only[hx] at h3;cases h3
  | some x =>
    simp only[hx,Bool.and_eq_true] at h3
    exact⟨x,rfl,fun j hj=>by simpa using List.all_eq_true.1 h3.1.1 j hj⟩
 obtain⟨s,hF,hs,hst,hq⟩:=autoQ_out (ops:=ops) (n:=n) (ops.toList.take m) pl [] h
  (fun i o x h1 h2 h3 j hj=>by
   simp only[List.length_nil,Nat.zero_add] at h1 ⊢
   obtain⟨y,hy,hyj⟩:=hplx i o h1
   rw[hy] at h3
   injection h3 with h3
   subst h3
   have:=hyj j hj
   have h5:=List.all_eq_true.1 hok (o,i) (List.mem_zipIdx_iff_getElem?.2 (by rw[Array.getElem?_toList];exact h1))
   simp only[Bool.and_eq_true] at h5
   have h6:=List.all_eq_true.1 h5.1.1.1.1 j this
   simpa using h6)
  (fun i o h1=>by
   simp only[List.length_nil,Nat.zero_add]
   rw[<- Array.getElem?_toList]
   by_cases hi:i<m
   · rwa [List.getElem?_take_of_lt hi] at h1
   · rw[List.getElem?_take_eq_none (by omega)] at h1;cases h1)
  (by simp)
 simp only[List.nil_append,List.length_nil,Nat.zero_add] at hF hst hq
 have hsm:s.length=m:=by rw[hs];simp;omega
 have hfree:∀ (b j:Nat),j<b->j∈fr->∀ W,K w W->tab s j (cs j) W:=by
  intro b
  induction b with
  | zero=>intro j hj;omega
  | succ b ih =>
    intro j hj hjf W kW
    obtain⟨o,x,ho,hx,hg,hal,hrun⟩:=hfr j hjf
    have h1:=hq j o x (by rw[List.getElem?_take_of_lt (hfm j hjf),Array.getElem?_toList];exact ho) hx cs W kW (fun i hi=>ih i (by have:=(hal i hi).2;omega) (hal i hi).1 W kW)
    rw[hg,if_pos (show wantsG cs none=true from rfl),hrun cs W (fun _ _=>rfl)] at h1
    exact h1.1
 let T:Nat->(Nat->Value)->World->Prop:=fun i V W=>TailQ P a0 (fun V W=>Q .normal (putAll V ops.toList 0 a0) W) i (ops.toList.drop i) (pl.drop i) V W
 have hT:∀ i o x,ops[i]?=some o->pl[i]?=some x->∀ V W,T i V W=(if wantsG V o.guard=true then Res P (fun v w'=>T (i+1) (updV V i v) w') ((execOp (rhoP x.2 a0 V) (bareOp o.op o.type)).run P W) else T (i+1) (updV V i undef) W):=by
  intro i o x ho hx V W
  have hlt:i<ops.toList.length:=by simpa using (Array.getElem?_eq_some_iff.1 ho).1
  have hlx:i<pl.length:=(List.getElem?_eq_some_iff.1 hx).1
  have e1:ops.toList.drop i=o :: ops.toList.drop (i+1):=by
   rw[<- List.getElem_cons_drop hlt]
   congr 1
   have:ops.toList[i]?=some o:=by rw[Array.getElem?_toList];exact ho
   exact (List.getElem?_eq_some_iff.1 this).2
  have e2:pl.drop i=x :: pl.drop (i+1):=by
   rw[<- List.getElem_cons_drop hlx]
   congr 1
   exact (List.getElem?_eq_some_iff.1 hx).2
  show TailQ P a0 _ i _ _ V W=_
  rw[e1,e2]
  rfl
 let I:(Nat->Bool)->(Nat->Value)->World->Prop:=fun L V W =>
  ((∀ i,m<=i->i<ops.size->L i=false)->K w W/\∀ j,L j=true->tab s j (V j) W) /\
  (∀ k,m<k->k<=ops.size->(∀ j,j<k->j ∉ fr->L j=true)->(∀ j,k<=j->j<ops.size->L j=false)->T k (vF fr cs V) W) /\
  (∀ j∈fr,L j=true->V j=cs j)
 refine wp_region_inv I n hn hm hok ⟨fun _=>⟨(K.rf w).drew,fun _ hj=>by cases hj⟩,(fun k hk _ hL _=>by have:=hL m (by omega) (fun h=>by have:=hfm m h;omega);cases this),(fun j _ h=>by cases h)⟩ ?_ ?_
 · intro k o ho L V W hLk hcl hal hI
   have hlt:k<ops.size:=(Array.getElem?_eq_some_iff.1 ho).1
   obtain⟨x,hx,hxa⟩:=hplx k o ho
   have hvF:∀ j∈ahead o,vF fr cs V j=V j:=fun j hj=>by
    unfold vF
    split
    · exact (hI.2.2 j ‹_› (hal j hj)).symm
    · rfl
   have hgd:∀ j b,o.guard=some (j,b)->j∈ahead o:=fun j b hg=>by
    have h5:=List.all_eq_true.1 hok (o,k) (List.mem_zipIdx_iff_getElem?.2 (by rw[Array.getElem?_toList];exact ho))
    simp only[Bool.and_eq_true,hg,List.contains_iff_mem] at h5
    exact h5.1.2.1
   have hex:∀ V',(∀ j∈ahead o,V' j=V j)->execOp (rho ops a0 V o) o=execOp (rhoP x.2 a0 V') (bareOp o.op o.type):=by
    intro V' hV'
    have h1:=List.all_eq_true.1 hpl (o,k) (List.mem_zipIdx_iff_getElem?.2 (by rw[Array.getElem?_toList];exact ho))
    simp only[hx,Bool.and_eq_true] at h1
    rw[<- execOp_bare]
    refine execOp_congr o (fun cs b e=>by rw[e] at h1;exact absurd h1.1.2 (by simp)) fun y hy=>?_
    have h4:=List.all_eq_true.1 h1.2 y (by simpa using hy)
    cases y with
    | tmp t =>
      simp only[beq_iff_eq] at h4
      simp only[rho,rhoP,h4]
      cases hl:x.2.lookup t with
      | none=>rfl
      | some j =>
        rw[hl] at h4
        simp only[hV' j (List.mem_of_find?_eq_some h4)]
    | const v=>rfl
    | global g=>rfl
    | func f=>rfl
   have hwg:∀ V',(∀ j∈ahead o,V' j=V j)->wants V o=wantsG V' o.guard:=by
    intro V' hV'
    unfold wants wantsG
    cases hg:o.guard with
    | none=>rfl
    | some y=>obtain⟨j,b⟩:=y;simp only[hV' j (hgd j b hg)]
   by_cases hkf:k∈fr
   · obtain⟨o',x',ho',hx',hg,hal',hrun⟩:=hfr k hkf
     rw[ho] at ho';injection ho' with ho';subst ho'
     rw[hx] at hx';injection hx' with hx';subst hx'
     rw[hwg V fun _ _=>rfl,hg,if_pos (show wantsG V none=true from rfl),hex V fun _ _=>rfl,hrun V W (fun i hi=>hI.2.2 i (hal' i hi).1 (hal i (hxa i hi)))]
     have hkm:=hfm k hkf
     have hve:vF fr cs (updV V k (cs k))=vF fr cs V:=by
      funext j
      unfold vF updV
      split
      · rfl
      · rw[if_neg (by rintro rfl;contradiction)]
     refine⟨fun h1=>?_,fun i h1 h2 h3 h4=>?_,fun j hj hL=>?_⟩
     · obtain⟨hk,hp⟩:=hI.1 (fun i h2 h3=>by have:=h1 i h2 h3;unfold upd at this;rwa [if_neg (by omega)] at this)
       refine⟨hk,fun j hj=>?_⟩
       unfold updV
       by_cases hjk:j=k
       · subst hjk
         simpa using hfree (j+1) j (by omega) hkf W hk
       · rw[if_neg hjk]
         exact hp j ((upd_true hj).resolve_left hjk)
     · show T i (vF fr cs (updV V k (cs k))) W
       rw[hve]
       refine hI.2.1 i h1 h2 (fun j hj hjf=>?_) fun j hj hj2=>?_
       · have:=h3 j hj hjf
         unfold upd at this
         rwa [if_neg (by rintro rfl;contradiction)] at this
       · have:=h4 j hj hj2
         unfold upd at this
         rwa [if_neg (by omega)] at this
     · unfold updV
       by_cases hjk:j=k
       · subst hjk;simp
       · rw[if_neg hjk]
         exact hI.2.2 j hj ((upd_true hL).resolve_left hjk)
   have h3rd:∀ v,∀ j∈fr,upd L k j=true->updV V k v j=cs j:=fun v j hj hL=>by
    have hjk:j≠k:=by rintro rfl;contradiction
    unfold updV
    rw[if_neg hjk]
    exact hI.2.2 j hj ((upd_true hL).resolve_left hjk)
   by_cases hkm:k<m
   · rw[hwg V fun _ _=>rfl,hex V fun _ _=>rfl]
     have noT:∀ i,m<=i->i<ops.size->L i=false:=by
      intro i h1 h2
      cases hLi:L i with
      | false=>rfl
      | true =>
        have hoi:ops[i]?=some ops[i]:=by simp[h2]
        have:=tail_before hpl htl hcl h1 hoi (fun j hj=>hcl.1 i _ hoi hLi j hj) k (by omega) hkf
        rw[hLk] at this;cases this
     obtain⟨hk,hp⟩:=hI.1 noT
     have noT2:∀ i,m<=i->i<ops.size->upd L k i=false:=by
      intro i h1 h2
      unfold upd
      rw[if_neg (by omega)]
      exact noT i h1 h2
     have hok':=hq k o x (by rw[List.getElem?_take_of_lt hkm,Array.getElem?_toList];exact ho) hx V W hk (fun j hj=>hp j (hal j (hxa j hj)))
     have next:∀ v w',tab s k v w'->Below W.heap.size W w'->I (upd L k) (updV V k v) w':=by
      intro v w' hv hb
      refine⟨fun _=>⟨hk.tr hb,fun j hj=>?_⟩,fun i h1 h2 h3 _=>?_,h3rd v⟩
      · unfold updV
        by_cases hjk:j=k
        · subst hjk;simpa using hv
        · rw[if_neg hjk]
          exact tab_stable (Le:=fun w w'=>Below w.heap.size w w') hst _ _ _ _ (hp j ((upd_true hj).resolve_left hjk)) hb
      · have h4:=h3 m h1 (fun h=>by have:=hfm m h;omega)
        rw[noT2 m (Nat.le_refl _) (by omega)] at h4;cases h4
     by_cases hwg':wantsG V o.guard=true
     · rw[if_pos hwg'] at hok' ⊢
       generalize (execOp (rhoP x.2 a0 V) (bareOp o.op o.type)).run P W=q at *
       cases q with
       | ok nx w' =>
         cases nx <;> simp only[ResG] at hok' <;> simp only[Res]
         case value v=>exact next _ _ hok'.1 hok'.2
         case skip=>exact next _ _ hok'.1 hok'.2
         case enter f args =>
          refine hok'.mono ?_
          rintro e w'' ⟨v,rfl,hv,hb⟩
          exact⟨v,rfl,next _ _ hv hb⟩
       | halt x w'=>simp only[ResG] at hok'
     · rw[if_neg hwg'] at hok' ⊢
       exact next _ _ hok' (Below.refl _ _)
   · rw[hwg (vF fr cs V) hvF,hex (vF fr cs V) hvF]
     have hall:=tail_before hpl htl hcl (by omega) ho hal
     have hno:∀ i,k<=i->i<ops.size->L i=false:=by
      intro i h1 h2
      by_cases hik:i=k
      · rw[hik];exact hLk
      · cases hLi:L i with
        | false=>rfl
        | true =>
          have hoi:ops[i]?=some ops[i]:=by simp[h2]
          have:=tail_before hpl htl hcl (by omega) hoi (fun j hj=>hcl.1 i _ hoi hLi j hj) k (by omega) hkf
          rw[hLk] at this;cases this
     have hTk:T k (vF fr cs V) W:=by
      by_cases hkm2:k=m
      · subst hkm2
        obtain⟨hk,hp⟩:=hI.1 hno
        refine hF (vF fr cs V) W hk ?_
        have:=allT_of (V:=vF fr cs V) (w:=W) s [] (fun j _ h2=>by
         simp at h2
         unfold vF
         split
         · exact hfree (j+1) j (by omega) ‹_› W hk
         · exact hp j (hall j (by omega) ‹_›))
        simpa using this
      · exact hI.2.1 k (by omega) (by omega) hall hno
     rw[hT k o x ho hx] at hTk
     have hve:∀ v,updV (vF fr cs V) k v=vF fr cs (updV V k v):=fun v=>by
      funext j
      unfold vF updV
      by_cases hjk:j=k
      · subst hjk;rw[if_pos rfl,if_neg hkf,if_pos rfl]
      · rw[if_neg hjk,if_neg hjk]
     have next:∀ v w',T (k+1) (updV (vF fr cs V) k v) w'->I (upd L k) (updV V k v) w':=by
      intro v w' hv
      refine⟨fun h1=>?_,fun i h1 h2 h3 h4=>?_,h3rd v⟩
      · have:=h1 k (by omega) hlt
        unfold upd at this
        rw[if_pos rfl] at this;cases this
      · have hi:i=k+1:=by
         rcases Nat.lt_trichotomy i (k+1) with h5|h5|h5
         · have:=h4 k (by omega) hlt
           unfold upd at this
           rw[if_pos rfl] at this;cases this
         · exact h5
         · have:=h3 (k+1) h5 (fun h=>by have:=hfm _ h;omega)
           unfold upd at this
           rw[if_neg (by omega),hno (k+1) (by omega) (by omega)] at this;cases this
        rw[hi,<- hve];exact hv
     by_cases hwg':wantsG (vF fr cs V) o.guard=true
     · rw[if_pos hwg'] at hTk ⊢
       generalize (execOp (rhoP x.2 a0 (vF fr cs V)) (bareOp o.op o.type)).run P W=q at *
       cases q with
       | ok nx w' =>
         cases nx <;> simp only[Res] at hTk ⊢
         case value v=>exact next _ _ hTk
         case skip=>exact next _ _ hTk
         case enter f args =>
          refine hTk.mono ?_
          rintro e w'' ⟨v,rfl,hv⟩
          exact⟨v,rfl,next _ _ hv⟩
       | halt x w'=>simp only[Res] at hTk
     · rw[if_neg hwg'] at hTk ⊢
       exact next _ _ hTk
 · intro V W hI
   have hve:∀ j,j<ops.size->vF fr cs V j=V j:=fun j hj=>by
    unfold vF
    split
    · exact (hI.2.2 j ‹_› (by simpa using hj)).symm
    · rfl
   have hput:∀ (V':Nat->Value) (l:List Oper) (k:Nat) (a:Act),(∀ j,k<=j->j<k+l.length->V' j=V j)->putAll V' l k a=putAll V l k a:=by
    intro V' l
    induction l with
    | nil=>intro k a _;rfl
    | cons o r ih =>
      intro k a h
      simp only[putAll,h k (Nat.le_refl _) (by simp)]
      exact ih _ _ fun j h1 h2=>h j (by omega) (by simp;omega)
   have hputF:=hput (vF fr cs V) ops.toList 0 a0 (fun j _ h=>hve j (by simpa using h))
   by_cases hmn:m<ops.size
   · have:=hI.2.1 ops.size hmn (Nat.le_refl _) (fun j hj _=>by simpa using hj) (fun j h1 h2=>by omega)
     have e:T ops.size (vF fr cs V) W=Q .normal (putAll (vF fr cs V) ops.toList 0 a0) W:=by
      show TailQ P a0 _ _ _ _ _ W=_
      rw[List.drop_eq_nil_of_le (by simp)]
      rfl
     rw[e,hputF] at this
     exact this
   · have hme:m=ops.size:=by omega
     subst hme
     obtain⟨hk,hp⟩:=hI.1 (fun i h1 h2=>by omega)
     have h9:=hF V W hk (by
      have:=allT_of (V:=V) (w:=W) s [] (fun j _ h2=>by
       simp at h2
       exact hp j (by simp;omega))
      simpa using this)
     rw[List.drop_eq_nil_of_le (by simp)] at h9
     exact h9
theorem wp_region_auto {id:Nat} {ops:Array Oper} {a0:Act} {w:World} (m:Nat) (pl:List (List Nat×List (Nat×Nat)))
 (n:Nat) (hn:a0.tmps.size=n) (hm:P.follows .mixedOrders=true) (hok:regionOk ops n=true) (hpl:planOk ops pl=true) (htl:tailOk pl m ops.size=true) (hms:m<=ops.size)
 (h:AutoQ P a0 w (fun t=>∀ (V:Nat->Value) (W:World),K w W->AllT V W 0 t->TailQ P a0 (fun V W=>Q .normal (putAll V ops.toList 0 a0) W) m (ops.toList.drop m) (pl.drop m) V W) (ops.toList.take m) pl []) :
 (Code.region id ops true).wp P Q a0 w :=
 wp_region_free [] (fun _=>undef) m pl n hn hm hok hpl (by
  simp only[tailF,List.all_nil,Bool.true_and]
  refine List.all_eq_true.2 fun k hk=>?_
  have h1:=List.all_eq_true.1 htl k hk
  simp only[Bool.or_eq_true,decide_eq_true_eq] at h1 ⊢
  refine h1.imp (fun h=>h) fun h2=>List.all_eq_true.2 fun j hj=>?_
  have h3:=List.all_eq_true.1 h2 j hj
  simp only[List.contains_nil,Bool.false_or]
  exact h3) hms (fun _ h=>by cases h) h
end
section
variable {gw g:Nat} {n:Int} {l l':List UInt8} {wr bd wr' bd':Bool} {W W':World} {X:Nat->Prop}
theorem Blk.upn {b:Nat} {t:TypeId} {cs:Array Value} (h:Blk W b t cs) (u:UpN X W W') (hb:¬ X b):Blk W' b t cs:=(u.block b h.lt hb).trans h
theorem UpN.set1 {b:Nat} (hX:X b) (i:Nat) (u:Value):UpN X W (W.setCell ⟨b,i,none⟩ u):=UpN.sets hX [u] i W
end
def Fx (M:Nat->Prop) (p:World->Prop) (w:World):Prop:=∀ W,UpN M w W->p W
section
variable {M N X:Nat->Prop} {p q:World->Prop} {w w':World}
theorem Fx.now (h:Fx M p w):p w:=h w (UpN.rf _ _)
theorem Fx.k (h:Fx M p w) (k:K w w'):Fx M p w':=fun W u=>h W ((UpN.of_k k _).tr u)
theorem Fx.up (h:Fx M p w) (u:UpN X w w') (hX:∀ k,X k->M k):Fx M p w':=fun W u'=>h W ((u.more hX).tr u')
theorem Fx.less (h:Fx M p w) (hN:∀ k,N k->M k):Fx N p w:=fun W u=>h W (u.more hN)
theorem Fx.mono (h:Fx M p w) (hp:∀ W,p W->q W):Fx M q w:=fun W u=>hp W (h W u)
theorem Fx.at (h:Fx M p w) (k:K w w'):p w':=h w' (UpN.of_k k _)
theorem UpN.tr2 {Y:Nat->Prop} {w'':World} (u:UpN X w w') (v:UpN Y w' w'') (hY:∀ k,k<w.heap.size->Y k->X k):UpN X w w'' :=
 ⟨v.os.trans u.os,v.tape.trans u.tape,v.output.trans u.output,Nat.le_trans u.size v.size,fun k h1 h2=>(v.block k (Nat.lt_of_lt_of_le h1 u.size) (fun h=>h2 (hY k h1 h))).trans (u.block k h1 h2)⟩
theorem Fx.to (h:Fx M p w) (u:UpN X w w') (hX:∀ k,X k->M k) (hM:∀ k,k<w.heap.size->N k->M k):Fx N p w':=fun W v=>h W ((u.more hX).tr2 v hM)
theorem Fx.fresh {lo:Nat} (h:∀ W,UpB lo none w W->p W) (hM:∀ k,M k->k<lo):Fx M p w :=
 fun W u=>h W (u.upB fun k h1 _ _ h2=>by have:=hM k h2;omega)
end
abbrev intc (n:Int):List Value:=[.int .i64 n]
def inS:Shp Int where
 size:=1
 rel:=fun n cs _=>cs=intc n
 len:=by rintro x cs w rfl;rfl
 one:=by
  rintro x cs w rfl u hu
  simp at hu
  subst hu
  rfl
 st:=fun h _=>h
theorem each_ints (l:List Int) (W:World):Each inS l (l.map intc) W:=⟨by simp,fun i h h'=>by simp[inS]⟩
theorem ints_flat (l:List Int):(l.map intc).flatten=l.map fun n=>Value.int .i64 n:=by
 induction l with
 | nil=>rfl
 | cons a l ih=>simp[intc,ih]
theorem each_ints_eq {l:List Int} {css:List (List Value)} {W:World} (h:Each inS l css W):css=l.map intc:=by
 refine List.ext_getElem (by simp[h.1]) fun i h1 h2=>?_
 have:=h.2 i (by simpa using h2) h1
 simpa [inS] using this
