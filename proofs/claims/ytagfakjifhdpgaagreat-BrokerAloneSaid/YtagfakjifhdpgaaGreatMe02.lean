/-
  BrokerAlone in plain Lean: what a single broker holds behind its client's calls, and its tick (layer 20). Conditions: none.
-/
import Derived.Test.YtagfakjifhdpgaaGreatMe01
set_option maxRecDepth 100000
set_option maxHeartbeats 16000000
set_option linter.unusedVariables false
set_option linter.unusedSimpArgs false
namespace Go.Proofs.YtagfakjifhdpgaaGreat
open Go Go.RowKit
def askd (x:Ent):Txn:=⟨x,true⟩
def aB (n:Nat) (l:List Txn):Brk:={ bH0 0 [-1] [0] with txns:=l,calls:=n }
structure AlI (l:List Ent):Prop where
 ok:∀ x∈l,okEn x=true/\fitEn x/\bigE x=false/\x.kind=1
 id:∀ i (h:i<l.length),idE l[i]=(0,1,i+1)
def AlX (n:Nat) (x:Ent):Prop:=okEn x=true/\fitEn x/\bigE x=false/\x.kind=1/\idE x=(0,1,n+1)
section
variable {l:List Ent} {x:Ent}
theorem AlI.nil:AlI []:=⟨by simp,fun i h=>by simp at h⟩
theorem AlI.snoc (h:AlI l) (hx:AlX l.length x):AlI (l++[x]):=by
 refine⟨fun y hy=>?_,fun i hi=>?_⟩
 · rcases List.mem_append.1 hy with hy|hy
   · exact h.ok y hy
   · simp at hy;subst hy;exact⟨hx.1,hx.2.1,hx.2.2.1,hx.2.2.2.1⟩
 · by_cases hl:i<l.length
   · rw[List.getElem_append_left hl];exact h.id i hl
   · have:i=l.length:=by simp at hi;omega
     subst this
     simp[hx.2.2.2.2]
theorem AlI.ne (h:AlI l) {n:Nat} (hn:l.length<=n):∀ y∈l,idE y≠(0,1,n+1):=by
 intro y hy e
 obtain⟨i,hi,rfl⟩:=List.mem_iff_getElem.1 hy
 rw[h.id i hi] at e
 injection e with _ e
 injection e with _ e
 omega
theorem AlI.seek (h:AlI l) {n:Nat} (hn:l.length<=n):seekT (l.map askd) (0,1,n+1)=none:=by
 unfold seekT
 rw[List.findIdx?_eq_none_iff]
 intro t ht
 obtain⟨y,hy,rfl⟩:=List.mem_map.1 ht
 exact decide_eq_false (h.ne hn y hy)
theorem AlI.seek2 (h:AlI l) (hx:idE x=(0,1,l.length+1)) (b:Bool):seekT (l.map askd++[⟨x,b⟩]) (0,1,l.length+1)=some l.length:=by
 have h1:=h.seek (Nat.le_refl _)
 unfold seekT at h1 ⊢
 rw[List.findIdx?_append,h1]
 have h2:isId (0,1,l.length+1) ⟨x,b⟩=true:=decide_eq_true hx
 simp[h2]
theorem AlI.open2 (h:AlI l) (hx:idE x=(0,1,l.length+1)):openT (l.map askd++[⟨x,false⟩]) (0,1,l.length+1)=some l.length:=by
 unfold openT
 rw[h.seek2 hx false]
 simp
theorem last_get (t:Txn):(l.map askd++[t])[l.length]?=some t:=by simp
theorem last_set (t u:Txn):(l.map askd++[t]).set l.length u=l.map askd++[u]:=by
 rw[List.set_append_right _ _ (by simp)]
 simp
theorem pub_small:∀ n:Fin 4,bigE (pubE (0,1,n.val+1) 0)=false:=by decide +kernel
theorem alone_begin (h:AlI l) (h3:l.length<=3):beginB (aB l.length (l.map askd)) 0=(aB (l.length+1) (l.map askd++[⟨pubE (0,1,l.length+1) 0,false⟩]),(0,1,l.length+1),0)/\AlX l.length (pubE (0,1,l.length+1) 0):=by
 have hs:bigE (pubE (0,1,l.length+1) 0)=false:=pub_small ⟨l.length,by omega⟩
 have hok:okEn (pubE (0,1,l.length+1) 0)=true:=by simp[okEn,pubE,homeB]
 have hn:newB (aB l.length (l.map askd))=(0,1,l.length+1):=rfl
 refine⟨?_,hok,⟨by simp[pubE,i64ok],by simp[pubE,i64ok],by simp[pubE,i64ok],by simp[pubE],by simp[pubE];omega,by simp[pubE],by simp[pubE],by simp[pubE]⟩,hs,rfl,rfl⟩
 have ht:beginT (aB l.length (l.map askd)).txns (newB (aB l.length (l.map askd))) 0=(l.map askd++[⟨pubE (0,1,l.length+1) 0,false⟩],0):=by
  rw[hn]
  show addT (l.map askd) _=_
  unfold addT
  rw[if_neg (by show ¬ (seekT (l.map askd) (0,1,l.length+1)).isSome=true;rw[h.seek (Nat.le_refl _)];simp),if_neg (by simp[hok]),if_neg (by simp;omega),if_neg (by simp[hs])]
 unfold beginB callB
 rw[ht,hn]
 rfl
theorem alone_publish (h:AlI l) (hx:AlX l.length x) (e:List Att) (he:∀ a∈e,fitA a) :
 (keepB (aB (l.length+1) (l.map askd++[⟨x,false⟩])) (publishT (l.map askd++[⟨x,false⟩]) (0,1,l.length+1) e)).2≠0/\(keepB (aB (l.length+1) (l.map askd++[⟨x,false⟩])) (publishT (l.map askd++[⟨x,false⟩]) (0,1,l.length+1) e)).1=aB (l.length+1) (l.map askd++[⟨x,false⟩]) ∨
 (keepB (aB (l.length+1) (l.map askd++[⟨x,false⟩])) (publishT (l.map askd++[⟨x,false⟩]) (0,1,l.length+1) e)).2=0/\(keepB (aB (l.length+1) (l.map askd++[⟨x,false⟩])) (publishT (l.map askd++[⟨x,false⟩]) (0,1,l.length+1) e)).1=aB (l.length+1) (l.map askd++[⟨moreE x e,false⟩])/\AlX l.length (moreE x e):=by
 obtain⟨h1,h2,h3,h4,h5⟩:=hx
 have hp:publishT (l.map askd++[⟨x,false⟩]) (0,1,l.length+1) e=if okE e=false then (l.map askd++[⟨x,false⟩],40) else if 8<=x.es.length then (l.map askd++[⟨x,false⟩],171) else if bigE (moreE x e) then (l.map askd++[⟨x,false⟩],172) else (l.map askd++[⟨moreE x e,false⟩],0):=by
  unfold publishT
  rw[h.open2 h5]
  simp only[last_get,last_set]
 rw[hp]
 by_cases g1:okE e=false
 · left;rw[if_pos g1];unfold keepB;simp
 by_cases g2:8<=x.es.length
 · left;rw[if_neg g1,if_pos g2];unfold keepB;simp
 by_cases g3:bigE (moreE x e)=true
 · left;rw[if_neg g1,if_neg g2,if_pos g3];unfold keepB;simp
 right
 rw[if_neg g1,if_neg g2,if_neg g3]
 unfold keepB
 refine⟨rfl,rfl,okEn_more h1 h4 (by omega) (by simpa using g1),⟨h2.1,h2.2.1,h2.2.2.1,h2.2.2.2.1,h2.2.2.2.2.1,h2.2.2.2.2.2.1,h2.2.2.2.2.2.2.1,fun y hy a ha=>?_⟩,by simpa using g3,h4,h5⟩
 rcases List.mem_append.1 hy with hy|hy
 · exact h2.2.2.2.2.2.2.2 y hy a ha
 · simp at hy;subst hy;exact he a ha
theorem alone_commit (h:AlI l) (hx:AlX l.length x):keepB (aB (l.length+1) (l.map askd++[⟨x,false⟩])) (commitT (l.map askd++[⟨x,false⟩]) (0,1,l.length+1))=(aB (l++[x]).length ((l++[x]).map askd),0):=by
 have hp:commitT (l.map askd++[⟨x,false⟩]) (0,1,l.length+1)=(l.map askd++[⟨x,true⟩],0):=by
  unfold commitT
  rw[h.open2 hx.2.2.2.2]
  simp only[last_get,last_set]
 rw[hp]
 unfold keepB
 simp[askd,aB]
theorem asks_all (B:Brk):∀ (l o:List Ent),(o++l).Pairwise (fun a b=>idE a≠idE b)->(∀ y∈l,hasE B.st.list (idE y)=false/\abortedB B (idE y)=false)->(o++l).length<=16->l.foldl (askB1 B) o=o++l:=by
 intro l
 induction l with
 | nil=>intro o _ _ _;simp
 | cons y l ih =>
   intro o hp hh hl
   have h1:hasE o (idE y)=false:=by
    unfold hasE
    rw[List.any_eq_false]
    intro z hz
    have:=(List.pairwise_append.1 hp).2.2 z hz y (by simp)
    simpa using this
   have h2:=hh y (by simp)
   have h3:askB1 B o y=o++[y]:=by
    unfold askB1
    rw[if_neg]
    simp at hl
    simp[h1,h2.1,h2.2]
    omega
   rw[List.foldl_cons,h3,ih (o++[y]) (by simpa using hp) (fun z hz=>hh z (by simp[hz])) (by simpa using hl)]
   simp
theorem admit_all (s:Stt):∀ (l o:List Ent),(o++l).Pairwise (fun a b=>idE a≠idE b)->(∀ y∈l,hasE s.list (idE y)=false/\hasI s.ab (idE y)=false/\y.kind=1)->(o++l).length<=4->l.foldl (admit1 s) (o,[])=(o++l,[]):=by
 intro l
 induction l with
 | nil=>intro o _ _ _;simp
 | cons y l ih =>
   intro o hp hh hl
   have h1:hasE o (idE y)=false:=by
    unfold hasE
    rw[List.any_eq_false]
    intro z hz
    have:=(List.pairwise_append.1 hp).2.2 z hz y (by simp)
    simpa using this
   have h2:=hh y (by simp)
   have h3:admit1 s (o,[]) y=(o++[y],[]):=by
    unfold admit1
    rw[if_neg (by rw[h1,h2.1,h2.2.1];simp[hasE]),if_neg (by simp[h2.2.2]),if_pos (by simp at hl ⊢;omega)]
   rw[List.foldl_cons,h3,ih (o++[y]) (by simpa using hp) (fun z hz=>hh z (by simp[hz])) (by simpa using hl)]
   simp
theorem AlI.pair (h:AlI l):l.Pairwise (fun a b=>idE a≠idE b):=by
 rw[List.pairwise_iff_getElem]
 intro i j hi hj hij e
 rw[h.id i hi,h.id j hj] at e
 injection e with _ e
 injection e with _ e
 omega
structure AlB (done rest:List Ent) (B:Brk):Prop where
 st:B.st=⟨1,done,[],[]⟩
 tx:B.txns=rest.map askd
 room:B.dk.room=60000
 len:dkLen B.dk.recs<=100+4006 * done.length
theorem alone_list {done rest:List Ent} {B:Brk} (h:AlB done (x :: rest) B) (h4:done.length<=3) (hok:okEn x=true) (hf:fitEn x) (hb:bigE x=false) (hn:hasE done (idE x)=false):(listB B x).2=true/\AlB (done++[x]) rest (listB B x).1:=by
 have h3:(encEn x).length<=3000:=by
  unfold bigE encOf at hb
  rw[if_pos hok] at hb
  simpa using hb
 have hr:(encRec (recE done.length x)).length<=4000:=by
  have a1:=packN_len (kindN (2:Int)) (kindN_lt _)
  have a2:=packN_len done.length (by omega)
  have a6:=packN_len (encEn x).length (by omega)
  rw[encRec_23 (.inl rfl)]
  simp only[recE,List.length_append,packB]
  omega
 have ho:okRec (recE done.length x)=true:=by simp[okRec,recE,hok,noId]
 have hst:=h.st
 have hft:fitsR B.dk (recE done.length x)=true:=by
  have:=h.len
  unfold fitsR
  rw[h.room]
  simp only[frN,Bool.and_eq_true,decide_eq_true_eq]
  refine⟨hr,?_⟩
  have h6:4006 * done.length<=4006 * 3:=Nat.mul_le_mul_left _ h4
  have h7:dkLen B.dk.recs+(6+(encRec (recE done.length x)).length)<=60000:=by omega
  exact decide_eq_true h7
 have hon:onS B.st (recE done.length x)=some ⟨1,done++[x],[],[]⟩:=by
  unfold onS
  rw[if_neg (by simp[recE]),if_pos (by simp[recE])]
  unfold on2
  rw[hst]
  rw[if_neg (by simp[recE]),if_neg (by show ¬ hasE done (idE x)=true;simp[hn]),if_neg (by simp[hasI])]
  rfl
 have hnote:listB B x=({ B with st:=⟨1,done++[x],[],[]⟩,dk:=⟨B.dk.recs++[recE done.length x],B.dk.room⟩,txns:=settleT B.txns (idE x) },true):=by
  unfold listB noteB
  have e:B.st.list.length=done.length:=by rw[hst]
  rw[e,hon,ho,hft]
  rfl
 rw[hnote]
 refine⟨rfl,rfl,?_,h.room,?_⟩
 · show settleT B.txns (idE x)=_
   rw[h.tx]
   have:isId (idE x) (askd x)=true:=decide_eq_true rfl
   simp[settleT,seekT,List.findIdx?_cons,this]
 · have:=h.len
   show dkLen (B.dk.recs++[recE done.length x])<=_
   have e:dkLen (B.dk.recs++[recE done.length x])=dkLen B.dk.recs+(6+(encRec (recE done.length x)).length):=by
    unfold dkLen
    rw[List.map_append,List.sum_append]
    simp[frN]
   rw[e]
   simp only[List.length_append,List.length_cons,List.length_nil]
   omega
theorem alone_works:∀ (rest done:List Ent) (B:Brk),AlB done rest B->(done++rest).length<=4->(∀ y∈rest,okEn y=true/\fitEn y/\bigE y=false)->(done++rest).Pairwise (fun a b=>idE a≠idE b) ->
 AlB (done++rest) [] (rest.foldl (work1 []) (B,[])).1:=by
 intro rest
 induction rest with
 | nil=>intro done B h _ _ _;simpa using h
 | cons y rest ih =>
   intro done B h hl ho hp
   have h0:=ho y (by simp)
   have hn:hasE done (idE y)=false:=by
    unfold hasE
    rw[List.any_eq_false]
    intro z hz
    have:=(List.pairwise_append.1 hp).2.2 z hz y (by simp)
    simpa using this
   obtain⟨h1,h2⟩:=alone_list h (by simp at hl;omega) h0.1 h0.2.1 h0.2.2 hn
   have h3:work1 [] (B,[]) y=((listB B y).1,[]):=by
    unfold work1
    rw[if_pos (by simp[saysV]),if_pos h1]
   rw[List.foldl_cons,h3]
   have:=ih (done++[y]) _ h2 (by simpa using hl) (fun z hz=>ho z (by simp[hz])) (by simpa using hp)
   simpa using this
theorem alone_room:dkLen (recsS (lifeS st0))<=100:=by decide +kernel
theorem alone_st {n:Nat} {l:List Txn}:(aB n l).st=⟨1,[],[],[]⟩:=show lifeS st0=_ from rfl
theorem alone_tick (h:AlI l) (h4:l.length<=4):(workB (aB l.length (l.map askd))).st.list=l/\(workB (aB l.length (l.map askd))).txns=[]:=by
 have hp:=h.pair
 have hl:lastB (aB l.length (l.map askd))=[]:=by
  have:kidsB (aB l.length (l.map askd))=[]:=by
   show kidsP [-1] 0=[]
   decide +kernel
  unfold lastB
  rw[this];rfl
 have hat:asksT (l.map askd)=l:=by
  unfold asksT
  have h1:(l.map askd).filter Txn.asked=l.map askd:=by
   rw[List.filter_eq_self]
   intro t ht
   obtain⟨y,-,rfl⟩:=List.mem_map.1 ht
   rfl
  rw[h1,List.map_map]
  have h2:(Txn.e ∘ askd)=id:=rfl
  rw[h2,List.map_id,List.take_of_length_le h4]
 have hst:(aB l.length (l.map askd)).st=⟨1,[],[],[]⟩:=alone_st
 have hasks:asksB (aB l.length (l.map askd))=l:=by
  unfold asksB
  rw[hl]
  show (asksT (l.map askd)).foldl _ []=l
  rw[hat,asks_all _ l [] (by simpa using hp) (fun y _=>⟨by rw[hst];rfl,by unfold abortedB;rw[hst];rfl⟩) (by simp;omega)]
  rfl
 have had:admitO (aB l.length (l.map askd)).st (aB l.length (l.map askd)).waits (asksB (aB l.length (l.map askd)))=(l,[]):=by
  unfold admitO
  rw[hasks]
  show l.foldl _ ([],[])=_
  rw[admit_all _ l [] (by simpa using hp) (fun y hy=>⟨by rw[hst];rfl,by rw[hst];rfl,(h.ok y hy).2.2.2⟩) (by simpa using h4)]
  rfl
 have hwl:workL (aB l.length (l.map askd))=aB l.length (l.map askd):=by
  unfold workL
  rw[had];rfl
 have hb:AlB [] l (aB l.length (l.map askd)):=⟨hst,rfl,rfl,alone_room⟩
 have hw:=alone_works l [] _ hb (by simpa using h4) (fun y hy=>⟨(h.ok y hy).1,(h.ok y hy).2.1,(h.ok y hy).2.2.1⟩) (by simpa using hp)
 have hwb:workB (aB l.length (l.map askd))={ (workD (aB l.length (l.map askd))).1 with waits:=(workD (aB l.length (l.map askd))).2 }:=by
  unfold workB
  rw[if_pos (show rootB (aB l.length (l.map askd))=true from rfl)]
 have hwd:workD (aB l.length (l.map askd))=l.foldl (work1 []) (aB l.length (l.map askd),[]):=by
  unfold workD
  rw[had,hl,hwl]
 rw[hwb,hwd]
 exact⟨by show (l.foldl (work1 []) (aB l.length (l.map askd),[])).1.st.list=l;rw[hw.st];rfl,hw.tx⟩
end
section
open Go Go.RowKit Go.ChangeShapes Go.WideShapes Go.ChangeAt
theorem LivX.grow {X X' Z Z':Nat->Prop} {g gd:Nat} {B:Brk} {W W':World} (h:LivX X Z g gd B W) (u:UpN X W W') (hX:∀ k,X k->Z k) (hX':∀ k,X' k->X k∨(W.heap.size<=k/\k<W'.heap.size)) (hZ':∀ k,Z' k->Z k∨(W.heap.size<=k/\k<W'.heap.size)):LivX X' Z' g gd B W':=by
 obtain⟨hG,p,hb,hg,hz⟩:=h
 refine⟨hG,p,hb.far u (fun _ h=>.inl h) (fun k hk=>(hz k (hX k hk)).1) (fun k hk hx=>hx.elim (fun h=>.inl ((hX' k h).resolve_right (by omega))) .inr) (fun _ h=>.inr h) (fun k hk=>?_),hg,fun k hk=>?_⟩
 · rcases hk with h|h
   · rcases hX' k h with h|h
     · exact Nat.lt_of_lt_of_le (hb.low k (.inl h)) u.size
     · exact h.2
   · exact Nat.lt_of_lt_of_le (hb.low k (.inr h)) u.size
 · rcases hZ' k hk with h|h
   · exact⟨(hz k h).1,Nat.lt_of_lt_of_le (hz k h).2 u.size⟩
   · exact⟨fun hx=>by have:=hb.low k (hb.sub k hx);omega,h.2⟩
end
section
open Go Go.RowKit Go.ChangeShapes Go.WideShapes Go.ChangeAt
theorem TailQ.callG {P:Program} {a0:Act} {E:(Nat->Value)->World->Prop} {k:Nat} {o:Oper} {r:List Oper} {x:List Nat×List (Nat×Nat)} {xs:List (List Nat×List (Nat×Nat))} {V:Nat->Value} {w:World}
 (f:FuncId) (args:Array Value) (hg:wantsG V o.guard=true) (hx:(execOp (rhoP x.2 a0 V) (bareOp o.op o.type)).run P w=.ok (.enter f args) w) (h:Calls P f args w fun e w''=>∃ v,e=.returned v/\TailQ P a0 E (k+1) r xs (updV V k v) w''):TailQ P a0 E k (o :: r) (x :: xs) V w:=by
 unfold TailQ
 rw[if_pos hg,hx]
 exact h
theorem TailQ.pureG {P:Program} {a0:Act} {E:(Nat->Value)->World->Prop} {k:Nat} {o:Oper} {r:List Oper} {x:List Nat×List (Nat×Nat)} {xs:List (List Nat×List (Nat×Nat))} {V:Nat->Value} {w:World}
 (v:Value) (hg:wantsG V o.guard=true) (hx:(execOp (rhoP x.2 a0 V) (bareOp o.op o.type)).run P w=.ok (.value v) w) (h:TailQ P a0 E (k+1) r xs (updV V k v) w):TailQ P a0 E k (o :: r) (x :: xs) V w:=by
 unfold TailQ
 rw[if_pos hg,hx]
 exact h
theorem AlX.len {n:Nat} {x:Ent} (h:AlX n x):x.es.length<=8/\x.f=[]:=by
 have h1:=h.1
 unfold okEn at h1
 rw[if_pos h.2.2.2.1] at h1
 simp only[Bool.and_eq_true,decide_eq_true_eq] at h1
 exact⟨h1.2.1.2,List.isEmpty_iff.1 h1.2.1.1.2⟩
def elS:Shp (List (List Att)) where
 size:=1
 rel l cs w:=∃ v,cs=[v]/\lst evS l v w
 len:=by rintro _ _ _ ⟨v,rfl,_⟩;rfl
 one:=by rintro _ _ _ ⟨v,rfl,A,c,rfl,_⟩ u hu;simp at hu;subst hu;rfl
 st:=by rintro _ _ _ _ ⟨v,rfl,h⟩ k;exact⟨v,rfl,lst_st h k⟩
def repEvLists (w:World) (v:Value):Prop:=∃ l,lst elS l v w/\∀ es∈l,∀ e∈es,∀ a∈e,fitA a
section
variable {H:Type} {enc:TypeId×Value->H} {w:World} {base:Nat} {r:Reach} {b0:Nat} {spare:Nat->Bool} {held:Bool} {v:Value} {d:DataW H} {p:List MemPlace}
theorem repEvLists_of (hv:Value.okWide Tryz.prog w r b0 23 v) (h:DataW.Trod enc Tryz.prog w base spare held 23 v d p):repEvLists w v:=by
 obtain⟨A,n,c,rfl⟩:=okWide_slice Tryz.underlying23 hv
 obtain⟨fuel,hf⟩:=h
 obtain⟨v,l,e,hl,ho⟩:=lst_cells Tryz.underlying23 elS (fun l=>∀ e∈l,∀ a∈e,fitA a) (by kernel_rfl) (by decide) (fun _ _ _ _ ht=>by
  obtain⟨v,l,e,h1,h2⟩:=lst_cells Tryz.underlying38 evS (fun l=>∀ a∈l,fitA a) (by kernel_rfl) (by decide) (fun _ _ _ _ ht=>ev_cells ht) ht
  exact⟨l,⟨v,e,h1⟩,h2⟩) hf
 simp[Value.cells] at e
 subst e
 exact⟨l,hl,ho⟩
end
def AvX (vw ve:Value) (gx gi k:Nat):Prop:=(vw.ownBlock=some k∨ve.ownBlock=some k)∨k=gx∨k=gi
def AvZ (w:World) (E:Nat->Prop) (vw ve:Value) (gx gi k:Nat):Prop:=(k<w.heap.size∨E k)∨AvX vw ve gx gi k
structure AlW (w:World) (g gd:Nat) (E:Nat->Prop) (want:List Ent) (vw:Value) (W:World):Prop where
 liv:LivX (fun k=>vw.ownBlock=some k) (fun k=>(k<w.heap.size∨E k)∨vw.ownBlock=some k) g gd (aB want.length (want.map askd)) W
 wnt:OwnY (fun k=>¬ (k<w.heap.size∨E k)) w.heap.size 42 enS want vw W
 nE:∀ k,E k->vw.ownBlock≠some k/\k<W.heap.size/\w.heap.size<=k
 k:K w W
structure AlV (w:World) (g gd gi gx:Nat) (E:Nat->Prop) (want:List Ent) (vw:Value) (B:Brk) (x:Ent) (ve:Value) (W:World):Prop where
 liv:LivX (AvX vw ve gx gi) (AvZ w E vw ve gx gi) g gd B W
 wnt:OwnY (fun k=>¬ (k<w.heap.size∨E k)) w.heap.size 42 enS want vw W
 id:Blk W gi 35 (idA (0,1,want.length+1))
 blk:Blk W gx 42 (entA x (.slice none 0 0) ve)
 es:OwnY (fun k=>¬ k<w.heap.size) w.heap.size 45 evS x.es ve W
 nE:∀ k,E k->vw.ownBlock≠some k/\ve.ownBlock≠some k/\k≠gx/\k≠gi/\k<W.heap.size/\w.heap.size<=k
 nwe:∀ k,vw.ownBlock=some k->ve.ownBlock≠some k
 ngx:vw.ownBlock≠some gx/\ve.ownBlock≠some gx/\w.heap.size<=gx
 ngi:vw.ownBlock≠some gi/\ve.ownBlock≠some gi/\w.heap.size<=gi/\gi≠gx
 k:K w W
section
variable {w W W':World} {g gd gi gx:Nat} {E:Nat->Prop} {want:List Ent} {vw ve:Value} {B B':Brk} {x:Ent}
theorem AlV.st (h:AlV w g gd gi gx E want vw B x ve W) (k:K W W'):AlV w g gd gi gx E want vw B x ve W' :=
 ⟨h.liv.st k,h.wnt.st k,h.id.below k h.id.lt,h.blk.below k h.blk.lt,h.es.st k,fun j hj=>⟨(h.nE j hj).1,(h.nE j hj).2.1,(h.nE j hj).2.2.1,(h.nE j hj).2.2.2.1,Nat.lt_of_lt_of_le (h.nE j hj).2.2.2.2.1 k.size,(h.nE j hj).2.2.2.2.2⟩,h.nwe,h.ngx,h.ngi,h.k.tr k⟩
theorem AlV.call (h:AlV w g gd gi gx E want vw B x ve W) (hL:LivX (AvX vw ve gx gi) (AvZ w E vw ve gx gi) g gd B' W') (u:UpN (fun k=>¬ AvZ w E vw ve gx gi k) W W'):AlV w g gd gi gx E want vw B' x ve W' :=
 ⟨hL,h.wnt.to u (fun k hk hx=>hk (.inl hx)) (fun k hk hn=>hn (.inr (.inl (.inl hk)))) (fun k _ hk=>.inl hk),h.id.upn u fun hn=>hn (.inr (.inr (.inr rfl))),h.blk.upn u fun hn=>hn (.inr (.inr (.inl rfl))),
  h.es.to u (fun k hk hx=>hk (.inl (.inl hx))) (fun k hk hn=>hn (.inr (.inl (.inr hk)))) (fun k _ hk=>.inl hk),fun j hj=>⟨(h.nE j hj).1,(h.nE j hj).2.1,(h.nE j hj).2.2.1,(h.nE j hj).2.2.2.1,Nat.lt_of_lt_of_le (h.nE j hj).2.2.2.2.1 u.size,(h.nE j hj).2.2.2.2.2⟩,h.nwe,h.ngx,h.ngi,
  u.k h.k fun k hk=>Nat.le_of_not_lt fun hl=>hk (.inl (.inl hl))⟩
theorem AlV.push (h:AlV w g gd gi gx E want vw B x ve W) {e:List Att} {v9:Value} {w9:World} (hO:OwnY (fun k=>¬ k<w.heap.size) w.heap.size 45 evS (x.es++[e]) v9 w9) (hg:W.grownBy w9 ve.ownBlock) (hat:v9.ownBlock=ve.ownBlock∨v9.ownBlock=some W.heap.size) (hb:Below w.heap.size W w9) :
 AlV w g gd gi gx E want vw B (moreE x e) v9 (w9.setCell ⟨gx,7,none⟩ v9):=by
 have hbl:=hO.blk
 have hwb:=h.wnt.blk
 have u1:UpN (fun k=>ve.ownBlock=some k) W w9:=UpN.of_mut hg fun k e=>e
 have u2:UpN (fun k=>k=gx) w9 (w9.setCell ⟨gx,7,none⟩ v9):=UpN.set1 (X:=fun k=>k=gx) rfl 7 v9
 have hle:W.heap.size<=w9.heap.size:=u1.size
 have hgx:=h.blk.lt
 have hgi:=h.id.lt
 have hv:∀ k,v9.ownBlock=some k->ve.ownBlock=some k∨(W.heap.size<=k/\k<w9.heap.size):=fun k hk=>by
  rcases hat with h1|h1
  · exact .inl (h1 ▸ hk)
  · have:=(hbl k hk).2
    rw[h1] at hk;injection hk with hk
    exact .inr ⟨by omega,this⟩
 have hvx:∀ k,AvX vw v9 gx gi k->AvX vw ve gx gi k∨(W.heap.size<=k/\k<w9.heap.size):=fun k hk=>by
  rcases hk with (hk|hk)|hk
  · exact .inl (.inl (.inl hk))
  · exact (hv k hk).imp (fun h=>.inl (.inr h)) fun h=>h
  · exact .inl (.inr hk)
 have hL1:LivX (AvX vw v9 gx gi) (AvZ w E vw v9 gx gi) g gd B w9:=h.liv.grow (u1.more fun k hk=>.inl (.inr hk)) (fun k hk=>.inr hk) hvx fun k hk=>by
  rcases hk with hk|hk
  · exact .inl (.inl hk)
  · exact (hvx k hk).imp .inr fun h=>h
 have hn9:∀ k,k<W.heap.size->ve.ownBlock≠some k->v9.ownBlock≠some k:=fun k hk hn h9=>by
  rcases hv k h9 with h1|h1
  · exact hn h1
  · omega
 refine⟨hL1.far (u2.more fun k hk=>.inr (.inl hk)) fun k hk=>.inr hk,?_,?_,?_,?_,fun j hj=>?_,fun k hk=>hn9 k (hwb k hk).2 (h.nwe k hk),⟨h.ngx.1,hn9 gx hgx h.ngx.2.1,h.ngx.2.2⟩,⟨h.ngi.1,hn9 gi hgi h.ngi.2.1,h.ngi.2.2⟩,(h.k.trans (hb.mono (Nat.le_refl _))).setCell h.ngx.2.2 _⟩
 · refine (h.wnt.to u1 (fun k hk hx=>?_) (fun k hk hn=>h.nwe k hk hn) (fun k _ hk=>.inl hk)).to u2 (fun k hk hx=>?_) (fun k hk hn=>?_) (fun k _ hk=>.inl hk)
   · rcases hx with hx|hx
     · have:w.heap.size<=k:=(h.es.blk k hk).1
       omega
     · exact (h.nE k hx).2.1 hk
   · rw[hk] at hx
     rcases hx with hx|hx
     · have:=h.ngx.2.2;omega
     · exact (h.nE gx hx).2.2.1 rfl
   · rw[hn] at hk;exact h.ngx.1 hk
 · exact (h.id.upn u1 h.ngi.2.1).upn u2 fun e=>h.ngi.2.2.2 e
 · have:=(h.blk.upn u1 h.ngx.2.1).set_ 7 v9
   exact this
 · exact hO.to u2 (fun k hk=>by rw[hk];have:=h.ngx.2.2;omega) (fun k hk e=>by rw[e] at hk;exact hn9 gx hgx h.ngx.2.1 hk) (fun k _ hk=>.inl hk)
 · have a:=h.nE j hj
   exact⟨a.1,hn9 j a.2.2.2.2.1 a.2.1,a.2.2.1,a.2.2.2.1,by have:=a.2.2.2.2.1;simp;omega,a.2.2.2.2.2⟩
theorem AlV.row (h:AlV w g gd gi gx E want vw B x ve W) (hf:x.f=[]):Fx (fun k=>¬ (k<w.heap.size∨E k∨ve.ownBlock=some k)) (fun W=>enS.rel x (Value.agg (entA x (.slice none 0 0) ve)).cells.toList W) W:=fun W' u=>by
 refine⟨.slice none 0 0,ve,rfl,⟨none,0,by rw[hf];rfl,by rw[hf];exact Reads.nil _ _ _ _⟩,(h.es.to u (fun k hk hx=>hk (.inl hx)) (fun k hk hn=>hn (.inr (.inr hk))) (fun k _ hk=>.inl hk)).lst⟩
theorem AlV.done (h:AlV w g gd gi gx E want vw (aB (want++[x]).length ((want++[x]).map askd)) x ve W) {v9:Value} {w9:World} (hO:OwnY (fun k=>¬ (k<w.heap.size∨E k∨ve.ownBlock=some k)) w.heap.size 42 enS (want++[x]) v9 w9) (hg:W.grownBy w9 vw.ownBlock) (hat:v9.ownBlock=vw.ownBlock∨v9.ownBlock=some W.heap.size) (hb:Below w.heap.size W w9) :
 AlW w g gd (fun k=>E k∨ve.ownBlock=some k) (want++[x]) v9 w9:=by
 have hbl:=hO.blk
 have u1:UpN (fun k=>vw.ownBlock=some k) W w9:=UpN.of_mut hg fun k e=>e
 have hv:∀ k,v9.ownBlock=some k->vw.ownBlock=some k∨(W.heap.size<=k/\k<w9.heap.size):=fun k hk=>by
  rcases hat with h1|h1
  · exact .inl (h1 ▸ hk)
  · have:=(hbl k hk).2
    rw[h1] at hk;injection hk with hk
    exact .inr ⟨by omega,this⟩
 have hle:W.heap.size<=w9.heap.size:=u1.size
 refine⟨h.liv.grow (u1.more fun k hk=>.inl (.inl hk)) (fun k hk=>.inr hk) (fun k hk=>(hv k hk).imp (fun h=>.inl (.inl h)) fun h=>h) (fun k hk=>?_),hO,fun k hk=>?_,h.k.trans (hb.mono (Nat.le_refl _))⟩
 · rcases hk with (hk|hk|hk)|hk
   · exact .inl (.inl (.inl hk))
   · exact .inl (.inl (.inr hk))
   · exact .inl (.inr (.inl (.inr hk)))
   · exact (hv k hk).imp (fun h=>.inr (.inl (.inl h))) fun h=>h
 · rcases hk with hk|hk
   · have a:=h.nE k hk
     exact⟨fun h9=>by rcases hv k h9 with h1|h1;exact a.1 h1;omega,by omega,a.2.2.2.2.2⟩
   · have a:=h.es.blk k hk
     exact⟨fun h9=>by rcases hv k h9 with h1|h1;exact h.nwe k h1 hk;omega,by omega,a.1⟩
theorem AlW.begin (h:AlW w g gd E want vw W) {W1 W2:World} (hL:LivX (fun k=>vw.ownBlock=some k) (fun k=>(k<w.heap.size∨E k)∨vw.ownBlock=some k) g gd B W1) (u:UpN (fun k=>¬ ((k<w.heap.size∨E k)∨vw.ownBlock=some k)) W W1) (k:K W1 W2) (hi:Blk W2 gi 35 (idA (0,1,want.length+1))) (hx:Blk W2 gx 42 (entA x (.slice none 0 0) (.slice none 0 0))) (hes:x.es=[]) (hgi:W1.heap.size<=gi) (hgx:gi<gx) :
 AlV w g gd gi gx E want vw B x (.slice none 0 0) W2:=by
 have hz:=u.size
 have hk1:K w W1:=u.k h.k fun j hj=>Nat.le_of_not_lt fun hl=>hj (.inl (.inl hl))
 have hw1:=h.wnt.to u (fun j hj hx=>hj (.inl hx)) (fun j hj hn=>hn (.inr hj)) (fun j _ hj=>.inl hj)
 have hwb:=hw1.blk
 have hno:∀ j,(Value.slice none 0 0).ownBlock≠some j:=fun j=>by simp[Value.ownBlock]
 have hw2:=hk1.size
 have hgi2:=hi.lt
 have hgx2:=hx.lt
 refine⟨hL.more k (fun j hj=>?_) (fun j hj=>?_),hw1.st k,hi,hx,by rw[hes];exact OwnY.nil _ _ _ _ _,fun j hj=>?_,fun j _=>hno j,⟨fun h=>by have:=hwb _ h;omega,hno _,by omega⟩,⟨fun h=>by have:=hwb _ h;omega,hno _,by omega,by omega⟩,hk1.tr k⟩
 · rcases hj with (hj|hj)|hj|hj
   · exact .inl hj
   · exact absurd hj (hno j)
   · exact .inr (by omega)
   · exact .inr (by omega)
 · rcases hj with hj|(hj|hj)|hj|hj
   · exact .inl (.inl hj)
   · exact .inl (.inr hj)
   · exact absurd hj (hno j)
   · exact .inr (by omega)
   · exact .inr (by omega)
 · have a:=h.nE j hj
   have:=k.size
   exact⟨a.1,hno j,by omega,by omega,by omega,a.2.2⟩
end
end
