/-
  A link of the net (layer 14): put and take, whose channel holds at most eight messages. Conditions: none.
-/
import Derived.Test.YtfndfpdhlbmboaaGreatMq1b
import Derived.Conc.LoneCalls
import Derived.Conc.LoneSelect
import Derived.Test.YtfndfpdhlbmboaaGreatMqz
set_option maxRecDepth 100000
set_option maxHeartbeats 16000000
set_option linter.all false
namespace Go.Proofs.YtfndfpdhlbmboaaGreat
open Go Go.RowKit _root_.Go.Proofs.Tryz
section
open Go Go.RowKit Go.Conc
def kp(c:Nat)(l:List Value)(w:World):Prop:=∃s r,w.heap[c]?=some (.chan 8 l.toArray false s r false)
theorem kp.aX{X c l w w'}(h:kp c l w)(u:ag X w w')(j:¬X c):kp c l w':=by obtain⟨s,r,h⟩:=h;exact⟨s,r,(u.block c (Array.getElem?_eq_some_iff.1 h).1 j).trans h⟩
theorem kp.lt{c l w}(h:kp c l w):c<w.heap.size:=h.elim λ_ h=>h.elim λ_ h=>(Array.getElem?_eq_some_iff.1 h).1
theorem aeH{c w cap buf cl tm s r}:ag (λk=>k=c) w (w.setChan c cap buf cl s r tm) :=
 ⟨rfl,rfl,rfl,by simp[World.setChan],λk _ hk=>by simp[World.setChan,Array.getElem?_setIfInBounds_ne (Ne.symm hk)]⟩
theorem KT c l v w(h:kp c l w) :
 Calls prog 97 #[.chan (some c),v] w λe w'=>e=.returned (.bool (decide (l.length<8)))/\kp c (if l.length<8 then l++[v]else l) w'/\ag (λk=>k=c) w w':=by
 refine calls_of_loneTo λcs=>?_
 obtain⟨s,r,hb⟩:=h
 have e:Frame.enter prog 97 #[.chan (some c),v] .normal=(base 97).at ⟨#[.chan (some c),v,undef,undef,undef,undef,undef,undef,undef,undef],[]⟩ [.code (f97.body.getD .skip)]:=by rfl
 rw[e]
 refine LoneTo.goes (n:=14) ?_
 simp only[f97,Option.getD_some]
 s_c stepG_seq
 s_reg
 s_op
 s_c stepG_region_end
 s_c stepG_seq
 s_c stepG_seq
 s_reg
 s_op
 s_c stepG_region_end
 s_reg
 s_op
 s_c stepG_region_end
 s_c stepG_seq
 s_reg
 s_stop
 by_cases hl:l.length<8
 ·refine LoneTo.step (step_lone_select_send_room (c:=c) (cap:=8) (buf:=l.toArray) (s:=s) (r:=r) (tm:=false) (stepG_comm (cases:=#[scase c v (.slice none 0 0)]) (blocking:=false) (shape:=.select) (w':=w) rfl rfl ax aiT) hb af) ?_;rw[Frame.finish_at];walk_nrm
  refine LoneTo.goes (n:=10) ?_;s_op
  s_op
  s_c stepG_region_end
  s_c stepG_block
  s_cond true
  s_c stepG_seq
  s_reg
  s_op
  s_c stepG_region_end
  s_c stepG_ret'
  s_stop
  refine LoneTo.done ⟨.returned (.bool true),_,rfl,⟨by simp[hl],⟨s+1,r,?_⟩,aeH⟩,rfl,rfl,rfl,rfl,_,func97,by simp[results,f97,Frame.at]⟩;rw[if_pos hl,heap_setChan _ _ _ _ _ _ _ _ (Array.getElem?_eq_some_iff.1 hb).1]
 ·refine LoneTo.step (step_lone_select_send_full (c:=c) (cap:=8) (buf:=l.toArray) (s:=s) (r:=r) (tm:=false) (stepG_comm (cases:=#[scase c v (.slice none 0 0)]) (blocking:=false) (shape:=.select) (w':=w) rfl rfl ax aiT) hb Ww) ?_;rw[Frame.finish_at];walk_nrm
  refine LoneTo.goes (n:=10) ?_;s_op
  s_op
  s_c stepG_region_end
  s_c stepG_block
  s_cond false
  s_c stepG_seq
  s_reg
  s_op
  s_c stepG_region_end
  s_c stepG_ret'
  s_stop
  exact LoneTo.done ⟨.returned (.bool false),_,rfl,⟨by simp[hl],by rw[if_neg hl];exact⟨s,r,hb⟩,ag.rf _ _⟩,rfl,rfl,rfl,rfl,_,func97,by simp[results,f97,Frame.at]⟩
theorem Uy c l w(h:kp c l w) :
 Calls prog 111 #[.chan (some c)] w λe w'=>e=.returned (.tuple #[l.headD (.slice none 0 0),.bool (!l.isEmpty)])/\kp c l.tail w'/\ag (λk=>k=c) w w':=by
 refine calls_of_loneTo λcs=>?_
 obtain⟨s,r,hb⟩:=h
 have e:Frame.enter prog 111 #[.chan (some c)] .normal=(base 111).at ⟨#[.chan (some c),undef,undef,undef,undef,undef,undef,undef,undef,undef,undef],[]⟩ [.code (f111.body.getD .skip)]:=by rfl
 rw[e]
 refine LoneTo.goes (n:=11) ?_
 simp only[f111,Option.getD_some]
 s_c stepG_seq
 s_reg
 s_op
 s_op
 s_c stepG_region_end
 s_c stepG_seq
 s_reg
 s_op
 s_c stepG_region_end
 s_c stepG_seq
 s_reg
 s_stop
 cases l with
 | cons x l =>
  refine LoneTo.step (step_lone_select_recv_buf (c:=c) (cap:=8) (buf:=(x :: l).toArray) (s:=s) (r:=r) (tm:=false) (stepG_comm (cases:=#[rcase c (.slice none 0 0)]) (blocking:=false) (shape:=.select) (w':=w) rfl rfl ax aiU) hb aj) ?_
  rw[Frame.finish_at]
  walk_nrm
  refine LoneTo.goes (n:=17) ?_
  s_op
  s_op
  s_c stepG_region_end
  s_c stepG_block
  s_cond true
  s_c stepG_seq
  s_reg
  s_op
  s_op
  s_c stepG_region_end
  s_c stepG_seq
  s_reg
  s_op
  s_op
  s_op
  s_c stepG_region_end
  s_c stepG_ret'
  s_stop
  refine LoneTo.done ⟨.returned (.tuple #[x,.bool true]),_,rfl,⟨rfl,⟨s,r+1,?_⟩,aeH⟩,rfl,rfl,rfl,rfl,_,func111,aiV⟩
  rw[heap_setChan _ _ _ _ _ _ _ _ (Array.getElem?_eq_some_iff.1 hb).1]
  simp
 | nil =>
  refine LoneTo.step (step_lone_select_default (c:=c) (cap:=8) (s:=s) (r:=r) (tm:=false) (stepG_comm (cases:=#[rcase c (.slice none 0 0)]) (blocking:=false) (shape:=.select) (w':=w) rfl rfl ax aiU) hb) ?_
  rw[Frame.finish_at]
  walk_nrm
  refine LoneTo.goes (n:=11) ?_
  s_op
  s_op
  s_c stepG_region_end
  s_c stepG_block
  s_cond false
  s_c stepG_seq
  s_reg
  s_op
  s_op
  s_c stepG_region_end
  s_c stepG_ret'
  s_stop
  exact LoneTo.done ⟨.returned (.tuple #[.slice none 0 0,.bool false]),_,rfl,⟨rfl,⟨s,r,hb⟩,ag.rf _ _⟩,rfl,rfl,rfl,rfl,_,func111,aiV⟩
end
section
open Go Go.RowKit Go.ChangeMaps
theorem aAK{α}[DecidableEq α]{enc P T j}(hu:P.underlying T=some (.struct j))(he:∀x y w,(Op.equal T (enc x) (enc y)).run P w=.ok (decide (x=y)) w)
 (hn:∀k v,Instr.sameNow (.struct j) (enc k) v=none) (t:∀(k:α) (em:Bool) (w:World),(Instr.checkKey em 10000 T (enc k)).run P w=.ok () w) (hb:∀k,Instr.sameBits 10000 (enc k) (enc k)=true):Gk P T enc:=by
 refine⟨λk es ak w h=>?_,t,hb⟩
 have key:∀(es:List MapEntry) (ak:List (α×Value)) (i:Nat),es.map (λe=>(e.key,e.val))=ak.map (λp=>(enc p.1,p.2))->(Instr.findAsking T (enc k) es i).run P w=.ok (fW k ak i) w:=by
  intro es
  induction es with
  | nil=>intro ak i h;cases ak <;> simp_all [Instr.findAsking,fW] <;> rfl
  | cons e es ih=>intro ak i h;cases ak with
   | nil=>simp at h
   | cons p r => simp only[jU,List.cons.injEq,Prod.mk.injEq]at h;obtain⟨⟨h1,u⟩,h3⟩:=h;exact afD
 cases es with
 | nil => exact afE
 | cons e es =>
  have h9:Instr.findNow (.struct j) (enc k) (e :: es) 0=none:=by rfl
  simp[Instr.findKey,run_underlying hu,h9,key (e :: es) ak 0 h]
def oh(a:Int×Int):Value:=.agg #[.int .i64 a.1,.int .i64 a.2]
theorem ak0:Gk prog 153 oh :=
 aAK underlying153 (λx y w=>by
  obtain⟨a,b⟩:=x;obtain⟨c,d⟩:=y;unfold oh;show (Op.equalIn (9998+1+1) _ _ _).run _ _=_;simp[go_sem,KL];by_cases j:a=c <;> by_cases t:b=d <;> simp[j,t] <;> omega) (λk v=>by unfold Instr.sameNow oh;split <;> simp_all) (λk u w=>by unfold oh;kernel_rfl) λk=>by unfold oh;simp[Instr.sameBits]
end
theorem zV{u t ak} a b w(hb:ah w u 149 #[.map (some t)])(hm:dM oh w t ak) :
 Calls prog 96 #[.pointer (some ⟨u,0,none⟩),.int .i64 a,.int .i64 b] w λe w'=>e=.returned (.tuple #[(cT ak (a,b)).getD (.chan none),.int .i64 (if (cT ak (a,b)).isSome then 0 else 140)])/\w'=w:=by
 have q:=hb.cell
 have j:=(DN ak0 underlying147 (z:=.chan none) cC hm (a,b)).1
 unfold oh at j
 simp only at j
 go_in
 cases h:cT ak (a,b) <;> rw[h]at j
 ·simp only[Option.getD_none,Option.isSome_none]at j;go_wp2;go_ret2;exact⟨rfl,rfl⟩
 ·simp only[Option.getD_some,Option.isSome_some]at j;go_wp2;go_ret2;exact⟨rfl,rfl⟩
section
variable {gn gm c:Nat} {ak:List ((Int×Int)×Value)} {l:List Value} {w:World} {a b:Int}
theorem av8(hb:ah w gn 149 #[.map (some gm)])(hm:dM oh w gm ak)(hk:cT ak (a,b)=none) :
 Calls prog 56 #[.pointer (some ⟨gn,0,none⟩),.int .i64 a,.int .i64 b] w λe w'=>e=.returned (.tuple #[.slice none 0 0,.int .i64 140])/\w'=w:=by
 have j:=ae (zV a b w hb hm)
 rw[hk]at j
 go_in
 go_wp2_with fail
 apply aI j.aa
 rintro w' rfl
 simp only[Option.getD_none,Option.isSome_none]
 go_wp2
 go_ret2
 exact⟨rfl,rfl⟩
theorem av9{v}(hb:ah w gn 149 #[.map (some gm)])(hm:dM oh w gm ak)(hk:cT ak (a,b)=none) :
 Calls prog 47 #[.pointer (some ⟨gn,0,none⟩),.int .i64 a,.int .i64 b,v] w λe w'=>e=.returned (.int .i64 140)/\w'=w:=by
 have j:=ae (zV a b w hb hm)
 rw[hk]at j
 go_in
 go_wp2_with fail
 apply aI j.aa
 rintro w' rfl
 simp only[Option.getD_none,Option.isSome_none]
 go_wp2
 go_ret
 exact⟨rfl,rfl⟩
theorem awa(hb:ah w gn 149 #[.map (some gm)])(hm:dM oh w gm ak)(hk:cT ak (a,b)=none) :
 Calls prog 76 #[.pointer (some ⟨gn,0,none⟩),.int .i64 a,.int .i64 b] w λe w'=>e=.returned (.int .i64 0)/\w'=w:=by
 have j:=ae (zV a b w hb hm)
 rw[hk]at j
 go_in
 go_wp2_with fail
 apply aI j.aa
 rintro w' rfl
 simp only[Option.getD_none,Option.isSome_none]
 go_wp2
 go_ret
 exact⟨rfl,rfl⟩
theorem aqM(hb:ah w gn 149 #[.map (some gm)])(hm:dM oh w gm ak)(hk:cT ak (a,b)=some (.chan (some c)))(y:kp c l w)(B:∀x∈l,∃A n d,x=.slice A n d) :
 Calls prog 56 #[.pointer (some ⟨gn,0,none⟩),.int .i64 a,.int .i64 b] w λe w'=>e=.returned (.tuple #[l.headD (.slice none 0 0),.int .i64 (if l=[]then 141 else 0)])/\kp c l.tail w'/\ag (λk=>k=c) w w':=by
 have t:=ae (zV a b w hb hm)
 have D:=ae (Uy c l w y)
 rw[hk]at t
 go_in
 go_wp2_with fail
 apply aI t.aa
 rintro w' rfl
 simp only[Option.getD_some,Option.isSome_some]
 go_wp2_with fail
 apply aI D.aa
 rintro E⟨u,C⟩
 have j:=ae (And.intro u C)
 cases l with
 | nil => go_wp2;go_ret2;exact⟨rfl,j.aa⟩
 | cons x l => obtain⟨A,n,d,rfl⟩:=B x aj;simp only[List.headD_cons,List.isEmpty_cons,Bool.not_false];go_wp2;go_ret2;exact⟨aj,j.aa⟩
theorem aqN(hb:ah w gn 149 #[.map (some gm)])(hm:dM oh w gm ak)(hk:cT ak (a,b)=some (.chan (some c)))(hc:kp c l w) :
 Calls prog 76 #[.pointer (some ⟨gn,0,none⟩),.int .i64 a,.int .i64 b] w λe w'=>e=.returned (.int .i64 l.length)/\w'=w:=by
 have j:=ae (zV a b w hb hm)
 rw[hk]at j
 obtain⟨s,r,hc⟩:=hc
 have:∀ty,(Builtin.len_ #[151] ty #[.chan (some c)]).run prog w=.ok (.int .i64 l.length) w:=λty=>by exact aiW
 go_in
 go_wp2_with fail
 apply aI j.aa
 rintro w' rfl
 simp only[Option.getD_some,Option.isSome_some]
 go_wp2
 go_ret
 exact⟨rfl,rfl⟩
def X4(l:List Value)(v:Value):List Value:=if l.length<8 then l++[v]else l
def X5(n:Nat):Int:=if n<8 then 0 else 141
theorem aqO(hb:ah w gn 149 #[.map (some gm)])(hm:dM oh w gm ak)(hk:cT ak (a,b)=some (.chan (some c)))(M:kp c l w) bs v(J:sl bs v w)(hn:bs.length<=1000000000) :
 Calls prog 47 #[.pointer (some ⟨gn,0,none⟩),.int .i64 a,.int .i64 b,v] w λe w'=>e=.returned (.int .i64 (X5 l.length))/\(∃v',kp c (X4 l v') w'/\Fx (λk=>k<w.heap.size) (λW=>sl bs v' W) w')/\ag (λk=>k=c) w w':=by
 obtain⟨A,d,rfl,N⟩:=J
 have C:=ae (zV a b w hb hm)
 have I:=ae (KB A bs.length d _ w N (uU bs) hn)
 have B:=ae M
 rw[hk]at C
 go_in
 go_wp2_with fail
 apply aI C.aa
 rintro w' rfl
 simp only[Option.getD_some,Option.isSome_some]
 go_wp2_with fail
 apply bN I.aa
 rintro v' D⟨t,E⟩
 have H:=ae (KT c l v' D (B.aa.aX (ag.aU E (λ_=>False)) id))
 have O:=ae (show Fx (λk=>k<w'.heap.size) (λW=>sl bs v' W) D from λW u=>eK (iN t u λk e h=>by have:=(t.lt k e).1;omega))
 have Q:=ae E
 have L:=B.aa.lt
 go_wp2_with fail
 apply aI H.aa
 rintro j⟨G,y⟩
 have F:=ae (show (∃v',kp c (X4 l v') j/\Fx (λk=>k<w'.heap.size) (λW=>sl bs v' W) j)/\ag (λk=>k=c) w' j from ⟨⟨v',G,O.aa.up y λk e=>e▸L⟩,(ag.aU Q.aa _).tr y⟩)
 by_cases h8:l.length<8
 ·have h9:=ae (show X5 l.length=0 from if_pos h8);rw[decide_eq_true h8];go_wp2;go_ret;exact⟨by rw[h9.aa];rfl,F.aa⟩
 ·have h9:=ae (show X5 l.length=141 from if_neg h8);rw[decide_eq_false h8];go_wp2;go_ret;exact⟨by rw[h9.aa];rfl,F.aa⟩
end
def Ou(M C:Nat->Prop)(v:Value)(j:List (List UInt8))(W:World):Prop:=∃c vs,v=.chan (some c)/\C c/\kp c vs W/\vs.length=j.length/\∀(i:Nat) (h:i<vs.length) (h':i<j.length),j[i].length<=1000000000/\Fx M (λW=>sl j[i] vs[i] W) W
structure wU(M C:Nat->Prop)(gn gm:Nat)(ak:List ((Int×Int)×Value))(L:List iV)(W:World):Prop where
 blk:ah W gn 149 #[.map (some gm)]
 map:dM oh W gm ak
 len:ak.length=L.length
 ls:∀(i:Nat) (h:i<ak.length) (h':i<L.length),ak[i].1=L[i].1/\Ou M C ak[i].2 L[i].2 W
 nd:(ak.map (·.2)).Nodup
 kn:∀(i j:Nat) (h1:i<ak.length) (h2:j<ak.length),ak[i].1=ak[j].1->i=j
 ne:¬M gn/\¬M gm
 sub:∀k,C k->M k
def mU(M C:Nat->Prop)(j:Nat)(L:List iV)(W:World):Prop:=∃t ak,wU M C j t ak L W
section
variable {M M' C X:Nat->Prop} {gn gm:Nat} {ak:List ((Int×Int)×Value)} {L:List iV} {W W':World} {v:Value} {ms:List (List UInt8)} {a b:Int}
theorem Ou.to(h:Ou M C v ms W)(u:ag X W W')(D:∀k,X k->M k)(G:∀k,C k->¬X k)(B:∀k,k<W.heap.size->M' k->M k):Ou M' C v ms W':=by obtain⟨c,vs,e,t,E,F,A⟩:=h;exact⟨c,vs,e,t,E.aX u (G c t),F,λi y j=>⟨(A i y j).1,(A i y j).2.to u D B⟩⟩
theorem mU.to(h:mU M C gn L W)(u:ag X W W')(t:∀k,X k->M k)(F:∀k,C k->¬X k)(j:∀k,k<W.heap.size->M' k->M k)(E:∀k,C k->M' k):mU M' C gn L W':=by
 obtain⟨B,ak,h⟩:=h;have hg:=h.blk.lt;have hm:B<W.heap.size:=by obtain⟨es,c,D,-⟩:=h.map;exact (Array.getElem?_eq_some_iff.1 D).1
 exact⟨B,ak,h.blk.aX u λe=>h.ne.1 (t _ e),h.map.aX u λe=>h.ne.2 (t _ e),h.len,λi A y=>⟨(h.ls i A y).1,(h.ls i A y).2.to u t F j⟩,h.nd,h.kn,⟨λe=>h.ne.1 (j _ hg e),λe=>h.ne.2 (j _ hm e)⟩,E⟩
theorem IP:∀(ak:List ((Int×Int)×Value)) (L:List iV) (k:Int×Int),ak.length=L.length->(∀(i:Nat) (h:i<ak.length) (h':i<L.length),ak[i].1=L[i].1)->(lM L k=none/\∀j,fW k ak j=none)∨∃i,∃(h:i<ak.length) (h':i<L.length),ak[i].1=k/\lM L k=some L[i].2/\∀j,fW k ak j=some (i+j,ak[i].2)
 | [],[],k,_,_=>.inl ⟨rfl,λ_=>rfl⟩
 | [],_ :: _,_,h,_=>xb
 | _ :: _,[],_,h,_=>xb
 | p :: r,q :: s,k,h,he=>by
  have t:=he 0 aj aj;simp only[List.getElem_cons_zero]at t;by_cases hk:p.1=k
  ·exact .inr ⟨0,aj,aj,hk,by simp[lM,<- t,hk],λj=>by simp[fW,hk]⟩
  ·rcases IP r s k B7 (λi h1 h2=>he (i+1) B8 yy)with ⟨h1,h2⟩|⟨i,h1,h2,h3,y,u⟩
   ·exact .inl ⟨by unfold lM at *;simpa [<- t,hk]using h1,λj=>by simp[fW,hk,h2]⟩
   ·exact .inr ⟨i+1,B8,yy,Lq,by unfold lM at *;simpa [<- t,hk]using y,λj=>by simp[fW,hk,u];omega⟩
theorem XT{L k l i}(h:i<(iE L k l).length)(j:i<L.length):(iE L k l)[i]=if L[i].1=k then (L[i].1,l)else L[i]:=by simp[iE]
theorem wU.set(h:wU M C gn gm ak L W){i c k}(hi:i<ak.length)(hk:ak[i].1=k)(R:ak[i].2=.chan (some c)){l}(u:ag (λk=>k=c) W W')(N:Ou M C ak[i].2 l W'):wU M C gn gm ak (iE L k l) W':=by
 have O:C c:=by
  obtain⟨Q,vs,e,h1,-⟩:=N
  grind
 have y:=h.sub c O;refine⟨h.blk.aX u λe=>h.ne.1 (e▸y),h.map.aX u λe=>h.ne.2 (e▸y),by simp[iE,h.len],λj h1 J=>?_,h.nd,h.kn,h.ne,h.sub⟩;have E:j<L.length:=by rw[<- h.len];exact h1
 obtain⟨A,G⟩:=h.ls j h1 E;rw[XT J E];by_cases t:L[j].1=k
 ·rw[if_pos t];obtain rfl:=h.kn j i h1 hi ((A.trans t).trans hk.symm);grind
 ·rw[if_neg t];refine⟨A,?_⟩;obtain⟨c2,vs,e,H,I,F,D⟩:=G;refine⟨c2,vs,e,H,I.aX u λS=>t ?_,F,λi hi B=>⟨(D i hi B).1,(D i hi B).2.up u λk e=>e▸y⟩⟩;have:=(List.getElem_inj (h₀:=B8) (h₁:=PN) h.nd).1 aB;subst this;exact A.symm.trans hk
theorem acH(h:mU M C gn L W) :
 Calls prog 56 #[.pointer (some ⟨gn,0,none⟩),.int .i64 a,.int .i64 b] W λe w'=>∃v D,e=.returned (.tuple #[v,.int .i64 D])/\ag C W w'/\(lM L (a,b)=none/\D=140/\mU M C gn L w'∨lM L (a,b)=some []/\D=141/\mU M C gn L w' ∨
  ∃m l,lM L (a,b)=some (m :: l)/\D=0/\mU M C gn (iE L (a,b) l) w'/\m.length<=1000000000/\Fx M (λW=>sl m v W) w'):=by
 obtain⟨y,ak,h⟩:=h
 have hU:=h.kn
 rcases IP ak L (a,b) h.len (λi h1 B=>(h.ls i h1 B).1)with ⟨h1,B⟩|⟨i,h1,B,h3,G,S⟩
 ·apply aI (av8 h.blk h.map AF);rintro w' rfl;exact⟨_,_,rfl,ag.rf _ _,.inl ⟨h1,rfl,y,ak,h⟩⟩
 ·obtain⟨c,vs,e,E,N,q3,t⟩:=(h.ls i h1 B).2;have Q:∀x∈vs,∃A n d,x=.slice A n d:=λx I=>by
   obtain⟨j,hj,rfl⟩:=List.getElem_of_mem I
   obtain⟨A,d,e,-⟩:=(t j hj af).2.now
   grind
  apply aI (aqM h.blk h.map AF N Q);rintro w'⟨O,u⟩;have hM:=h.sub c E;have key:∀l,vs.tail.length=l.length->(∀(j:Nat) (hj:j<vs.tail.length) (hj':j<l.length),l[j].length<=1000000000/\Fx M (λW=>sl l[j] vs.tail[j] W) w')->wU M C gn y ak (iE L (a,b) l) w':=λl R J =>
   h.set h1 h3 e u ⟨c,vs.tail,e,E,O,R,J⟩
  refine⟨_,_,rfl,u.more λk hk=>hk▸E,?_⟩;obtain⟨F,oX⟩:∃F,L[i].2=F:=⟨_,rfl⟩;simp only[oX]at G q3 t;cases F with
  | nil =>
   obtain rfl:vs=[]:=List.eq_nil_of_length_eq_zero LO;have H:iE L (a,b) []=L:=List.ext_getElem Xy λj g1 g2=>by exact aiX
   exact .inr (.inl ⟨G,aj,y,ak,H▸key [] aj (λj hj=>by simp at hj)⟩)
  | cons m l =>
   cases vs with
   | nil=>simp at q3
   | cons x vs => refine .inr (.inr ⟨m,l,G,aj,⟨y,ak,key l LO λj hj hj'=>?_⟩,(t 0 aj aj).1,(t 0 aj aj).2.up u λk e=>e▸hM⟩);have:=t (j+1) DV VB;exact Xz
theorem aqP(h:mU M C gn L W)(T:∀k,M k->k<W.heap.size) bs u(hb:sl bs u W)(hn:bs.length<=1000000000) :
 Calls prog 47 #[.pointer (some ⟨gn,0,none⟩),.int .i64 a,.int .i64 b,u] W λe w'=>∃S,e=.returned (.int .i64 S)/\ag C W w'/\mU M C gn (ud L (a,b) bs) w':=by
 obtain⟨J,ak,h⟩:=h
 have N:=h.kn
 rcases IP ak L (a,b) h.len (λi t B=>(h.ls i t B).1)with ⟨t,B⟩|⟨i,t,B,G,U,X⟩
 ·apply aI (av9 h.blk h.map AF);rintro w' rfl;exact⟨_,rfl,ag.rf _ _,J,ak,by grind [ud]⟩
 ·obtain⟨c,vs,e,A,R,E,D⟩:=(h.ls i t B).2;apply aI (aqO h.blk h.map AF R bs u hb hn);rintro w'⟨⟨v',y,O⟩,u⟩;have I:=h.sub c A;refine⟨_,rfl,u.more λk hk=>hk▸A,J,ak,?_⟩;unfold ud;rw[U];unfold X4 at y;simp only;by_cases h8:vs.length<8
  ·rw[if_pos h8]at y;rw[if_pos af];refine h.set t G e u ⟨c,_,e,A,y,by simp[E],λj hj F=>?_⟩;by_cases H:j<vs.length
   ·simp only[List.getElem_append_left H,List.getElem_append_left (show j<L[i].2.length by omega)];exact⟨(D j H af).1,(D j H af).2.up u λk e=>e▸I⟩
   ·obtain rfl:j=vs.length:=QM;simp only[List.getElem_concat_length,E];exact⟨hn,O.less T⟩
  ·rw[if_neg h8]at y;rw[if_neg af];have Q:iE L (a,b) L[i].2=L:=List.ext_getElem Xy λj V g2=>by
    rw[XT V g2];split
    ·next hj =>
     have:=N j i aiY t (((h.ls j _ g2).1.trans hj).trans G.symm);subst this;rfl
    ·rfl
   exact Q▸h.set t G e u ⟨c,vs,e,A,y,E,λj hj F=>⟨(D j hj F).1,(D j hj F).2.up u λk e=>e▸I⟩⟩
theorem aqQ(h:mU M C gn L W) :
 Calls prog 76 #[.pointer (some ⟨gn,0,none⟩),.int .i64 a,.int .i64 b] W λe w'=>e=.returned (.int .i64 (((lM L (a,b)).getD []).length:Int))/\w'=W:=by
 obtain⟨G,ak,h⟩:=h
 rcases IP ak L (a,b) h.len (λi j t=>(h.ls i j t).1)with ⟨j,t⟩|⟨i,j,t,B,A,E⟩
 ·rw[j];exact awa h.blk h.map AF
 ·obtain⟨c,vs,e,D,y,u,F⟩:=(h.ls i j t).2;rw[A,Option.getD_some,<- u];exact aqN h.blk h.map AF y
end
def rS(Z:Nat->Prop)(gd:Nat)(d:pc)(W:World):Prop:=∃vh,JJ gd vh d W/\∀k,Z k->¬kZ gd vh k/\k<W.heap.size
theorem gU.YQ{d s}(h:gU d s):Gq (d.eZ.map bJ):=Gq.all (by have:=h.cnt;simp;omega) (by
 intro b hb;obtain⟨r,j,rfl⟩:=List.mem_map.1 hb;have:=(h.eZ r j).2.2;omega)
section
variable {X Z:Nat->Prop} {g gd:Nat} {B:bf} {W W':World}
theorem rS.st{d}(h:rS Z gd d W)(k:K W W'):rS Z gd d W':=h.imp λ_ h=>⟨h.1.st k,λj t=>⟨(h.2 j t).1,bw (h.2 j t).2 k.size⟩⟩
theorem dt.dk(h:dt X Z g gd B W):rS Z gd B.dk W:=by obtain⟨-,p,hb,hg,hz⟩:=h;obtain rfl:p.gd=gd:=congrArg Prod.snd hg;exact⟨p.vd,hb.lg.dk,λk hk=>⟨λj=>(hz k hk).1 (.inr (.inr (.inr (.inr (.inr j))))),(hz k hk).2⟩⟩
theorem ayG{d}(h:rS Z gd d W) keep(hk:bR keep) :
 Calls prog 45 #[.pointer (some ⟨gd,0,none⟩),.int .i64 keep] W λe w'=>e=.returned (.tuple #[])/\rS Z gd d w'/\ag (λk=>¬Z k) W w':=by
 obtain⟨vh,u,hz⟩:=h
 apply aI (apa gd vh (jf d) d.room keep W u hk)
 rintro w'⟨t,j⟩
 exact⟨rfl,⟨vh,t,λk hk=>⟨(hz k hk).1,bw (hz k hk).2 j.up.size⟩⟩,j.up.more λk hk y=>(hz k y).1 hk⟩
theorem azn{d s}(h:rS Z gd d W)(A:gU d s)(hA:Gq (d.eZ.map bJ))(L:s.life+1<18446744073709551616) p ai me t y(F:Fx (λk=>¬Z k) (λW=>aq cL p t W) W)(J:Fx (λk=>¬Z k) (λW=>aq cL ai y W) W)
 (E:fK p=true) (hm:fY p me=true) (B:kN p ai=true) (D:ir (dc (cR s))<=d.room) (I:∀k,X k->Z k) :
 Calls prog 86 #[.int .i64 me,t,y,.pointer (some ⟨gd,0,none⟩)] W λe w'=>∃g,e=.returned (.tuple #[.pointer (some ⟨g,0,none⟩),.int .i64 0])/\dt X Z g gd (tY me p ai ⟨dc (cR s),d.room⟩ (cR s)) w'/\ag (λk=>¬Z k) W w'/\W.heap.size<=g:=by
 obtain⟨vh,G,hz⟩:=h
 have C:∀k,kZ gd vh k->¬Z k:=λk hk M=>(hz k M).1 hk
 refine (ack gd vh d s p ai me t y W G A hA L (F.less C) (J.less C) E hm B).mono ?_
 intro e w' hp
 unfold Ec at hp
 rw[if_pos D]at hp
 obtain⟨q,j⟩:=hp
 obtain⟨H,u⟩:=dt.new (X:=X) j (bC.open_ E hm B (A.life D)) (λk hk=>(hz k (I k hk)).2) hz
 exact⟨q.g,j.ret,H,u,j.g⟩
end
def yo:dV Value where
 size:=1
 rel:=λv cs _=>cs=[v]/\v.oneCell'=true
 len:=by rintro _ _ _⟨rfl,_⟩;rfl
 one:=by rintro _ _ _⟨rfl,h⟩ u j;simp at j;exact j▸h
 st:=λh _=>h
structure lN where
 gw:Nat
 gb:Nat
 vp:Value
 vh:Value
 vn:Value
 vd:Value
 vc:Value
 vg:Value
 vs:List Value
 ds:List Nat
 ak:List (Int×Value)
structure OvC(H:lN)(own:Nat->Nat)(O:bz)(W:World):Prop where
 blk:ah W H.gw 83 #[H.vp,H.vh,H.vn,H.vd,.map (some H.gb),H.vc,H.vg]
 map:dM encI W H.gb H.ak
 oob:∀k,fY O.par k=false->cT H.ak k=none
 cur:aC (λ_=>True) 0 3 cL O.cur H.vc W
 got:aC (λ_=>True) 0 59 yo H.vs H.vg W
 own:own H.gw=2/\own H.gb=2/\(∀k,H.vc.ownBlock=some k->own k=2)/\∀k,H.vg.ownBlock=some k->own k=2
 len:H.vs.length=O.got.length
 kn:(H.ak.map (·.1)).Nodup
def OvB(H:lN)(own:Nat->Nat)(W:World)(n:Nat)(x:Hw):Prop:=∃gd,H.ds[n]?=some gd /\
 (∀B,x.up=some B->∃g,cT H.ak (n:Int)=some (.pointer (some ⟨g,0,none⟩))/\dt (λk=>own k≠0/\own k≠2*n+4) (λk=>own k≠2*n+4/\k<W.heap.size) g gd B W) /\
 (x.up=none->cT H.ak (n:Int)=none/\rS (λk=>own k≠2*n+4/\k<W.heap.size) gd x.dk W)
structure bn(H:lN)(own:Nat->Nat)(O:bz)(W:World)(S:Nat->Prop):Prop where
 lo:∀k,own k≠0->k<W.heap.size
 fx:Fx (λk=>own k≠0) (λW=>aq cL O.par H.vp W/\aq cL O.ai H.vh W/\aq yo (H.ds.map λg=>.pointer (some ⟨g,0,none⟩)) H.vd W) W
 fc:S 2->OvC H own O W
 cD:S 3->∃gn,H.vn=.pointer (some ⟨gn,0,none⟩)/\mU (λk=>own k≠0) (λk=>own k=3) gn O.cD W
 brk:∀n x,S (2*n+4)->O.eC[n]?=some x->OvB H own W n x
 got:∀c l,S (2*c+5)->O.got[c]?=some l->∃v,H.vs[c]?=some v/\aC (λk=>own k≠0) 0 37 (AW cI) l v W/\∀k,v.ownBlock=some k->own k=2*c+5
section
variable {X X' Z Z' Y M M' C C' S S':Nat->Prop} {g gd gn:Nat} {B:bf} {W W':World} {H:lN} {own bL:Nat->Nat} {O:bz} {d:pc} {L:List iV}
theorem dt.to(h:dt X Z g gd B W)(u:ag Y W W')(j:∀k,Y k->X k/\Z k)(A:∀k,X' k->X k∨(W.heap.size<=k/\k<W'.heap.size))(E:∀k,Z' k->Z k∨(W.heap.size<=k/\k<W'.heap.size)):dt X' Z' g gd B W':=by obtain⟨t,p,hb,hg,hz⟩:=h;have:=hb.low;have:=u.size;refine⟨t,p,hb.far u (λk hk=>.inl (j k hk).1) (λk hk=>(hz k (j k hk).2).1) (λk hk y=>y.imp_left λh=>(A k h).resolve_right af) (λ_ h=>.inr h) (λk hk=>?_),hg,λk hk=>?_⟩;all_goals grind
theorem rS.to(h:rS Z gd d W)(u:ag Y W W')(t:∀k,Y k->Z k)(C:∀k,Z' k->Z k∨(W.heap.size<=k/\k<W'.heap.size)):rS Z' gd d W':=by
 obtain⟨vh,j,hz⟩:=h
 have:=j.lt
 have:=u.size
 refine⟨vh,j.aX u λk hk y=>(hz k (t k y)).1 hk,λk hk=>?_⟩
 grind
theorem bn.to(h:bn H own O W S)(u:ag X W W')(t:∀k,X k->own k≠0/\¬S' (own k))(C:∀i,S' i->S i)(R:∀k,k<W.heap.size->bL k=own k)(hn:∀k,W.heap.size<=k->bL k≠0->k<W'.heap.size/\¬S' (bL k)):bn H bL O W' S':=by
 have:=u.size;have hm:∀k,k<W.heap.size->bL k≠0->own k≠0:=λk hk e=>R k hk▸e
 have E:∀j,S' j->j≠0->∀k,bL k=j↔own k=j:=λj hj h0 k=>by
  by_cases hk:k<W.heap.size
  ·grind
  ·exact⟨λe=>absurd hj (e▸(hn k af af).2),λe=>by have:=h.lo k (by omega);omega⟩
 have T:∀k,bL k≠0->own k≠0∨(W.heap.size<=k/\k<W'.heap.size):=λk e=>by
  grind
 refine⟨λk hk=>aB,h.fx.to u (λk hk=>(t k hk).1) hm,λy=>?_,λI=>?_,λn x hb hn'=>?_,λc l J hl=>?_⟩
 ·obtain⟨a1,a2,a3,Y,a5,⟨M,L,Q,N⟩,a7,Z⟩:=h.fc (C _ y);have no:∀k,own k=2->¬X k:=λk e hk=>(t k hk).2 (e▸y)
  have A:=E 2 y ax;exact⟨a1.aX u (no _ M),a2.aX u (no _ L),a3,Y.to u (λ_ _=>trivial) (λk hk=>no k (Q k hk)) (λ_ _ _=>.inl trivial),a5.to u (λ_ _=>trivial) (λk hk=>no k (N k hk)) (λ_ _ _=>.inl trivial),⟨(A _).2 M,(A _).2 L,λk hk=>(A k).2 (Q k hk),λk hk=>(A k).2 (N k hk)⟩,a7,Z⟩
 ·obtain⟨U,e,hN⟩:=h.cD (C _ I);have V:=E 3 I ax;rw[show (λk=>bL k=3)=λk=>own k=3 from funext λk=>propext (V k)];exact⟨U,e,hN.to u (λk hk=>(t k hk).1) (λk e hk=>(t k hk).2 (e▸I)) hm λk e=>aB⟩
 ·obtain⟨gd,e,F,y⟩:=h.brk n x (C _ hb) hn';have e4:=E _ hb af;have hz:∀k,bL k≠2*n+4/\k<W'.heap.size->(own k≠2*n+4/\k<W.heap.size)∨(W.heap.size<=k/\k<W'.heap.size):=λk hk=>by
   grind
  have G:∀k,X k->own k≠2*n+4/\k<W.heap.size:=λk hk=>⟨λe=>(t k hk).2 (e▸hb),h.lo k (t k hk).1⟩
  refine⟨gd,e,λB D=>?_,λD=>⟨(y D).1,(y D).2.to u G hz⟩⟩;obtain⟨g,A,hL⟩:=F B D;exact⟨g,A,hL.to u (λk hk=>⟨⟨(t k hk).1,(G k hk).1⟩,G k hk⟩) (λk hk=>(T k hk.1).imp_left λh=>⟨h,λe=>hk.2 ((e4 k).2 e)⟩) hz⟩
 ·obtain⟨v,e,F,y⟩:=h.got c l (C _ J) hl;have e5:=E _ J af;exact⟨v,e,F.to u (λk hk=>(t k hk).1) (λk e hk=>(t k hk).2 (y k e▸J)) (λk hk e=>.inl (hm k hk e)),λk e=>(e5 k).2 (y k e)⟩
theorem bn.st(h:bn H own O W S)(k:K W W'):bn H own O W' S :=
 h.to (ag.aU k λ_=>False) (λ_ h=>h.elim) (λ_ h=>h) (λ_ _=>rfl) λj t e=>by have:=h.lo j e;omega
def jb(own:Nat->Nat)(i:Nat)(W W':World)(k:Nat):Nat:=if W.heap.size<=k then (if k<W'.heap.size then i else 0)else own k
theorem aiZ(h:bn H own O W S){i}(y:i≠0)(u:ag X W W')(t:∀k,X k->own k=i):bn H (jb own i W W') O W' (λj=>S j/\j≠i) :=
 h.to u (λk hk=>⟨t k hk▸y,λe=>e.2 (t k hk)⟩) (λ_ h=>h.1) (λk hk=>FY) λk hk e=>by
  unfold jb at *;rw[if_pos hk]at *;split
  ·next h2=>rw[if_pos h2]at e;exact⟨h2,λh=>h.2 rfl⟩
  ·next h2=>rw[if_neg h2]at e;exact absurd rfl e
end
def cK(i:Nat):Prop:=2<=i
theorem p2:cK 2:=aD 2
theorem pB n:cK (2*n+4):=by grind [cK]
def cQ(H:lN)(own:Nat->Nat)(u:bz)(w w':World):Prop :=
 ∃j t,bn j t u w' cK/\j.gw=H.gw/\ag (λk=>2<=own k) w w'/\∀k,k<w.heap.size->t k=own k
section
variable {X S:Nat->Prop} {W W' W2:World} {H H1:lN} {own Gw:Nat->Nat} {O O':bz} {n g gd gn:Nat} {B B':bf} {x:Hw} {L:List iV}
theorem bn.now(h:bn H own O W cK)(k:K W W'):cQ H own O W W':=⟨H,own,h.st k,rfl,ag.aU k _,λ_ _=>rfl⟩
theorem cQ.tr(u:ag (λk=>2<=own k) W W')(hg:H1.gw=H.gw)(j:∀k,k<W.heap.size->Gw k=own k)(h:cQ H1 Gw O' W' W2):cQ H own O' W W2:=by obtain⟨y,B,t,A,C,D⟩:=h;have:=u.size;exact⟨y,B,t,A.trans hg,u.gq C λk hk e=>j k hk▸e,λk hk=>(D k af).trans (j k hk)⟩
theorem cQ.k(k:K W W')(h:cQ H own O' W' W2):cQ H own O' W W2:=cQ.tr (ag.aU k _) rfl (λ_ _=>rfl) h
theorem cQ.of(u:ag X W W')(y:∀k,X k->k<W.heap.size->2<=own k){i}(h:bn H1 (jb own i W W') O' W' cK)(hg:H1.gw=H.gw):cQ H own O' W W' :=
 ⟨H1,_,h,hg,⟨u.os,u.tape,u.output,u.size,λk j A=>u.block k j λt=>A (y k t j)⟩,λk hk=>FY⟩
theorem bn.E5(h:bn H own O W cK)(k:K W W'):bn H (jb own 1 W W') O W' cK:=by
 refine h.to (ag.aU k λ_=>False) (λ_ h=>h.elim) (λ_ h=>h) (λk hk=>by grind [jb]) λj t e=>?_
 unfold jb at *
 grind [cK,jb]
theorem cQ.E5(k:K W W'){b A}(hb:W.heap.size<=b)(y:b<W'.heap.size)(h:cQ H (jb own 1 W W') O' W' W2)(u:ag (λk=>k=b) W2 A):cQ H own O' W A:=by
 obtain⟨C,E,h1,D,F,B⟩:=h;have j:∀k,k<W.heap.size->jb own 1 W W' k=own k:=λk hk=>by grind [jb]
 have hk:=k.size;have t:=B b y;unfold jb at t;rw[if_pos hb,if_pos y]at t;refine⟨C,E,h1.to u (λk hk=>by grind [cK]) (λ_ h=>h) (λ_ _=>rfl) λk hk e=>XA,D,?_,λk hk=>(B k af).trans (j k hk)⟩;exact ((ag.aU k _).gq F λk hk e=>j k hk▸e).gq u λk hk e=>af
theorem bn.up(h:bn H own O W S)(u:S (2*n+4))(C:O.eC.length=O.par.length)(j:cZ O n=some B) :
 ∃gd g,H.ds[n]?=some gd/\cT H.ak (n:Int)=some (.pointer (some ⟨g,0,none⟩))/\dt (λk=>own k≠0/\own k≠2*n+4) (λk=>own k≠2*n+4/\k<W.heap.size) g gd B W:=by
 unfold cZ at j
 split at j
 ·obtain⟨x,t,y⟩:=Option.bind_eq_some_iff.1 j;rw[Int.toNat_natCast]at t;obtain⟨gd,e,A,-⟩:=h.brk n x u t;grind
 ·cases j
theorem bn.down(h:bn H own O W S)(t:S 2)(u:∀n,S (2*n+4))(y:O.eC.length=O.par.length){m}(j:cZ O m=none):cT H.ak m=none:=by
 unfold cZ at j;split at j
 ·next hi =>
  unfold ko fY at hi;simp only[dz,decide_eq_true_eq]at hi;obtain⟨n,rfl⟩:=Int.eq_ofNat_of_zero_le hi.1;rw[Int.toNat_natCast,List.getElem?_eq_getElem (show n<O.eC.length by omega)]at j;obtain⟨gd,e,-,A⟩:=h.brk n O.eC[n] (u n) (List.getElem?_eq_getElem af);grind
 ·next hi=>exact (h.fc t).oob m (by grind [ko])
theorem PH{i k}(j:∀k,own k≠0->k<W.heap.size)(hk:jb own i W W' k≠i/\(k<W'.heap.size∨jb own i W W' k≠0)):own k≠i/\k<W.heap.size/\jb own i W W' k=own k:=by
 grind [jb]
theorem bn.ak1(h:bn H own O W S)(hn:n<O.eC.length)(u:ag (λk=>¬(own k≠2*n+4/\k<W.heap.size)) W W')(R:OvB H (jb own (2*n+4) W W') W' n x):bn H (jb own (2*n+4) W W') (nv O n x) W' S:=by
 have G:ag (λk=>own k=2*n+4) W W':=⟨u.os,u.tape,u.output,u.size,λk B A=>u.block k B λt=>t ⟨A,B⟩⟩;have j:=aiZ h af G λ_ h=>h
 refine⟨j.lo,j.fx,λA=>?_,λL=>j.cD ⟨L,af⟩,λm y hm t=>?_,λc l I=>j.got c l ⟨I,af⟩⟩
 ·obtain⟨Q,E,F,J,C,M,N,D⟩:=j.fc ⟨A,af⟩;exact⟨Q,E,F,J,C,M,N,D⟩
 ·simp only[nv,Int.toNat_natCast,List.getElem?_set]at t;by_cases e:n=m
  ·grind
  ·rw[if_neg e]at t;exact j.brk m y ⟨hm,af⟩ t
theorem bn.put(h:bn H own O W S)(hn:n<O.eC.length)(j:H.ds[n]?=some gd)(hg:cT H.ak (n:Int)=some (.pointer (some ⟨g,0,none⟩)))
 (t:dt (λk=>own k≠0/\own k≠2*n+4) (λk=>own k≠2*n+4/\k<W.heap.size) g gd B' W') (u:ag (λk=>¬(own k≠2*n+4/\k<W.heap.size)) W W'):bn H (jb own (2*n+4) W W') (rF O n B') W' S:=by
 refine h.ak1 hn u ⟨gd,j,λB e=>?_,λe=>Ai⟩
 injection e with e
 subst e
 exact⟨g,hg,t.less (λk hk=>by have:=PH h.lo ⟨hk.2,.inr hk.1⟩;exact⟨this.2.2▸hk.1,this.1⟩) λk hk=>ai0⟩
theorem bn.ak2{d}(h:bn H own O W S)(hn:n<O.eC.length)(t:H.ds[n]?=some gd)(hg:cT H.ak (n:Int)=none)
 (y:rS (λk=>own k≠2*n+4/\k<W.heap.size) gd d W') (u:ag (λk=>¬(own k≠2*n+4/\k<W.heap.size)) W W'):bn H (jb own (2*n+4) W W') (nv O n ⟨none,d⟩) W' S :=
 h.ak1 hn u ⟨gd,t,λB e=>Ai,λ_=>⟨hg,y.imp λvh j=>⟨j.1,λk hk=>j.2 k ai0⟩⟩⟩
theorem bn.less{t}(h:bn H own O W S)(j:∀i,t i->S i):bn H own O W t :=
 ⟨h.lo,h.fx,λe=>h.fc (j _ e),λe=>h.cD (j _ e),λn x e=>h.brk n x (j _ e),λc l e=>h.got c l (j _ e)⟩
theorem bn.map{ak}(h:bn H own O W λj=>S j/\j≠2*n+4)(Q:S 2)(hn:n<O.eC.length)(hl:O.eC.length=O.par.length)(hm:dM encI W' H.gb ak)(hk:(ak.map (·.1)).Nodup)(J:∀m,m≠(n:Int)->cT ak m=cT H.ak m)(u:ag (λk=>k=H.gb) W W')
 (C:OvB { H with ak:=ak } own W' n x):bn { H with ak:=ak } own (nv O n x) W' S:=by
 obtain⟨G,N,Y,F,I,⟨Z,U,b3,b4⟩,V,a8⟩:=h.fc ⟨Q,af⟩
 have A:bn H own O W' λj=>(S j/\j≠2*n+4)/\j≠2:=h.to u (λk e=>aB) (λ_ h=>h.1) (λ_ _=>rfl) λk hk e=>XB
 have L:∀t cs k,ah W k t cs->k≠H.gb:=λt cs k hb e=>(e▸N).cells hb
 refine⟨A.lo,A.fx,λ_=>⟨G.aX u (L _ _ _ G),hm,λk e=>?_,F.to u (λ_ _=>trivial) (λk hk e=>?_) (λ_ _ _=>.inl trivial),I.to u (λ_ _=>trivial) (λk hk e=>?_) (λ_ _ _=>.inl trivial),⟨Z,U,b3,b4⟩,V,hk⟩,λT=>A.cD ⟨⟨T,af⟩,af⟩,λm y hm D=>?_,λc l hc=>A.got c l ⟨⟨hc,af⟩,af⟩⟩
 ·refine (J k λX=>?_).trans (Y k e);subst X;have e:fY O.par (n:Int)=false:=e;unfold fY at e;grind
 ·obtain⟨_,_,_,hb⟩:=F.own hk;grind
 ·obtain⟨_,_,_,hb⟩:=I.own hk;grind
 ·simp only[nv,Int.toNat_natCast,List.getElem?_set]at D;by_cases e:n=m
  ·grind
  ·rw[if_neg e]at D;obtain⟨gd,R,e2,E⟩:=A.brk m y ⟨⟨hm,af⟩,af⟩ D;have M:=J (m:Int) af;refine⟨gd,R,λB C=>?_,λC=>⟨M.trans (E C).1,(E C).2⟩⟩;grind
theorem bn.ak3(h:bn H own O W cK)(hn:n<O.eC.length)(j:H.ds[n]?=some gd)(hg:cT H.ak (n:Int)=some (.pointer (some ⟨g,0,none⟩)))
 (t:dt (λk=>own k≠0/\own k≠2*n+4) (λk=>own k≠2*n+4/\k<W.heap.size) g gd B' W') (u:ag (λk=>¬(own k≠2*n+4/\k<W.heap.size)) W W'):cQ H own (rF O n B') W W' :=
 cQ.of u (λk hk _=>af) (i:=2*n+4) (h.put hn j hg t u) rfl
theorem bn.I8(h:bn H own O W S)(C:H.vn=.pointer (some ⟨gn,0,none⟩))(D:mU (λk=>own k≠0) (λk=>own k=3) gn L W')(u:ag (λk=>own k=3) W W'):bn H own { O with cD:=L } W' S:=by
 have t:bn H own O W' λj=>S j/\j≠3:=h.to u (λk hk=>af) (λ_ h=>h.1) (λ_ _=>rfl) λk hk e=>XB
 exact⟨t.lo,t.fx,λF=>by
  obtain⟨N,B,E,I,y,J,M,A⟩:=t.fc ⟨F,af⟩;exact⟨N,B,E,I,y,J,M,A⟩,λ_=>⟨gn,C,D⟩,λm x hm=>t.brk m x ⟨hm,af⟩,λc l G=>t.got c l ⟨G,af⟩⟩
theorem bn.Re(h:bn H own O W cK)(j:H.vn=.pointer (some ⟨gn,0,none⟩))(t:mU (λk=>own k≠0) (λk=>own k=3) gn L W')(u:ag (λk=>own k=3) W W'):cQ H own { O with cD:=L } W W' :=
 ⟨H,own,h.I8 j t u,rfl,u.more λk hk=>af,λ_ _=>rfl⟩
end
section
variable {S:Nat->Prop} {W:World} {H:lN} {own:Nat->Nat} {O:bz}
theorem KU(h:bn H own O W S)(j:S 2) n :
 Calls prog 44 #[.pointer (some ⟨H.gw,0,none⟩),.int .i64 n] W λe w'=>e=.returned (.bool (ko O n))/\w'=W:=by
 have q:=(h.fc j).blk.cell
 obtain⟨A,c,e,-⟩:=h.fx.now.1
 rw[e]at q
 have HI:Hid (ko O n=(decide (0<=n)&&decide (n<(O.par.length:Int)))):=ae rfl
 generalize ko O n=R at *
 go_in
 by_cases h0:0<=n
 ·by_cases h1:n<(O.par.length:Int)
  ·exact ai1
  ·exact ai2
 ·exact ai3
theorem Ua(h:bn H own O W S)(j:S 2) n :
 Calls prog 68 #[.pointer (some ⟨H.gw,0,none⟩),.int .i64 n] W λe w'=>e=.returned (.bool (ky O n))/\w'=W:=by
 have q:=(h.fc j).blk.cell
 obtain⟨A,c,e,-⟩:=h.fx.now.2.1
 rw[e]at q
 have HI:Hid (ky O n=(decide (0<=n)&&decide (n<(O.ai.length:Int)))):=ae rfl
 generalize ky O n=R at *
 go_in
 by_cases h0:0<=n
 ·by_cases h1:n<(O.ai.length:Int)
  ·exact ai1
  ·exact ai2
 ·exact ai3
theorem aeI(j:oQ O){m}(hm:m<O.ai.length):nS O m=O.ai[m]/\fY O.par O.ai[m]=true:=by refine⟨by grind [nS],?_⟩;have:=j.hm;simp only[kN,dz,vD]at this;exact this.2 _ (bT hm)
theorem bn.look(h:bn H own O W S)(u:S 2)(j:∀n,S (2*n+4))(t:oQ O) m:(cT H.ak m).isSome=(cZ O m).isSome/\∃v,(cT H.ak m).getD (.pointer none)=.pointer v:=by
 cases hu:cZ O m with
 | none=>rw[h.down u j t.ln hu];exact⟨rfl,_,rfl⟩
 | some B =>
  have hm:0<=m:=by
   grind [cT,cZ,ko,fY]
  obtain⟨n,rfl⟩:=Int.eq_ofNat_of_zero_le hm
  obtain⟨gd,g,-,y,-⟩:=h.up (j n) t.ln hu
  grind
theorem bn.q(h:bn H own O W S)(j:S 2):∀W',K W W'->∀m,(Instr.lookup 78 (.map (some H.gb)) (.int .i64 m) true).run prog W'=.ok (.tuple #[(cT H.ak m).getD (.pointer none),.bool (cT H.ak m).isSome]) W'/\(Instr.lookup 78 (.map (some H.gb)) (.int .i64 m) false).run prog W'=.ok ((cT H.ak m).getD (.pointer none)) W':=λW' k m =>
 DN (Es (P:=prog) (kt:=3) underlying3) underlying78 (z:=.pointer none) fo ((h.fc j).map.st k) m
theorem Ph(h:bn H own O W S)(j:S 2)(B:∀n,S (2*n+4))(C:oQ O) n :
 Calls prog 13 #[.pointer (some ⟨H.gw,0,none⟩),.int .i64 n] W λe w'=>e=.returned (.bool (cZ O n).isSome)/\w'=W:=by
 have A:=ae (KU h j n)
 have q:=(h.fc j).blk.cell
 have t:=(h.q j W (K.rf W) n).1
 obtain⟨D,v,u⟩:=h.look j B C n
 rw[D,u]at t
 have y:Hid (ko O n=false->(cZ O n).isSome=false):=ae λe=>by unfold cZ;rw[e];rfl
 generalize (cZ O n).isSome=R at *
 go_in
 go_wp2_with fail
 apply aI A.aa
 rintro w' rfl
 cases hi:ko O n
 ·have HR:=ae (y.aa hi);exact LP
 ·go_wp2;go_ret;exact⟨rfl,rfl⟩
def lZ(H:lN)(O:bz)(c:Int):Value×Int:=if ky O c then (if (cZ O (nS O c)).isSome then ((cT H.ak (nS O c)).getD (.pointer none),0)else (.pointer none,210))else (.pointer none,1)
theorem OT(h:bn H own O W S)(u:S 2)(I:∀n,S (2*n+4))(B:oQ O) c :
 Calls prog 48 #[.pointer (some ⟨H.gw,0,none⟩),.int .i64 c] W λe w'=>e=.returned (.tuple #[(lZ H O c).1,.int .i64 (lZ H O c).2])/\K W w':=by
 have t:=ae (Ua h u c)
 have q:=(h.fc u).blk.cells
 have G:=h.q u
 obtain⟨A,cc,e,L,-⟩:=h.fx.now.2.1
 rw[e]at q
 have hk:=h.look u I B (nS O c)
 have j:Hid (lZ H O c=if ky O c then (if (cZ O (nS O c)).isSome then ((cT H.ak (nS O c)).getD (.pointer none),0)else (.pointer none,210))else (.pointer none,1)):=ae rfl
 generalize lZ H O c=R at *
 have D:=K.rf W
 cases hc:ky O c
 ·have HR:Hid (R=(.pointer none,1)):=ae (by rw[j.aa,hc];rfl);rw[hc]at t;go_in;go_wp2_with fail
  apply aI t.aa;rintro w' rfl;go_wp2;go_ret2;exact⟨fJ,D⟩
 ·rw[hc]at t j;unfold ky at hc;simp only[dz,decide_eq_true_eq]at hc;obtain⟨m,rfl⟩:=Int.eq_ofNat_of_zero_le hc.1;have hm:m<O.ai.length:=af;have E:=hc.2;obtain⟨b,N,rfl,M⟩:=ints_at L af;have F:=λW k=>M W k m hm
  rw[(aeI B hm).1]at hk j;generalize O.ai[m]=x at *;obtain⟨J,v,y⟩:=hk;have C:=λW k=>(G W k x).1
  rw[J,y]at C;rw[y]at j;generalize (cZ O x).isSome=Q at *;have HR:Hid (R=if Q then (.pointer v,0)else (.pointer none,210)):=ae j.aa;go_in;go_wp2_with fail
  apply aI t.aa;rintro w' rfl;go_wp2_with fail
  have qs:=And.intro q (And.intro C (And.intro F E));refine dK 16 ?_;iterate 16 refine ar.i ?_
  intro V T kW hA;simp only[aN,aQ,b6,aJ,Nat.reduceAdd]at hA;refine aH.p ?_;refine aH.h ?_;cases Q
  ·go_wp2;go_ret2;exact⟨fJ,kW⟩
  ·go_wp2;go_ret2;exact⟨fJ,kW⟩
def Bd(H:lN)(O:bz)(c:Int)(a:aT):Value×Int:=if (lZ H O c).2=0/\a.1≠nS O c then (.pointer none,1)else lZ H O c
theorem abD(h:bn H own O W S)(J:S 2)(N:∀n,S (2*n+4))(L:oQ O) c a :
 Calls prog 52 #[.pointer (some ⟨H.gw,0,none⟩),.int .i64 c,cA a] W λe w'=>e=.returned (.tuple #[(Bd H O c a).1,.int .i64 (Bd H O c a).2])/\K W w':=by
 have G:=ae λW' (k:K W W')=>OT (h.st k) J N L c
 have q:=(h.fc J).blk.cells
 obtain⟨A,cc,e,hl,-⟩:=h.fx.now.2.1
 rw[e]at q
 obtain⟨j,E,C⟩:=a
 have M:Hid (Bd H O c (j,E,C)=if (lZ H O c).2=0/\j≠nS O c then (.pointer none,1)else lZ H O c):=ae rfl
 generalize Bd H O c (j,E,C)=R at *
 dsimp only[cA]
 by_cases h0:(lZ H O c).2=0
 ·have y:ky O c=true:=by
   unfold lZ at h0;cases y:ky O c
   ·grind
   ·rfl
  unfold ky at y;simp only[dz,decide_eq_true_eq]at y;obtain⟨m,rfl⟩:=Int.eq_ofNat_of_zero_le y.1;have hm:m<O.ai.length:=af;have uJ:=y.2;obtain⟨b,off,rfl,Y⟩:=ints_at hl af;have t:=λW k=>Y W k m hm
  rw[(aeI L hm).1]at M;generalize O.ai[m]=x at *;obtain⟨v,D⟩:∃v,(lZ H O m).1=.pointer v:=by
   unfold lZ;obtain⟨v,e⟩:=(h.look J N L (nS O m)).2;split
   ·grind
   ·simp
  have HR:Hid (R=if j=x then (.pointer v,0)else (.pointer none,1)):=ae (by
   rw[M.aa,h0];by_cases t:j=x
   ·grind
   ·simp[t])
  rw[D,h0]at G;go_in;have U:=ah.new W 26 #[.int .i64 j,.int .u64 E,.int .u64 C];have B:=U.aS;go_wp2_with fail
  apply cF (G.aa _ B) B;intro I T u;have Z:=(U.ay T).cells;replace q:=λW' (k:K I W')=>q W' (u.tr k)
  replace t:=λW' (k:K I W')=>t W' (u.tr k)
  go_wp2_with fail
  have qs:=And.intro q (And.intro Z (And.intro t uJ));refine dK 9 ?_;iterate 9 refine ar.i ?_
  intro V W2 kW hA;simp only[aN,aQ,b6,aJ,Nat.reduceAdd]at hA;refine aH.p ?_;refine aH.h ?_;have Q:=u.tr kW;by_cases F:j=x
  ·rw[if_pos F]at HR;subst F;go_wp2;go_ret2;exact⟨fJ,Q⟩
  ·rw[if_neg F]at HR;have:(j != x)=true:=by simpa using F
   go_wp2;go_ret2;exact⟨fJ,Q⟩
 ·have HR:Hid (R=lZ H O c):=ae (by rw[M.aa,if_neg λe=>h0 e.1]);have X:((lZ H O c).2 != 0)=true:=Lb;have D:(lZ H O c).1=.pointer none:=by
   unfold lZ at h0⊢;split <;> try split
   all_goals simp_all
  generalize lZ H O c=r at *;obtain⟨v,d⟩:=r;simp only at X G D;subst D;go_in;have B:=K.new W (.cells #[.int .i64 j,.int .u64 E,.int .u64 C] 26);go_wp2_with fail
  apply cF (G.aa _ B) B;intro I T u;go_wp2;go_ret2;exact⟨fJ,u⟩
end
section
variable {α:Type} [DecidableEq α] {ak:List (α×Value)} {k m:α} {v:Value}
theorem Va(k:α):∀(r:List (α×Value)) (i:Nat),fW k r (i+1)=(fW k r i).map λq=>(q.1+1,q.2)
 | [],_=>rfl
 | p :: r,i=>by
  simp only[fW];split
  ·rfl
  ·exact Va k r _
theorem BX p:cT (p :: ak) k=if p.1=k then some p.2 else cT ak k:=by
 unfold cT;simp only[fW];split
 ·rfl
 ·rw[Va];cases fW k ak 0 <;> rfl
theorem adg:∀ {ak:List (α×Value)},cT ak k=none->k∉ak.map (·.1)
 | [],_=>aj
 | p :: r,h=>by
  rw[BX]at h;split at h
  ·cases h
  ·next hp =>
   simp only[jU,List.mem_cons,not_or];exact⟨λe=>hp e.symm,adg h⟩
theorem ad4:∀ {ak:List (α×Value)},k∉ak.map (·.1)->cT ak k=none
 | [],_=>rfl
 | p :: r,h=>by simp only[jU,List.mem_cons,not_or]at h;rw[BX,if_neg λe=>h.1 e.symm];exact ad4 h.2
theorem awb(h:cT ak k=none) v:r7 ak k v=ak++[(k,v)]:=by
 unfold r7
 unfold cT at h
 cases e:fW k ak 0 with
 | none=>rfl
 | some q=>rw[e]at h;cases h
theorem Vb:∀ {ak:List (α×Value)},cT (ak++[(k,v)]) m=if (cT ak m).isSome then cT ak m else if k=m then some v else none
 | []=>BX _
 | p :: r=>by rw[aQ,BX,BX,Vb];by_cases hp:p.1=m <;> simp[hp]
theorem auf p:Ct (p :: ak) k=if p.1=k then ak else p :: Ct ak k:=by
 grind [Ct,fW,Va]
theorem ad5 k:∀ {ak:List (α×Value)},(ak.map (·.1)).Nodup->cT (Ct ak k) k=none/\(∀m,m≠k->cT (Ct ak k) m=cT ak m)/\((Ct ak k).map (·.1)).Sublist (ak.map (·.1))
 | [],_=>⟨rfl,λ_ _=>rfl,.slnil⟩
 | p :: r,h=>by
  simp only[jU,List.nodup_cons]at h;obtain⟨j,u,t⟩:=ad5 k h.2;rw[auf];by_cases hp:p.1=k
  ·subst hp;rw[if_pos rfl];exact⟨ad4 h.1,λm hm=>by rw[BX,if_neg λe=>hm e.symm],List.sublist_cons_self _ _⟩
  ·rw[if_neg hp];exact⟨by rw[BX,if_neg hp,j],λm hm=>by rw[BX,BX,u m hm],t.cons_cons _⟩
end
section
variable {S:Nat->Prop} {W W2:World} {H:lN} {own:Nat->Nat} {O:bz} {par ai:List Int} {k:Nat}
theorem bn.I9(h:bn H own O W S){n gd}(t:H.ds[n]?=some gd):∃b j c,H.vd=.slice (some ⟨b,j,none⟩) H.ds.length c/\n<H.ds.length/\∀W',ag (λk=>own k≠0) W W'->W'.cell? ⟨b,j+n,none⟩=some (.pointer (some ⟨gd,0,none⟩)):=by
 obtain⟨hn,hg⟩:=List.getElem?_eq_some_iff.1 t
 have key:∀W',ag (λk=>own k≠0) W W'->∃b j c,H.vd=.slice (some ⟨b,j,none⟩) H.ds.length c/\W'.cell? ⟨b,j+n,none⟩=some (.pointer (some ⟨gd,0,none⟩)):=λW' u=>by
  obtain⟨A,c,e,C,-⟩:=(h.fx W' u).2.2
  obtain⟨b,j,cs,rfl,-,B,y,-⟩:=ed C n aB ax
  obtain⟨rfl,-⟩:=B W' (K.rf W')
  have:=y W' (K.rf W')
  simp only[show yo.size=1 from rfl,Nat.mul_one]at this
  grind
 obtain⟨b,j,c,e,-⟩:=key W (ag.rf _ _)
 grind
theorem aug O n x y:nv (nv O n x) n y=nv O n y:=by simp[nv]
theorem aoU(h:bn H own O W cK)(D:bM par ai O k) n keep(hk:bR keep) :
 Calls prog 11 #[.pointer (some ⟨H.gw,0,none⟩),.int .i64 n,.int .i64 keep] W λe w'=>e=.returned (.int .i64 (tU O n).2)/\cQ H own (tU O n).1 W w':=by
 have C1:=ae (KU h p2 n)
 have C2:=ae (Ph h p2 pB D.fZ n)
 have HR:Hid (tU O n=if ko O n then (match cZ O n with|none=>(O,(210:Int))|some B=>(nv O n ⟨none,B.dk⟩,0))else (O,1)):=ae rfl
 have HN:=ae (h.now (K.rf W))
 generalize tU O n=R at *
 cases hi:ko O n
 ·rw[hi]at C1 HR;exact QN
 rw[hi]at C1 HR
 cases hu:cZ O n with
 | none => exact ai4
 | some B =>
  rw[hu]at HR C2;obtain⟨i,rfl,hlt,x,hx1,hx2⟩:=Ck hu;obtain⟨gd,g,C,e2,T⟩:=h.up (pB i) D.fZ.ln hu;have hn:i<O.eC.length:=aB;obtain⟨W1,N,Z,U⟩:=auY (Es (P:=prog) (kt:=3) underlying3) underlying78 (h.fc p2).map (i:Int) 0 #[78,3] rfl;obtain⟨I,X,V⟩:=ad5 (i:Int) (h.fc p2).kn;have t:ag (λk=>k=H.gb) W W1:=ag.eP U λk e=>aB
  have Q:=(h.fc p2).own.2.1;have J:=T.dk.to t (Z':=λk=>own k≠2*i+4/\k<W1.heap.size) (λk e=>⟨by rw[e,Q];omega,e▸(h.fc p2).map.lt⟩) λk hk=>by omega
  have A:bn { H with ak:=Ct H.ak (i:Int) } own (nv O i ⟨none,B.dk⟩) W1 cK :=
   (h.less λ_ h=>h.1).map p2 hn D.fZ.ln Z ((h.fc p2).kn.sublist V) X t ⟨gd,C,λB e=>Ai,λ_=>⟨I,J⟩⟩
  obtain⟨b,off,c,G,Y,E⟩:=bn.I9 A (n:=i) (gd:=gd) C;have q:=(h.fc p2).blk.cell;have L:=(A.fc p2).blk.cell;have E:=E W1 (ag.rf _ _);simp only at G Y;have:(i:Int)<H.ds.length:=af;rw[G]at q L;simp only[encI]at N;have S:=ae (ayG J keep hk);have M:=ae λj (y:rS _ gd B.dk j) u=>A.ak2 (n:=i) (O:=nv O i ⟨none,B.dk⟩) (by show i<(O.eC.set _ _).length;rw[List.length_set];exact hn) C I y u
  go_in;go_wp2_with fail
  apply aI C1.aa;rintro w' rfl;go_wp2_with fail
  apply aI C2.aa;rintro w' rfl;go_wp2_with fail
  apply aI S.aa;rintro j⟨y,u⟩;have F:=M.aa j y u;rw[aug]at F;have:=t.size;have HF:=ae (show cQ H own (nv O i ⟨none,B.dk⟩) w' j from ⟨_,_,F,rfl,(t.more λk e=>aB).gq u λk hk e=>af,λk hk=>FY⟩);exact LC
end
theorem awc{Z gd W d s}(h:rS Z gd d W)(A:gU d s)(N:s.life+1<18446744073709551616) p ai me j u(D:Fx (λk=>¬Z k) (λW=>aq cL p j W) W)(H:Fx (λk=>¬Z k) (λW=>aq cL ai u W) W)
 (M:fK p=true) (hm:fY p me=true) (G:kN p ai=true) (J:¬ir (dc (cR s))<=d.room) :
 Calls prog 86 #[.int .i64 me,j,u,.pointer (some ⟨gd,0,none⟩)] W λe w'=>e=.returned (.tuple #[.pointer none,.int .i64 90])/\rS Z gd d w'/\ag (λk=>¬Z k) W w':=by
 obtain⟨vh,E,hz⟩:=h
 have B:∀k,kZ gd vh k->¬Z k:=λk hk y=>(hz k y).1 hk
 refine (ack gd vh d s p ai me j u W E A A.YQ N (D.less B) (H.less B) M hm G).mono ?_
 intro e w' hp
 unfold Ec at hp
 rw[if_neg J]at hp
 obtain⟨I,L,C,t⟩:=hp
 exact⟨L,⟨I,C,λk hk=>⟨λF=>(t.new k F).elim (hz k hk).1 λh=>aB,bw (hz k hk).2 t.up.size⟩⟩,t.up.more λk hk y=>(hz k y).1 hk⟩
theorem auh{O}{i:Nat}{x}(h:O.eC[i]?=some x):nv O i x=O:=by obtain⟨j,rfl⟩:=List.getElem?_eq_some_iff.1 h;simp[nv]
def Gx(H:lN)(own:Nat->Nat)(O:bz)(W:World)(i gd:Nat)(B:bf)(d:pc)(R:bz×Int)(p:Option Addr)(j:Int)(W':World):Prop :=
 ag (λk=>¬(own k≠2*i+4/\k<W.heap.size)) W W'/\(j=0/\(∃g,p=some ⟨g,0,none⟩/\dt (λk=>own k≠0/\own k≠2*i+4) (λk=>own k≠2*i+4/\k<W.heap.size) g gd B W')/\R=(rF O i B,0) ∨
  (j==0)=false/\p=none/\rS (λk=>own k≠2*i+4/\k<W.heap.size) gd d W'/\R=(O,j))
def xj(O:bz)(n:Int):bz×Int:=if kN O.par O.ai then qi O n else (O,1)
def YR:Value->Value
 | .tuple a=>a.getD 0 undef
 | _=>undef
def YS:Value->Value
 | .tuple a=>a.getD 1 undef
 | _=>undef
section
variable {S:Nat->Prop} {W W':World} {H:lN} {own:Nat->Nat} {O:bz} {par ai:List Int} {k:Nat}
theorem bn.opn(h:bn H own O W S)(U:∀n,S (2*n+4))(ht:fK O.par=true)(jd:O.eC.length=O.par.length)(Z:O.ai.length<=1000000){i:Nat}{d s}(y:O.eC[i]?=some ⟨none,d⟩)(D:gU d s)(L:s.life+1<18446744073709551616) :
 ∃gd B,H.ds[i]?=some gd/\cT H.ak (i:Int)=none/\∀W1,K W W1->Calls prog 86 #[.int .i64 i,H.vp,H.vh,.pointer (some ⟨gd,0,none⟩)] W1 λe w'=>∃p G,e=.returned (.tuple #[.pointer p,.int .i64 G])/\Gx H own O W i gd B d (xj O i) p G w':=by
 obtain⟨gd,Y,-,V⟩:=h.brk i _ (U i) y
 obtain⟨N,E⟩:=V rfl
 have:=(List.getElem?_eq_some_iff.1 y).1
 refine⟨gd,tY i O.par O.ai ⟨dc (cR s),d.room⟩ (cR s),Y,N,λW1 t=>?_⟩
 have A:qi O i=if ir (dc (cR s))<=d.room then (rF O i (tY i O.par O.ai ⟨dc (cR s),d.room⟩ (cR s)),0)else (O,90):=by
  grind [qi,Int.toNat_natCast,F6]
 have Q:∀k,k<W.heap.size->¬(own k≠2*i+4/\k<W.heap.size)->own k≠0:=λk hk e=>af
 have f:=(h.fx.to (ag.rf (λ_=>False) W) (λ_ h=>h.elim) Q).k t
 have hm:fY O.par (i:Int)=true:=by unfold fY;simp;omega
 have F:=ag.aU t λk=>¬(own k≠2*i+4/\k<W.heap.size)
 by_cases j:kN O.par O.ai=true
 case neg =>
  have j:kN O.par O.ai=false:=by simpa using j
  have y:xj O i=(O,1):=by unfold xj;rw[j];rfl
  have I:=f W1 (ag.rf _ _);refine (avD O.par O.ai i H.vp H.vh _ W1 I.1 I.2.1 Wm Z (.inr ⟨gd,rfl⟩) (.inr (.inr (.inr j)))).mono ?_;rintro e w'⟨rfl,J⟩;rw[y,ht];exact⟨none,1,rfl,ag.aU (t.tr J) _,.inr ⟨rfl,rfl,E.st (t.tr J),rfl⟩⟩
 have T:xj O i=qi O i:=by unfold xj;rw[j];rfl
 rw[T]
 by_cases C:ir (dc (cR s))<=d.room
 ·rw[if_pos C]at A;refine (azn (X:=λk=>own k≠0/\own k≠2*i+4) (E.st t) D D.YQ L O.par O.ai i H.vp H.vh (λW u=>(f W u).1) (λW u=>(f W u).2.1) ht hm j C λk hk=>⟨hk.2,h.lo k hk.1⟩).mono ?_;rintro e w'⟨g,rfl,R,u,-⟩;exact⟨_,_,rfl,F.tr u,.inl ⟨rfl,⟨g,rfl,R⟩,A⟩⟩
 ·rw[if_neg C]at A;refine (awc (E.st t) D L O.par O.ai i H.vp H.vh (λW u=>(f W u).1) (λW u=>(f W u).2.1) ht hm j C).mono ?_;rintro e w'⟨rfl,M,u⟩;exact⟨_,_,rfl,F.tr u,.inr ⟨rfl,rfl,M,A⟩⟩
theorem Gx.st{i gd B d R p y W1 u}(h:Gx H own O W i gd B d R p y W1)(k:K W1 u):Gx H own O W i gd B d R p y u :=
 ⟨h.1.tr (ag.aU k _),h.2.imp (λ⟨e,⟨g,t,A⟩,j⟩=>⟨e,⟨g,t,A.st k⟩,j⟩) λ⟨e,t,C,j⟩=>⟨e,t,C.st k,j⟩⟩
theorem bn.came(h:bn H own O W S)(t:S 2)(X:O.eC.length=O.par.length){i gd g:Nat}{d B W1}(y:O.eC[i]?=some ⟨none,d⟩)(R:H.ds[i]?=some gd)(A:cT H.ak (i:Int)=none)
 (u:ag (λk=>¬(own k≠2*i+4/\k<W.heap.size)) W W1) (N:dt (λk=>own k≠0/\own k≠2*i+4) (λk=>own k≠2*i+4/\k<W.heap.size) g gd B W1) :
 ∃j,(Instr.mapUpdate 78 (.map (some H.gb)) (.int .i64 i) (.pointer (some ⟨g,0,none⟩))).run prog W1=.ok () j/\∃J E,bn J E (rF O i B) j S/\J.gw=H.gw/\ag (λk=>2<=own k) W j/\(∀k,k<W.heap.size->E k=own k)/\∀k,E k=3->own k=3:=by
 have T:=(List.getElem?_eq_some_iff.1 y).1
 have G:ag (λk=>own k=2*i+4) W W1:=⟨u.os,u.tape,u.output,u.size,λk F t=>u.block k F λy=>y ⟨t,F⟩⟩
 have I:=aiZ h af G λ_ h=>h
 have D:=h.fc t
 obtain⟨j,V,hm,hg⟩:=FC (Es (P:=prog) (kt:=3) underlying3) underlying78 (I.fc ⟨t,af⟩).map (i:Int) (.pointer (some ⟨g,0,none⟩))
 rw[awb A]at hm
 have C:ag (λk=>k=H.gb) W1 j:=ag.eP hg λk e=>XC
 have M:=D.own.2.1
 have Q:=D.map.lt
 refine⟨j,V,_,_,I.map (n:=i) t T X hm ?_ (λm L=>?_) C ⟨gd,R,λB' e=>?_,λe=>Ai⟩,rfl,(G.more λk e=>af).gq (C.more (Y:=λk=>2<=own k) λk e=>by rw[e,M];exact aD 2) λk hk e=>e,λk hk=>FY,λk hk=>by
  unfold jb at hk;split at hk
  ·split at hk <;> omega
  ·exact hk⟩
 ·rw[List.map_append];exact List.nodup_append.2 ⟨D.kn,aj,λa U b hb e=>adg A (by simp at hb;rw[<- hb,<- e];exact U)⟩
 ·rw[Vb];cases cT H.ak m <;> simp
  intro e;exact absurd e.symm L
 ·injection e with e;subst e;refine⟨g,by rw[Vb,A];simp,N.to C (λk e=>by subst e;exact⟨⟨by omega,by omega⟩,by omega,Q⟩) (λk hk=>?_) λk hk=>?_⟩
  ·have:=PH h.lo ⟨hk.2,.inr hk.1⟩;exact .inl ⟨this.2.2▸hk.1,this.1⟩
  ·by_cases h9:k<W1.heap.size
   ·have:=PH h.lo ⟨hk.1,.inl h9⟩;exact .inl ⟨this.1,this.2.1⟩
   ·exact .inr ⟨af,hk.2⟩
theorem abO(h:bn H own O W S)(F:S 2)(hS:∀n,S (2*n+4))(ht:fK O.par=true)(jd:O.eC.length=O.par.length)(hhn:O.ai.length<=1000000){i:Nat}{d s}(t:O.eC[i]?=some ⟨none,d⟩)(hG:gU d s)(hl:s.life+1<18446744073709551616) :
 Calls prog 42 #[.pointer (some ⟨H.gw,0,none⟩),.int .i64 i] W λe w'=>e=.returned (.int .i64 (xj O i).2)/\∃G A,bn G A (xj O i).1 w' S/\G.gw=H.gw/\ag (λk=>2<=own k) W w'/\(∀k,k<W.heap.size->A k=own k)/\∀k,A k=3->own k=3:=by
 obtain⟨gd,B,hd,hlk,hC⟩:=h.opn hS ht jd hhn t hG hl
 have HC:=ae hC
 have HW:=ae λg W1 u T=>h.came F jd (g:=g) (W1:=W1) (B:=B) t hd hlk u T
 have hi:=(List.getElem?_eq_some_iff.1 t).1
 have HD:=ae λW1 u (C:rS _ gd d W1)=>auh t▸h.ak2 (W':=W1) hi hd hlk C u
 have:=(h.fc F).own.1
 have hb:=(h.fc F).blk
 obtain⟨b,off,c,DF,hnl,H5⟩:=h.I9 hd
 have Od:(i:Int)<H.ds.length:=af
 have Jv:=λW1 (u:ag (λk=>¬(own k≠2*i+4/\k<W.heap.size)) W W1)=>H5 W1 ⟨u.os,u.tape,u.output,u.size,λk E F=>u.block k E λt=>t ⟨af,E⟩⟩
 have J:∀W1,ag (λk=>¬(own k≠2*i+4/\k<W.heap.size)) W W1->∀j,W1.cell? ⟨H.gw,j,none⟩=#[H.vp,H.vh,H.vn,H.vd,.map (some H.gb),H.vc,H.vg][j]?:=λW1 u=>(hb.aX u λe=>e ⟨af,hb.lt⟩).cell
 rw[DF]at J
 generalize xj O (i:Int)=R at *
 have Kc:=ae λp code W1 (h:Gx H own O W i gd B d R p code W1)=>h.1
 obtain⟨Y,hY⟩:∃Y,Y=λk=>¬(own k≠2*i+4/\k<W.heap.size):=⟨_,rfl⟩
 rw[<- hY]at J Jv Kc
 go_in
 go_upto_region 1 with fail
 have qs:=And.intro J (And.intro Jv Od)
 refine T3 21 [16] (ag Y W) (λ_ _=>True) (λk vs W1=>if k=0 then K W W1 else ∃p code,vs=[.tuple #[.pointer p,.int .i64 code]]/\Gx H own O W i gd B d R p code W1)
  [([],[]),([],[]),([1],[(9,1)]),([2],[(10,2)]),([3],[(11,3)]),([],[]),([5],[(13,5)]),([6],[(14,6)]),([7],[(15,7)]),([],[]),([9],[(17,9)]),([10],[(18,10)]),([11],[(19,11)]),([],[]),([12,13],[(20,12),(21,13)]),([14],[(22,14)]),([0,4,8,15],[(8,0),(12,4),(16,8),(23,15)]),([16],[(24,16)]),([17],[(7,17)]),([17],[(7,17)]),([18],[(25,18)]),([0,1,2,3,4,5,6,7,8,9,10,11,12,13,14,15,16,17,18,19,20],[(26,19)])] 36 [] [(17,16,id),(18,17,YR),(19,17,YS),(20,18,id)]
  (λ_ _ h k=>h.tr (ag.aU k _)) (λ_ _ _=>trivial) (λk vs W1 W2 h kW=>by
   split at h
   ·next h0=>rw[if_pos h0];exact h.tr kW
   ·next h0 =>
    rw[if_neg h0];obtain⟨p,code,e,D⟩:=h;exact⟨p,code,e,D.st kW⟩) (ag.rf _ _) (λ_=>K.rf W) ?_
 iterate 16 refine ar.i ?_
 refine ar.kn (λv=>∃p code,v=.tuple #[.pointer p,.int .i64 code]) ?_
 refine ar.op (λv _=>∃p code,v=.tuple #[.pointer p,.int .i64 code]) (λ_ _ _ h _=>h) (λV W1 kW hp=>?_) ?_
 ·exact XD
 refine ar.op (λv _=>∃p,v=.pointer p) (λ_ _ _ h _=>h) (λV W1 kW hp=>?_) ?_
 ·exact XD
 refine ar.op (λv _=>∃c:Int,v=.int .i64 c) (λ_ _ _ h _=>h) (λV W1 kW hp=>?_) ?_
 ·exact XD
 refine ar.op (λv _=>∃p,v=.pointer p) (λ_ _ _ h _=>h) (λV W1 kW hp=>?_) ?_
 ·simp only[cz,aN,aQ,bV,bW,aJ]at hp;obtain⟨⟨p,e⟩,-⟩:=hp;exact ai5
 refine⟨⟨⟨_,_,rfl,rfl,rfl,λV W1 N C hp=>?_⟩,trivial⟩,λk hk=>(by simp at hk),λz hz=>?_,λV W1 N C _ hE hA=>?_⟩
 ·simp only[cz,aN,aQ,bV,bW,aJ]at hp;obtain⟨Z,U,e8,sE,-⟩:=hp;have C:K W W1:=by simpa using C
  simp[aF,List.lookup,Z,U,e8,sE,jO,execOp,aG,go_sem];refine (HC.aa W1 C).mono ?_;rintro e w'⟨p,code,rfl,D⟩;exact⟨_,rfl,Kc.aa _ _ _ D,⟨p,code,rfl,D⟩,p,code,rfl⟩
 ·simp at hz;rcases hz with rfl|rfl|rfl|rfl;all_goals refine⟨_,_,rfl,rfl,rfl,aj,λV W1 N hp=>⟨W1,?_⟩⟩
  all_goals simp only[cz,aN,aQ,bV,bW,aJ]at hp
  ·simp[aF,List.lookup,execOp,aG,go_sem]
  ·obtain⟨⟨p,code,e⟩,-⟩:=hp;simp[aF,List.lookup,e,execOp,aG,go_sem,YR]
  ·obtain⟨⟨p,code,e⟩,-⟩:=hp;simp[aF,List.lookup,e,execOp,aG,go_sem,YS]
  ·simp[aF,List.lookup,execOp,aG,go_sem]
 simp only[aN,aQ,b6,aJ,Nat.reduceAdd]at hA
 obtain⟨Z,e1,e2,e3,U,e5,e6,e7,e8,e9,gu,rN,G4,Dm,JQ,sE,-⟩:=hA
 simp only[cz,id]at hE
 obtain⟨X,I,M,L,-⟩:=hE
 obtain⟨p,code,Q,D⟩:∃p code,V 16=.tuple #[.pointer p,.int .i64 code]/\Gx H own O W i gd B d R p code W1:=by simpa using C
 rw[X,Q]at I M
 rw[I]at L
 rw[Q]at X
 simp only[YR,YS]at I M L
 have hA:=And.intro Z (And.intro e1 (And.intro e2 (And.intro e3 (And.intro U (And.intro e5 (And.intro e6 (And.intro e7 (And.intro e8 (And.intro e9 (And.intro gu (And.intro rN (And.intro G4 (And.intro Dm (And.intro JQ (And.intro sE (And.intro Q (And.intro X (And.intro I (And.intro M L)))))))))))))))))))
 have qs:=trivial
 refine aH.p ?_
 refine aH.h ?_
 have:=J W1 N
 obtain⟨y,⟨rfl,⟨g,rfl,T⟩,rfl⟩|⟨Zk,rfl,Oa,rfl⟩⟩:=D
 ·obtain⟨W2,hrun,hF⟩:=HW.aa g W1 y T;have HF:=ae hF;exact QP
 ·have HF:=ae (show ∃G A,bn G A O W1 S/\G.gw=H.gw/\ag (λk=>2<=own k) W W1/\(∀k,k<W.heap.size->A k=own k)/\∀k,A k=3->own k=3 from
   ⟨H,_,HD.aa W1 y Oa,rfl,⟨y.os,y.tape,y.output,y.size,λk E F=>y.block k E λt=>t ⟨af,E⟩⟩,λk hk=>FY,λk hk=>by
    unfold jb at hk;split at hk
    ·split at hk <;> omega
    ·exact hk⟩)
  exact QP
theorem apG(h:bn H own O W S)(B:S 2)(C:∀n,S (2*n+4))(j:oQ O){i:Nat}{d s}(A:O.eC[i]?=some ⟨none,d⟩)(y:gU d s)(D:s.life+1<18446744073709551616) :
 Calls prog 42 #[.pointer (some ⟨H.gw,0,none⟩),.int .i64 i] W λe w'=>e=.returned (.int .i64 (qi O i).2)/\∃u t,bn u t (qi O i).1 w' S/\u.gw=H.gw/\ag (λk=>2<=own k) W w'/\(∀k,k<W.heap.size->t k=own k)/\∀k,t k=3->own k=3:=by
 have:=abO h B C j.tr j.ln (by have:=K5 j.hm;omega) A y D
 rwa [show xj O i=qi O i by unfold xj;rw[j.hm];rfl]at this
theorem an8(h:bn H own O W cK)(t:bM par ai O k)(hk:k<=40000) n :
 Calls prog 20 #[.pointer (some ⟨H.gw,0,none⟩),.int .i64 n] W λe w'=>e=.returned (.int .i64 (tL O n).2)/\cQ H own (tL O n).1 W w':=by
 have C1:=ae (KU h p2 n)
 have C2:=ae (Ph h p2 pB t.fZ n)
 have HR:Hid (tL O n=if ko O n then (if (cZ O n).isSome then (O,(210:Int))else qi O n)else (O,1)):=ae rfl
 have HN:=ae (h.now (K.rf W))
 have C:Hid (ko O n=true->cZ O n=none->Calls prog 42 #[.pointer (some ⟨H.gw,0,none⟩),.int .i64 n] W λe w'=>e=.returned (.int .i64 (qi O n).2)/\cQ H own (qi O n).1 W w'):=ae λj hu=>by obtain⟨i,rfl,-,d,s,A,u,J,-⟩:=t.down j hu;exact (apG h p2 pB t.fZ A u af).mono λe w' ⟨F,D,o',a,b,c,d,_⟩=>⟨F,D,o',a,b,c,d⟩
 generalize tL O n=R at *
 cases j:ko O n
 ·rw[j]at C1 HR;exact QN
 rw[j]at C1 HR
 cases hu:cZ O n with
 | none =>
  have y:=ae (C.aa j hu);rw[hu]at HR C2;generalize qi O n=I at *;go_in;go_wp2_with fail
  apply aI C1.aa;rintro w' rfl;go_wp2_with fail
  apply aI C2.aa;rintro w' rfl;go_wp2_with fail
  apply aI y.aa;intro G E;have HF:=ae E;exact LC
 | some B => exact ai4
end
section
open Go Go.RowKit Go.Conc
def AH(par:List Int)(n:Nat):List iV:=(List.range n).tail.flatMap λ(k:Nat)=>let p:=(par[k]?).getD 0;[(((k:Int),p),[]),((p,(k:Int)),[])]
theorem aqR par k(hk:1<=k):AH par (k+1)=AH par k++[(((k:Int),(par[k]?).getD 0),[])]++[(((par[k]?).getD 0,(k:Int)),[])]:=by unfold AH;rw[List.range_succ,List.tail_append_of_ne_nil aB,List.flatMap_append];simp
theorem UL par n:∀p∈AH par n,p.2=[]:=by
 grind [AH]
theorem wU.mem{M C u A ak L W}(h:wU M C u A ak L W){p}(hp:p∈ak):∃q∈L,p.1=q.1/\∃c<W.heap.size,p.2=.chan (some c):=by
 obtain⟨i,j,rfl⟩:=List.getElem_of_mem hp;have t:i<L.length:=by rw[<- h.len];exact j
 obtain⟨B,c,vs,e,-,y,-⟩:=h.ls i j t;exact⟨_,bT t,B,c,y.lt,e⟩
theorem wU.add{M C B t c ak L W W1 k}(h:wU M C B t ak L W)(V:∀p∈L,p.2=[])(J:K W W1)(hg:B≠t)(hc:kp c [] W1)(hw:W.heap.size<=c)(hk:∀p∈L,p.1≠k):
 ∃W',(Instr.mapUpdate 147 (.map (some t)) (oh k) (.chan (some c))).run prog W1=.ok () W'/\ag (λk=>k=t) W1 W'/\∃ak,∀(M' D:Nat->Prop),(∀k,C k∨k=c->D k)->(∀k,D k->M' k)->¬M' B/\¬M' t->wU M' D B t ak (L++[(k,[])]) W':=by
 have H:∀p∈ak,p.1≠k:=λp hp=>by
  obtain⟨q,hq,e,-⟩:=h.mem hp
  grind
 obtain⟨W',S,F,Y⟩:=FC ak0 underlying147 (h.map.st J) k (.chan (some c))
 have u:=ag.eP Y (X:=λk=>k=t) λk e=>aB
 have R:=(ag.aU J (λk=>k=t)).tr u
 have hcm:c≠t:=λe=>by have:=h.map.lt;omega
 unfold r7 at F
 rw[Vq H]at F
 refine⟨W',S,u,ak++[(k,.chan (some c))],λM' D Q T hn=>?_⟩
 ·refine⟨h.blk.aX R hg,F,by simp[h.len],λi I G=>?_,?_,λi j I hj e=>?_,hn,T⟩
  ·by_cases y:i<ak.length
   ·have A:i<L.length:=by rw[<- h.len];exact y
    simp only[List.getElem_append_left y,List.getElem_append_left A];obtain⟨g1,c2,vs,e,O,U,N,q4⟩:=h.ls i y A;rw[V _ (bT A)]at N⊢;exact⟨g1,c2,vs,e,Q _ (.inl O),U.aX R λe=>h.ne.2 (h.sub _ (e▸O)),N,λi _ G=>aB⟩
   ·obtain rfl:i=ak.length:=aB;simp only[List.getElem_concat_length,h.len];exact⟨aj,c,[],aj,Q _ (.inr rfl),hc.aX u hcm,rfl,λi _ G=>by simp at G⟩
  ·rw[List.map_append];refine List.nodup_append.2 ⟨h.nd,aj,λa Z b hb=>?_⟩;obtain⟨p,hp,rfl⟩:=List.mem_map.1 Z;obtain⟨q,-,-,c',hc',e⟩:=h.mem hp;simp at hb;subst hb;rw[e];intro E;injection E with E;injection E with E;omega
  ·by_cases y:i<ak.length <;> by_cases A:j<ak.length
   ·simp only[List.getElem_append_left y,List.getElem_append_left A]at e;exact h.kn i j y A e
   ·obtain rfl:j=ak.length:=QM;simp only[List.getElem_append_left y,List.getElem_concat_length]at e;exact absurd e (H _ (bT y))
   ·obtain rfl:i=ak.length:=by simp at I;omega
    simp only[List.getElem_append_left A,List.getElem_concat_length]at e;exact absurd e.symm (H _ (bT A))
   ·simp at I hj;omega
theorem aso{par n}(h:fK par=true)(hn:n<=par.length){p}(hp:p∈AH par n):∃(i:Nat) (q:Int),i<n/\par[i]?=some q/\0<=q/\q<(i:Int)/\(p.1=((i:Int),q)∨p.1=(q,(i:Int))):=by
 grind [fK,AH]
theorem asp par v w(h:aq cL par v w)(N:fK par=true) :
 Calls prog 43 #[v] w λe w'=>∃x,e=.returned x/\(∃X,x=.tuple #[.pointer (some ⟨X,0,none⟩),.int .i64 0]/\∃C,mU (λk=>k<w.heap.size∨C k) C X (F4 par) w'/\∀k,C k->w.heap.size<=k/\k<w'.heap.size)/\K w w':=by
 have hp:=rU N
 have C1:=ae (Kz par v w h af)
 obtain⟨A,c,rfl,hl,-⟩:=h
 obtain⟨b,off,rfl,hcell⟩:=ints_at hl af
 have xu:xi par=0:=if_pos N
 rw[xu]at C1
 have HT:=ae N
 have kk:=K.rf w
 go_in
 go_wp2_with fail
 apply cF C1.aa kk
 intro t D k0
 have:=λW=>KC (P:=prog) underlying147 W
 go_upto_region 5 with fail
 have T:wU (λk=>k<w.heap.size∨(w.heap.size<=k/\k<t.heap.size+2/\k≠t.heap.size/\k≠t.heap.size+1)) (λk=>w.heap.size<=k/\k<t.heap.size+2/\k≠t.heap.size/\k≠t.heap.size+1) (t.heap.size+1) t.heap.size [] (AH par 1) ((t.alloc (.map #[] 0)).alloc (.cells #[.map (some t.heap.size)] 149)) :=
  ⟨by simpa using ah.new (t.alloc (.map #[] 0)) 149 #[.map (some t.heap.size)],(dM.new t).st ((K.rf _).al _),rfl,λi hi=>Lg,aj,λi _ hi=>Lg,by have:=D.size;constructor <;> omega,λk h=>.inr h⟩
 have S:=(k0.al (.map #[] 0)).al (.cells #[.map (some t.heap.size)] 149)
 have hz:((t.alloc (.map #[] 0)).alloc (.cells #[.map (some t.heap.size)] 149)).heap.size=t.heap.size+2:=aj
 have U:=D.size
 generalize ((t.alloc (.map #[] 0)).alloc (.cells #[.map (some t.heap.size)] 149))=w2 at *
 rw[<- hz]at T
 generalize hgm:t.heap.size=u at *
 have I:=ae (And.intro hz (And.intro U hgm))
 have Y:=ae (And.intro T S)
 go_wp2_with fail
 go_loopw [6] (fun i W=>∃j:Nat,1<=j/\j<=par.length/\i=.int .i64 j/\Hid ((∃ak,wU (fun k=>k<w.heap.size∨(w.heap.size<=k/\k<W.heap.size/\k≠u/\k≠u+1)) (fun k=>w.heap.size<=k/\k<W.heap.size/\k≠u/\k≠u+1) (u+1) u ak (AH par j) W)/\K w W/\u+2<=W.heap.size)) (fun i _=>par.length-(intOf i).toNat)
 case atStart=>exact⟨1,af,af,rfl,ae ⟨⟨_,Y.aa.1⟩,Y.aa.2,by have:=I.aa;omega⟩⟩
 case round =>
  obtain⟨j,Nb,hj,rfl,HJ⟩:=hrel;by_cases M:j<par.length
  ·have E:(j:Int)<par.length:=af;obtain⟨⟨ak,H⟩,B,sq⟩:=HJ.aa;have EG:=λW (k:K w W)=>hcell W k j M
   have q:=H.blk.cells;have HK:=ae (show ∀p∈AH par j,p.1≠((j:Int),par[j])/\p.1≠(par[j],(j:Int))from λp hp=>by
    obtain⟨i,x,F,-,h3,h4,h5⟩:=aso HT.aa af hp;rcases h5 with e|e <;> rw[e] <;> constructor <;> intro e2 <;> injection e2 <;> omega)
   have HS:=ae (aqR par j Nb);have ET:=ae ((FG.1 HT.aa).2.2.2 j M Nb);rw[List.getElem?_eq_getElem M,Option.getD_some]at HS;generalize par[j]=x at *;have HN:=ae H;have HC:=ae EG;have hq:=λW (k:K wr W)=>EG W (B.tr k)
   go_wp2_with fail
   have qs:=And.intro q (And.intro hq (And.intro E E));refine dK 11 ?_;iterate 10 refine ar.i ?_
   refine ar.op (λv W=>∃c,v=.chan (some c)/\wr.heap.size<=c/\kp c [] W) (λv W W' ⟨c,e,F,Q⟩ k=>⟨c,e,F,Q.aX (ag.aU k λ_=>False) id⟩) (λV W kW hp=>?_) ?_
   ·exact ai6
   intro V W kW hA;simp only[aN,aQ,b6,aJ,Nat.reduceAdd]at hA;obtain⟨f0,f1,f2,O,f4,f5,f6,f7,f8,L,⟨c1,R,hc1,dX⟩,-⟩:=hA;have hz:=kW.size;have:=I.aa;have:=B.size;have:=dX.lt;obtain⟨W1,r1,u1,aFS,J⟩:=HN.aa.add (UL par j) kW af dX hc1 λp hp=>(HK.aa p hp).1
   have U:=u1.size;replace J:=J (λk=>k<w.heap.size∨(w.heap.size<=k/\k<W1.heap.size/\k≠u/\k≠u+1)) (λk=>w.heap.size<=k/\k<W1.heap.size/\k≠u/\k≠u+1) ai7 (λ_ h=>.inr h) ai8;simp only[oh]at r1;refine aH.s (w':=W1) ?_ (by simp[aF,List.lookup,ba,O,L,R,execOp,aG,r1,go_sem]);refine aH.e ?_;have D:=u1.k (B.tr kW) λk e=>e▸by have:=I.aa;omega
   have mI:=λy (k:K W1 y)=>HC.aa y (D.tr k)
   have q1:=J.blk.cells;have EX:=ae J;go_wp2_with fail
   have qs:=And.intro q1 (And.intro mI (And.intro E E));refine dK 11 ?_;iterate 10 refine ar.i ?_
   refine ar.op (λv W=>∃c,v=.chan (some c)/\W1.heap.size<=c/\kp c [] W) (λv W W' ⟨c,e,F,Q⟩ k=>⟨c,e,F,Q.aX (ag.aU k λ_=>False) id⟩) (λV W kW hp=>?_) ?_
   ·exact ai6
   intro V W kW hA;simp only[aN,aQ,b6,aJ,Nat.reduceAdd]at hA;obtain⟨f0,f1,f2,O,f4,f5,f6,f7,f8,L,⟨c2,R,ik,lD⟩,-⟩:=hA;have:=lD.lt;obtain⟨y,Z,u2,aFT,G⟩:=EX.aa.add (λp hp=>by
    rcases List.mem_append.1 hp with h|h
    ·exact UL par j p h
    ·simp at h;rw[h]) kW af lD ik λp hp=>by
    rcases List.mem_append.1 hp with h|h
    ·exact (HK.aa p h).2
    ·simp at h;rw[h];have:=ET.aa;intro e;injection e;omega
   have:=u2.size;replace G:=G (λk=>k<w.heap.size∨(w.heap.size<=k/\k<y.heap.size/\k≠u/\k≠u+1)) (λk=>w.heap.size<=k/\k<y.heap.size/\k≠u/\k≠u+1) ai7 (λ_ h=>.inr h) ai8;simp only[oh]at Z;refine aH.s (w':=y) ?_ (by simp[aF,List.lookup,ba,O,L,R,execOp,aG,Z,go_sem]);refine aH.e ?_;have S:=u2.k (D.tr kW) λk e=>e▸by have:=I.aa;omega
   rw[<- HS.aa]at G;have EV:=ae G;go_wp2;go_roundw
   case rel=>exact⟨j+1,af,af,bD,ae ⟨⟨_,EV.aa⟩,S,af⟩⟩
   case measure=>simp[intOf];omega
  ·have E:¬(j:Int)<par.length:=af;obtain rfl:j=par.length:=af;go_wp2;go_ret2;obtain⟨⟨ak,H⟩,B,-⟩:=HJ.aa;exact⟨_,rfl,⟨_,rfl,_,⟨_,_,H⟩,λk h=>⟨h.1,h.2.1⟩⟩,B⟩
end
theorem aeJ{α T j e z bytes}(u:fS prog j e z 1 bytes)(n:Nat)(hn:n<=1000000)(x:α)(hz:z.cells=#[z])(t:T.size=1)(F:∀w,T.rel x [z] w)(hb:bytes<=1000) W :
 (Instr.makeSlice j (.int .i64 n) (.int .i64 n)).run prog W=.ok (.slice (some ⟨W.heap.size,0,none⟩) n n) (W.alloc (.cells (madeCells #[z] n) e))/\aC (λ_=>True) W.heap.size e T (List.replicate n x) (.slice (some ⟨W.heap.size,0,none⟩) n n) (W.alloc (.cells (madeCells #[z] n) e)):=by
 obtain⟨i,D,C,B,A⟩:=u.fit
 have h9:(i.bytes:Int)*(n:Int)<=281474976710656:=by have:=Nat.mul_le_mul hb hn;rw[A,<- Int.natCast_mul];omega
 have h:=run_make (P:=prog) W j e i z u.und D C .i64 .i64 (n:Int) (n:Int) af af h9 af
 rw[B,hz]at h
 refine⟨aB,List.replicate n [z],?_,aj,λw' _=>⟨aj,λi t E=>aB⟩⟩
 have y:(List.replicate n [z]).flatten=List.replicate n z:=aj
 rw[y,t,List.length_replicate]
 exact OJ (xs:=List.replicate n z) (rest:=[]) (aD _) (by rw[List.append_nil,<- toList_madeCells_one];exact ah.new W e _) aj aj B6
structure EC(w:World)(par ai:List Int)(room gw gb:Nat)(vp vh vc vg:Value)(ds:List Nat)(vd:Value)(W:World):Prop where
 blk:ah W gw 83 #[vp,vh,.pointer none,vd,.map (some gb),vc,vg]
 map:dM encI W gb []
 p:aC (λ_=>True) w.heap.size 3 cL par vp W
 h:aC (λ_=>True) w.heap.size 3 cL ai vh W
 c:aC (λ_=>True) w.heap.size 3 cL (List.replicate ai.length 0) vc W
 g:aC (λ_=>True) w.heap.size 59 yo (List.replicate ai.length (.slice none 0 0)) vg W
 d:aC (λ_=>True) w.heap.size 84 yo (ds.map λg=>.pointer (some ⟨g,0,none⟩)) vd W
 ap:∀b,vc.ownBlock=some b->vp.ownBlock≠some b/\vh.ownBlock≠some b
 dk:∀(i:Nat) (hi:i<ds.length),gG ds[i] (.slice none 0 0) [] 0 room W/\w.heap.size<=ds[i]
 nd:ds.Nodup
 lo:w.heap.size<=gw/\w.heap.size<=gb
 k:K w W
theorem EC.push{w W W1 t par ai room gw gb vp vh vc vg vd v' ds}(h:EC w par ai room gw gb vp vh vc vg ds vd W)(J:K W W1)(Q:gG W.heap.size (.slice none 0 0) [] 0 room W1)
 (E:aC (λ_=>True) w.heap.size 84 yo ((ds.map λg=>.pointer (some ⟨g,0,none⟩))++[.pointer (some ⟨W.heap.size,0,none⟩)]) v' t) (hg:W1.grownBy t vd.ownBlock) :
 ah t gw 83 #[vp,vh,.pointer none,vd,.map (some gb),vc,vg]/\EC w par ai room gw gb vp vh vc vg (ds++[W.heap.size]) v' (t.setCell ⟨gw,3,none⟩ v'):=by
 obtain⟨X,hX⟩:∃X:Nat->Prop,X=λk=>vd.ownBlock=some k∨k=gw:=⟨_,rfl⟩
 have L:=h.blk.ay J
 have D:=L.grown hg λe=>by obtain⟨_,_,_,hb⟩:=h.d.own e.symm;exact QQ
 have u:ag X W (t.setCell ⟨gw,3,none⟩ v'):=((ag.aU J _).tr (ag.eP hg λk e=>by rw[hX];exact .inl e)).tr (ag.bK ai9 3 v')
 have I:∀b e cs,ah W b e cs->e≠84->e≠83->¬X b:=λb e cs hb B C j=>by
  rw[hX]at j;rcases j with j|rfl
  ·obtain⟨_,_,_,N⟩:=h.d.own j;exact B (hb.gY N)
  ·exact C (hb.gY h.blk)
 have F:∀k,X k->w.heap.size<=k/\k<W.heap.size:=λk hk=>by
  rw[hX]at hk;rcases hk with hk|rfl
  ·exact h.d.blk k hk
  ·exact⟨h.lo.1,h.blk.lt⟩
 have A:∀ {β:Type} {S:dV β} {e:TypeId} {l:List β} {v:Value},aC (λ_=>True) w.heap.size e S l v W->e≠84->e≠83->aC (λ_=>True) w.heap.size e S l v (t.setCell ⟨gw,3,none⟩ v'):=λh9 B C =>
  h9.to u (λ_ _=>trivial) (λk hk j=>by
   obtain⟨_,_,_,hb⟩:=h9.own hk;exact I k _ _ hb B C j) λ_ _ _=>.inl trivial
 refine⟨D,by simpa using D.aP 3 v',h.map.aX u λj=>?_,A h.p ax ax,A h.h ax ax,A h.c ax ax,A h.g ax ax,?_,h.ap,λi y=>?_,?_,h.lo,u.k h.k λk hk=>(F k hk).1⟩
 ·rw[hX]at j;rcases j with j|j
  ·obtain⟨_,_,_,hb⟩:=h.d.own j;exact h.map.cells hb
  ·have G:=h.blk;rw[<- j]at G;exact h.map.cells G
 ·rw[List.map_append];exact E.to (ag.bK (X:=λk=>k=gw) rfl 3 v') (λ_ _=>trivial) (λk hk e=>by
   obtain⟨_,_,_,hb⟩:=E.own hk;exact absurd (hb.gY (e▸D)) ax) λ_ _ _=>.inl trivial
 ·rw[dq]at y;by_cases h9:i<ds.length
  ·rw[List.getElem_append_left h9];obtain⟨H,R⟩:=h.dk i h9;refine⟨H.aX u λk hk=>?_,R⟩;rcases hk with rfl|hk
   ·exact I _ _ _ H.blk ax ax
   ·cases hk
  ·have e:i=ds.length:=by simp at y;omega
   subst e;rw[List.getElem_append_right (aD _)];simp only[Nat.sub_self,List.getElem_cons_zero];have O:ag X W1 (t.setCell ⟨gw,3,none⟩ v'):=(ag.eP hg λk e=>by rw[hX];exact .inl e).tr (ag.bK ai9 3 v');refine⟨Q.aX O λk hk j=>?_,h.k.size⟩;rcases hk with rfl|hk
   ·exact Nat.lt_irrefl _ (F _ j).2
   ·cases hk
 ·rw[List.nodup_append];refine⟨h.nd,aj,λa M b hb e=>?_⟩;simp at hb;obtain⟨i,y,rfl⟩:=List.mem_iff_getElem.1 M;have:=(h.dk i y).1.blk.lt;omega
def ny(par ai:List Int)(room j:Nat):bz :=
 ⟨par,ai,[],(List.range par.length).map λ(n:Nat)=>if n<j then ⟨some (tY n par ai ⟨dc (cR cV),room⟩ (cR cV)),⟨dc (cR cV),room⟩⟩else ⟨none,⟨[],room⟩⟩,ai.map λ_=>0,ai.map λ_=>[]⟩
theorem awd par ai room:{ ny par ai room par.length with cD:=F4 par }=rG par ai room:=by simp[ny,rG]
theorem XE{par ai room j}(t:j<par.length):(ny par ai room j).eC[j]?=some ⟨none,⟨[],room⟩⟩:=by simp[ny,t]
theorem aui{par ai room j}(A:j<par.length)(B:ir (dc (cR cV))<=room)(y:room<=1048576):qi (ny par ai room j) j=(ny par ai room (j+1),0):=by
 have e:=F6 (gU.new y);unfold qi;simp only[Int.toNat_natCast,XE A,Option.map_some,Option.getD_some,e,if_pos B];refine Prod.ext ?_ rfl;unfold rF nv ny;simp only[bz.mk.injEq,true_and,and_true,Int.toNat_natCast];refine List.ext_getElem aj λi u C=>?_
 simp only[List.length_set,List.length_map,List.length_range]at u;rw[List.getElem_set];simp only[List.getElem_map,List.getElem_range];by_cases t:j=i
 ·subst t;simp[tY]
 ·rw[if_neg t];by_cases h9:i<j
  ·rw[if_pos h9,if_pos af]
  ·rw[if_neg h9,if_neg af]
def yM(i:Nat):Prop:=2<=i/\i≠3
theorem EC.ov{w W par ai room gw gb vp vh vc vg vd ds}(h:EC w par ai room gw gb vp vh vc vg ds vd W)(H:ds.length=par.length) :
 ∃own,bn ⟨gw,gb,vp,vh,.pointer none,vd,vc,vg,List.replicate ai.length (.slice none 0 0),ds,[]⟩ own (ny par ai room 0) W yM/\(∀k,k<w.heap.size->own k=0)/\∀k,own k≠3:=by
 obtain⟨E,C⟩:∃E:Nat->Prop,E=λk=>k=gw∨k=gb∨vc.ownBlock=some k∨vg.ownBlock=some k:=⟨_,rfl⟩
 classical
 obtain⟨own,Q⟩:∃own:Nat->Nat,own=λk=>if E k then 2 else match (List.range ds.length).find? λi=>decide (ds[i]?=some k)with|some i=>2*i+4|none=>0:=⟨_,rfl⟩
 have F:∀k,E k->own k=2:=λk hk=>aB
 have I:∀(i gd:Nat),ds[i]?=some gd->∃cs,ah W gd 145 cs:=λi gd y=>by obtain⟨A,rfl⟩:=List.getElem?_eq_some_iff.1 y;exact⟨_,(h.dk i A).1.blk⟩
 have Z:∀k,E k->∀cs,¬ah W k 145 cs:=λk hk cs hb=>by
  rw[C]at hk;rcases hk with rfl|rfl|hk|hk
  ·exact QQ
  ·exact h.map.cells hb
  ·obtain⟨_,_,_,hb2⟩:=h.c.own hk;exact Cg
  ·obtain⟨_,_,_,hb2⟩:=h.g.own hk;exact Cg
 have T:∀(i gd:Nat),ds[i]?=some gd->own gd=2*i+4:=λi gd y=>by
  obtain⟨cs,hb⟩:=I i gd y
  rw[Q]
  simp only
  rw[if_neg λe=>Z gd e cs hb]
  obtain⟨hil,S⟩:=List.getElem?_eq_some_iff.1 y
  cases hf:(List.range ds.length).find? λi=>decide (ds[i]?=some gd)with
  | none =>
   grind
  | some j => have A:=List.find?_some hf;simp only[decide_eq_true_eq]at A;obtain⟨hjl,V⟩:=List.getElem?_eq_some_iff.1 A;have:i=j:=(List.getElem_inj h.nd).1 (S.trans V.symm);rw[this]
 have G:∀k,own k≠0->E k∨∃i,ds[i]?=some k/\own k=2*i+4:=λk hk=>by
  grind
 have N:∀k,own k≠0->w.heap.size<=k/\k<W.heap.size:=λk hk=>by
  rcases G k hk with t|⟨i,y,-⟩
  ·rw[C]at t;rcases t with rfl|rfl|t|t
   ·exact⟨h.lo.1,h.blk.lt⟩
   ·exact⟨h.lo.2,h.map.lt⟩
   ·exact h.c.blk k t
   ·exact h.g.blk k t
  ·obtain⟨A,rfl⟩:=List.getElem?_eq_some_iff.1 y;exact⟨(h.dk i A).2,(h.dk i A).1.blk.lt⟩
 have O:∀b cs,ah W b 3 cs->vc.ownBlock≠some b->¬own b≠0:=λb cs hb R hk=>by
  rcases G b hk with t|⟨i,y,-⟩
  ·rw[C]at t;rcases t with rfl|rfl|t|t
   ·exact QQ
   ·exact h.map.cells hb
   ·exact R t
   ·obtain⟨_,_,_,hb2⟩:=h.g.own t;exact Cg
  ·obtain⟨_,hb2⟩:=I i b y;exact Cg
 have DF:∀b,vd.ownBlock=some b->¬own b≠0:=λb U hk=>by
  obtain⟨_,_,_,hb⟩:=h.d.own U;rcases G b hk with t|⟨i,y,-⟩
  ·rw[C]at t;rcases t with rfl|rfl|t|t
   ·exact QQ
   ·exact h.map.cells hb
   ·obtain⟨_,_,_,hb2⟩:=h.c.own t;exact Cg
   ·obtain⟨_,_,_,hb2⟩:=h.g.own t;exact Cg
  ·obtain⟨_,hb2⟩:=I i b y;exact Cg
 have Y:=Lv (M:=λk=>own k≠0) h.p λb hb=>by obtain⟨_,_,cs,hb2⟩:=h.p.own hb;exact O b cs hb2 λe=>(h.ap b e).1 hb
 have X:=Lv (M:=λk=>own k≠0) h.h λb hb=>by obtain⟨_,_,cs,hb2⟩:=h.h.own hb;exact O b cs hb2 λe=>(h.ap b e).2 hb
 refine⟨own,⟨λk hk=>(N k hk).2,λW' u=>⟨Y W' u,X W' u,(h.d.to u (λ_ _=>trivial) DF (Y':=λ_=>True) λ_ _ _=>.inl trivial).aq⟩,λ_=>⟨h.blk,h.map,λ_ _=>rfl,?_,h.g.low (eE _),⟨F _ (by rw[C];exact .inl rfl),F _ (by rw[C];exact .inr (.inl rfl)),λk hk=>F k (by rw[C];exact .inr (.inr (.inl hk))),λk hk=>F k (by rw[C];exact .inr (.inr (.inr hk)))⟩,by simp[ny],aj⟩,λe=>absurd rfl e.2,λn x _ D=>?_,λc l _ H=>?_⟩,λk hk=>?_,λk=>?_⟩
 ·show aC _ 0 _ cL (ai.map λ_=>0) vc W;rw[List.map_const'];exact h.c.low (eE _)
 ·have hn:n<par.length:=by have:=(List.getElem?_eq_some_iff.1 D).1;simpa [ny]using this
  simp[ny,hn]at D;subst D;obtain⟨gd,L⟩:∃gd,ds[n]?=some gd:=⟨_,List.getElem?_eq_getElem af⟩;refine⟨gd,L,λB e=>Ai,λ_=>⟨rfl,.slice none 0 0,?_,λk hk=>⟨λD=>?_,hk.2⟩⟩⟩
  ·obtain⟨A,rfl⟩:=List.getElem?_eq_some_iff.1 L;exact (h.dk n A).1
  ·rcases D with rfl|D
   ·exact hk.1 (T n _ L)
   ·cases D
 ·have J:=(List.getElem?_eq_some_iff.1 H).1;simp only[ny,List.length_map]at J;simp[ny,J]at H;subst H;exact⟨.slice none 0 0,by simp[List.getElem?_replicate,J],aC.nil _ _ _ _ _,λk hk=>by cases hk⟩
 ·by_cases e:own k=0
  ·exact e
  ·have:=N k e;omega
 ·intro e;rcases G k af with t|⟨i,-,y⟩
  ·have:=F k t;omega
  ·omega
theorem bn.azo{W W1 H own O C y L}(h:bn H own O W yM)(S:∀k,own k≠3)(I:K W W1)(T:mU (λk=>k<W.heap.size∨C k) C y L W1)(E:∀k,C k->W.heap.size<=k/\k<W1.heap.size) :
 ∃t,bn { H with vn:=.pointer (some ⟨y,0,none⟩) } t { O with cD:=L } (W1.setCell ⟨H.gw,2,none⟩ (.pointer (some ⟨y,0,none⟩))) cK/\∀k,k<W.heap.size->t k=own k:=by
 classical
 obtain⟨t,J⟩:∃t:Nat->Nat,t=λk=>if C k then 3 else own k:=⟨_,rfl⟩
 have R:=h.lo
 have F:∀k,C k->t k=3:=λk hk=>by rw[J];exact if_pos hk
 have D:∀k,¬C k->t k=own k:=λk hk=>by rw[J];exact if_neg hk
 have A:∀k,k<W.heap.size->t k=own k:=λk hk=>D k λj=>by have:=E k j;omega
 have U:∀k,t k=3↔C k:=λk=>⟨λe=>by
  by_cases j:C k
  ·exact j
  ·rw[D k j]at e;exact absurd e (S k),F k⟩
 have M:∀k,t k≠0->k<W.heap.size∨C k:=λk e=>by
  by_cases j:C k
  ·exact .inr j
  ·rw[D k j]at e;exact .inl (R k e)
 have hz:=I.size
 have u:ag (λk=>k=H.gw) W (W1.setCell ⟨H.gw,2,none⟩ (.pointer (some ⟨y,0,none⟩))):=(ag.aU I _).tr (ag.bK (X:=λk=>k=H.gw) rfl 2 _)
 have:(W1.setCell ⟨H.gw,2,none⟩ (.pointer (some ⟨y,0,none⟩))).heap.size=W1.heap.size:=VO
 have j:=h.fc (show yM 2 by unfold yM;omega)
 have N:=j.own.1
 have G:=j.blk.lt
 have B:bn H t O _ (λi=>4<=i):=h.to u (λk e=>by subst e;rw[N];decide) (λi Z=>XF) A λk hk e=>by
  rcases M k e with h9|h9
  ·omega
  ·rw[F k h9];have:=E k h9;exact⟨af,ax⟩
 refine⟨t,⟨B.lo,B.fx,λ_=>⟨?_,j.map.aX u λe=>?_,j.oob,j.cur.to u (λ_ _=>trivial) (λk hk e=>?_) λ_ _ _=>.inl trivial,j.got.to u (λ_ _=>trivial) (λk hk e=>?_) λ_ _ _=>.inl trivial,⟨(A _ G).trans N,(A _ j.map.lt).trans j.own.2.1,λk hk=>(A k (j.cur.blk k hk).2).trans (j.own.2.2.1 k hk),λk hk=>(A k (j.got.blk k hk).2).trans (j.own.2.2.2 k hk)⟩,j.len,j.kn⟩,λ_=>⟨y,rfl,?_⟩,λn x _ Q=>B.brk n x af Q,λc l _ V=>B.got c l af V⟩,A⟩
 ·simpa using (j.blk.below I G).aP 2 (.pointer (some ⟨y,0,none⟩))
 ·have hb:=j.blk;rw[<- e]at hb;exact j.map.cells hb
 ·obtain⟨_,_,_,hb⟩:=j.cur.own hk;exact absurd (hb.gY (e▸j.blk)) ax
 ·obtain⟨_,_,_,hb⟩:=j.got.own hk;exact absurd (hb.gY (e▸j.blk)) ax
 ·rw[show (λk=>t k=3)=C from funext λk=>propext (U k)];exact T.to (ag.bK (X:=λk=>k=H.gw) rfl 2 _) (λk e=>.inl (e▸G)) (λk hk e=>by have:=E k hk;omega) (λk _ e=>M k e) λk hk=>by rw[F k hk];decide
theorem ayH:(prog.info? 59).map (λi=>(i.zero,i.size,i.bytes))=some (some (.slice none 0 0),1,24):=by rfl
theorem TGG:fS prog 79 59 (.slice none 0 0) 1 24:=⟨underlying79,ayH,rfl,ax⟩
theorem ayI:(prog.info? 84).map (λi=>(i.zero,i.size,i.bytes))=some (some (.pointer none),1,8):=by rfl
theorem TDk:fS prog 81 84 (.pointer none) 1 8:=⟨underlying81,ayI,rfl,ax⟩
theorem aeK{Y base e l v w}(h:aC Y base e cL l v w):aC (λ_=>True) base e cL l v w:=by obtain⟨css,u,j,t⟩:=h;have:=OM (t w (ag.rf _ _));exact⟨css,u,j,λw' _=>by grind [Fw]⟩
def pL(par ai:List Int)(room:Nat):Int:=if fK par then if kN par ai then if ir (dc (cR cV))<=room then 0 else 90 else 1 else 120
def vU(par ai:List Int)(room:Nat)(w:World)(e:Ending)(w':World):Prop:=if pL par ai room=0 then ∃H own,e=.returned (.tuple #[.pointer (some ⟨H.gw,0,none⟩),.int .i64 0])/\bn H own (rG par ai room) w' cK/\(∀k,k<w.heap.size->own k=0)/\K w w'
 else e=.returned (.tuple #[.pointer none,.int .i64 (pL par ai room)])/\K w w'
theorem vU.ok{par ai room w e w'} H own(h:pL par ai room=0/\e=.returned (.tuple #[.pointer (some ⟨H.gw,0,none⟩),.int .i64 0])/\bn H own (rG par ai room) w' cK/\(∀k,k<w.heap.size->own k=0)/\K w w'):vU par ai room w e w':=by unfold vU;rw[if_pos h.1];exact⟨H,own,h.2⟩
theorem vU.no{par ai room w e w'}(h:∃c:Int,(c==0)=false/\pL par ai room=c/\e=.returned (.tuple #[.pointer none,.int .i64 c])/\K w w'):vU par ai room w e w':=by obtain⟨c,hc,j,h⟩:=h;unfold vU;rw[j,if_neg DX];exact h
theorem auj{par ai:List Int}{room j:Nat}(C:fK par=true)(A:j<par.length)(y:room<=1048576) :xj (ny par ai room j) j=(if pL par ai room=0 then ny par ai room (j+1)else ny par ai room j,pL par ai room):=by
 have e:=F6 (gU.new y);have B:qi (ny par ai room j) j=if ir (dc (cR cV))<=room then (rF (ny par ai room j) j (tY j par ai ⟨dc (cR cV),room⟩ (cR cV)),0)else (ny par ai room j,90):=by unfold qi;simp only[Int.toNat_natCast,XE A,Option.map_some,Option.getD_some,e];rfl
 unfold xj pL;rw[if_pos C];show (if kN par ai=true then _ else _)=_;by_cases u:kN par ai=true
 ·rw[if_pos u,if_pos u];by_cases t:ir (dc (cR cV))<=room
  ·rw[if_pos t,if_pos rfl,aui A t y]
  ·rw[if_neg t,B,if_neg t];rfl
 ·rw[if_neg u,if_neg u];rfl
theorem ab7 par ai(room:Nat) v1 v2 w(y:aq cL par v1 w)(t:aq cL ai v2 w)(dX:par.length<=1000000)(lD:ai.length<=1000000)(Z:room<=1048576) :
 Calls prog 10 #[v1,v2,.int .i64 room] w (vU par ai room w):=by
 have wI:=ae λe w' H own h=>vU.ok (par:=par) (ai:=ai) (room:=room) (w:=w) (e:=e) (w':=w') H own h
 have wJ:=ae λe w' h=>vU.no (par:=par) (ai:=ai) (room:=room) (w:=w) (e:=e) (w':=w') h
 generalize vU par ai room w=PP at *
 have C1:=ae (Kz par v1 w y dX)
 by_cases E:fK par=true
 case neg =>
  have xu:xi par=120:=if_neg E;have HF:=ae λw' k=>wJ.aa _ w' ⟨(120:Int),ax,by unfold pL;rw[if_neg E],rfl,k⟩
  rw[xu]at C1;have hs1:=av y;have fH:=av t;obtain⟨A1,c1,rfl⟩:=hs1;obtain⟨A2,c2,rfl⟩:=fH;go_in;go_wp2_with fail
  apply aI C1.aa;intro F k1;go_wp2;exact HF.aa _ k1
 have:=(rU E).2
 have xu:xi par=0:=if_pos E
 rw[xu]at C1
 have H1:=ae y
 have H2:=ae t
 obtain⟨A1,c1,rfl⟩:=av y
 obtain⟨A2,c2,rfl⟩:=av t
 have HS:=ae (And.intro E Z)
 have mH:=λW=>aeJ (T:=cL) Dh ai.length af 0 rfl rfl (λ_=>rfl) af W
 have hm2:=λW=>aeJ (T:=yo) TGG ai.length af (.slice none 0 0) rfl rfl (λ_=>⟨rfl,rfl⟩) af W
 have HM1:=ae mH
 have HM2:=ae hm2
 have mk1:=λW=>(mH W).1
 have mk2:=λW=>(hm2 W).1
 have kk:=K.rf w
 go_in
 go_wp2_with fail
 apply cF C1.aa kk
 intro F k1 Kq
 have JL:=ae λW (k:K F W)=>bj H1.aa (Kq.tr k)
 have zH:=ae λW (k:K F W)=>bj H2.aa (Kq.tr k)
 go_wp2_with fail
 have qs:=And.intro mk1 mk2
 refine abx 11 [1,3,4,7,10] [([],[]),([0],[(21,0)]),([],[]),([2],[(23,2)]),([],[]),([],[]),([5],[(26,5)]),([6],[(27,6)]),([],[]),([8],[(29,8)]),([9],[(30,9)]),([1,3,4,7,10],[(22,1),(24,3),(25,4),(28,7),(31,10)]),([11],[(32,11)]),([0,1,2,3,4,5,6,7,8,9,10,11,12],[(33,12)])] 82 ?_
 refine ar.i ?_
 refine ar.ints F.heap.size par Dh af (λ_ k=>k.size) (λV W kW hp=>?_) ?_
 ·exact agU
 refine ar.i ?_
 refine ar.ints F.heap.size ai Dh af (λ_ k=>k.size) (λV W kW hp=>?_) ?_
 ·exact agV
 refine ar.op (λv W=>∃b,v=.map (some b)/\F.heap.size<=b/\dM encI W b []) (λ_ _ _ ⟨b,e,y,t⟩ k=>⟨b,e,y,t.st k⟩) (λV W kW hp=>?_) ?_
 ·simp[bO,execOp,aG,KC underlying78,cU];exact Wn
 iterate 2 refine ar.i ?_
 refine ar.op (λv W=>(∃b,v=.slice (some ⟨b,0,none⟩) ai.length ai.length)/\aC (λ_=>True) F.heap.size 3 cL (List.replicate ai.length 0) v W) (λ_ _ _ ⟨e,t⟩ k=>⟨e,t.st k⟩) (λV W kW hp=>?_) ?_
 ·simp only[cz,aN,aQ,bV,bW,aJ]at hp;simp[bO,aF,List.lookup,hp,execOp,aG,mk1,cU,go_sem];exact⟨(HM1.aa W).2.low kW.size,(K.rf W).al _⟩
 iterate 2 refine ar.i ?_
 refine ar.op (λv W=>(∃b,v=.slice (some ⟨b,0,none⟩) ai.length ai.length)/\aC (λ_=>True) F.heap.size 59 yo (List.replicate ai.length (.slice none 0 0)) v W) (λ_ _ _ ⟨e,t⟩ k=>⟨e,t.st k⟩) (λV W kW hp=>?_) ?_
 ·simp only[cz,aN,aQ,bV,bW,aJ]at hp;simp[bO,aF,List.lookup,hp,execOp,aG,mk2,cU,go_sem];exact⟨(HM2.aa W).2.low kW.size,(K.rf W).al _⟩
 refine⟨λk hk=>?_,λV W kW hne hA=>?_⟩
 ·simp at hk;rcases hk with rfl|rfl|rfl|rfl|rfl
  ·refine⟨_,_,rfl,rfl,rfl,λV W kW hp=>?_⟩;simp only[cz,aN,aQ,bV,bW,aJ]at hp;obtain⟨v,w',y,t,-⟩:=Vn par Dh (ty:=23) (s:=.const (.slice none 0 0)) (u:=.tmp 21) (ρ:=aF [(21,0)] _ V) (w:=W) af rfl aja;exact⟨v,w',y,t⟩
  ·refine⟨_,_,rfl,rfl,rfl,λV W kW hp=>?_⟩;simp only[cz,aN,aQ,bV,bW,aJ]at hp;obtain⟨v,w',y,t,-⟩:=Vn ai Dh (ty:=23) (s:=.const (.slice none 0 0)) (u:=.tmp 23) (ρ:=aF [(23,2)] _ V) (w:=W) af rfl ajb;exact⟨v,w',y,t⟩
  ·exact Wo
  ·refine⟨_,_,rfl,rfl,rfl,λV W kW hp=>⟨.slice (some ⟨W.heap.size,0,none⟩) ai.length ai.length,W.alloc (.cells (madeCells #[.int .i64 0] ai.length) 3),?_,λb hb=>?_⟩⟩
   ·simp only[cz,aN,aQ,bV,bW,aJ]at hp;simp[aF,List.lookup,hp,execOp,aG,mk1,go_sem]
   ·injection hb with hb;subst hb;simp
  ·refine⟨_,_,rfl,rfl,rfl,λV W kW hp=>⟨.slice (some ⟨W.heap.size,0,none⟩) ai.length ai.length,W.alloc (.cells (madeCells #[.slice none 0 0] ai.length) 59),?_,λb hb=>?_⟩⟩
   ·simp only[cz,aN,aQ,bV,bW,aJ]at hp;simp[aF,List.lookup,hp,execOp,aG,mk2,go_sem]
   ·injection hb with hb;subst hb;simp
 simp only[aN,aQ,b6,aJ,Nat.reduceAdd]at hA
 obtain⟨e0,fI,e2,bQ,⟨O,e4,il,Bm⟩,e5,e6,⟨⟨J,e7⟩,km⟩,e8,e9,⟨⟨b10,gu⟩,nY⟩,-⟩:=hA
 obtain⟨A5,c5,Y⟩:=fI.slice
 obtain⟨A6,c6,L⟩:=bQ.slice
 rw[Y]at fI
 rw[L]at bQ
 rw[e7]at km
 rw[gu]at nY
 have hap:∀b,some J=some b->(Value.slice A5 par.length c5).ownBlock≠some b/\(Value.slice A6 ai.length c6).ownBlock≠some b:=λb hb=>by
  injection hb with hb;subst hb;constructor
  ·intro e;exact hne 7 aj 1 aj ax rfl rfl J Wp (by rw[Y];exact e)
  ·intro e;exact hne 7 aj 3 aj ax rfl rfl J Wp (by rw[L];exact e)
 apply aH.pure
 rfl
 simp[aF,List.lookup,ba,Y,L,e4,e7,gu,execOp,aG,go_sem]
 rfl
 refine aH.val (.pointer (some ⟨W.heap.size,0,none⟩)) (W.alloc (.cells #[.slice A5 par.length c5,.slice A6 ai.length c6,.pointer none,.slice none 0 0,.map (some O),.slice (some ⟨J,0,none⟩) ai.length ai.length,.slice (some ⟨b10,0,none⟩) ai.length ai.length] 83)) rfl agW ?_
 apply aH.pure
 rfl
 simp[aF,List.lookup,ba,execOp,aG,go_sem]
 rfl
 refine aH.nil ?_
 simp only[fT,Act.put,rW,rh,qZ,Nat.reduceAdd,ba,e0,Y,e2,L,e4,e5,e6,e7,e8,e9,gu]
 have hbk:=ah.new W 83 #[.slice A5 par.length c5,.slice A6 ai.length c6,.pointer none,.slice none 0 0,.map (some O),.slice (some ⟨J,0,none⟩) ai.length ai.length,.slice (some ⟨b10,0,none⟩) ai.length ai.length]
 have U:=hbk.aS
 generalize hWa:W.alloc _=Wa at *
 generalize D:W.heap.size=gw at *
 generalize hvp:Value.slice A5 par.length c5=vp at *
 generalize hvh:Value.slice A6 ai.length c6=vh at *
 generalize mN:Value.slice (some ⟨J,0,none⟩) ai.length ai.length=vc at *
 generalize xS:Value.slice (some ⟨b10,0,none⟩) ai.length ai.length=vg at *
 have hz1:=Kq.size
 have:=kW.size
 have I:Hid (EC w par ai room gw O vp vh vc vg [] (.slice none 0 0) Wa):=ae ⟨hbk,Bm.st U,((aeK fI).st U).low hz1,((aeK bQ).st U).low hz1,(km.st U).low hz1,(nY.st U).low hz1,aC.nil _ _ _ _ _,by rw[<- mN];exact hap,λi hi=>Lg,List.nodup_nil,⟨af,af⟩,(Kq.tr kW).tr U⟩
 go_wp2_with fail
 go_loopw [36] (fun i W=>∃j:Nat,j<=par.length/\i=.int .i64 j/\Hid (∃ds vd,EC w par ai room gw O vp vh vc vg ds vd W/\ds.length=j)) (fun i _=>par.length-(intOf i).toNat)
 case atStart=>exact⟨0,eE _,rfl,ae ⟨_,_,I.aa,rfl⟩⟩
 case round =>
  obtain⟨j,hj,rfl,HJ⟩:=hrel;by_cases hlt:j<par.length
  ·have aO:(j:Int)<par.length:=af;obtain⟨ds,vd,R,Hs⟩:=HJ.aa;have HD:=ae Hs;have I:=ae R;go_wp2_with fail
   apply aI (agC room wr Z);rintro w2⟨hDk,k2⟩;have q:=(I.aa.blk.ay k2).cell;have HDk:=ae hDk;generalize hgd:wr.heap.size=gd at *;have kA:=K.new w2 (.cells #[.pointer (some ⟨gd,0,none⟩)] 84);have B:=(I.aa.d.st k2).st kA;have kW:=(I.aa.k.tr k2).tr kA;have hz2:=kW.size;have hrw:=ez.new (S:=yo) (e:=84) (N:=λk=>True∨vd.ownBlock=some k) (v:=.pointer (some ⟨gd,0,none⟩)) (x:=.pointer (some ⟨gd,0,none⟩)) (w:=w2) (λW u=>⟨rfl,rfl⟩) 0 (eE _);have HG:=ae (And.intro hgd (k2.tr kA));have Hs:(ds.map λg=>Value.pointer (some ⟨g,0,none⟩)).length<16:=by rw[List.length_map,HD.aa];omega
   go_wp2_with (at_builtin;refine jz rfl _ _ 81 rfl _ 1 8 TDk rfl rfl B _ rfl (.pointer (some ⟨gd,0,none⟩)) ?p1 ?p2 ?p3 ?_)
   case p1=>exact hrw
   case p2=>omega
   case p3=>exact hz2
   intro v9 w9 bE cd eS bq;obtain⟨ak4,hN9⟩:ah w9 gw 83 #[vp,vh,.pointer none,vd,.map (some O),vc,vg]/\EC w par ai room gw O vp vh vc vg (ds++[gd]) v9 (w9.setCell ⟨gw,3,none⟩ v9):=by obtain⟨rfl,kg⟩:=HG.aa;exact I.aa.push kg (HDk.aa.st ((K.rf w2).al _)) bE cd
   have HN9:=ae (And.intro hN9 (show (ds++[gd]).length=j+1 by rw[dq,HD.aa];rfl));obtain⟨A9,n9,c9,e9⟩:∃A n c,v9=.slice A n c:=by obtain⟨A,c,e⟩:=bE.slice;exact⟨_,_,_,e⟩
   subst e9;have q:=ak4.cell;have z:=ak4.frozen;go_wp2;go_roundw
   case rel=>exact⟨j+1,af,bD,ae ⟨_,_,HN9.aa.1,HN9.aa.2⟩⟩
   case measure=>simp[intOf];omega
  ·have aO:¬(j:Int)<par.length:=af;have he:j=par.length:=af;obtain⟨ds,vd,R,Hs⟩:=HJ.aa;obtain⟨own,ho⟩:=R.ov (Hs.trans he);have HO:=ae (And.intro ho R.k);go_wp2_with fail
   go_loopw [59] (fun i W=>∃j:Nat,j<=par.length/\i=.int .i64 j/\Hid (∃H own,bn H own (ny par ai room j) W yM/\H.gw=gw/\(∀k,k<w.heap.size->own k=0)/\(∀k,own k≠3)/\K w W/\(j=0∨pL par ai room=0))) (fun i _=>par.length-(intOf i).toNat)
   case atStart=>exact⟨0,eE _,rfl,ae ⟨_,_,HO.aa.1.1,rfl,HO.aa.1.2.1,HO.aa.1.2.2,HO.aa.2,.inl rfl⟩⟩
   case round =>
    obtain⟨j,hj,rfl,HJ⟩:=hrel;by_cases hlt:j<par.length
    ·have aO:(j:Int)<par.length:=af;obtain⟨H,own,B,D,M,fL,G,hz⟩:=HJ.aa;obtain⟨E,Z⟩:=HS.aa;have C:=abO B XF (λn=>XF) E (by simp[ny]) lD (XE hlt) (gU.new Z) ax;rw[auj E hlt Z,D]at C;have HC:=ae C;have Q:=ae (And.intro M (And.intro fL G));have HZ:Hid (pL par ai room=pL par ai room):=ae rfl;generalize hx:pL par ai room=nx at HC HZ;have pn:=ae hx;go_wp2_with fail
     refine HC.aa.mono ?_;rintro e w3⟨rfl,H',bL,y,t,h3,h4,h5⟩;have HK:Hid (K w w3):=ae (h3.k Q.aa.2.2 λk hk=>by
      obtain⟨a,b,c⟩:=Q.aa;by_cases h9:k<w.heap.size
      ·have:=a k h9;omega
      ·omega)
     by_cases hc:nx=0
     ·subst hc;have HE:=ae (show ∃H own,bn H own (ny par ai room (j+1)) w3 yM/\H.gw=gw/\(∀k,k<w.heap.size->own k=0)/\(∀k,own k≠3)/\K w w3/\(j+1=0∨pL par ai room=0)from ⟨H',bL,by rw[if_pos rfl]at y;exact y,t,λk hk=>by
       obtain⟨a,b,c⟩:=Q.aa;have:=c.size;rw[h4 k af];exact a k hk,λk hk=>Q.aa.2.1 k (h5 k hk),HK.aa,.inr pn.aa⟩)
      go_wp2;go_roundw
      case rel=>exact⟨j+1,af,bD,ae axF⟩
      case measure=>simp[intOf];omega
     ·have Zk:(nx==0)=false:=DX;have HF:=ae (wJ.aa _ w3 ⟨nx,Zk,pn.aa,rfl,HK.aa⟩);go_wp2;exact HF.aa
    ·have aO:¬(j:Int)<par.length:=af;have he:j=par.length:=af;obtain⟨H,own,B,D,M,fL,G,hz⟩:=HJ.aa;have HZ:=ae (hz.resolve_left (by have:=(rU HS.aa.1).1;omega));rw[he]at B;have C:=asp par (.slice A1 par.length c1) wr (bj H1.aa G) HS.aa.1;have hb:=(B.fc (show yM 2 by unfold yM;omega)).blk;rw[D]at hb;have HC:=ae C;have Q:=ae (And.intro B (And.intro D (And.intro M (And.intro fL G))));have HB:=ae hb;have HEQ:=ae (awd par ai room);go_wp2_with fail
     apply bN HC.aa;rintro x w4⟨⟨gn,rfl,C,R,hC⟩,k4⟩;have hb4:=HB.aa.ay k4;have q:=hb4.cell;have z:=hb4.frozen;have HF:Hid (∃H own,H.gw=gw/\bn H own (rG par ai room) (w4.setCell ⟨gw,2,none⟩ (.pointer (some ⟨gn,0,none⟩))) cK/\(∀k,k<w.heap.size->own k=0)/\K w (w4.setCell ⟨gw,2,none⟩ (.pointer (some ⟨gn,0,none⟩)))):=ae (by
      obtain⟨B,D,M,fL,G⟩:=Q.aa;obtain⟨bL,y,t⟩:=B.azo fL k4 R hC;have hz:=G.size;refine⟨_,bL,?_,by rw[<- HEQ.aa,<- D];exact y,λk hk=>(t k af).trans (M k hk),(ag.bK (X:=λk=>k=gw) rfl 2 _).k (G.tr k4) λk e=>?_⟩
      ·exact D
      ·by_cases h9:k<w.heap.size
       ·have om:=M k h9;have vX:=(B.fc (show yM 2 by unfold yM;omega)).own.1;rw[D,<- e]at vX;omega
       ·omega)
     go_wp2;obtain⟨H,own,Y,e2,L,e4⟩:=HF.aa;exact wI.aa _ _ H own ⟨HZ.aa,by rw[Y];rfl,e2,L,e4⟩
theorem aqS par ai room j t w(y:aq cL par j w)(B:aq cL ai t w)(ht:fK par=true)(u:kN par ai=true)(A:ir (dc (cR cV))<=room)(C:room<=1048576) :
 Calls prog 10 #[j,t,.int .i64 room] w λe w'=>∃H own,e=.returned (.tuple #[.pointer (some ⟨H.gw,0,none⟩),.int .i64 0])/\bn H own (rG par ai room) w' cK/\(∀k,k<w.heap.size->own k=0)/\K w w':=by
 refine (ab7 par ai room j t w y B Wm (by have:=K5 u;omega) C).mono ?_
 intro e w' h
 unfold vU pL at h
 rw[if_pos ht,if_pos u,if_pos A,if_pos rfl]at h
 exact h
theorem abP es v w(h:aq cI es v w)(N:es.length<=1000000)(F:∀e∈es,e.length<=1000000) :
 Calls prog 51 #[v] w λe w'=>∃v',e=.returned v'/\aV w.heap.size w.heap.size 51 cI es v' w'/\K w w':=by
 obtain⟨D,d,rfl,G,J⟩:=h
 have A:=ae F
 have B:=K.rf w
 go_in
 go_wp2_with fail
 go_loopw [3,5,8] (fun o _ i W=>∃j:Nat,j<=es.length/\i=.int .i64 j/\aV w.heap.size w.heap.size 51 cI (es.take j) o W/\K w W) (fun _ _ i _=>es.length-(intOf i).toNat)
 case atStart=>exact⟨0,af,rfl,FR,B⟩
 case round =>
  obtain⟨j,M,rfl,hO,kr⟩:=hrel;by_cases hlt:j<es.length
  ·have t:(j:Int)<es.length:=af;obtain⟨E,y,cs,rfl,L,hcl,⟨C,rfl,iF⟩,hcell⟩:=IU G j hlt ax;have H:wr.cell? ⟨E,y+j,none⟩=some C:=VT;have HT:Hid (es.take (j+1)=es.take j++[es[j]]):=ae II;have I:=A.aa _ (bT hlt);exact aht
  ·have t:¬(j:Int)<es.length:=af;exact aha
section
variable {S:Nat->Prop} {W W2:World} {H:lN} {own:Nat->Nat} {O:bz} {par ai:List Int} {k:Nat}
theorem bn.ak5(h:bn H own O W S)(t:S 2)(hs:oQ O){m}(hm:m<O.ai.length):∃b j c,H.vc=.slice (some ⟨b,j,none⟩) O.cur.length c/\∀W',K W W'->W'.cell? ⟨b,j+m,none⟩=some (.int .i64 ((O.cur[m]?).getD 0)):=by
 obtain⟨A,c,e,u,-⟩:=(Lv (M:=λ_=>False) (h.fc t).cur λ_ _=>id).now
 have:m<O.cur.length:=XG
 obtain⟨b,j,rfl,B⟩:=ints_at u af
 grind
theorem UM{c}(j:ky O c=true):∃m:Nat,c=(m:Int)/\m<O.ai.length:=by
 unfold ky at j
 simp only[dz,decide_eq_true_eq]at j
 obtain⟨m,rfl⟩:=Int.eq_ofNat_of_zero_le j.1
 grind
def D7(O:bz)(c:Int):Int:=if ky O c then (O.cur[c.toNat]?).getD 0 else 0
theorem aoq(h:bn H own O W S)(j:S 2)(hs:oQ O) c :
 Calls prog 25 #[.pointer (some ⟨H.gw,0,none⟩),.int .i64 c] W λe w'=>e=.returned (.int .i64 (D7 O c))/\w'=W:=by
 have C1:=ae (Ua h j c)
 have q:=(h.fc j).blk.cell
 have HR:Hid (D7 O c=if ky O c then (O.cur[c.toNat]?).getD 0 else 0):=ae rfl
 generalize D7 O c=R at *
 cases hc:ky O c
 ·rw[hc]at C1 HR;exact ajc
 ·rw[hc]at C1 HR;obtain⟨m,rfl,hm⟩:=UM hc;obtain⟨b,u,cc,e,t⟩:=h.ak5 j hs hm;have:=t W (K.rf W);have:(m:Int)<O.cur.length:=XG;rw[e]at q;simp only[if_true,Int.toNat_natCast]at HR;generalize (O.cur[m]?).getD 0=x at *;exact ajc
end
section
variable {S:Nat->Prop} {W W1:World} {H:lN} {own:Nat->Nat} {O:bz}
theorem aC.YT{α T Y base e}{l:List α}{v}(h:aC Y base e T l v W)(u:0<l.length):∃b cap,v=.slice (some ⟨b,0,none⟩) l.length cap:=by
 obtain⟨css,j,-⟩:=h;rcases j.2 with ⟨-,t⟩|⟨g,cap,cur,e,-⟩
 ·omega
 ·exact⟨g,cap,e⟩
theorem bn.ak6(h:bn H own O W S)(L:S 2){m}(hm:m<O.cur.length) x :
 ∃b cap cur,H.vc=.slice (some ⟨b,0,none⟩) O.cur.length cap/\own b=2/\ah W b 3 cur/\bn H own { O with cur:=O.cur.set m x } (W.setCell ⟨b,m,none⟩ (.int .i64 x)) S:=by
 obtain⟨E,C,J,A,B,⟨N,I,D,F⟩,T,G⟩:=h.fc L
 obtain⟨b,cap,e⟩:=A.YT af
 obtain⟨_,_,cur,hb⟩:=A.own (b:=b) Cd
 have M:=D b Cd
 have u:ag (λk=>k=b) W (W.setCell ⟨b,m,none⟩ (.int .i64 x)):=ag.bK (X:=λk=>k=b) rfl m _
 have t:bn H own O (W.setCell ⟨b,m,none⟩ (.int .i64 x)) λj=>S j/\j≠2:=h.to u (λk e=>aB) (λ_ h=>h.1) (λ_ _=>rfl) λk hk e=>XB
 refine⟨b,cap,cur,e,M,hb,t.lo,t.fx,λ_=>⟨E.aX u λe=>by subst e;exact absurd (E.gY hb) (by decide),C.aX u λe=>(e▸C).cells hb,J,?_,B.to u (λ_ _=>trivial) (λk hk e=>?_) λ_ _ _=>.inl trivial,⟨N,I,D,F⟩,T,G⟩,λR=>t.cD ⟨R,af⟩,λn y hn=>t.brk n y ⟨hn,af⟩,λc l Q=>t.got c l ⟨Q,af⟩⟩
 ·rw[e]at A⊢;have:=A.YN hm (y:=x) (cs:=[.int .i64 x]) rfl (λ_ _=>rfl);simpa [dY,show cL.size=1 from rfl]using this
 ·obtain⟨_,_,U,hb2⟩:=B.own hk;subst e;exact Cg
theorem bn.aAL(h:bn H own O W S)(h2:S 2){c}(hS:S (2*c+5)){l}(hl:O.got[c]?=some l){v v'}(hv:H.vs[c]?=some v){x}
 (I:ag (λk=>v.ownBlock=some k) W W1) (Q:aC (λk=>own k≠0) 0 37 (AW cI) (l++[x]) v' W1) (hat:∀b,v'.ownBlock=some b->v.ownBlock=some b∨W.heap.size<=b) :
 ∃b cap cur,H.vg=.slice (some ⟨b,0,none⟩) O.got.length cap/\own b=2/\ah W1 b 59 cur/\∃B,bn { H with vs:=H.vs.set c v' } B { O with got:=O.got.set c (l++[x]) } (W1.setCell ⟨b,c,none⟩ v') S/\∀k,k<W.heap.size->B k=own k:=by
 obtain⟨U,R,a3,M,G,⟨b1,b2,b3,V⟩,a7,a8⟩:=h.fc h2
 have hcl:=(List.getElem?_eq_some_iff.1 hl).1
 obtain⟨v0,E,lJ,F⟩:=h.got c l hS hl
 rw[hv]at E
 injection E with E
 subst E
 obtain⟨b,cap,e⟩:=G.YT (W:=W) af
 rw[a7]at e
 obtain⟨_,bS,cur,hb⟩:=G.own (b:=b) Cd
 have ob:=V b Cd
 have aR:=hb.aX I λe1=>aB
 have hz1:=I.size
 have T:ag (λk=>k=b) W1 (W1.setCell ⟨b,c,none⟩ v'):=ag.bK (X:=λk=>k=b) rfl c _
 have hz2:=T.size
 have u:ag (λk=>v.ownBlock=some k∨k=b) W (W1.setCell ⟨b,c,none⟩ v'):=(I.more λk e=>.inl e).tr (T.more λk e=>.inr e)
 have hX:∀k,v.ownBlock=some k∨k=b->own k=2*c+5∨own k=2:=λk hk=>hk.imp (F k) λe=>aB
 obtain⟨B,oq⟩:∃B:Nat->Nat,B=λk=>if W.heap.size<=k then (if v'.ownBlock=some k then 2*c+5 else 0)else own k:=⟨_,rfl⟩
 have C:∀k,k<W.heap.size->B k=own k:=λk hk=>aB
 have jM:∀k,W.heap.size<=k->B k≠0->v'.ownBlock=some k/\B k=2*c+5:=λk hk hn=>by
  grind
 have aFg:∀k,W.heap.size<=k->v'.ownBlock=some k->B k=2*c+5:=λk hk t=>by
  grind
 clear oq
 have D:bn H B O (W1.setCell ⟨b,c,none⟩ v') λj=>S j/\j≠2/\j≠2*c+5:=h.to u (λk hk=>by have:=hX k hk;constructor <;> omega) (λ_ h=>h.1) C λk hk hn=>by obtain⟨N,Z⟩:=jM k hk hn;have:=(Q.blk k N).2;exact⟨af,af⟩
 have aAM:∀k,v'.ownBlock=some k->k≠b:=λk hk t=>by
  grind
 have aAN:∀k,v'.ownBlock=some k->B k=2*c+5:=λk hk=>by
  grind
 refine⟨b,cap,cur,e,ob,aR,B,⟨D.lo,D.fx,λ_=>⟨U.aX u λt=>?_,R.aX u λt=>?_,a3,M.to u (λ_ _=>trivial) (λk hk t=>?_) λ_ _ _=>.inl trivial,?_,⟨(C _ U.lt).trans b1,(C _ R.lt).trans b2,λk hk=>(C k (M.blk k hk).2).trans (b3 k hk),λk hk=>(C k (G.blk k hk).2).trans (V k hk)⟩,aB,a8⟩,λh3=>D.cD ⟨h3,af,af⟩,λn y hn=>D.brk n y ⟨hn,af,af⟩,λc2 l2 hc J=>?_⟩,C⟩
 ·rcases t with t|t
  ·grind
  ·subst t;exact absurd (U.gY hb) ax
 ·rcases t with t|t
  ·have:=F _ t;omega
  ·exact (t▸R).cells hb
 ·rcases t with t|t
  ·have:=F _ t;have:=b3 k hk;omega
  ·obtain⟨_,_,Rn,hb2⟩:=M.own hk;subst t;exact Cg
 ·have a6:=G.to I (λ_ _=>trivial) (λk hk t=>by have:=F _ t;have:=V k hk;omega) (Y':=λ_=>True) λ_ _ _=>.inl trivial
  have Y:=e;rw[<- a7]at Y;rw[Y]at a6;show aC _ 0 _ yo (H.vs.set c v') H.vg _;rw[Y];obtain⟨A,cc,rfl⟩:=Q.slice;have:=a6.YN (j:=c) af (y:=.slice A (l++[x]).length cc) (cs:=[.slice A (l++[x]).length cc]) rfl (λ_ _=>⟨rfl,rfl⟩);simpa [dY,show yo.size=1 from rfl]using this
 ·by_cases L:c=c2
  ·subst L;simp only[List.getElem?_set_self hcl,Option.some.injEq]at J;subst J;exact⟨v',by rw[List.getElem?_set_self (by omega)],Q.to T (λk t=>by subst t;omega) aAM λk hk hn=>by
    by_cases h9:k<W.heap.size
    ·exact .inl (C k h9▸hn)
    ·exact .inr (jM k af hn).1,aAN⟩
  ·rw[List.getElem?_set_ne L]at J;obtain⟨v2,N,Z⟩:=D.got c2 l2 ⟨hc,af,af⟩ J;exact⟨v2,by rw[List.getElem?_set_ne L];exact N,Z⟩
end
section
variable {W W2:World} {H:lN} {own:Nat->Nat} {O:bz}
theorem bn.YU(h:bn H own O W cK)(y:oQ O) c :
 (∃d:Int,(d != 0)=true/\lZ H O c=(.pointer none,d)/\(∀ {α:Type} (z:α) f,ue O c z f=(O,z,d))/\(ky O c&&(cZ O (nS O c)).isSome)=false) ∨
 ∃n B gd g,n<O.eC.length/\H.ds[n]?=some gd/\cT H.ak (n:Int)=some (.pointer (some ⟨g,0,none⟩))/\cZ O (n:Int)=some B/\lZ H O c=(.pointer (some ⟨g,0,none⟩),0)/\nS O c=(n:Int)/\ky O c=true /\
  (∀j,K W j->dt (λk=>own k≠0/\own k≠2*n+4) (λk=>own k≠2*n+4/\k<j.heap.size) g gd B j)/\∀ {α:Type} (z:α) f,ue O c z f=(rF O n (f B).1,(f B).2):=by
 unfold lZ ue
 cases ky O c
 ·exact .inl ⟨1,rfl,rfl,λ_ _=>rfl,rfl⟩
 ·simp only[if_true];cases hu:cZ O (nS O c)with
  | none=>exact .inl ⟨210,rfl,rfl,λ_ _=>rfl,rfl⟩
  | some B =>
   have t:=hu;unfold cZ ko fY at t;split at t
   ·next hi =>
    simp only[dz,decide_eq_true_eq]at hi;obtain⟨n,hn⟩:=Int.eq_ofNat_of_zero_le hi.1;rw[hn]at hu⊢;obtain⟨gd,g,A,u,-⟩:=h.up (pB n) y.ln hu;rw[u];refine .inr ⟨n,B,gd,g,aB,A,u,hu,rfl,rfl,trivial,λj C=>?_,λ_ _=>rfl⟩;obtain⟨F,D,G,E,I⟩:=(h.st C).up (pB n) y.ln hu;grind
   ·cases t
theorem bn.via{α fb}{args:Value->Array Value}{ret:α×Int->Value}(h:bn H own O W cK)(G:oQ O) c z f
 (F:∀m B,cZ O m=some B->∀X Z g gd j,K W j->dt X Z g gd B j->Calls prog fb (args (.pointer (some ⟨g,0,none⟩))) j λe w'=>e=.returned (ret (f B).2)/\dt X Z g gd (f B).1 w'/\ag (λk=>¬Z k) j w') :
 (∃d:Int,(d != 0)=true/\lZ H O c=(.pointer none,d)/\ue O c z f=(O,z,d)/\(ky O c&&(cZ O (nS O c)).isSome)=false) ∨
 ∃g y r,lZ H O c=(.pointer (some ⟨g,0,none⟩),0)/\ue O c z f=(y,r)/\(ky O c&&(cZ O (nS O c)).isSome)=true/\∀j,K W j->Calls prog fb (args (.pointer (some ⟨g,0,none⟩))) j λe w'=>e=.returned (ret r)/\cQ H own y W w':=by
 rcases h.YU G c with ⟨d,A,C,u,D⟩|⟨n,B,gd,g,A,C,u,D,E,h6,h7,h8,h9⟩
 ·grind
 ·exact .inr ⟨g,_,_,E,h9 z f,aB,λj t=>(F _ _ D _ _ _ _ j t (h8 j t)).mono λe w' ⟨I,om,vX⟩=>⟨I,cQ.k t ((h.st t).ak3 A C u om vX)⟩⟩
theorem cQ.keep{y t cs W1 j}(h:cQ H (jb own 1 W W1) y W1 W2)(hg:W.heap.size<=j)(hb:ah W1 j t cs):ah W2 j t cs:=by obtain⟨_,_,_,_,u,_⟩:=h;exact hb.aX u λe=>by grind [jb]
theorem cQ.id3{j z}(h:cQ H (jb own 1 W (W.alloc (.cells z 26))) j (W.alloc (.cells z 26)) W2) x y u(hz:z.size=3) :
 cQ H own j W (((W2.setCell ⟨W.heap.size,0,none⟩ x).setCell ⟨W.heap.size,1,none⟩ y).setCell ⟨W.heap.size,2,none⟩ u)/\∀i,(((W2.setCell ⟨W.heap.size,0,none⟩ x).setCell ⟨W.heap.size,1,none⟩ y).setCell ⟨W.heap.size,2,none⟩ u).cell? ⟨W.heap.size,i,none⟩=#[x,y,u][i]?:=by
 have hb:=ah.new W 26 z
 refine⟨h.E5 hb.aS (aD _) hb.lt (ag.sets (X:=λk=>k=W.heap.size) rfl [x,y,u] 0 W2),?_⟩
 have:=(((h.keep (aD _) hb).aP 0 x).aP 1 y).aP 2 u
 obtain⟨l⟩:=z
 match l,hz with
 | [a,b,c],_=>exact this.cell
theorem aoV(h:bn H own O W cK)(N:oQ O) c(hc:bR c)(hn:∀n B,cZ O n=some B->B.calls+1<4611686018427387904) :
 Calls prog 14 #[.pointer (some ⟨H.gw,0,none⟩),.int .i64 c] W λe w'=>e=.returned (.tuple #[cA (uZ O c).2.1,.int .i64 (uZ O c).2.2])/\cQ H own (uZ O c).1 W w':=by
 have Q:=ah.new W 26 #[.int .i64 0,.int .u64 0,.int .u64 0]
 have C:=h.E5 Q.aS
 have A:=ae (OT C p2 pB N c)
 have D:=ae λ(I:bz) (F:World) (M:cQ H _ I _ F)=>And.intro (M.keep (aD _) Q) (@cQ.id3 W F H own I _ M)
 have HV:=C.via (ret:=λr=>.tuple #[cA r.1,.int .i64 r.2]) (args:=λv=>#[v,.int .i64 c]) N c (0,0,0) (λB=>xg B c) λn B U X Z g gd F j hL=>ayD hL c hc (hn n B U)
 have S:Hid (uZ O c=ue O c (0,0,0) λB=>xg B c):=ae rfl
 generalize uZ O c=R at *
 rcases HV with ⟨d,hne,G,E,-⟩|⟨g,I,r,G,E,-,C2⟩
 ·have HR:Hid (R=(O,(0,0,0),d)):=ae (S.aa.trans E);have L:=ae λt (j:K _ t)=>D.aa _ _ (C.now j)
  rw[G]at A;go_in;go_wp2_with fail
  apply aI A.aa;intro t j;have u:=(L.aa t j).1;have J:=ae ((L.aa t j).2 (.int .i64 0) (.int .u64 0) (.int .u64 0) rfl);have qr:=u.cell;have V:=u.frozen;go_wp2;obtain⟨hF,e9⟩:=J.aa;refine bodyPost_ret (v:=.tuple #[cA (0,0,0),.int .i64 d]) ajd rfl ?_;exact QR
 ·obtain⟨y,ec⟩:=r;have HR:=ae (S.aa.trans E);have Ov:=ae C2;rw[G]at A;go_in;go_wp2_with fail
  apply aI A.aa;intro t j;have Y:=ae (Ov.aa t j);go_wp2_with fail
  apply aI Y.aa;intro w3 T;have u:=(D.aa _ _ T).1;have J:=ae ((D.aa _ _ T).2 (.int .i64 y.1) (.int .u64 y.2.1) (.int .u64 y.2.2) rfl);have qr:=u.cell;have V:=u.frozen;go_wp2;obtain⟨hF,e9⟩:=J.aa;refine bodyPost_ret (v:=.tuple #[cA y,.int .i64 ec]) ajd rfl ?_;exact QR
theorem aqT(h:bn H own O W cK)(Q:oQ O) c(hc:bR c)(n:Nat)(hn':n<18446744073709551616) f vf(hf:eI f vf W)(hfit:∀t∈f,iB t)(cN:f.length<=1000000)(hn:∀n B,cZ O n=some B->B.calls+1<4611686018427387904) :
 Calls prog 32 #[.pointer (some ⟨H.gw,0,none⟩),.int .i64 c,.int .u64 n,vf] W λe w'=>e=.returned (.tuple #[cA (y9 O c n f).2.1,.int .i64 (y9 O c n f).2.2])/\cQ H own (y9 O c n f).1 W w':=by
 have S:=ah.new W 26 #[.int .i64 0,.int .u64 0,.int .u64 0]
 have D:=h.E5 S.aS
 have C:=ae (OT D p2 pB Q c)
 have E:=ae λ(J:bz) (G:World) (N:cQ H _ J _ G)=>And.intro (N.keep (aD _) S) (@cQ.id3 W G H own J _ N)
 have HV:=D.via (ret:=λr=>.tuple #[cA r.1,.int .i64 r.2]) (args:=λv=>#[v,.int .i64 c,.int .u64 n,vf]) Q c (0,0,0) (λB=>yV B c n f) λm B V X Z g gd G j hL=>aAI hL c hc (hn m B V) n hn' f vf (eu f vf _ _ hf ((K.new W (.cells #[.int .i64 0,.int .u64 0,.int .u64 0] 26)).tr j)) hfit cN
 have T:Hid (y9 O c n f=ue O c (0,0,0) λB=>yV B c n f):=ae rfl
 generalize y9 O c n f=R at *
 rcases HV with ⟨d,hne,I,F,-⟩|⟨g,J,r,I,F,-,C2⟩
 ·have HR:Hid (R=(O,(0,0,0),d)):=ae (T.aa.trans F);have M:=ae λu (j:K _ u)=>E.aa _ _ (D.now j)
  rw[I]at C;go_in;go_wp2_with fail
  apply aI C.aa;intro u j;have y:=(M.aa u j).1;have L:=ae ((M.aa u j).2 (.int .i64 0) (.int .u64 0) (.int .u64 0) rfl);have qr:=y.cell;have Y:=y.frozen;go_wp2;obtain⟨hF,e9⟩:=L.aa;refine bodyPost_ret (v:=.tuple #[cA (0,0,0),.int .i64 d]) aje rfl ?_;exact QR
 ·obtain⟨A,ec⟩:=r;have HR:=ae (T.aa.trans F);have Ov:=ae C2;rw[I]at C;go_in;go_wp2_with fail
  apply aI C.aa;intro u j;have C3:=ae (Ov.aa u j);go_wp2_with fail
  apply aI C3.aa;intro w3 U;have y:=(E.aa _ _ U).1;have L:=ae ((E.aa _ _ U).2 (.int .i64 A.1) (.int .u64 A.2.1) (.int .u64 A.2.2) rfl);have qr:=y.cell;have Y:=y.frozen;go_wp2;obtain⟨hF,e9⟩:=L.aa;refine bodyPost_ret (v:=.tuple #[cA A,.int .i64 ec]) aje rfl ?_;exact QR
end
