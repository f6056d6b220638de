/-
  The overlay (layer 21) and its net (layer 14), in plain Lean. Conditions: none.
-/
import Derived.Test.YtfndfpdhlbmboaaGreatMq1a
import Derived.Deep.CutBlock
import Derived.Test.YtfndfpdhlbmboaaGreatMqz
set_option maxRecDepth 100000
set_option maxHeartbeats 16000000
set_option linter.all false
namespace Go.Proofs.YtfndfpdhlbmboaaGreat
open Go Go.RowKit _root_.Go.Proofs.Tryz
abbrev iV:=(Int×Int)×List (List UInt8)
def lM(L:List iV)(k:Int×Int):Option (List (List UInt8)):=(L.find? λp=>decide (p.1=k)).map (·.2)
def iE(L:List iV)(k:Int×Int)(l:List (List UInt8)):List iV:=L.map λp=>if p.1=k then (p.1,l)else p
def ud(L:List iV)(k:Int×Int)(b:List UInt8):List iV:=match lM L k with
 | some l=>if l.length<8 then iE L k (l++[b])else L
 | none=>L
structure Hw where
 up:Option bf
 dk:pc
structure bz where
 par:List Int
 ai:List Int
 cD:List iV
 eC:List Hw
 cur:List Int
 got:List (List (List (List cM)))
structure oQ(O:bz):Prop where
 tr:fK O.par=true
 hm:kN O.par O.ai=true
 ln:O.eC.length=O.par.length
 lc:O.cur.length=O.ai.length
 lg:O.got.length=O.ai.length
def ko(O:bz)(n:Int):Bool:=fY O.par n
def cZ(O:bz)(n:Int):Option bf:=if ko O n then (O.eC[n.toNat]?).bind (·.up)else none
def nv(O:bz)(n:Int)(x:Hw):bz:={ O with eC:=O.eC.set n.toNat x }
def rF(O:bz)(n:Int)(B:bf):bz:=nv O n ⟨some B,B.dk⟩
def ky(O:bz)(c:Int):Bool:=decide (0<=c)&&decide (c<(O.ai.length:Int))
def nS(O:bz)(c:Int):Int:=(O.ai[c.toNat]?).getD 0
def ue{α:Type}(O:bz)(c:Int)(z:α)(f:bf->bf×α×Int):bz×α×Int :=
 if ky O c then (match cZ O (nS O c)with|none=>(O,z,210)|some B=>(rF O (nS O c) (f B).1,(f B).2))else (O,z,1)
def tF{α:Type}(O:bz)(c:Int)(a:aT)(z:α)(f:bf->bf×α×Int):bz×α×Int :=
 if ky O c&&(cZ O (nS O c)).isSome&&decide (a.1≠nS O c)then (O,z,1)else ue O c z f
def uZ(O:bz)(c:Int):bz×aT×Int:=ue O c (0,0,0) λB=>xg B c
def y9(O:bz)(c:Int)(n:Nat)(f:List cX):bz×aT×Int:=ue O c (0,0,0) λB=>yV B c n f
def ia(O:bz)(c:Int)(a:aT)(f:List eo->List eo×Int):bz×Unit×Int:=tF O c a () λB=>((dR B (f B.aA)).1,(),(dR B (f B.aA)).2)
def tU(O:bz)(n:Int):bz×Int:=if ko O n then (match cZ O n with|none=>(O,210)|some B=>(nv O n ⟨none,B.dk⟩,0))else (O,1)
def Ff(d:pc):dy:=(jl cV d.eZ).getD cV
def qi(O:bz)(n:Int):bz×Int :=
 let d:=((O.eC[n.toNat]?).map (·.dk)).getD ⟨[],0⟩
 if ir (dc (cR (Ff d)))<=d.room then (rF O n (tY n O.par O.ai ⟨dc (cR (Ff d)),d.room⟩ (cR (Ff d))),0)else (O,90)
def tL(O:bz)(n:Int):bz×Int:=if ko O n then (if (cZ O n).isSome then (O,210)else qi O n)else (O,1)
def F4(par:List Int):List iV:=(List.range par.length).tail.flatMap λ(k:Nat)=>let p:=(par[k]?).getD 0;[(((k:Int),p),[]),((p,(k:Int)),[])]
def rG(par ai:List Int)(room:Nat):bz :=
 ⟨par,ai,F4 par,(List.range par.length).map λ(n:Nat)=>let d:pc:=⟨dc (cR cV),room⟩;⟨some (tY n par ai d (cR cV)),d⟩,ai.map λ_=>0,ai.map λ_=>[]⟩
structure fU(B B':bf):Prop where
 list:B.st.list <+: B'.st.list
 ab:B.st.ab <+: B'.st.ab
 life:B'.st.life=B.st.life
theorem fU.rf B:fU B B:=⟨List.prefix_refl _,List.prefix_refl _,rfl⟩
theorem fU.tr{A B C}(h:fU A B)(k:fU B C):fU A C:=⟨h.list.trans k.list,h.ab.trans k.ab,k.life.trans h.life⟩
structure iw(B:bf):Prop where
 ab:∀a∈B.st.ab,bU B.st.list a=false
 prom:B.st.prom.length<=6
theorem avZ{B}(h:iw B) c j:fU B (js B c j).1/\iw (js B c j).1:=by
 unfold js;split
 ·exact aiE
 ·grind [fU.rf]
theorem av0{B}(h:iw B) r:fU B (dR B r).1/\iw (dR B r).1:=by unfold dR;exact aiE
def gQ(l:List eo):Prop:=∀t∈l,t.asked=false->t.e.kind=1
theorem gQ.nil:gQ []:=λt h=>by simp at h
theorem gQ.add{l}(h:gQ l) t(u:t.asked=true∨t.e.kind=1):gQ (vK l t).1:=by
 unfold vK
 repeat' split
 all_goals first|exact h|skip
 intro s j
 rcases List.mem_append.1 j with j|j
 ·exact h s j
 grind
theorem gQ.set{l}(h:gQ l) k t(A:t.asked=true∨t.e.kind=1):gQ (l.set k t):=λs u=>by
 rcases List.mem_or_eq_of_mem_set u with u|rfl
 ·exact h s u
 ·intro y;rcases A with j|j
  ·rw[y]at j;cases j
  ·exact j
structure fF(B:bf):Prop extends bC B where
 sL:gQ B.aA
theorem bC.put{B}(j:bC B){l n}(t:jx l)(hn:n<4611686018427387904):bC { B with aA:=l,calls:=n } :=
 ⟨j.tr,j.me,j.hm,j.dk,t,hn,j.bI,j.told,j.fB,j.waits,j.y5⟩
theorem fF.put{B}(j:fF B){l n}(t:jx l)(hk:gQ l)(hn:n<4611686018427387904):fF { B with aA:=l,calls:=n } :=
 ⟨j.tobC.put t hn,hk⟩
theorem fF.call{B}(t:fF B)(hn:B.calls+1<4611686018427387904) c{j}(u:jx j.1)(hk:gQ j.1):fF (js B c j).1:=by
 unfold js;split
 ·split
  ·exact t.put u hk hn
  ·exact t
 ·exact t
theorem fF.begin{B}(j:fF B)(hn:B.calls+1<4611686018427387904){c}(u:bR c):fF (xg B c).1:=by have t:=j.new;exact j.call hn c (P8 j.tx _ ⟨by simp[vL,bR],t.1,u,t.2.1,t.2.2,IH,IH,IH⟩) (j.sL.add _ (.inr rfl))
theorem fF.ask{B}(j:fF B)(hn:B.calls+1<4611686018427387904){k c}(hk:bR k)(y:bR c){n}(A:n<18446744073709551616){f}(C:∀t∈f,iB t):fF (js B c (xv B.aA (rE B k c n f))).1:=by have u:=j.new;exact j.call hn c (P8 j.tx _ ⟨hk,u.1,y,u.2.1,u.2.2,A,C,by simp[rE]⟩) (j.sL.add _ (.inl rfl))
theorem fF.keep{B}(j:fF B){r}(t:jx r.1)(hk:gQ r.1):fF (dR B r).1:=by
 unfold dR;split
 ·exact j.put t hk j.calls
 ·exact j
section
variable {P:bf->Prop}
end
structure j0(B:bf)(n:Nat):Prop where
 inv:iw B
 fit:kO B
 told:B.told.length<=16*n
 calls:B.calls<=n
section
variable {B:bf} {n:Nat}
theorem j0.call(h:j0 B n) c j:j0 (js B c j).1 (n+1):=by
 have h1:=(avZ h.inv c j).2;have h2:(js B c j).1.told=B.told/\(js B c j).1.refused=B.refused/\(js B c j).1.bI=B.bI/\(js B c j).1.calls<=B.calls+1:=by
  grind [js]
 exact aiF
theorem j0.keep(h:j0 B n) r:j0 (dR B r).1 (n+1):=by
 have h1:=(av0 h.inv r).2;have h2:(dR B r).1.told=B.told/\(dR B r).1.refused=B.refused/\(dR B r).1.bI=B.bI/\(dR B r).1.calls=B.calls:=by
  grind [dR]
 exact aiF
end
theorem ad2{α:Type}[DecidableEq α]{k:α}:∀ {ak:List (α×Value)} {i:Nat},fW k ak i=none->∀p∈ak,p.1≠k
 | [],_,_=>aj
 | q :: r,i,h=>by
  unfold fW at h;split at h
  ·cases h
  ·rename_i j;intro p hp;rcases List.mem_cons.1 hp with rfl|hp
   ·exact j
   ·exact ad2 h p hp
theorem Cy.put{l ak W}(h:Cy l ak W)(hn:(l.map (·.1)).Nodup){k m v}(hm:lI m v W):Cy (mw l k m) (r7 ak k v) W:=by
 have B:=h.1
 cases hi:fW k ak 0 with
 | none =>
  have t:=ad2 hi;have A:¬(l.any λp=>decide (p.1=k))=true:=by rw[List.any_eq_true];rintro ⟨p,hp,e⟩;obtain⟨j,hj,rfl⟩:=List.mem_iff_getElem.1 hp;have:=(h.2 j af hj).1;exact t _ (bT (show j<ak.length by omega)) (this.trans Lp)
  unfold mw r7;rw[hi,if_neg A];refine⟨by simp[B],λj F h4=>?_⟩;by_cases hj:j<l.length
  ·rw[List.getElem_append_left (show j<ak.length by omega),List.getElem_append_left hj];exact h.2 j _ _
  ·have e:j=l.length:=by simp at h4;omega
   subst e;rw[List.getElem_append_right af,List.getElem_append_right af];simpa [B]using hm
 | some x =>
  obtain⟨i,G⟩:=x;obtain⟨-,t⟩:=UU hi;rw[Nat.sub_zero]at t;obtain⟨E,t⟩:=List.getElem?_eq_some_iff.1 t;have y:i<l.length:=af;have hk:l[i].1=k:=by rw[<- (h.2 i E y).1,t]
  have A:(l.any λp=>decide (p.1=k))=true:=by rw[List.any_eq_true];exact⟨l[i],bT y,sN⟩
  unfold mw r7;rw[hi,if_pos A];refine⟨by simp[B],λj F h4=>?_⟩;have hj:j<l.length:=Iy;rw[List.getElem_modify,List.getElem_map];by_cases e:i=j
  ·subst e;rw[if_pos rfl,if_pos hk,t];exact⟨rfl,hm⟩
  ·have D:l[j].1≠k:=λC=>e (by
    have:=List.nodup_iff_pairwise_ne.1 hn;rw[List.pairwise_iff_getElem]at this;rcases Nat.lt_trichotomy i j with u|u|u
    ·have g:=this i j (by simpa using y) DV u;simp[hk,C]at g
    ·exact u
    ·have g:=this j i DV (by simpa using y) u;simp[hk,C]at g)
   rw[if_neg e,if_neg D];exact h.2 j _ _
section
variable {P:Program} {Q:Exit->Act->World->Prop}
end
section
variable {P:Program} {Q:Exit->Act->World->Prop}
theorem jO.imp{R t}(h:∀v w,R v w->t v w){q}(j:jO P R q):jO P t q:=by
 cases q with
 | ok n w' =>
  cases n <;> simp only[jO]at j⊢
  case value v=>exact h _ _ j
  case skip=>exact h _ _ j
  case enter f args =>
   apply bN j
   intro v y u
   grind
 | halt x w'=>simp only[jO]at j
end
section
variable {P:Program} {Q:Exit->Act->World->Prop}
end
def RW(gw g:Nat)(n:Int)(l:List UInt8)(wr j:Bool)(W:World):Prop:=ah W gw 264 #[.pointer (some ⟨g,0,none⟩),.int .i64 n,.bool j]/\Rd W g l wr/\g<gw
abbrev XW(gw g:Nat):Nat->Prop:=λk=>k=g∨k=gw
section
variable {gw g:Nat} {n:Int} {l l':List UInt8} {wr bd wr' Km:Bool} {W W':World} {X:Nat->Prop}
theorem RW.st(h:RW gw g n l wr bd W)(k:K W W'):RW gw g n l wr bd W':=⟨h.1.ay k,h.2.1.ay k,h.2.2⟩
theorem RW.lt(h:RW gw g n l wr bd W):gw<W.heap.size:=h.1.lt
theorem RW.far(h:RW gw g n l wr bd W){b}(hb:gw<b) i u:RW gw g n l wr bd (W.setCell ⟨b,i,none⟩ u) :=
 ⟨h.1.far aY u,h.2.1.set (by have:=h.2.2;omega) i u,h.2.2⟩
end
def nZ{α:Type}(S:dV α)(gb:Nat)(l:List α)(v:Value)(W:World):Prop:=∀W',ag (λk=>k<gb) W W'->aq S l v W'
abbrev Jk:Array Value:=#[.int .i64 0,.int .u64 0,.slice none 0 0,.slice none 0 0,.slice none 0 0,.slice none 0 0,.slice none 0 0,.slice none 0 0]
structure DM(w0:World)(r g gw h:Nat)(n:Int)(l:List UInt8)(wr bd:Bool)(cs:Array Value)(W:World):Prop where
 rw:RW gw g n l wr bd W
 x:ah W h 156 cs
 rv:ah W r 156 Jk
 k:K w0 W
 o:w0.heap.size<=r/\r<g/\g<gw/\gw<h
section
variable {w0 W W':World} {r g gw h:Nat} {n:Int} {l l':List UInt8} {wr bd wr' Km:Bool} {cs:Array Value}
theorem DM.aX(D:DM w0 r g gw h n l wr bd cs W)(u:ag (XW gw g) W W')(t:RW gw g n l' wr' Km W'):DM w0 r g gw h n l' wr' Km cs W':=by
 have o:=D.o;have k:=D.k;exact⟨t,D.x.aX u aiJ,D.rv.aX u aiJ,
  ⟨u.os.trans k.os,u.tape.trans k.tape,u.output.trans k.output,bo k.size u.size,λi j=>(u.block i (bw j k.size) af).trans (k.block i j)⟩,o⟩
theorem DM.set(D:DM w0 r g gw h n l wr bd cs W) i u:DM w0 r g gw h n l wr bd (cs.setIfInBounds i u) (W.setCell ⟨h,i,none⟩ u):=by have o:=D.o;exact⟨D.rw.far o.2.2.2 i u,D.x.aP i u,D.rv.far aB u,D.k.setCell aB u,o⟩
theorem DM.st(D:DM w0 r g gw h n l wr bd cs W)(k:K W W'):DM w0 r g gw h n l wr bd cs W':=⟨D.rw.st k,D.x.ay k,D.rv.ay k,D.k.tr k,D.o⟩
theorem ag.mono{X j}(h:ag X W W')(u:∀k,X k->j k):ag j W W':=⟨h.os,h.tape,h.output,h.size,λk t y=>h.block k t (λA=>y (u k A))⟩
theorem nZ.less{α S gb j}{x:List α}{v}(t:nZ S gb x v W)(hg:j<=gb):nZ S j x v W:=λW' u=>t W' (u.mono (λk hk=>af))
theorem nZ.mv{α S gb}{x:List α}{v}(t:nZ S gb x v W)(u:ag (λk=>k<gb) W W'):nZ S gb x v W':=λj y=>t j (u.tr y)
end
def Oq(h:Nat)(m:eW)(t A j u B y:Value)(W:World):Prop:=nZ ou (h+1) m.cG t W/\nZ aW (h+1) m.asks A W/\nZ aW (h+1) m.entries j W/\nZ aW (h+1) m.eD u W/\nZ bZ (h+1) m.dF B W/\nZ bZ (h+1) m.ends y W
structure DL(w0:World)(r g gw h:Nat)(n:Int)(l:List UInt8)(wr bd:Bool)(m:eW)(v1 v2 v3 v4 v5 v6:Value)(W:World):Prop where
 d:DM w0 r g gw h n l wr bd (kj m v1 v2 v3 v4 v5 v6) W
 m:Oq h m v1 v2 v3 v4 v5 v6 W
section
variable {w0 W W':World} {r g gw h:Nat} {n:Int} {l l':List UInt8} {wr bd wr' Km:Bool} {m m':eW} {v1 v2 v3 v4 v5 v6 u1 u2 u3 u4 u5 u6:Value}
theorem Oq.mv(H:Oq h m v1 v2 v3 v4 v5 v6 W)(u:ag (λk=>k<h+1) W W'):Oq h m v1 v2 v3 v4 v5 v6 W' :=
 ⟨H.1.mv u,H.2.1.mv u,H.2.2.1.mv u,H.2.2.2.1.mv u,H.2.2.2.2.1.mv u,H.2.2.2.2.2.mv u⟩
theorem DL.put(D:DL w0 r g gw h n l wr bd m v1 v2 v3 v4 v5 v6 W) i v(H:Oq h m' u1 u2 u3 u4 u5 u6 W)(e:(kj m v1 v2 v3 v4 v5 v6).setIfInBounds i v=kj m' u1 u2 u3 u4 u5 u6):DL w0 r g gw h n l wr bd m' u1 u2 u3 u4 u5 u6 (W.setCell ⟨h,i,none⟩ v) :=
 ⟨e▸D.d.set i v,H.mv (ag.bK (X:=λk=>k<h+1) (Nat.lt_succ_self h) i v)⟩
theorem DM.put(D:DM w0 w0.heap.size g gw h n l wr bd (kj m v1 v2 v3 v4 v5 v6) W) us(j:us.length=8):ah (dY W w0.heap.size 0 us) w0.heap.size 156 us.toArray/\K w0 (dY W w0.heap.size 0 us)/\ag (λk=>k<h+1) W (dY W w0.heap.size 0 us) :=
 ⟨FO D.rv j,K.sets (aD _) _ _ _ D.k,ag.sets (X:=λk=>k<h+1) VU _ _ _⟩
end
def dt(X Z:Nat->Prop)(g gd:Nat)(B:bf)(W:World):Prop:=fF B/\∃p,bA (λk=>X k∨bu p k) p B W/\p.key=(g,gd)/\∀k,Z k->¬bu p k/\k<W.heap.size
section
variable {X X' Z Z':Nat->Prop} {g gd:Nat} {B B':bf} {W W':World}
theorem dt.more(h:dt X Z g gd B W)(k:K W W')(y:∀k,X' k->X k∨(W.heap.size<=k/\k<W'.heap.size))(C:∀k,Z' k->Z k∨(W.heap.size<=k/\k<W'.heap.size)):dt X' Z' g gd B W':=by
 obtain⟨A,p,hb,hg,hz⟩:=h;refine⟨A,p,hb.far (X:=λ_=>False) (ag.aU k _) (λ_ h=>h.elim) (λ_ h=>h.elim) (λj t u=>u.elim (λh=>.inl ((y j h).resolve_right af)) .inr) (λ_ h=>.inr h) (λj t=>?_),hg,λj t=>?_⟩
 ·rcases t with h|h
  ·rcases y j h with h|h
   ·exact bw (hb.low j (.inl h)) k.size
   ·exact h.2
  ·exact bw (hb.low j (.inr h)) k.size
 ·rcases C j t with h|h
  ·exact⟨(hz j h).1,bw (hz j h).2 k.size⟩
  ·exact⟨λu=>by have:=hb.low j (hb.sub j u);omega,h.2⟩
theorem dt.st(h:dt X Z g gd B W)(k:K W W'):dt X Z g gd B W':=h.more k (λ_ h=>.inl h) λ_ h=>.inl h
theorem dt.less(h:dt X Z g gd B W)(j:∀k,X' k->X k)(t:∀k,Z' k->Z k):dt X' Z' g gd B W:=h.more (K.rf W) (λk hk=>.inl (j k hk)) λk hk=>.inl (t k hk)
theorem dt.n{p}(t:∀k,Z k->¬bu p k/\k<W.heap.size)(hg:p.key=(g,gd))(u:fF B')(h:dE (λk=>X k∨bu p k) p B' W W'):dt X Z g gd B' W'/\ag (λk=>¬Z k) W W':=by
 obtain⟨p',y,j,A,C⟩:=h
 refine⟨⟨u,p',y.less (λ_ h=>.inr h) (λ_ h=>h.elim (λh=>.inl (.inl h)) .inr),A.trans hg,λk hk=>⟨λB=>?_,bw (t k hk).2 j.size⟩⟩,j.more λk hk hz=>(t k hz).1 hk⟩
 grind
theorem dt.call{f args r}(h:dt X Z g gd B W)(t:∀p,bA (λk=>X k∨bu p k) p B W->p.key=(g,gd)->Calls prog f args W λe w'=>e=.returned r/\dE (λk=>X k∨bu p k) p B' W w')(j:fF B') :
 Calls prog f args W λe w'=>e=.returned r/\dt X Z g gd B' w'/\ag (λk=>¬Z k) W w':=by
 obtain⟨-,p,hb,hg,hz⟩:=h
 exact (t p hb hg).mono λe w' h=>⟨h.1,dt.n hz hg j h.2⟩
theorem ayD(h:dt X Z g gd B W) c(j:bR c)(hn:B.calls+1<4611686018427387904) :
 Calls prog 49 #[.pointer (some ⟨g,0,none⟩),.int .i64 c] W λe w'=>e=.returned (.tuple #[cA (xg B c).2.1,.int .i64 (xg B c).2.2])/\dt X Z g gd (xg B c).1 w'/\ag (λk=>¬Z k) W w' :=
 h.call (λp hb e=>kg e▸apf hb h.1.tobC c j) (h.1.begin hn j)
theorem aAI(h:dt X Z g gd B W) c(u:bR c)(hn:B.calls+1<4611686018427387904)(n:Nat)(j:n<18446744073709551616) f vf(y:eI f vf W)(hfit:∀t∈f,iB t)(A:f.length<=1000000) :
 Calls prog 77 #[.pointer (some ⟨g,0,none⟩),.int .i64 c,.int .u64 n,vf] W λe w'=>e=.returned (.tuple #[cA (yV B c n f).2.1,.int .i64 (yV B c n f).2.2])/\dt X Z g gd (yV B c n f).1 w'/\ag (λk=>¬Z k) W w' :=
 h.call (λp hb e=>kg e▸arD hb h.1.tobC c u n j f vf y hfit A) (h.1.ask hn po u j hfit)
theorem dt.new{gd vh e q}(h:Yu gd vh B W e W' q)(u:fF B)(y:∀k,X k->k<W.heap.size)(j:∀k,Z k->¬kZ gd vh k/\k<W.heap.size):dt X Z q.g gd B W'/\ag (λk=>¬Z k) W W':=by refine⟨⟨u,q,h.br.less (λ_ h=>.inr h) (λk h=>h.imp (y k) id),(by unfold nE.key;rw[h.dd]),λk hk=>⟨λt=>?_,bw (j k hk).2 h.up.size⟩⟩,h.up.more λk hk hz=>(j k hz).1 hk⟩;rcases h.new k t with h|h;all_goals grind
end
theorem bC.open_{me p ai d s}(u:fK p=true)(hm:fY p me=true)(j:kN p ai=true)(t:gU d s):fF (tY me p ai d s) :=
 ⟨⟨u,hm,j,t,jx.nil,xd,xd,xd,xd,xd,xd⟩,gQ.nil⟩
section
variable {X Z:Nat->Prop} {g gd:Nat} {B:bf} {W:World}
end
def zU(m:Int)(p ai:List Int)(B:bf):Prop:=B.me=m/\B.par=p/\B.ai=ai
section
variable {m:Int} {p ai:List Int} {B:bf}
end
structure MK(par ai:List Int)(n:Nat)(x:Hw)(k:Nat):Prop where
 down:x.up=none->∃s,gU x.dk s/\s.life<=k+1/\(∀a∈s.ab,bU s.list a=false)/\s.prom.length<=6
 up:∀B,x.up=some B->x.dk=B.dk/\fF B/\j0 B k/\B.st.life<=k+1/\zU n par ai B
structure bM(par ai:List Int)(O:bz)(k:Nat):Prop where
 fZ:oQ O
 uo:O.par=par
 Jl:O.ai=ai
 eC:∀(n:Nat) x,O.eC[n]?=some x->MK par ai n x k
 key:O.cD.map (·.1)=(F4 par).map (·.1)
 few:∀q∈O.cD,q.2.length<=8
 gl:∀l∈O.got,l.length<=k
structure AQ(B B':bf)(k:Nat):Prop where
 aAJ:fF B'
 run:j0 B' k
 life:B'.st.life=B.st.life
 me:∀ {m p ai},zU m p ai B->zU m p ai B'
theorem j0.mono{B n k}(h:j0 B n)(hk:n<=k):j0 B k:=⟨h.inv,h.fit,by have:=h.told;omega,by have:=h.calls;omega⟩
theorem Ck{O m B}(h:cZ O m=some B):∃n:Nat,m=(n:Int)/\n<O.par.length/\∃x,O.eC[n]?=some x/\x.up=some B:=by
 grind [cZ,ko,fY]
theorem F6{d s}(h:gU d s):Ff d=s:=by unfold Ff;rw[h.run];rfl
theorem av6 B c j:(js B c j).1.st=B.st/\(js B c j).1.me=B.me/\(js B c j).1.par=B.par/\(js B c j).1.ai=B.ai:=by
 grind [js]
theorem av7 B r:(dR B r).1.st=B.st/\(dR B r).1.me=B.me/\(dR B r).1.par=B.par/\(dR B r).1.ai=B.ai:=by
 grind [dR]
section
variable {B B':bf} {k j:Nat} {par ai:List Int} {O:bz} {n:Nat} {x:Hw} {m:Int}
theorem AQ.call{c j}(t:fF (js B c j).1)(A:j0 B k):AQ B (js B c j).1 (k+1):=by obtain⟨u,y,C,D⟩:=av6 B c j;exact⟨t,A.call c j,by rw[u],λh=>⟨y.trans h.1,C.trans h.2.1,D.trans h.2.2⟩⟩
theorem AQ.keep{r}(j:fF (dR B r).1)(y:j0 B k):AQ B (dR B r).1 (k+1):=by obtain⟨t,u,A,C⟩:=av7 B r;exact⟨j,y.keep r,by rw[t],λh=>⟨u.trans h.1,A.trans h.2.1,C.trans h.2.2⟩⟩
theorem MK.mono(h:MK par ai n x k)(hk:k<=j):MK par ai n x j :=
 ⟨λe=>(h.down e).imp λs h=>⟨h.1,by have:=h.2.1;omega,h.2.2⟩,λB e=>by obtain⟨t,y,A,C,u⟩:=h.up B e;exact⟨t,y,A.mono hk,by omega,u⟩⟩
theorem bM.mono(h:bM par ai O k)(hk:k<=j):bM par ai O j:=⟨h.fZ,h.uo,h.Jl,λn x e=>(h.eC n x e).mono hk,h.key,h.few,λl t=>bo (h.gl l t) hk⟩
theorem bM.up(h:bM par ai O k)(t:cZ O m=some B):fF B/\j0 B k/\B.st.life<=k+1/\zU m par ai B:=by obtain⟨n,rfl,-,x,u,j⟩:=Ck t;exact ((h.eC n x u).up B j).2
theorem bM.set(h:bM par ai O k) n(hk:k<=j)(u:MK par ai n x j):bM par ai (nv O n x) j:=by
 refine⟨⟨h.fZ.tr,h.fZ.hm,?_,h.fZ.lc,h.fZ.lg⟩,h.uo,h.Jl,λi y e=>?_,h.key,h.few,λl t=>bo (h.gl l t) hk⟩
 ·show (O.eC.set _ x).length=_;rw[List.length_set];exact h.fZ.ln
 ·unfold nv at e;simp only[Int.toNat_natCast,List.getElem?_set]at e;split at e
  ·grind
  ·exact (h.eC i y e).mono hk
theorem bM.put(h:bM par ai O k)(u:cZ O m=some B)(hk:k<=j)(t:AQ B B' j):bM par ai (rF O m B') j:=by
 obtain⟨n,rfl,-,x,y,A⟩:=Ck u;have D:=(h.eC n x y).up B A;exact h.set n hk ⟨λe=>by simp at e,λC e=>by
  simp at e;subst e;exact⟨rfl,t.aAJ,t.run,by have:=t.life;omega,t.me D.2.2.2.2⟩⟩
theorem bM.call{α}(h:bM par ai O k) c z(f:bf->bf×α×Int)(t:∀B,fF B->j0 B k->AQ B (f B).1 (k+1)):bM par ai (ue O c z f).1 (k+1):=by
 unfold ue;split
 ·split
  ·exact h.mono (Nat.le_succ k)
  ·next B hu =>
   have j:=h.up hu;exact h.put hu (Nat.le_succ k) (t B j.1 j.2.1)
 ·exact h.mono (Nat.le_succ k)
theorem bM.begin(h:bM par ai O k)(hk:k<=50000){c}(t:bR c):bM par ai (uZ O c).1 (k+1) :=
 h.call c _ _ λB j hr=>.call (j.begin aiS t) hr
theorem bM.sub(h:bM par ai O k)(hk:k<=50000){c}(y:bR c){s}(A:s<18446744073709551616){f}(j:∀t∈f,iB t):bM par ai (y9 O c s f).1 (k+1) :=
 h.call c _ _ λB u hr=>.call (u.ask aiS po y A j) hr
theorem bM.keep(h:bM par ai O k) c a f(j:∀B,fF B->fF (dR B (f B.aA)).1):bM par ai (ia O c a f).1 (k+1):=by
 unfold ia tF;split
 ·exact h.mono (Nat.le_succ k)
 ·exact h.call c _ _ λB t u=>.keep (j B t) u
theorem bM.cD(h:bM par ai O k){L}(t:L.map (·.1)=O.cD.map (·.1))(j:∀q∈L,q.2.length<=8):bM par ai { O with cD:=L } k :=
 ⟨⟨h.fZ.tr,h.fZ.hm,h.fZ.ln,h.fZ.lc,h.fZ.lg⟩,h.uo,h.Jl,h.eC,t.trans h.key,j,h.gl⟩
theorem j0.open_{me p q d s}(t:∀a∈s.ab,bU s.list a=false)(j:s.prom.length<=6):j0 (tY me p q d (cR s)) k:=⟨⟨t,j⟩,⟨xd,xd,xd,xd⟩,xd,xd⟩
theorem bM.down(h:bM par ai O k)(t:ko O m=true)(j:cZ O m=none):∃n:Nat,m=(n:Int)/\n<par.length/\∃d s,O.eC[n]?=some ⟨none,d⟩/\gU d s/\s.life<=k+1/\(∀a∈s.ab,bU s.list a=false)/\s.prom.length<=6:=by
 unfold cZ at j;rw[if_pos t]at j;unfold ko fY at t;simp only[dz,decide_eq_true_eq]at t;obtain⟨n,rfl⟩:=Int.eq_ofNat_of_zero_le t.1;have u:n<O.eC.length:=by have:=h.fZ.ln;omega
 rw[Int.toNat_natCast,List.getElem?_eq_getElem u]at j;have y:=(h.eC n _ (List.getElem?_eq_getElem u)).down j;obtain⟨s,A⟩:=y;refine⟨n,rfl,by rw[<- h.uo];omega,O.eC[n].dk,s,?_,A⟩;rw[List.getElem?_eq_getElem u];exact congrArg some (by cases hx:O.eC[n];rw[hx]at j;simp at j;simp[j])
theorem asn p:∀q∈F4 p,q.2.length<=8:=by
 grind [F4]
theorem bM.new(j:fK par=true)(t:kN par ai=true){room}(y:ir (dc (cR cV))<=room)(u:room<=1048576):bM par ai (rG par ai room) 0:=by
 refine⟨⟨j,t,LN,LN,LN⟩,rfl,rfl,λn x e=>?_,rfl,asn par,λl A=>by grind [rG]⟩;have hn:n<par.length:=by
  grind [fK,kN,ir,dc,cR,cV,rG]
 simp[rG,hn]at e;subst e;refine⟨λe=>aB,λC e=>?_⟩;simp at e;subst e;exact⟨rfl,bC.open_ j (by grind [fY]) t ((gU.new u).life y),j0.open_ yA yA,by simp[tY,cR,cV],rfl,rfl,rfl⟩
end
section
variable {par ai:List Int} {n c:Nat} {O:bz}
end
