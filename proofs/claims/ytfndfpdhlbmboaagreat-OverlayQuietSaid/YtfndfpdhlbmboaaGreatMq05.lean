/-
  The walks of disk's functions (layer 9). Conditions: what was held lasts, where a disk crashes.
-/
import Derived.Test.YtfndfpdhlbmboaaGreatMq04
import Derived.Test.YtfndfpdhlbmboaaGreatMqz
set_option maxRecDepth 100000
set_option maxHeartbeats 16000000
set_option linter.all false
namespace Go.Proofs.YtfndfpdhlbmboaaGreat
open Go Go.RowKit _root_.Go.Proofs.Tryz
structure gG(gd:Nat)(vh:Value)(l:List UInt8)(gS room:Nat)(w:World):Prop where
 blk:ah w gd 145 #[vh,.int .i64 (gS:Int),.int .i64 (room:Int)]
 own:Own w 0 5 vh l
 len:l.length<=room
 room:room<=1048576
def kZ(gd:Nat)(vh:Value)(k:Nat):Prop:=k=gd∨vh.ownBlock=some k
structure jR(gd:Nat)(vh dD:Value)(w w':World):Prop where
 up:ag (kZ gd vh) w w'
 new:∀k,kZ gd dD k->kZ gd vh k∨w.heap.size<=k
section
variable {gd:Nat} {vh dD Mr:Value} {l:List UInt8} {gS room:Nat} {w w' w'':World}
theorem gG.st(h:gG gd vh l gS room w)(k:K w w'):gG gd vh l gS room w':=⟨h.blk.ay k,pZ h.own k,h.len,h.room⟩
theorem gG.ne(h:gG gd vh l gS room w):vh.ownBlock≠some gd:=λe=>by obtain⟨cur,h1⟩:=lO h.own e;exact Wf
theorem gG.lt(h:gG gd vh l gS room w):∀k,kZ gd vh k->k<w.heap.size:=λk hk=>hk.elim (λe=>e▸h.blk.lt) λe=>(h.own.lt k e).2
theorem jR.rf(k:K w w'):jR gd vh vh w w':=⟨ag.aU k _,λ_ h=>.inl h⟩
theorem jR.tr(h:jR gd vh dD w w')(k:jR gd dD Mr w' w''):jR gd vh Mr w w'' :=
 ⟨h.up.gq k.up λb hb t=>(h.new b t).resolve_right af,λb hb=>(k.new b hb).elim (λj=>h.new b j) λj=>.inr (bo h.up.size j)⟩
theorem jR.k(h:jR gd vh dD w w')(k:K w' w''):jR gd vh dD w w'':=h.tr (jR.rf k)
end
theorem agC(room:Nat) w(h:room<=1048576) :
 Calls prog 41 #[.int .i64 room] w λe w'=>e=.returned (.tuple #[.pointer (some ⟨w.heap.size,0,none⟩),.int .i64 0])/\gG w.heap.size (.slice none 0 0) [] 0 room w'/\K w w':=by
 have:¬(room:Int)<0:=af
 have:¬1048576<(room:Int):=af
 have hb:=ah.new w 145 #[.slice none 0 0,.int .i64 0,.int .i64 room]
 have j:=hb.aS
 go_in
 go_wp2
 go_ret2
 exact⟨rfl,⟨hb,jV _ _ _ _,aj,h⟩,j⟩
def tj(l b:List UInt8)(room:Nat):List UInt8×Int:=if l.length+b.length<=room then (l++b,0)else (l,90)
theorem abG gd vh v l b B room w(h:gG gd vh l B room w)(hb:sl b v w)(hn:b.length<=1000000000) :
 Calls prog 59 #[.pointer (some ⟨gd,0,none⟩),v] w λe w'=>∃D,e=.returned (.int .i64 (tj l b room).2)/\gG gd D (tj l b room).1 B room w'/\jR gd vh D w w':=by
 have HA:Hid (tj l b room=if l.length+b.length<=room then (l++b,0)else (l,90)):=ae rfl
 generalize tj l b room=R at *
 have F:=h.ne
 obtain⟨A,c,rfl,-⟩:=h.own.slice
 obtain⟨N,E,rfl,I⟩:=hb
 have:=h.len
 have O:=h.room
 have q:=h.blk.cells
 have H:=ae h
 go_in
 go_wp2
 refine Kw 0 rfl ?_
 have G:IntKind.i64.wrap ((room:Int)-(l.length:Int))=(room:Int)-(l.length:Int):=IntWalk.i64_in _ af
 go_upto_region 3 with fail
 have qs:=And.intro q G
 refine dK 13 ?_
 iterate 13 refine ar.i ?_
 intro V W kW hA
 simp only[aN,aQ,b6,aJ,Nat.reduceAdd]at hA
 refine aH.h ?_
 have t:=ae (H.aa.st kW)
 have J:=(I.below kW (aD _)).more kW.size
 have q:=t.aa.blk.cell
 by_cases hfit:l.length+b.length<=room
 ·have L:decide ((room:Int)-(l.length:Int)<b.length)=false:=aY;have HR:Hid (R=(l++b,0)):=ae agD;go_wp2_with (at_builtin;refine iM rfl _ _ 94 rfl 0 5 _ 1 1 TB _ _ _ rfl t.aa.own _ N b.length E (dN b) rfl J (uU b) ?p1 (eE _) ?_)
  case p1=>omega
  intro j y eT C M Y;have u:Own y 0 5 j (l++b):=agE;have hx2:=t.aa.blk.grown C λe=>F e.symm
  have Q:j.ownBlock≠some gd:=λe=>by obtain⟨cur,h1⟩:=lO u e;exact Qj
  have hV:gG gd j (l++b) B room (y.setCell ⟨gd,0,none⟩ j) :=
   ⟨hx2.aP 0 j,iN u (ag.bK (X:=λk=>k=gd) rfl 0 j) λk hk e=>Q uY,aY,O⟩
  have hU:jR gd (.slice A l.length c) j w (y.setCell ⟨gd,0,none⟩ j):=by
   have:=kW.size;refine⟨((ag.aU kW _).tr (ag.eP C λk hk=>.inr hk)).tr (ag.bK (.inl rfl) 0 j),λk hk=>?_⟩;rcases hk with hk|hk
   ·exact .inl (.inl hk)
   ·rcases M with e|e <;> rw[e]at hk
    ·exact .inl (.inr hk)
    grind
  have:=hx2.cell;have:=hx2.frozen;obtain⟨A2,c2,rfl,-⟩:=u.slice;simp only[dq]at hV hU;go_wp2;simp only[Exit.jump];exact agF
 ·have L:decide ((room:Int)-(l.length:Int)<b.length)=true:=aY;have HR:Hid (R=(l,90)):=ae agG;go_wp2_with fail
  go_step3;refine⟨rfl,?_⟩;go_wp2;rw[ig];go_ret;exact⟨_,fJ,by rw[HR.aa];exact t.aa,jR.rf kW⟩
theorem ap7 gd vh l y room w(h:gG gd vh l y room w) :
 Calls prog 305 #[.pointer (some ⟨gd,0,none⟩)] w λe w'=>e=.returned (.int .i64 0)/\gG gd vh l l.length room w'/\jR gd vh vh w w':=by
 have j:=h.ne
 obtain⟨A,c,rfl,-⟩:=h.own.slice
 have q:=h.blk.cell
 have z:=h.blk.frozen
 have u:gG gd (.slice A l.length c) l l.length room (w.setCell ⟨gd,1,none⟩ (.int .i64 l.length)) :=
  ⟨h.blk.aP 1 (.int .i64 l.length),iN h.own (ag.bK (X:=λk=>k=gd) rfl 1 _) λk hk e=>j uY,h.len,h.room⟩
 have t:jR gd (.slice A l.length c) (.slice A l.length c) w (w.setCell ⟨gd,1,none⟩ (.int .i64 l.length)):=⟨ag.bK (.inl rfl) 1 _,λ_ h=>.inl h⟩
 go_in
 go_wp2
 go_ret
 exact⟨rfl,u,t⟩
theorem arx gd vh l C room w(h:gG gd vh l C room w) :
 Calls prog 118 #[.pointer (some ⟨gd,0,none⟩),.int .i64 l.length] w λe w'=>e=.returned (.int .i64 0)/\gG gd vh l l.length room w'/\jR gd vh vh w w':=by
 have j:=h.ne
 have y:=h.own
 have t:∃A c,vh=.slice A l.length c/\l.length<=c:=by
  rcases y.2 with ⟨rfl,F⟩|⟨g,cap,cur,rfl,-,-,E,-⟩
  ·grind
  ·grind
 obtain⟨A,c,rfl,D⟩:=t
 have q:=h.blk.cell
 have z:=h.blk.frozen
 have:(l.length:Int)<=c:=af
 have B:gG gd (.slice A l.length c) l l.length room ((w.setCell ⟨gd,0,none⟩ (.slice A l.length c)).setCell ⟨gd,1,none⟩ (.int .i64 l.length)):=by refine⟨(h.blk.aP 0 (.slice A l.length c)).aP 1 (.int .i64 l.length),?_,h.len,h.room⟩;exact iN (iN h.own (ag.bK (X:=λk=>k=gd) rfl 0 _) λk hk e=>j uY) (ag.bK (X:=λk=>k=gd) rfl 1 _) λk hk e=>j uY
 have u:jR gd (.slice A l.length c) (.slice A l.length c) w ((w.setCell ⟨gd,0,none⟩ (.slice A l.length c)).setCell ⟨gd,1,none⟩ (.int .i64 l.length)):=⟨(ag.bK (.inl rfl) 0 _).tr (ag.bK (.inl rfl) 1 _),λ_ h=>.inl h⟩
 go_in
 go_wp2
 go_ret
 exact⟨rfl,B,u⟩
def xQ(l b:List UInt8)(room:Nat):List UInt8×Int:=if b.length<=room then (b,0)else (l,90)
theorem ap8 gd vh v l b room w(h:gG gd vh l l.length room w)(hb:sl b v w)(hn:b.length<=1000000000) :
 Calls prog 285 #[.pointer (some ⟨gd,0,none⟩),v] w λe w'=>∃B,e=.returned (.int .i64 (xQ l b room).2)/\gG gd B (xQ l b room).1 (xQ l b room).1.length room w'/\jR gd vh B w w':=by
 have HA:Hid (xQ l b room=if b.length<=room then (b,0)else (l,90)):=ae rfl
 generalize xQ l b room=R at *
 have L:=h.room
 have I:=h.blk.lt
 obtain⟨J,E,rfl,F⟩:=hb
 have M:=ae (KB J b.length E (dN b) w F (uU b) hn)
 have q:=h.blk.cell
 have H:=ae h
 go_in
 go_wp2
 refine Kw 0 rfl ?_
 by_cases hfit:b.length<=room
 ·have G:¬(room:Int)<b.length:=af;have HR:Hid (R=(b,0)):=ae agD;go_wp2_with fail
  apply bN M.aa;rintro j u⟨A,C⟩;have t:Own u w.heap.size 5 j b:=A;have y:=H.aa.blk.below C I;have D:j.ownBlock≠some gd:=λe=>by have:=(t.lt gd e).1;omega
  have hV:gG gd j b b.length room ((u.setCell ⟨gd,0,none⟩ j).setCell ⟨gd,1,none⟩ (.int .i64 b.length)):=by refine⟨(y.aP 0 j).aP 1 (.int .i64 b.length),?_,hfit,L⟩;exact iN (iN (mo (eE _) A) (ag.bK (X:=λk=>k=gd) rfl 0 j) λk hk e=>D uY) (ag.bK (X:=λk=>k=gd) rfl 1 _) λk hk e=>D uY
  have hU:jR gd vh j w ((u.setCell ⟨gd,0,none⟩ j).setCell ⟨gd,1,none⟩ (.int .i64 b.length)) :=
   ⟨((ag.aU C _).tr (ag.bK (.inl rfl) 0 j)).tr (ag.bK (.inl rfl) 1 _),λk hk=>hk.elim (λe=>.inl (.inl e)) λe=>.inr (t.lt k e).1⟩
  have:=y.cell;have:=y.frozen;obtain⟨Q,c2,rfl,-⟩:=t.slice;go_wp2;try simp only[Exit.jump]
  exact agF
 ·have G:(room:Int)<b.length:=af;have HR:Hid (R=(l,90)):=ae agG;go_wp2_with fail
  go_step3;refine⟨rfl,?_⟩;go_wp2;rw[ig];go_ret;exact⟨_,fJ,by rw[HR.aa];exact H.aa,jR.rf (K.rf w)⟩
theorem ach gd vh l E room w(h:gG gd vh l E room w) :
 Calls prog 60 #[.pointer (some ⟨gd,0,none⟩)] w λe w'=>∃v',e=.returned v'/\Own w' w.heap.size 5 v' l/\K w w':=by
 have:=h.len
 have:=h.room
 obtain⟨A,c,rfl,D⟩:=h.own.slice
 have q:=h.blk.cell
 have B:=ae (KB A l.length c (dN l) w D (uU l) af)
 go_in
 go_wp2_with fail
 apply bN B.aa
 rintro C j⟨y,t⟩
 have u:Hid (Own j w.heap.size 5 C l):=ae y
 go_wp2
 go_ret
 exact⟨_,rfl,u.aa,t⟩
theorem apa gd vh l room keep w(h:gG gd vh l l.length room w)(hk:bR keep) :
 Calls prog 45 #[.pointer (some ⟨gd,0,none⟩),.int .i64 keep] w λe w'=>e=.returned (.tuple #[])/\gG gd vh l l.length room w'/\jR gd vh vh w w':=by
 have C:=h.ne
 have L:=h.len
 have S:=h.room
 have U:∃A c,vh=.slice A l.length c/\l.length<=c:=by
  rcases h.own.2 with ⟨rfl,J⟩|⟨g,cap,cur,rfl,-,-,G,-⟩
  ·exact⟨_,_,by rw[J],af⟩
  ·exact⟨_,_,rfl,G⟩
 obtain⟨A,c,rfl,Y⟩:=U
 have N:(l.length:Int)<=c:=af
 have q:=h.blk.cells
 have D:IntKind.i64.wrap ((l.length:Int)-(l.length:Int))=0:=by rw[Int.sub_self];rfl
 have H:=ae h
 clear h
 go_in
 go_upto_region 1 with fail
 have qs:=And.intro q D
 refine dK 14 ?_
 iterate 14 refine ar.i ?_
 clear qs
 intro V W kW hA
 simp only[aN,aQ,b6,aJ,Nat.reduceAdd]at hA
 refine aH.h ?_
 first
 | rw[show min (max keep 0) (IntKind.i64.wrap 0)=0 from by
  rw[show IntKind.i64.wrap 0=0 from rfl];omega]
 | rw[show (if IntKind.i64.wrap 0<(if keep<0 then (0:Int)else keep)then IntKind.i64.wrap 0 else if keep<0 then 0 else keep)=0 from by
  rw[show IntKind.i64.wrap 0=0 from rfl];split <;> split <;> omega]
 have j:=H.aa.st kW
 have Q:=j.blk.cell
 have z:=j.blk.frozen
 have u:=j.blk.aP 1 (.int .i64 l.length)
 have T:=iN j.own (ag.bK (X:=λk=>k=gd) rfl 1 (.int .i64 l.length)) λk hk e=>C uY
 have R:ag (kZ gd (.slice A l.length c)) w (W.setCell ⟨gd,1,none⟩ (.int .i64 l.length)):=(ag.aU kW _).tr (ag.bK (.inl rfl) 1 _)
 clear hA q D
 go_upto_region 3 with fail
 generalize W.setCell _ _=t at *
 clear Q z
 have E:=(show ah t gd 145 #[.slice A l.length c,.int .i64 l.length,.int .i64 room]from u).cells
 have qs:=And.intro E N
 refine dK 10 ?_
 iterate 10 refine ar.i ?_
 clear qs
 intro V W kW hA
 simp only[aN,aQ,b6,aJ,Nat.reduceAdd]at hA
 have y:=(show ah t gd 145 #[.slice A l.length c,.int .i64 l.length,.int .i64 room]from u).below kW (show gd<t.heap.size from u.lt)
 have M:=pZ T kW
 have B:=y.cell
 have F:=y.frozen
 clear E
 iterate 2 (apply aH.pure;rfl;(simp[aF,List.lookup,ba,hA,execOp,aG,go_sem];rfl))
 refine aH.skip (W.setCell ⟨gd,0,none⟩ (.slice A l.length c)) rfl (by simp[aF,List.lookup,ba,hA,execOp,aG,B,F,go_sem]) ?_
 refine aH.e ?_
 have O:gG gd (.slice A l.length c) l l.length room (W.setCell ⟨gd,0,none⟩ (.slice A l.length c)) :=
  ⟨y.aP 0 (.slice A l.length c),iN M (ag.bK (X:=λk=>k=gd) rfl 0 _) λk hk e=>C uY,L,S⟩
 have I:jR gd (.slice A l.length c) (.slice A l.length c) w (W.setCell ⟨gd,0,none⟩ (.slice A l.length c)):=⟨(R.tr (ag.aU kW _)).tr (ag.bK (.inl rfl) 0 _),λ_ h=>.inl h⟩
 clear B F hA
 go_wp2
 all_goals
  go_end0
  exact⟨rfl,O,I⟩
theorem ary g base lo v u l b w(hb:ah w g 94 #[v])(t:Own w base 5 v l)(D:sl b u w)(B:lo<=g/\lo<=base/\lo<=w.heap.size)(U:base<=w.heap.size)(hn:b.length<=1000000000)(hl:l.length<=1000000000) :
 Calls prog 311 #[u,.pointer (some ⟨g,0,none⟩)] w λe w'=>∃v',e=.returned (.int .i64 (Gc b))/\ah w' g 94 #[v']/\Own w' base 5 v' (l++AG b)/\Below lo w w':=by
 have Q:=ae (ap5 b u w D hn)
 have:(AG b).length<=4006:=agH
 obtain⟨A,c,rfl,V⟩:=D
 generalize AG b=f at *
 go_in
 go_wp2_with fail
 refine Q.aa.mono ?_
 rintro e W⟨T,rfl,S,y⟩
 have C:=hb.ay y
 have I:=UN (aD _) t y
 obtain⟨L,c1,rfl,N⟩:=S.slice
 have hz:=y.size
 have J:v.ownBlock≠some g:=λe=>by obtain⟨cur,h1⟩:=lO I e;exact absurd (h1.gY C) ax
 have q:=C.cell
 go_wp2_with (at_builtin;refine iM rfl _ _ 94 rfl base 5 _ 1 1 TB _ _ _ rfl I _ L f.length c1 (dN f) rfl N (uU f) ?p1 af ?_)
 case p1=>omega
 intro j G eT M _ O
 have t:Own G base 5 j (l++f):=agE
 have hx2:=C.grown M λe=>J e.symm
 have R:j.ownBlock≠some g:=λe=>by obtain⟨cur,h1⟩:=lO t e;exact Qj
 have E:=hx2.aP 0 j
 have F:Own (G.setCell ⟨g,0,none⟩ j) base 5 j (l++f):=iN t (ag.bK (X:=λk=>k=g) rfl 0 j) λk hk e=>R uY
 have H:=((y.mono B.2.2).trans (O.mono B.2.1)).setCell (p:=⟨g,0,none⟩) B.1 j
 have:=hx2.cell
 have:=hx2.frozen
 obtain⟨A2,c2,rfl,-⟩:=t.slice
 simp only[dq]at E F H
 go_wp2
 go_ret
 exact⟨_,rfl,E,F,H⟩
def Aj(j:List (List UInt8)):List UInt8×Int:=if j.all ib then (frames j,0)else ([],30)
def Az(j:List (List UInt8)):List UInt8:=j.flatMap AG
theorem aci j:(Az j).length<=j.length*4006:=by
 induction j with
 | nil=>simp[Az]
 | cons b j t => have:(AG b).length<=4006:=agH;simp only[Az,vC,dq,eQ]at t⊢;omega
theorem acT{j}(h:j.all ib=true):Az j=frames j:=by
 unfold Az frames
 rw[vD]at h
 induction j with
 | nil=>rfl
 | cons b j t =>
  grind [ib,Az,frames,AG]
theorem abH t v w(h:aq ki t v w)(hn:t.length<=200000)(hb:∀b∈t,b.length<=1000000000) :
 Calls prog 284 #[v] w λe w'=>∃v',e=.returned (.tuple #[v',.int .i64 (Aj t).2])/\Own w' w.heap.size 5 v' (Aj t).1/\K w w':=by
 have O:Hid (Aj t=if t.all ib then (frames t,0)else ([],30)):=ae rfl
 generalize Aj t=R at *
 obtain⟨A,c,rfl,hl,-⟩:=h
 have HB:=ae hb
 have y:=ah.new w 94 #[.slice none 0 0]
 have Q:=y.aS
 go_in
 go_wp2_with fail
 generalize w.alloc _=w0 at *
 have rL:Own w0 w.heap.size 5 (.slice none 0 0) []:=jV _ _ _ _
 go_loopw [7,8,12] (fun _ _ i W=>∃(j:Nat) (v':Value),j<=t.length/\i=.int .i64 j/\ah W w.heap.size 94 #[v']/\Own W w.heap.size 5 v' (Az (t.take j))/\Hid ((t.take j).all ib=true)/\Below w.heap.size w W) (fun _ _ i _=>t.length-(intOf i).toNat)
 case atStart=>exact⟨0,_,af,rfl,y,fk,ae aj,Q⟩
 case round =>
  obtain⟨j,v',hj,rfl,y,C,D,kr⟩:=hrel;by_cases B:j<t.length
  ·have aO:(j:Int)<t.length:=af;obtain⟨b1,off,cs,rfl,hcl,hrl,d0,d⟩:=ed hl j B ax;have V:=HB.aa _ (bT B);have I:=ae (gg B);have E:Hid (ib t[j]=false->R=([],30)):=ae λh=>by rw[O.aa,if_neg];simp only[vD];intro Y;have:=Y _ (bT B);rw[h]at this;cases this
   generalize t[j]=b at *;obtain⟨u,rfl,F⟩:=hrl w (K.rf w);have cj:wr.cell? ⟨b1,off+j,none⟩=some u:=by
    grind
   have U:=nP _ _ _ _ F kr;obtain⟨J,H,rfl⟩:∃J H,u=.slice J b.length H:=by obtain⟨A,c,e,-⟩:=F;exact⟨A,c,e⟩
   have im:=aci (t.take j);have aFu:(t.take j).length<=200000:=aY;have C1:=ae (ary w.heap.size w.heap.size w.heap.size v' _ (Az (t.take j)) b wr y C U ⟨aD _,aD _,kr.size⟩ kr.size V af);have L:Hid (Gc b=if ib b then 0 else 30):=ae rfl;go_wp2_with fail
   refine C1.aa.mono ?_;rintro e Z⟨N,rfl,hx2,T,M⟩;cases hok:ib b
   ·have fy:=ae (E.aa hok);rw[show Gc b=30 by rw[L.aa,hok];rfl];go_wp2;go_ret2;exact⟨_,Lt,by rw[fy.aa];exact jV _ _ _ _,kr.trans M⟩
   ·have S:Hid ((t.take (j+1)).all ib=true):=ae (by rw[I.aa,List.all_append,D.aa];simp[hok]);rw[show Gc b=0 by rw[L.aa,hok];rfl];have X:Own Z w.heap.size 5 N (Az (t.take (j+1))):=by rw[I.aa];simpa [Az]using T
    go_wp2;go_roundw
    case rel=>exact⟨j+1,N,af,bD,hx2,X,S,kr.trans M⟩
    case measure=>simp[intOf];omega
  ·have aO:¬(j:Int)<t.length:=af;obtain rfl:j=t.length:=af;have fy:Hid (R=(frames t,0)):=ae (by have:=D.aa;rw[nc]at this;rw[O.aa,if_pos this]);have E:Hid (Own wr w.heap.size 5 v' (frames t)):=ae (by have G:=D.aa;rw[nc]at C G;rw[<- acT G];exact C);have q:=y.cell;go_wp2;go_ret2;exact⟨_,Lt,by rw[fy.aa];exact E.aa,kr⟩
theorem Ug t v w(h:aq ki t v w)(hn:t.length<=200000)(hb:∀b∈t,b.length<=1000000000) :
 Calls prog 121 #[v] w λe w'=>∃v',e=.returned v'/\aC (λk=>k<w.heap.size) w.heap.size 94 ki t v' w'/\K w w':=by
 obtain⟨A,c,rfl,hl,-⟩:=h
 have HB:=ae hb
 obtain⟨i,hi,N,L,hz2⟩:=info_parts ajF
 have:∀W:World,(Instr.makeSlice 119 (.int .i64 0) (.int .i64 t.length)).run prog W=.ok (.slice (some ⟨W.heap.size,0,none⟩) 0 t.length) (W.alloc (.cells (madeCells #[.slice none 0 0] t.length) 94)):=by intro W;have h:=run_make (P:=prog) W 119 94 i (.slice none 0 0) underlying119 hi N .i64 .i64 0 (t.length:Int) af af Vv af;rw[L]at h;simpa [Value.cells]using h
 have E:=ah.new w 94 (madeCells #[.slice none 0 0] t.length)
 have O:=E.aS
 go_in
 go_wp2_with fail
 generalize w.alloc _=w0 at *
 have:aC (λk=>k<w.heap.size) w.heap.size 94 ki [] (.slice (some ⟨w.heap.size,0,none⟩) 0 t.length) w0 :=
  ⟨[],OJ (xs:=[]) (rest:=List.replicate t.length (.slice none 0 0)) (aD _) (by rw[aN,<- toList_madeCells_one];exact E) rfl aj B6,rfl,λ_ _=>Each.nil _ _⟩
 go_loopw [3,5,11] (fun o _ i W=>∃j:Nat,j<=t.length/\i=.int .i64 j/\aC (fun k=>k<w.heap.size) w.heap.size 94 ki (t.take j) o W/\K w W) (fun _ _ i _=>t.length-(intOf i).toNat)
 case atStart=>exact⟨0,af,rfl,fk,O⟩
 case round =>
  obtain⟨j,hj,rfl,hO,kr⟩:=hrel;by_cases D:j<t.length
  ·have aO:(j:Int)<t.length:=af;obtain⟨b1,off,cs,rfl,hcl,hrl,d0,d⟩:=ed hl j D ax;have T:=HB.aa _ (bT D);have Z:=ae (gg D);generalize t[j]=b at *;obtain⟨u,rfl,I⟩:=hrl w (K.rf w);have:wr.cell? ⟨b1,off+j,none⟩=some u:=by
    grind
   obtain⟨V,U,rfl,Q⟩:=nP _ _ _ _ I kr;have C1:=ae (KB V b.length U (dN b) wr Q (uU b) T);have R:=hO.blk;go_wp2_with fail
   apply bN C1.aa;rintro y B⟨C,G⟩;replace C:Own B wr.heap.size 5 y b:=af;have Y:=(hO.st G).st ((K.rf B).al (.cells #[y] 94));have hz:=kr.size;have M:Fx (λk=>k<wr.heap.size) (λW=>ki.rel b [y] W) B:=λW u=>⟨y,rfl,eK (iN C u λb hb h=>by have:=(C.lt b hb).1;omega)⟩
   obtain⟨H,c4,rfl,-⟩:=C.slice;have X:=ez.new (S:=ki) (e:=94) (v:=.slice H b.length c4) M 0 (eE _);have F:=(kr.tr G).tr ((K.rf B).al (.cells #[.slice H b.length c4] 94));go_wp2_with (at_builtin;refine jz rfl _ _ 119 rfl _ 1 24 Sd rfl rfl Y _ rfl b ?p1 ?p2 ?p3 ?_)
   case p1=>exact X.less λk hk=>by rcases hk with hk|hk;omega;have:=R k hk;omega
   case p2=>simp;omega
   case p3=>exact F.size
   intro v9 w9 bE cd _ J;rw[<- Z.aa]at bE;have k9:=F.trans J;exact Wg
  ·have aO:¬(j:Int)<t.length:=af;obtain rfl:j=t.length:=af;rw[nc]at hO;exact Qm
structure jS(gl gd:Nat)(vh vr:Value)(l:List UInt8)(gS room:Nat)(w:World):Prop where
 dk:gG gd vh l gS room w
 blk:ah w gl 195 #[.pointer (some ⟨gd,0,none⟩),vr]
 row:∃n xs,n<=l.length/\w.ownsRow 0 94 1 vr n xs
def jT(gl gd:Nat)(vh vr:Value)(k:Nat):Prop:=k=gl∨vr.ownBlock=some k∨kZ gd vh k
structure oy(gl gd:Nat)(vh vr dD wG:Value)(w w':World):Prop where
 up:ag (jT gl gd vh vr) w w'
 new:∀k,jT gl gd dD wG k->jT gl gd vh vr k∨w.heap.size<=k
section
variable {gl gd:Nat} {vh vr dD wG Mr akm:Value} {l:List UInt8} {gS room:Nat} {w w' w'':World}
theorem jS.st(h:jS gl gd vh vr l gS room w)(k:K w w'):jS gl gd vh vr l gS room w':=by obtain⟨n,xs,hn,j⟩:=h.row;exact⟨h.dk.st k,h.blk.ay k,n,xs,hn,pZ j k⟩
theorem jS.lt(h:jS gl gd vh vr l gS room w):∀k,jT gl gd vh vr k->k<w.heap.size:=λk hk=>by
 obtain⟨n,xs,hn,j⟩:=h.row;rcases hk with rfl|hk|hk
 ·exact h.blk.lt
 ·exact (j.lt k hk).2
 ·exact h.dk.lt k hk
theorem jS.apart(h:jS gl gd vh vr l gS room w):¬kZ gd vh gl/\(∀k,vr.ownBlock=some k->¬kZ gd vh k)/\vr.ownBlock≠some gl:=by
 obtain⟨n,xs,hn,j⟩:=h.row;refine⟨λhk=>?_,λk hk u=>?_,λe=>?_⟩
 ·rcases hk with e|e
  ·exact absurd (h.blk.gY (e▸h.dk.blk)) ax
  ·obtain⟨cur,h1⟩:=lO h.dk.own e;exact Wf
 ·obtain⟨cur,h1⟩:=lO j hk;rcases u with rfl|e
  ·exact absurd (h1.gY h.dk.blk) ax
  ·obtain⟨y,t⟩:=lO h.dk.own e;exact absurd (h1.gY t) ax
 ·obtain⟨cur,h1⟩:=lO j e;exact Wf
theorem jS.I9{l' j}(h:jS gl gd vh vr l gS room w)(d:gG gd dD l' j room w')(u:jR gd vh dD w w')(A:l.length<=l'.length):jS gl gd dD vr l' j room w'/\oy gl gd vh vr dD vr w w':=by
 obtain⟨B,t,-⟩:=h.apart;obtain⟨n,xs,hn,y⟩:=h.row;refine⟨⟨d,h.blk.aX u.up B,n,xs,bo hn A,iN y u.up t⟩,⟨u.up.more λk hk=>.inr (.inr hk),λk hk=>?_⟩⟩;rcases hk with hk|hk|hk
 ·exact .inl (.inl hk)
 ·exact .inl (.inr (.inl hk))
 ·exact (u.new k hk).imp (λh=>.inr (.inr h)) id
theorem oy.rf(k:K w w'):oy gl gd vh vr vh vr w w':=⟨ag.aU k _,λ_ h=>.inl h⟩
theorem oy.tr(h:oy gl gd vh vr dD wG w w')(k:oy gl gd dD wG Mr akm w' w''):oy gl gd vh vr Mr akm w w'' :=
 ⟨h.up.gq k.up λb hb t=>(h.new b t).resolve_right af,λb hb=>(k.new b hb).elim (λj=>h.new b j) λj=>.inr (bo h.up.size j)⟩
end
theorem Pb j:j.length<=(frames j).length:=by
 induction j with
 | nil=>simp
 | cons b j t =>
  grind [frames,dq,eQ,BZ,xP]
def oz(l:List UInt8)(j:List (List UInt8))(room:Nat):List UInt8×Int:=if j.all ib then tj l (frames j) room else (l,30)
theorem atu{P e w base ρ} s u j ty z size bytes(T:fS P j e z size bytes) v n vs(F:ρ s=v)(C:w.ownsRow base e size v n vs) B A m c t(y:ρ u=.slice A m c)(I:Reads w B size A m t)(D:∀u∈t,u.oneCell'=true)
 (H:(n+m)*(bytes+1)<=140737488355328) (G:base<=w.heap.size) :
 ∃v' w',(execOp ρ (aG (.call { callee:=.builtin .append,args:=#[s,u],argTypes:=#[j,j] }) ty)).run P w=.ok (.value v') w'/\w'.ownsRow base e size v' (n+m) (vs++t)/\w.grownBy w' v.ownBlock/\(v'.ownBlock=v.ownBlock∨v'.ownBlock=some w.heap.size)/\Below base w w':=by
 obtain⟨v',w',E,h⟩:=FK (P:=P) w base j ty e z size bytes T v n vs C B A m c t I D H G
 refine⟨v',w',?_,h⟩
 subst F
 simp only[execOp,aG,resolve,invoke,builtin,Sem.run_bind,Sem.run_pure,Result.andThen_ok,List.map_toArray,jU,List.map_nil,y,E]
theorem aoB gl gd vh vr v l E room rs w(h:jS gl gd vh vr l E room w)(Y:Fx (jT gl gd vh vr) (λW=>aq ki rs v W) w)(sB:rs.length<=200000)(hb:∀b∈rs,b.length<=1000000000) :
 Calls prog 304 #[.pointer (some ⟨gl,0,none⟩),v] w λe w'=>∃dD wG,e=.returned (.int .i64 (oz l rs room).2)/\jS gl gd dD wG (oz l rs room).1 E room w'/\oy gl gd vh vr dD wG w w':=by
 have HA:Hid (oz l rs room=if rs.all ib then tj l (frames rs) room else (l,30)):=ae rfl
 have HD:Hid (tj l (frames rs) room=if l.length+(frames rs).length<=room then (l++frames rs,0)else (l,90)):=ae rfl
 have HF:Hid (Aj rs=if rs.all ib then (frames rs,0)else ([],30)):=ae rfl
 generalize oz l rs room=R at *
 have C1:=ae (abH rs v w Y.now sB hb)
 have cN:(Aj rs).1.length<=1000000000:=agI
 have H:=ae h
 have HV:=ae Y
 have Zp:=ae hb
 obtain⟨A,c,rfl⟩:=av Y.now
 have q:=h.blk.cells
 go_in
 go_wp2_with fail
 refine C1.aa.mono ?_
 rintro e w1⟨v1,rfl,gM,J⟩
 generalize Aj rs=F at *
 cases hok:rs.all ib
 ·have GV:Hid (F=([],30)):=ae agJ;have fy:Hid (R=(l,30)):=ae agK;rw[GV.aa];go_wp2;go_ret;exact⟨vh,vr,Lt,by rw[fy.aa];exact H.aa.st J,oy.rf J⟩
 have GV:Hid (F=(frames rs,0)):=ae agL
 have fy:Hid (R=tj l (frames rs) room):=ae agM
 rw[GV.aa]at gM cN⊢
 have N:=ae (H.aa.st J)
 obtain⟨A1,c1,rfl,-⟩:=gM.slice
 have C2:=ae (abG gd vh _ l (frames rs) E room w1 N.aa.dk (eK gM) cN)
 have q1:=q w1 J
 go_wp2_with fail
 refine C2.aa.mono ?_
 rintro e D⟨I,rfl,gN,nD⟩
 obtain⟨n,xs,hnl,Q⟩:=N.aa.row
 replace Q:=iN Q nD.up N.aa.apart.2.1
 obtain⟨tk,Zq⟩:=N.aa.I9 gN nD (by rw[HD.aa];split <;> simp)
 have L:=ae ((oy.rf J).tr Zq)
 have j:=ae tk
 have BC:=HV.aa.to L.aa.up (λ_ h=>h) λk hk hx=>(L.aa.new k hx).resolve_right af
 by_cases hfit:l.length+(frames rs).length<=room
 rotate_left
 ·have zC:Hid (tj l (frames rs) room=(l,90)):=ae agN;rw[zC.aa];go_wp2;go_ret;exact⟨I,vr,Qn,by rw[fy.aa];exact j.aa,L.aa⟩
 have zC:Hid (tj l (frames rs) room=(l++frames rs,0)):=ae agO
 rw[zC.aa]at j⊢
 obtain⟨-,-,hne⟩:=j.aa.apart
 have q:=j.aa.blk.cells
 go_upto_region 9 with fail
 have akn:=λk hk=>(Q.lt k hk).2
 have Mq:¬vr.ownBlock=some gl:=λe=>hne e
 have qs:=λW (u:ag (λk=>vr.ownBlock=some k) D W)=>(j.aa.blk.aX u Mq).cell
 refine OI 8 [7] (λW=>ag (λk=>vr.ownBlock=some k) D W) (λW W'=>W.grownBy W' vr.ownBlock) (λk vs W=>if k=0 then W.ownsRow 0 94 1 vr n xs else ∃t S,vs=[t]/\W.ownsRow 0 94 1 t (n+rs.length) S/\∀b,t.ownBlock=some b->vr.ownBlock=some b∨D.heap.size<=b)
  [([],[]),([],[]),([1],[(28,1)]),([2],[(29,2)]),([3],[(30,3)]),([],[]),([5],[(32,5)]),([4,6],[(31,4),(33,6)]),([0,1,2,3,4,5,6,7],[(27,0)]),([0,1,2,3,4,5,6,7,8],[(35,8)]),([0,1,2,3,4,5,6,7,9],[(36,9),(34,7)])] 37
  (λ_ _ h k=>h.tr (ag.aU k _)) (λ_ _ h=>BU h _) (λk vs W W' h kW=>by
   split at h
   ·next G=>rw[if_pos G];exact pZ h kW
   ·next G =>
    rw[if_neg G];obtain⟨t,S,e1,C,O⟩:=h;exact⟨t,S,e1,pZ C kW,O⟩) (ag.rf _ _) (λ_=>Q) ?_
 iterate 6 refine ar.i ?_
 refine ar.c (λv W=>aC (λk=>k<D.heap.size) D.heap.size 94 ki rs v W) (λ_ _ _ h k=>h.up (ag.eP (X:=λk=>vr.ownBlock=some k) k λ_ e=>e) akn λk hk=>by have:=akn k hk;omega)
  (λW u=>(Ug rs _ W (BC W (u.more λ_ h=>.inr (.inl h))) sB Zp.aa).mono λe w4 ⟨v4,e1,cY,k4⟩=>⟨v4,e1,(cY.low u.size).less λk hk=>bw hk u.size,k4⟩) ?_
 refine ar.s ?_
 refine⟨⟨⟨_,_,rfl,rfl,rfl,λV W hW Z hp=>?_⟩,trivial⟩,λV W hW Z hA=>?_⟩
 ·simp only[cz,aN,aQ,bV,bW,aJ]at hp;obtain⟨e4,T,-⟩:=hp;obtain⟨A6,c6,e6⟩:=av T.aq;rw[e6]at T;obtain⟨css,oV,-,hE6⟩:=T;have hrf:=Pb rs;have uB:=j.aa.dk.len;have U:=j.aa.dk.room;have Ng:(l++frames rs).length<=1048576:=af;change jO _ _ ((execOp (aF [(31,4),(33,6)] _ V) (aG (.call { callee:=.builtin .append,args:=#[.tmp 31,.tmp 33],argTypes:=#[119,119] }) 119)).run _ _);obtain⟨t,w9,hrun,C,O,h3,-⟩:=atu (P:=prog) (ρ:=aF [(31,4),(33,6)] _ V) (.tmp 31) (.tmp 33) 119 119 _ 1 24 Sd vr n xs (by simp[aF,List.lookup,e4]) Z W.heap.size A6 rs.length c6 css.flatten (by simp[aF,List.lookup,e6]) (Reads.yE oV) (hE6 W (ag.rf _ _)).ones (by simp only[dq]at Ng;omega) (eE _);rw[hrun];exact⟨hW.tr (ag.eP O λ_ e=>e),O,⟨t,_,rfl,C,λb hb=>h3.elim (λh=>.inl (h▸hb)) λh=>.inr af2⟩,trivial⟩
 simp only[aN,aQ,b6,aJ,Nat.reduceAdd]at hA
 obtain⟨e0,-⟩:=hA
 obtain⟨t,S,e7,mM,eS⟩:=Z
 injection e7 with e7
 have uB:=j.aa.dk.len
 have U:=j.aa.dk.room
 have M:=j.aa.blk.aX hW Mq
 have xR:gG gd I (l++frames rs) E room W:=by obtain⟨-,a2,-⟩:=j.aa.apart;exact⟨j.aa.dk.blk.aX hW λe=>a2 _ e (.inl rfl),iN j.aa.dk.own hW λk hk e=>a2 _ e (.inr hk),uB,U⟩
 have azQ:t.ownBlock≠some gl:=λe=>by obtain⟨cur,C⟩:=lO mM e;exact absurd (C.gY M) ax
 have hgd:gl≠gd:=λe=>j.aa.apart.1 (.inl e)
 have xS:I.ownBlock≠some gl:=λe=>j.aa.apart.1 (.inr e)
 have q9:=M.cell
 have z9:=M.frozen
 obtain⟨B,y,rfl⟩:∃A c,t=.slice A (n+rs.length) c:=by
  rcases mM.2 with ⟨rfl,G⟩|⟨g,cap,cur,rfl,-⟩
  ·exact⟨_,_,by rw[G]⟩
  ·exact⟨_,_,rfl⟩
 have hA:=And.intro e0 e7
 have qs:=And.intro q9 z9
 iterate 2 refine aH.p ?_
 refine aH.s ?_
 refine aH.e ?_
 have u9:ag (λk=>k=gl) W (W.setCell ⟨gl,1,none⟩ (.slice B (n+rs.length) y)):=ag.bK (X:=λk=>k=gl) rfl 1 _
 have hV:jS gl gd I (.slice B (n+rs.length) y) (l++frames rs) E room (W.setCell ⟨gl,1,none⟩ (.slice B (n+rs.length) y)):=by refine⟨⟨xR.blk.aX u9 λe=>hgd e.symm,iN xR.own u9 λk hk e=>xS uY,uB,U⟩,M.aP 1 (.slice B (n+rs.length) y),_,_,?_,iN mM u9 λk hk e=>azQ uY⟩;have:=Pb rs;simp only[dq];omega
 have hU:oy gl gd vh vr I (.slice B (n+rs.length) y) w (W.setCell ⟨gl,1,none⟩ (.slice B (n+rs.length) y)):=by
  refine L.aa.tr ⟨(hW.more λk hk=>.inr (.inl hk)).tr (ag.bK (.inl rfl) 1 _),λk hk=>?_⟩;rcases hk with hk|hk|hk
  ·exact .inl (.inl hk)
  ·exact (eS k hk).imp (λh=>.inr (.inl h)) id
  ·exact .inl (.inr (.inr hk))
 go_wp2
 go_ret
 exact⟨_,_,Qn,by rw[fy.aa,zC.aa];exact hV,hU⟩
theorem awY l j room:(oz l j room).2=0∨(oz l j room).1=l:=by
 grind [oz,tj]
theorem apb gl gd vh vr v l room j w(h:jS gl gd vh vr l l.length room w)(E:Fx (jT gl gd vh vr) (λW=>aq ki j v W) w)(O:j.length<=200000)(hb:∀b∈j,b.length<=1000000000) :
 Calls prog 270 #[.pointer (some ⟨gl,0,none⟩),v] w λe w'=>∃F G,e=.returned (.int .i64 (oz l j room).2)/\jS gl gd F G (oz l j room).1 (oz l j room).1.length room w'/\oy gl gd vh vr F G w w':=by
 have T:=ae (aoB gl gd vh vr v l l.length room j w h E O hb)
 have U:=ae (awY l j room)
 obtain⟨A,c,rfl⟩:=av E.now
 generalize oz l j room=R at *
 go_in
 go_wp2_with fail
 refine T.aa.mono ?_
 rintro e C⟨B,M,rfl,t,u⟩
 by_cases h0:R.2=0
 ·have S:=ae t;have q:=t.blk.cell;have V:=ae (ap7 gd B R.1 l.length room C t.dk);have J:=ae u;have y:=ae h0;rw[h0];go_wp2_with fail
  apply aI V.aa;rintro Y⟨Q,L⟩;obtain⟨I,N⟩:=S.aa.I9 Q L (aD _);have D:=J.aa.tr N;go_wp2;go_ret;first
  | exact⟨_,_,by rw[y.aa];rfl,I,D⟩
  | exact⟨by rw[y.aa];rfl,_,_,I,D⟩
 ·have X:(R.2 != 0)=true:=Lb;have H:jS gl gd B M R.1 R.1.length room C:=by have:=U.aa.resolve_left h0;rw[this]at t⊢;exact t
  go_wp2;go_ret;first
  | exact⟨_,_,rfl,H,u⟩
  | exact⟨rfl,_,_,H,u⟩
def xT(l:List UInt8)(j:List (List UInt8))(room:Nat):List UInt8×Int:=if j.all ib then xQ l (frames j) room else (l,30)
theorem aoe gl gd vh vr v l room rs w(h:jS gl gd vh vr l l.length room w)(Q:Fx (jT gl gd vh vr) (λW=>aq ki rs v W) w)(sB:rs.length<=200000)(hb:∀b∈rs,b.length<=1000000000) :
 Calls prog 229 #[.pointer (some ⟨gl,0,none⟩),v] w λe w'=>∃S Y,e=.returned (.int .i64 (xT l rs room).2)/\((xT l rs room).2=0->jS gl gd S Y (xT l rs room).1 (xT l rs room).1.length room w')/\gG gd S (xT l rs room).1 (xT l rs room).1.length room w'/\oy gl gd vh vr S Y w w':=by
 have HA:Hid (xT l rs room=if rs.all ib then xQ l (frames rs) room else (l,30)):=ae rfl
 have HD:Hid (xQ l (frames rs) room=if (frames rs).length<=room then (frames rs,0)else (l,90)):=ae rfl
 have HF:Hid (Aj rs=if rs.all ib then (frames rs,0)else ([],30)):=ae rfl
 generalize xT l rs room=R at *
 have C1:=ae (abH rs v w Q.now sB hb)
 have Z:(Aj rs).1.length<=1000000000:=agI
 have H:=ae h
 have HV:=ae Q
 have Zp:=ae hb
 obtain⟨A,c,rfl⟩:=av Q.now
 have q:=h.blk.cells
 go_in
 go_wp2_with fail
 refine C1.aa.mono ?_
 rintro e B⟨v1,rfl,U,D⟩
 generalize Aj rs=F at *
 cases hok:rs.all ib
 ·have O:Hid (F=([],30)):=ae agJ;have fy:Hid (R=(l,30)):=ae agK;rw[O.aa];have y:Hid (((30:Int)=0->jS gl gd vh vr l l.length room B)/\gG gd vh l l.length room B/\oy gl gd vh vr vh vr w B):=ae ⟨λe=>absurd e ax,(H.aa.st D).dk,oy.rf D⟩;go_wp2;go_ret;exact⟨vh,vr,Lt,by rw[fy.aa];exact y.aa⟩
 have O:Hid (F=(frames rs,0)):=ae agL
 have fy:Hid (R=xQ l (frames rs) room):=ae agM
 rw[O.aa]at U Z⊢
 have M:=ae (H.aa.st D)
 obtain⟨A1,c1,rfl,-⟩:=U.slice
 have C2:=ae (ap8 gd vh _ l (frames rs) room B M.aa.dk (eK U) Z)
 have q1:=q B D
 go_wp2_with fail
 refine C2.aa.mono ?_
 rintro e C⟨t,rfl,L,E⟩
 obtain⟨a1,a2,a3⟩:=M.aa.apart
 have hx2:=M.aa.blk.aX E.up a1
 obtain⟨n,xs,hnl,hrow⟩:=M.aa.row
 replace hrow:=iN hrow E.up a2
 have G:Hid (oy gl gd vh vr t vr w C):=ae ((oy.rf D).tr ⟨E.up.more λk hk=>.inr (.inr hk),λk hk=>by
  rcases hk with hk|hk|hk
  ·exact .inl (.inl hk)
  ·exact .inl (.inr (.inl hk))
  ·exact (E.new k hk).imp (λh=>.inr (.inr h)) id⟩)
 have BC:=HV.aa.to G.aa.up (λ_ h=>h) λk hk hx=>(G.aa.new k hx).resolve_right af
 by_cases hfit:(frames rs).length<=room
 rotate_left
 ·have zC:Hid (xQ l (frames rs) room=(l,90)):=ae agN;rw[zC.aa]at L⊢;have y:Hid (((90:Int)=0->jS gl gd t vr l l.length room C)/\gG gd t l l.length room C/\oy gl gd vh vr t vr w C):=ae ⟨λe=>absurd e ax,L,G.aa⟩;go_wp2;go_ret;exact⟨t,vr,Qn,by rw[fy.aa,zC.aa];exact y.aa⟩
 have zC:Hid (xQ l (frames rs) room=(frames rs,0)):=ae agO
 rw[zC.aa]at L⊢
 have C3:=ae (Ug rs _ C BC.now sB Zp.aa)
 have Nh:=ae L
 have q:=hx2.cells
 have gF:=hx2.lt
 go_wp2_with fail
 refine C3.aa.mono ?_
 rintro e u⟨j,rfl,bQ,T⟩
 obtain⟨css,J,azR,JI⟩:=bQ
 have N:=hx2.below T gF
 have azS:j.ownBlock≠some gl:=λe=>by have:=(J.lt gl e).1;omega
 have hgd:gl≠gd:=λe=>a1 (.inl e)
 have xS:t.ownBlock≠some gl:=λe=>by obtain⟨cur,h1⟩:=lO Nh.aa.own e;exact Qj
 have u9:ag (λk=>k=gl) u (u.setCell ⟨gl,1,none⟩ j):=ag.bK (X:=λk=>k=gl) rfl 1 _
 have I:=Nh.aa.st T
 have V:jS gl gd t j (frames rs) (frames rs).length room (u.setCell ⟨gl,1,none⟩ j) :=
  ⟨⟨I.blk.aX u9 λe=>hgd e.symm,iN I.own u9 λk hk e=>xS uY,I.len,I.room⟩,N.aP 1 j,_,_,Pb rs,mo (eE _) (iN J u9 λk hk e=>azS uY)⟩
 have hU:oy gl gd vh vr t j w (u.setCell ⟨gl,1,none⟩ j):=by
  refine G.aa.tr ⟨(ag.aU T _).tr (ag.bK (.inl rfl) 1 _),λk hk=>?_⟩;rcases hk with hk|hk|hk
  ·exact .inl (.inl hk)
  ·exact .inr (J.lt k hk).1
  ·exact .inl (.inr (.inr hk))
 have y:Hid (((0:Int)=0->jS gl gd t j (frames rs) (frames rs).length room (u.setCell ⟨gl,1,none⟩ j))/\gG gd t (frames rs) (frames rs).length room (u.setCell ⟨gl,1,none⟩ j)/\oy gl gd vh vr t j w (u.setCell ⟨gl,1,none⟩ j)):=ae ⟨λ_=>V,V.dk,hU⟩
 obtain⟨A3,c3,rfl⟩:=av (aC.aq ⟨css,J,azR,JI⟩)
 have q3:=N.cell
 have z3:=N.frozen
 go_wp2
 go_ret
 exact⟨_,_,Qn,by rw[fy.aa,zC.aa];exact⟨λ_=>y.aa.1 (by first|trivial|rfl),y.aa.2⟩⟩
theorem abC gl vd vr j w(y:ah w gl 195 #[vd,vr])(t:aq ki j vr w)(D:j.length<=200000)(hb:∀b∈j,b.length<=1000000000) :
 Calls prog 63 #[.pointer (some ⟨gl,0,none⟩)] w λe w'=>∃v',e=.returned v'/\aC (λk=>k<w.heap.size) w.heap.size 94 ki j v' w'/\K w w':=by
 have B:=ae (Ug j vr w t D hb)
 obtain⟨A,c,rfl⟩:=av t
 have q:=y.cell
 go_in
 go_wp2_with fail
 apply bN B.aa
 rintro E F⟨u,C⟩
 go_wp2
 go_ret
 exact⟨_,rfl,u,C⟩
theorem acj gd vh j{D} room w(h:gG gd vh (frames j) D room w)(hok:∀b∈j,ib b=true) :
 Calls prog 61 #[.pointer (some ⟨gd,0,none⟩)] w λe w'=>∃gl vr,e=.returned (.tuple #[.pointer (some ⟨gl,0,none⟩),.int .i64 0])/\w.heap.size<=gl/\ah w' gl 195 #[.pointer (some ⟨gd,0,none⟩),vr]/\aC (λk=>k<w.heap.size) w.heap.size 94 ki j vr w'/\gG gd vh (frames j) (frames j).length room w'/\ag (kZ gd vh) w w':=by
 have:=h.len
 have:=h.room
 have C1:=ae (ach gd vh (frames j) D room w h)
 have H:=ae h
 go_in
 go_wp2_with fail
 refine C1.aa.mono ?_
 rintro e t⟨F,rfl,gM,L⟩
 have S:∃A c,F=.slice A (frames j).length c/\Reads t t.heap.size 1 A (frames j).length (dN (frames j))/\(frames j).length<=c:=by
  have I:t.ownsRow w.heap.size 5 1 F (frames j).length (dN (frames j)):=gM;have u:=I;rcases I.2 with ⟨rfl,G⟩|⟨g,cap,cur,rfl,-,-,Q,-⟩
  ·exact⟨_,_,by rw[G],by rw[G]at u⊢;exact Reads.yE u,af⟩
  ·exact⟨_,_,rfl,Reads.yE u,Q⟩
 obtain⟨R,c1,rfl,j9,U⟩:=S
 have C2:=ae (ap6 j _ t R c1 rfl j9 U af hok)
 go_wp2_with fail
 refine C2.aa.mono ?_
 rintro e X⟨v2,rfl,N,k2⟩
 have B:=L.tr k2
 have V:=ae (arx gd vh (frames j) D room X (H.aa.st B))
 have T:=ae N
 go_wp2_with fail
 refine V.aa.mono ?_
 rintro e w3⟨rfl,hd3,y⟩
 have M:=H.aa.lt
 have E:=L.size
 have Y:=((T.aa.less λk hk=>bw hk E).up y.up (λk hk=>M k hk) (λk hk=>by have:=M k hk;omega)).low E
 have Z:=bo B.size y.up.size
 have hb:=ah.new w3 195 #[.pointer (some ⟨gd,0,none⟩),v2]
 have C:=hb.aS
 have J:=Y.st C
 have O:=hd3.st C
 have W:=((ag.aU B _).tr y.up).tr (ag.aU C _)
 obtain⟨A2,c2,rfl⟩:=J.slice
 go_wp2
 go_ret2
 exact⟨_,_,rfl,Z,hb,J,O,W⟩
theorem aza M w:lG M cV (.slice none 0 0) (.slice none 0 0) (.slice none 0 0) w:=λ_ _=>⟨gy _ _,gy _ _,gy _ _⟩
theorem awZ l v w(h:aq ki l v w)(hlen:l.length<=800000)(hb:∀b∈l,b.length<=1000000000) :
 Calls prog 62 #[v] w λe w'=>∃vl vp va,e=.returned (.tuple #[.agg (cJ (sW l).1 vl vp va),.int .i64 (sW l).2])/\lG (λk=>k<w.heap.size) (sW l).1 vl vp va w'/\K w w':=by
 obtain⟨D,d,rfl,hl,-⟩:=h
 have HL:=ae hl
 generalize ho:sW l=o
 have T:=ae ho
 obtain⟨B,co⟩:=o
 clear ho
 have HB:=ae hb
 have E:=(ah.new w 46 lH).alloc (.cells lH 46)
 have L:=ah.new (w.alloc (.cells lH 46)) 46 lH
 have k0:=K.kK w (.cells lH 46) (.cells lH 46)
 rw[World.size_alloc]at L
 clear hl hb
 go_in
 go_wp2
 go_step3
 go_wp2_with fail
 go_step3
 generalize World.alloc (World.alloc w _) _=w0 at *
 generalize jy:w.heap.size=N at E L⊢
 obtain⟨base,hbase⟩:∃b,b=N+1:=⟨_,rfl⟩
 have Zl:=ae (show zx base (N+1) cV w0 from ⟨_,_,_,eF.nil (n:=0) (l:=[]) L af (aC.nil _ _ _ _ _)⟩)
 have hlow:base<=w0.heap.size:=by have:=L.lt;omega
 have kk:Below base w0 w0:=cP _ _
 clear L
 go_wp2_with fail
 go_loopw [5,7,8,9,12] (fun f _ _ _ i W=>∃j:Nat,j<=l.length/\i=.int .i64 j/\f=.int .i64 0/\Hid ((iu cV (l.take j)).2=0)/\Hid (zx base (N+1) (iu cV (l.take j)).1 W)/\Below base w0 W) (fun _ _ _ _ i _=>l.length-(intOf i).toNat)
 case atStart=>exact⟨0,af,rfl,rfl,ae cC,ae fk,kk⟩
 case round =>
  clear kk Zl;obtain⟨j,hj,rfl,rfl,U,G,H⟩:=hrel;have kr:K w wr:=k0.trans (H.mono af);by_cases C:j<l.length
  ·have aO:(j:Int)<l.length:=af;obtain⟨b1,off,cs,rfl,hcl,hrl,d0,-⟩:=ed HL.aa j C ax;have S:=ae (adA C U.aa);have X:=ae (λc=>avk C U.aa (c:=c));have bS:=HB.aa _ (bT C);have hsz:=avj (l.take j) cV;simp only[p8,show cV.list.length=0 from rfl,show cV.prom.length=0 from rfl,show cV.ab.length=0 from rfl]at hsz;generalize l[j]=b at *;generalize (iu cV (l.take j)).1=s at *;obtain⟨vb,rfl,kP⟩:=hrl wr kr;have hv:∃A c,vb=.slice A b.length c:=by obtain⟨A,c,h,_⟩:=kP;exact⟨A,c,h⟩
   obtain⟨Ab,cb,rfl⟩:=hv;have q0:wr.cell? ⟨b1,off+j,none⟩=some (.slice Ab b.length cb):=by
    grind
   have C1:=ae (ao7 b _ wr kP bS);clear hrl hcl d0 kP;go_wp2_with fail
   refine C1.aa.mono ?_;rintro e J⟨v',rfl,zD,k2⟩;have R:=ae zD;obtain⟨vf,ve,rfl,hf,he⟩:=zD J (aK.rf _ _ _);obtain⟨Af,cf,rfl⟩:=b5 hf;obtain⟨Ae,ce,rfl⟩:=av he;have I:=ah.new J 197 (eY (tM b) (.slice Af (tM b).e.f.length cf) (.slice Ae (tM b).e.es.length ce));have O:=I.aS;have Q:=k2.tr O;have V:Hid (sc s b=if tN b=0 then mA s (tM b)else (s,tN b)):=ae rfl;have HDR:=ae (@arp b);clear zD hf he C1 q0;generalize tN b=c at *;by_cases hc:c=0
   ·subst hc;obtain⟨x,hx1,hx2⟩:=HDR.aa rfl;have HFX:=ae (aro hx1);have HOX:=ae (apZ (apU hx1).2);rw[hx2]at V R I O Q⊢;clear hx1 hx2 HDR;go_upto_region 8 with fail;generalize J.alloc _=Y at *;generalize J.heap.size=g8 at I⊢;obtain⟨vl,vp,va,hS⟩:=G.aa;have dP:=bo hlow H.size;have Sc:M8 base (N+1) s x vl vp va (.agg (eY x (.slice Af x.e.f.length cf) (.slice Ae x.e.es.length ce))) Y :=
     ⟨hS.st Q,λW u=>R.aa W ((aK.aU O _ _).tr (u.rI λk h1 _ _ e=>by have:=hS.lt dP k (.inr e);have:=k2.size;omega)),bo dP Q.size,⟨af,af,af⟩,HOX.aa,HFX.aa⟩
    have C2:=ae (aeq Y Sc);have q3:=I.cell;have Z:=H.trans (Q.mono (bo hlow H.size));clear Sc hS G R I O;go_wp2_with fail
    refine C2.aa.mono ?_;rintro e w4⟨rfl,F,hb4⟩;have Sl:=ae F;have Zt:=Z.trans hb4;have ajY:=V.aa.trans (if_pos aj);have Yo:=ae ajY;clear F q3 C2 V ajY;generalize mA s x=o at *;obtain⟨s',e'⟩:=o;by_cases he':e'=0
    ·subst he';have EV:Hid ((iu cV (l.take (j+1))).2=0):=ae (by rw[S.aa,Yo.aa]);have HS5:Hid (zx base (N+1) (iu cV (l.take (j+1))).1 w4):=ae (by rw[S.aa,Yo.aa];exact Sl.aa);go_wp2;go_roundw
     case rel=>exact⟨j+1,af,bD,rfl,EV,HS5,Zt⟩
     case measure=>simp[intOf];omega
    ·have y:=X.aa e' (by rw[Yo.aa]) he';rw[T.aa]at y;obtain⟨rfl,rfl⟩:=Prod.mk.inj y;clear y X S Sl;have t:=(E.below Zt af);have z:=t.frozen;have M:=t.cell;obtain⟨bq,k9,-⟩:=LU cV (.slice none 0 0) (.slice none 0 0) (.slice none 0 0) t rfl (k0.trans (Zt.mono af)) af;rw[show ((cV.life:Nat):Int)=0 from rfl]at bq k9;clear E C aO t;go_wp2;clear z M;generalize World.setCell (World.setCell (World.setCell (World.setCell w4 _ _) _ _) _ _) _ _=W9 at *;exact agP
   ·have y:=X.aa c (by rw[V.aa,if_neg hc]) hc;rw[T.aa]at y;obtain⟨rfl,rfl⟩:=Prod.mk.inj y;have Z:=H.trans (Q.mono (bo hlow H.size));go_upto_region 7 with fail;generalize J.alloc _=Y at *;clear y X S G I O R;have t:=(E.below Z af);have z:=t.frozen;have M:=t.cell;obtain⟨bq,k9,-⟩:=LU cV (.slice none 0 0) (.slice none 0 0) (.slice none 0 0) t rfl (k0.trans (Z.mono af)) af;rw[show ((cV.life:Nat):Int)=0 from rfl]at bq k9;clear E C aO t;go_wp2;clear z M;generalize World.setCell (World.setCell (World.setCell (World.setCell Y _ _) _ _) _ _) _ _=W9 at *;exact agP
  ·have aO:¬(j:Int)<l.length:=af;have y:=U.aa;rw[gI af]at y G;have y:=atc y;rw[T.aa]at y;obtain⟨sC,rfl⟩:=Prod.mk.inj y;rw[<- sC]at G;obtain⟨vl,vp,va,F⟩:=G.aa;obtain⟨⟨El,fl,rfl⟩,⟨Ep,fp,rfl⟩,Ea,fa,rfl⟩:=F.slices;have q:=F.blk.cell;have t:=E.below H af;have z:=t.frozen;have M:=t.cell;obtain⟨bq,k9,u9⟩:=LU B (.slice El B.list.length fl) (.slice Ep B.prom.length fp) (.slice Ea B.ab.length fa) t rfl kr af;have H9:=ae (And.intro (F.fx.up u9 λk e=>show k<base by omega) k9);clear F G E y U C T sC t k9 u9;go_wp2;clear q z M;generalize World.setCell (World.setCell (World.setCell (World.setCell wr _ _) _ _) _ _) _ _=W9 at *;have e9:=bq.cell;try rw[ig]
   refine bodyPost_ret (v:=.tuple #[.agg (cJ B (.slice El B.list.length fl) (.slice Ep B.prom.length fp) (.slice Ea B.ab.length fa)),.int .i64 0]) (by simp[results,results62,go_sem,e9]) rfl ?_;exact⟨_,_,_,rfl,H9.aa.1.less λk h=>af,H9.aa.2⟩
def Gq(l:List (List UInt8)):Prop:=∀(v:Value) (w:World),aq ki l v w->Calls prog 62 #[v] w λe w'=>∃vl vp va,e=.returned (.tuple #[.agg (cJ (sW l).1 vl vp va),.int .i64 (sW l).2])/\lG (λk=>k<w.heap.size) (sW l).1 vl vp va w'/\K w w'
theorem Gq.all{l}(j:l.length<=800000)(hb:∀b∈l,b.length<=1000000000):Gq l:=λv w h=>awZ l v w h j hb
theorem ap9 s v w(h:nB s v w)(hz:s.list.length<=300000/\s.prom.length<=300000/\s.ab.length<=300000)(hok:∀r∈dc s,dL r=true/\jA r) :
 Calls prog 228 #[v] w λe w'=>∃v',e=.returned (.tuple #[v',.int .i64 0])/\aV w.heap.size w.heap.size 94 ki ((dc s).map bJ) v' w'/\K w w':=by
 obtain⟨vl,vp,va,rfl,hl,hp,ha⟩:=h
 obtain⟨Al,cl,rfl,hl,-⟩:=hl
 obtain⟨Ap,cp,rfl,hp,-⟩:=hp
 obtain⟨Aa,ca,rfl,ha,-⟩:=ha
 have eH:=ah.new w 46 (cJ s (.slice Al s.list.length cl) (.slice Ap s.prom.length cp) (.slice Aa s.ab.length ca))
 have X:=eH.aS
 have HL:=ae hl
 have HP:=ae hp
 have HA:=ae ha
 have kX:=ae hok
 have H1L:=aer s.life
 obtain⟨C,j9⟩:∃R,R=vO s.life:=⟨_,rfl⟩
 have hS:dc s=C++lX s.list++kM s.prom++pH s.ab:=by rw[j9];rfl
 generalize dc s=I at *
 have HS:=ae hS
 have GW:=ae j9
 rw[<- j9]at H1L
 clear hl hp ha hok j9 hS
 go_in
 go_upto_region 2 with fail
 generalize w.alloc _=G at *
 generalize jy:w.heap.size=gp at eH⊢
 obtain⟨base,hbase⟩:∃b,Hid (b=G.heap.size):=⟨_,ae rfl⟩
 have:=eH.cells
 have J:=K.rf G
 clear eH
 go_upto_if 18 with fail
 go_cut [4]from 18 to 24 (fun v4 W=>Hid (aV base 0 197 vJ C v4 W)/\K G W)
 case first =>
  by_cases h0:s.life=0
  ·have HQ:Hid (C=[]):=ae (by rw[GW.aa,vO,if_pos h0]);have h0i:((s.life:Int) != 0)=false:=by rw[h0];rfl
   clear h0;go_wp2;go_meet
   case rel=>exact⟨ae (by rw[HQ.aa];exact aV.nil _ _ _ _ _),J⟩
  ·have HQ:Hid (C=[⟨1,s.life,dC,0,0,0⟩]):=ae (by rw[GW.aa,vO,if_neg h0]);have h0i:((s.life:Int) != 0)=true:=aY;have kA:=K.new G (.cells (eY ⟨1,s.life,dC,0,0,0⟩ (.slice none 0 0) (.slice none 0 0)) 197);have yI:base<=(G.alloc (.cells (eY ⟨1,s.life,dC,0,0,0⟩ (.slice none 0 0) (.slice none 0 0)) 197)).heap.size:=by rw[hbase.aa];exact kA.size
   clear h0;go_wp2_with (at_builtin;refine iM rfl _ _ 333 rfl base 197 _ 13 136 Ro (.slice none 0 0) 0 [] rfl (jV _ _ _ _) (G.heap.size+1) _ 1 1 (eY ⟨1,s.life,dC,0,0,0⟩ (.slice none 0 0) (.slice none 0 0)).toList rfl ?c1 ?c2 ?c3 yI ?_)
   case c1=>exact Reads.new G (eY ⟨1,s.life,dC,0,0,0⟩ (.slice none 0 0) (.slice none 0 0)).toList 197 13 1 rfl
   case c2=>and_intros <;> rfl
   case c3=>omega
   intro v9 F gJ cd eS bq;have k9:K G F:=kA.trans (bq.mono Qo);have bE:aV base 0 197 vJ C v9 F:=by rw[HQ.aa];exact aV.snoc (S:=vJ) (l:=[]) (css:=[]) (lo:=0) rfl (λw' u=>Each.nil _ _) gJ cd tO (λw' u=>⟨_,_,rfl,⟨none,0,rfl,Reads.nil _ _ _ _⟩,gy _ _⟩)
   have xV:=ae bE;clear gJ cd eS bq bE yI kA;go_wp2;go_meet
   case rel=>exact⟨xV,k9⟩
 case rest =>
 obtain⟨T,J⟩:=hcut
 go_wp2_with fail
 go_loopw [4,5,6,28] (fun v4 _ _ i W=>∃j:Nat,j<=s.list.length/\i=.int .i64 j/\Hid (aV base 0 197 vJ (C++lX (s.list.take j)) v4 W)/\K G W) (fun _ _ _ i _=>s.list.length-(intOf i).toNat)
 case atStart=>exact⟨0,af,rfl,ae (by simpa [lX]using T.aa),J⟩
 case round =>
  clear J T;obtain⟨j,hj,rfl,t,kr⟩:=hrel;by_cases hlt:j<s.list.length
  ·have aO:(j:Int)<s.list.length:=af;obtain⟨O,Y,cs,rfl,iD,hrl,E,d⟩:=ed HL.aa j hlt ax;have HT:=ae (atd s.list j hlt);have zn:Hid ((C++lX (s.list.take j)).length<=900001):=ae (by simp only[dq,K2,p8];omega);generalize s.list[j]=x at *;have qM:=X.tr kr;obtain⟨vf,ve,rfl,hf,he⟩:=hrl w (K.rf w);have kU:Hid (∀W,K w W->dx x (.agg (aE x vf ve)) W):=ae λW k=>by exact Wh
   have E:wr.cell? ⟨O,Y+j*8,none⟩=some (.int .i64 x.kind):=E wr qM;have d:∀i,i<8->wr.cell? ⟨O,Y+j*8+i,none⟩=(aE x vf ve)[i]?:=λi hi=>(d wr qM i hi).trans Array.getElem?_toList
   obtain⟨Q,L,rfl⟩:=b5 hf;obtain⟨N,M,rfl⟩:=av he;have y:=ah.new wr 126 (aE x (.slice Q x.f.length L) (.slice N x.es.length M));have D:=y.aS;clear hrl iD hf he;go_upto_region 7 with fail;clear d E;have U:=t.aa.st D;generalize wr.alloc _=B at *;generalize wr.heap.size=ge at y⊢;replace kr:=kr.tr D;have Sm:=X.tr kr;have q5:=y.cell;have mN:=U.blk;obtain⟨css,hown,hcl,mO⟩:=U;have jd:=zn.aa;generalize V:C++lX (s.list.take j)=RJ at *;have V:=ae V;have kA:=K.new B (.cells (eY ⟨2,j,x,0,0,0⟩ (.slice Q x.f.length L) (.slice N x.es.length M)) 197);have yI:base<=(B.alloc (.cells (eY ⟨2,j,x,0,0,0⟩ (.slice Q x.f.length L) (.slice N x.es.length M)) 197)).heap.size:=Wk;have Z:=λk e=>(mN k e).1
   simp only[hbase.aa]at Z;have Sn:=ae λk e=>bo X.size (Z k e)
   clear t D y mN Z;go_wp2_with (at_builtin;refine iM rfl _ _ 333 rfl base 197 _ 13 136 Ro _ _ _ rfl (p7 hown _) (B.heap.size+1) _ 1 1 (eY ⟨2,j,x,0,0,0⟩ (.slice Q x.f.length L) (.slice N x.es.length M)).toList rfl ?c1 ?c2 ?c3 yI ?_)
   case c1=>exact Reads.new B (eY ⟨2,j,x,0,0,0⟩ (.slice Q x.f.length L) (.slice N x.es.length M)).toList 197 13 1 rfl
   case c2=>and_intros <;> rfl
   case c3=>omega
   intro v9 F gJ cd eS bq;have k9:K G F:=(kr.tr kA).trans (bq.mono Qo);have xV:Hid (aV base 0 197 vJ (C++lX (s.list.take (j+1))) v9 F):=ae (by
    rw[HT.aa,<- dQ,V.aa];exact aV.snoc (S:=vJ) (lo:=0) hcl (λw' u=>mO w' (aK.tr (aK.aU kA _ _) u)) gJ cd tO (λw' u=>ajG (k:=2) (n:=j) (a:=(0,0,0)) (kU.aa w' ((aK.tr (aK.aU kA _ _) u).k Sm Sn.aa))))
   exact Qp
  ·have aO:¬(j:Int)<s.list.length:=af;rw[gI af]at t;have T:=t;have J:=kr;clear t kr hj hlt;go_wp2_with fail
   clear aO;go_loopw [4,8,44] (fun v4 _ i W=>∃j:Nat,j<=s.prom.length/\i=.int .i64 j/\Hid (aV base 0 197 vJ (C++lX s.list++kM (s.prom.take j)) v4 W)/\K G W) (fun _ _ i _=>s.prom.length-(intOf i).toNat)
   case atStart=>exact⟨0,af,rfl,ae (by simpa [kM]using T.aa),J⟩
   case round =>
    clear J T;obtain⟨j,hj,rfl,t,kr⟩:=hrel;by_cases hlt:j<s.prom.length
    ·have aO:(j:Int)<s.prom.length:=af;obtain⟨O,Y,cs,rfl,iD,hrl,E,d⟩:=ed HP.aa j hlt ax;have HT:=ae (ate s.prom j hlt);have zn:Hid ((C++lX s.list++kM (s.prom.take j)).length<=900001):=ae (by simp only[dq,K2,PB,p8];omega);generalize s.prom[j]=x at *;have qM:=X.tr kr;obtain⟨vf,ve,rfl,hf,he⟩:=hrl w (K.rf w);have kU:Hid (∀W,K w W->dx x (.agg (aE x vf ve)) W):=ae λW k=>by exact Wh
     have E:wr.cell? ⟨O,Y+j*8,none⟩=some (.int .i64 x.kind):=E wr qM;have d:∀i,i<8->wr.cell? ⟨O,Y+j*8+i,none⟩=(aE x vf ve)[i]?:=λi hi=>(d wr qM i hi).trans Array.getElem?_toList
     obtain⟨Q,L,rfl⟩:=b5 hf;obtain⟨N,M,rfl⟩:=av he;have y:=ah.new wr 126 (aE x (.slice Q x.f.length L) (.slice N x.es.length M));have D:=y.aS;clear hrl iD hf he;go_upto_region 12 with fail;clear d E;have U:=t.aa.st D;generalize wr.alloc _=B at *;generalize wr.heap.size=ge at y⊢;replace kr:=kr.tr D;have Sm:=X.tr kr;have q5:=y.cell;have mN:=U.blk;obtain⟨css,hown,hcl,mO⟩:=U;have jd:=zn.aa;generalize V:C++lX s.list++kM (s.prom.take j)=RJ at *;have V:=ae V;have kA:=K.new B (.cells (eY ⟨3,0,x,0,0,0⟩ (.slice Q x.f.length L) (.slice N x.es.length M)) 197);have yI:base<=(B.alloc (.cells (eY ⟨3,0,x,0,0,0⟩ (.slice Q x.f.length L) (.slice N x.es.length M)) 197)).heap.size:=Wk;have Z:=λk e=>(mN k e).1
     simp only[hbase.aa]at Z;have Sn:=ae λk e=>bo X.size (Z k e)
     clear t D y mN Z;go_wp2_with (at_builtin;refine iM rfl _ _ 333 rfl base 197 _ 13 136 Ro _ _ _ rfl (p7 hown _) (B.heap.size+1) _ 1 1 (eY ⟨3,0,x,0,0,0⟩ (.slice Q x.f.length L) (.slice N x.es.length M)).toList rfl ?c1 ?c2 ?c3 yI ?_)
     case c1=>exact Reads.new B (eY ⟨3,0,x,0,0,0⟩ (.slice Q x.f.length L) (.slice N x.es.length M)).toList 197 13 1 rfl
     case c2=>and_intros <;> rfl
     case c3=>omega
     intro v9 F gJ cd eS bq;have k9:K G F:=(kr.tr kA).trans (bq.mono Qo);have xV:Hid (aV base 0 197 vJ (C++lX s.list++kM (s.prom.take (j+1))) v9 F):=ae (by
      rw[HT.aa,<- dQ,V.aa];exact aV.snoc (S:=vJ) (lo:=0) hcl (λw' u=>mO w' (aK.tr (aK.aU kA _ _) u)) gJ cd tO (λw' u=>ajG (k:=3) (n:=0) (a:=(0,0,0)) (kU.aa w' ((aK.tr (aK.aU kA _ _) u).k Sm Sn.aa))))
     exact Qp
    ·have aO:¬(j:Int)<s.prom.length:=af;rw[gI af]at t;have T:=t;have J:=kr;clear t kr hj hlt;go_wp2_with fail
     clear aO;go_loopw [4,10,57] (fun v4 _ i W=>∃j:Nat,j<=s.ab.length/\i=.int .i64 j/\Hid (aV base 0 197 vJ (C++lX s.list++kM s.prom++pH (s.ab.take j)) v4 W)/\K G W) (fun _ _ i _=>s.ab.length-(intOf i).toNat)
     case atStart=>exact⟨0,af,rfl,ae (by simpa [pH]using T.aa),J⟩
     case round =>
      clear J T;obtain⟨j,hj,rfl,t,kr⟩:=hrel;by_cases hlt:j<s.ab.length
      ·have aO:(j:Int)<s.ab.length:=af;obtain⟨O,Y,cs,rfl,iD,hrl,E,d⟩:=ed HA.aa j hlt ax;have HT:=ae (atf s.ab j hlt);have zn:Hid ((C++lX s.list++kM s.prom++pH (s.ab.take j)).length<=900001):=ae axa;generalize s.ab[j]=x at *;have qM:=X.tr kr;obtain rfl:=hrl w (K.rf w);have E:wr.cell? ⟨O,Y+j*3,none⟩=some (.int .i64 x.1):=E wr qM;have d:∀i,i<3->wr.cell? ⟨O,Y+j*3+i,none⟩=(#[.int .i64 x.1,.int .u64 x.2.1,.int .u64 x.2.2]:Array Value)[i]?:=λi hi=>(d wr qM i hi).trans Array.getElem?_toList
       have y:=ah.new wr 26 #[.int .i64 x.1,.int .u64 x.2.1,.int .u64 x.2.2];have D:=y.aS;clear hrl iD;go_upto_region 17 with fail;clear d E;have U:=t.aa.st D;generalize wr.alloc _=B at *;generalize wr.heap.size=ge at y⊢;replace kr:=kr.tr D;have Sm:=X.tr kr;have q5:=y.cell;have mN:=U.blk;obtain⟨css,hown,hcl,mO⟩:=U;have jd:=zn.aa;generalize V:C++lX s.list++kM s.prom++pH (s.ab.take j)=RJ at *;have V:=ae V;have kA:=K.new B (.cells (eY ⟨4,0,dC,x.1,x.2.1,x.2.2⟩ (.slice none 0 0) (.slice none 0 0)) 197);have yI:base<=(B.alloc (.cells (eY ⟨4,0,dC,x.1,x.2.1,x.2.2⟩ (.slice none 0 0) (.slice none 0 0)) 197)).heap.size:=Wk;have Z:=λk e=>(mN k e).1
       simp only[hbase.aa]at Z;have Sn:=ae λk e=>bo X.size (Z k e)
       clear t D y mN Z;go_wp2_with (at_builtin;refine iM rfl _ _ 333 rfl base 197 _ 13 136 Ro _ _ _ rfl (p7 hown _) (B.heap.size+1) _ 1 1 (eY ⟨4,0,dC,x.1,x.2.1,x.2.2⟩ (.slice none 0 0) (.slice none 0 0)).toList rfl ?c1 ?c2 ?c3 yI ?_)
       case c1=>exact Reads.new B (eY ⟨4,0,dC,x.1,x.2.1,x.2.2⟩ (.slice none 0 0) (.slice none 0 0)).toList 197 13 1 rfl
       case c2=>and_intros <;> rfl
       case c3=>omega
       intro v9 F gJ cd eS bq;have k9:K G F:=(kr.tr kA).trans (bq.mono Qo);have xV:Hid (aV base 0 197 vJ (C++lX s.list++kM s.prom++pH (s.ab.take (j+1))) v9 F):=ae (by
        rw[HT.aa,<- dQ,V.aa];exact aV.snoc (S:=vJ) (lo:=0) hcl (λw' u=>mO w' (aK.tr (aK.aU kA _ _) u)) gJ cd tO (λw' u=>⟨_,_,rfl,⟨none,0,rfl,Reads.nil _ _ _ _⟩,gy _ _⟩))
       exact Qp
      ·have aO:¬(j:Int)<s.ab.length:=af;rw[gI af]at t;have T:=t;have J:=kr;clear t kr hj hlt;rw[<- HS.aa]at T;have jd:I.length<=900001:=by rw[HS.aa];simp only[dq,K2,PB,Vj];omega
       obtain⟨A4,c4,rfl,mL,-⟩:=T.aa.aq;have HR:=ae mL;clear T mL HL HP HA;generalize wr=w2 at *;have k2:=J;obtain⟨H,hb2⟩:∃b,Hid (b=w2.heap.size):=⟨_,ae rfl⟩;have xW:Hid (aV H H 94 ki ([]:List (List UInt8)) (.slice none 0 0) w2):=ae (aV.nil _ _ _ _ _);go_wp2_with fail
       clear aO;go_loopw [11,13,14,15,69] (fun o _ _ _ i W=>∃j:Nat,j<=I.length/\i=.int .i64 j/\Hid (aV H H 94 ki ((I.take j).map bJ) o W)/\K w2 W) (fun _ _ _ _ i _=>I.length-(intOf i).toNat)
       case atStart=>exact⟨0,af,rfl,xW,K.rf _⟩
       case round =>
        clear J xW;obtain⟨j,hj,rfl,t,kr⟩:=hrel;by_cases hlt:j<I.length
        ·have aO:(j:Int)<I.length:=af;obtain⟨O,Y,cs,rfl,iD,hrl,E,d⟩:=ed HR.aa j hlt ax;have HT:Hid ((I.take (j+1)).map bJ=(I.take j).map bJ++[bJ I[j]]):=ae Wl;have zn:Hid (((I.take j).map bJ).length<=900001):=ae (by simp only[List.length_map,p8];omega);obtain⟨hok,hfit⟩:=kX.aa _ (bT hlt);generalize I[j]=r at *;obtain⟨vf,ve,rfl,hf,he⟩:=hrl w2 (K.rf w2);have xO:Hid (∀W,K w2 W->pQ r (.agg (eY r vf ve)) W):=ae λW k=>by exact Wh
         have E:wr.cell? ⟨O,Y+j*13,none⟩=some (.int .i64 r.kind):=E wr kr;have d:∀i,i<13->wr.cell? ⟨O,Y+j*13+i,none⟩=(eY r vf ve)[i]?:=λi hi=>(d wr kr i hi).trans Array.getElem?_toList
         obtain⟨Q,L,rfl⟩:=b5 hf;obtain⟨N,M,rfl⟩:=av he;have y:=ah.new wr 197 (eY r (.slice Q r.e.f.length L) (.slice N r.e.es.length M));have D:=y.aS;have hc:tR r=0:=VW;have hE:zY r=bJ r:=VX;have C1:=ae λW (kW:K w2 W)=>Vg r _ W (xO.aa W kW) hfit
         simp only[hc,hE]at C1;clear hrl iD hf he hok hfit hc hE;go_upto_region 23 with fail;clear d E;have U:=t.aa.st D;generalize wr.alloc _=B at *;generalize wr.heap.size=ge at y⊢;replace kr:=kr.tr D;have q5:=y.cell;clear t D y;have HO5:=ae U;clear U;go_wp2_with fail
         have Sq:Hid (H<=B.heap.size):=ae (by rw[hb2.aa];exact kr.size);refine (C1.aa B kr).mono ?_;rintro e w6⟨vb,rfl,eX,k6⟩;have mQ:=HO5.aa.st k6;replace kr:=kr.tr k6;obtain⟨Ab,cb,rfl⟩:∃A c,vb=.slice A (bJ r).length c:=by obtain⟨A,c,h,_⟩:=eK eX;exact⟨A,c,h⟩
         have mN:=mQ.blk;obtain⟨css,hown,hcl,mO⟩:=mQ;have:=zn.aa;have Ni:=ae eX;have hwn:=λk e=>lO hown (g:=k) e
         generalize (I.take j).map bJ=RJ at *;have kA:=K.new w6 (.cells #[.slice Ab (bJ r).length cb] 94);have yI:H<=(w6.alloc (.cells #[.slice Ab (bJ r).length cb] 94)).heap.size:=by rw[hb2.aa];exact bo kr.size kA.size
         have HWN:=ae hwn;clear mN C1 HO5 eX hwn;go_wp2_with (at_builtin;refine iM rfl _ _ 119 rfl H 94 _ 1 24 Sd _ _ _ rfl (p7 hown _) (w6.heap.size+1) _ 1 1 [.slice Ab (bJ r).length cb] rfl ?c1 ?c2 ?c3 yI ?_)
         case c1=>exact Reads.new w6 [.slice Ab (bJ r).length cb] 94 1 1 rfl
         case c2=>intro u hu;simp at hu;subst hu;rfl
         case c3=>omega
         intro v9 F gJ cd eS bq;have k9:K w2 F:=(kr.tr kA).trans (bq.mono (by rw[hb2.aa];exact aD _));have xV:Hid (aV H H 94 ki ((I.take (j+1)).map bJ) v9 F):=ae (by
          rw[HT.aa];exact aV.snoc (S:=ki) (lo:=H) hcl (λw' u=>mO w' (aK.tr (aK.aU kA _ _) u)) gJ cd tO (λw' u=>by
           have ho:=Ni.aa;have u':=(aK.aU kA H _).tr u;exact⟨_,rfl,eK (FB ho λk h1 h2 h3=>u'.block k (bo Sq.aa h1) h2 (λe=>by
            obtain⟨c1,O⟩:=HWN.aa k e.symm;obtain⟨c2,H⟩:=lO ho h3;exact absurd (O.gY H) ax))⟩))
         exact Qp
        ·have aO:¬(j:Int)<I.length:=af;rw[gI af]at t;have Zu:gp<=H:=by rw[<- jy,hb2.aa];exact bo X.size k2.size
         have zG:=ae (aV.low (aV.floor t.aa Zu) Zu);have xX:=ae jy;clear Zu;have kF:=X.tr (k2.tr kr);clear t hlt hj HR;go_wp2;go_ret2;first|exact⟨_,rfl,zG.aa,kF⟩|exact⟨_,rfl,by rw[xX.aa];exact zG.aa,kF⟩
def jf(d:pc):List UInt8:=frames (d.eZ.map bJ)
abbrev JJ(gd:Nat)(vh:Value)(d:pc)(w:World):Prop:=gG gd vh (jf d) (jf d).length d.room w
abbrev Sr(gl gd:Nat)(vh vr:Value)(d:pc)(w:World):Prop:=jS gl gd vh vr (jf d) (jf d).length d.room w
structure Yp(gd:Nat)(vh:Value)(d:pc)(s:dy)(w:World)(e:Ending)(w':World)(gl:Nat)(dD vr vl vp va:Value):Prop where
 ret:e=.returned (.tuple #[.pointer (some ⟨gl,0,none⟩),.agg (cJ s vl vp va),.int .i64 0])
 lg:Sr gl gd dD vr d w'
 st:lG (λk=>k<w.heap.size∨jT gl gd dD vr k) s vl vp va w'
 up:ag (kZ gd vh) w w'
 new:∀k,jT gl gd dD vr k->kZ gd vh k∨w.heap.size<=k
 gl:w.heap.size<=gl
def Yq(gd:Nat)(vh:Value)(d:pc)(w:World)(e:Ending)(w':World):Prop :=
 ∃j,e=.returned (.tuple #[.pointer none,.agg lH,.int .i64 90])/\JJ gd j d w'/\jR gd vh j w w'
def Eb(gd:Nat)(vh:Value)(d:pc)(s:dy)(w:World)(e:Ending)(w':World):Prop :=
 if ir (dc (cR s))<=d.room then ∃gl j vr vl vp va,Yp gd vh ⟨dc (cR s),d.room⟩ (cR s) w e w' gl j vr vl vp va else Yq gd vh d w e w'
section
variable {gl gd gS room:Nat} {vh vr:Value} {l:List UInt8} {w w':World} {X:Nat->Prop}
theorem gG.aX(h:gG gd vh l gS room w)(u:ag X w w')(j:∀k,kZ gd vh k->¬X k):gG gd vh l gS room w' :=
 ⟨h.blk.aX u (j _ (.inl rfl)),iN h.own u λb hb=>j b (.inr hb),h.len,h.room⟩
theorem jS.aX(h:jS gl gd vh vr l gS room w)(u:ag X w w')(j:∀k,jT gl gd vh vr k->¬X k):jS gl gd vh vr l gS room w':=by obtain⟨n,xs,hn,t⟩:=h.row;exact⟨h.dk.aX u λk hk=>j k (.inr (.inr hk)),h.blk.aX u (j _ (.inl rfl)),n,xs,hn,iN t u λb hb=>j b (.inr (.inl hb))⟩
end
theorem aoC gd vh d s w(h:JJ gd vh d w)(hG:gU d s)(hA:Gq (d.eZ.map bJ))(hl:s.life+1<18446744073709551616) :
 Calls prog 137 #[.pointer (some ⟨gd,0,none⟩)] w (Eb gd vh d s w):=by
 obtain⟨j,L⟩:∃j,j=d.eZ.map bJ:=⟨_,rfl⟩
 obtain⟨u,U⟩:∃u,u=(dc (cR s)).map bJ:=⟨_,rfl⟩
 obtain⟨t,dX⟩:∃n,n=s.life+1:=⟨_,rfl⟩
 have mL:cR s=⟨t,s.list,s.prom,s.ab⟩:=by unfold cR;rw[Nat.mod_eq_of_lt hl,dX]
 have hlen:=hG.len
 rw[<- L]at hA
 have HA:=ae hA
 clear hA
 have hD:jf d=frames j:=by rw[L];rfl
 have hok:∀b∈j,ib b=true:=by rw[L];exact agQ
 have Q:∀b∈j,b.length<=1000000000:=λb hb=>by have:=hok b hb;simp[ib]at this;omega
 have Gm:u.all ib=true:=by rw[U,vD];intro b hb;obtain⟨r,hr,rfl⟩:=List.mem_map.1 hb;exact Vm (hG.small r hr)
 have akp:∀b∈u,b.length<=1000000000:=λb hb=>by have:=List.all_eq_true.1 Gm b hb;simp[ib]at this;omega
 have I4:j.length<=150000:=by rw[L,List.length_map];exact hG.cnt
 have aFd:u.length<=200000:=by have htot:=hG.tot;rw[U,List.length_map];have:=aer (cR s).life;unfold dc;simp only[dq,K2,PB,Vj];show _+s.list.length+s.prom.length+s.ab.length<=_;omega
 have hall:sW j=(s,0):=by have:=aes d.eZ (λr hr=>⟨(hG.eZ r hr).1,(hG.eZ r hr).2.1⟩) cV s hG.run;rw[L];unfold sW;rw[this];rfl
 have hro:=V3 hG.inv.cR aB
 have cN:(frames u).length=ir (dc (cR s)):=by rw[U,OZ]
 have wI:Hid (∀e w' gl dD vr vl vp va,ir (dc (cR s))<=d.room->Yp gd vh ⟨dc (cR s),d.room⟩ (cR s) w e w' gl dD vr vl vp va->Eb gd vh d s w e w'):=ae λe w' gl dD vr vl vp va c h=>by unfold Eb;rw[if_pos c];exact⟨gl,dD,vr,vl,vp,va,h⟩
 have wJ:Hid (∀e w',¬ir (dc (cR s))<=d.room->Yq gd vh d w e w'->Eb gd vh d s w e w'):=ae λe w' c h=>by unfold Eb;rw[if_neg c];exact h
 have HN:Hid (jf ⟨dc (cR s),d.room⟩=frames u):=ae (by rw[U];rfl)
 have HD:=ae hD
 have HRO:Hid (∀r∈dc ⟨t,s.list,s.prom,s.ab⟩,dL r=true/\jA r):=ae (by rw[<- mL];exact hro)
 have Ss:Hid ((dc ⟨t,s.list,s.prom,s.ab⟩).map bJ=u):=ae aB
 have JK:=ae mL
 have GX:=ae cN
 generalize ir (dc (cR s))=DL at *
 generalize Eb gd vh d s w=Post at *
 have kX:=ae hok
 have Zv:=ae Q
 have HOT:=ae Gm
 have HBT:=ae akp
 have Rq:=ae hall
 have dH:=ah.new w 46 lH
 have k0:=dH.aS
 have MR:=h.st k0
 have hlo:=h.lt
 have aFe:=ae hlen
 rw[hD]at MR
 have C1:=ae (acj gd vh j d.room _ MR hok)
 have hW:IntKind.u64.wrap ((s.life:Int)+1)=(t:Int):=by rw[IntWalk.u64_in ((s.life:Int)+1) af];omega
 have EX:=ae dX
 clear dX hl
 clear h hG L U mL hD hok Q Gm akp hall hro cN MR
 go_in
 go_wp2_with fail
 generalize w.alloc _=w1 at *
 generalize jy:w.heap.size=gp at dH⊢
 have xX:=ae jy
 refine C1.aa.mono ?_
 rintro e w2⟨gl,vr,rfl,gF,Q,hO,gN,nD⟩
 have hz0:=k0.size
 have Nj:=ae nD.size
 have Nk:=ae dH.lt
 have Zw:=ae hz0
 have bG:=dH.aX nD λh=>by have:=hlo gp h;omega
 have C2:=ae (abC gl _ vr j w2 Q hO.aq af Zv.aa)
 have JH:=ae ((ag.aU k0 _).tr nD)
 have xU:=ae hO
 have wF:=ae Q
 have Nh:=ae gN
 clear nD hO Q gN C1 dH jy
 go_wp2_with fail
 refine C2.aa.mono ?_
 rintro e w3⟨v3,rfl,bQ,k3⟩
 have C3:=ae (HA.aa v3 w3 bQ.aq)
 obtain⟨A3,c3,rfl⟩:=bQ.slice
 clear C2 bQ
 go_wp2_with fail
 refine C3.aa.mono ?_
 rintro e I⟨vl,vp,va,rfl,rJ,k4⟩
 rw[Rq.aa]at rJ⊢
 have Sl:=ae rJ
 have R:=k3.tr k4
 have k24:=ae R
 have eN:=bG.ay R
 have xZ:=ae (wF.aa.ay R)
 have HD4:=ae (Nh.aa.st R)
 have EY:=ae (xU.aa.st R)
 have il:=eN.lt
 have GY:Hid (w3.heap.size<=I.heap.size/\w2.heap.size<=w3.heap.size):=ae ⟨k4.size,k3.size⟩
 have jm:=ah.new I 46 lH
 have G:=jm.cell
 have z7:=jm.frozen
 obtain⟨⟨C,cl,rfl⟩,⟨F,B,rfl⟩,D,A,rfl⟩:=rJ.sl
 have ka:=K.new I (.cells lH 46)
 clear C3 rJ k3 k4 R
 go_upto_region 5 with fail
 clear G z7 jm ka
 have S:=ah.new I 46 (cJ s (.slice C s.list.length cl) (.slice F s.prom.length B) (.slice D s.ab.length A))
 have k5:=S.aS
 generalize I.alloc _=w5 at *
 generalize vY:I.heap.size=g7 at S il⊢
 have G:=S.cell
 have z7:=S.frozen
 have Yr:ah (w5.setCell ⟨g7,0,none⟩ (.int .u64 t)) g7 46 (cJ ⟨t,s.list,s.prom,s.ab⟩ (.slice C s.list.length cl) (.slice F s.prom.length B) (.slice D s.ab.length A)):=S.aP 0 (.int .u64 t)
 have k6:K I (w5.setCell ⟨g7,0,none⟩ (.int .u64 t)):=K.set k5 (r:=g7) af 0 _
 go_upto_region 8 with fail
 clear G z7 S hW k5
 generalize World.setCell w5 _ _=w6 at *
 have G:=Yr.cell
 have xE:=k6.size
 have HX:Hid (∀k,jT gl gd vh vr k->k<w3.heap.size):=ae λk hk=>by
  have h2:=GY.aa.2;rcases hk with rfl|hk|hk
  ·have:=wF.aa.lt;omega
  ·have:=(xU.aa.blk k hk).2;omega
  ·have:=Nh.aa.lt k hk;omega
 have St:=ae (Sl.aa.k k6)
 have C4:=ae (ap9 ⟨t,s.list,s.prom,s.ab⟩ (.agg (cJ ⟨t,s.list,s.prom,s.ab⟩ (.slice C s.list.length cl) (.slice F s.prom.length B) (.slice D s.ab.length A))) w6 ⟨_,_,_,rfl,St.aa.now.1,St.aa.now.2.1,St.aa.now.2.2⟩ aB HRO.aa)
 rw[Ss.aa]at C4
 have JL:=ae hlo
 have HG7:=ae vY
 clear hlo vY hlen
 go_wp2_with fail
 refine C4.aa.mono ?_
 rintro e w7⟨v7,rfl,km,k7⟩
 have Zx:∀k,jT gl gd vh vr k->k<w6.heap.size:=λk hk=>by have:=HX.aa k hk;have:=GY.aa;omega
 have EZ:=k6.tr k7
 have M0:jS gl gd vh vr (frames j) (frames j).length d.room w7:=by obtain⟨css,hr,hcl,hE⟩:=EY.aa.st EZ;exact⟨HD4.aa.st EZ,xZ.aa.ay EZ,_,_,Pb j,mo (eE _) hr⟩
 have Su:=(km.sw.fx λk hk=>hk).less Zx
 have C5:=ae (aoe gl gd vh vr v7 (frames j) d.room u w7 M0 Su af HBT.aa)
 have JM:Hid (xT (frames j) u d.room=if DL<=d.room then (frames u,0)else (frames j,90)):=ae (by unfold xT xQ;rw[if_pos HOT.aa,GX.aa])
 have HX7:=ae Zx
 have HF7:=ae (St.aa.k k7)
 have Yt:=Yr.ay k7
 have H:=eN.ay EZ
 have Sv:=ae EZ
 obtain⟨A7,c7,rfl⟩:=km.sw.slice
 clear G Yr km M0 Su C4 k7 Zx k6 xE
 go_wp2_with fail
 refine C5.aa.mono ?_
 rintro e T⟨E,J,rfl,Z,Y,y⟩
 clear C5
 have HU:=ae (by
  refine (JH.aa.tr (ag.aU (k24.aa.tr Sv.aa) _)).gq y.up λk hk hx=>?_
  rcases hx with rfl|hx|hx
  ·omega
  ·have:=(xU.aa.blk k hx).1;have:=Zw.aa;omega
  ·exact hx)
 by_cases hfit:DL<=d.room
 ·have fy:Hid (xT (frames j) u d.room=(frames u,0)):=ae (by rw[JM.aa,if_pos hfit]);rw[fy.aa]at Z Y⊢;have yZ:=ae hfit;have HL8:=ae (Z rfl);have Sw:=HL8.aa.lt;have pU:=Yt.aX y.up λhx=>by have:=HX7.aa _ hx;have:=HX.aa _ hx;have:=HG7.aa;have:=GY.aa;omega
  have O:=H.aX y.up λhx=>by exact Qq
  have HF8:Hid (lG (λk=>k<w1.heap.size∨jT gl gd E J k) ⟨t,s.list,s.prom,s.ab⟩ (.slice C s.list.length cl) (.slice F s.prom.length B) (.slice D s.ab.length A) T):=ae (HF7.aa.to (M:=λk=>k<w3.heap.size) (N:=λk=>k<w1.heap.size∨jT gl gd E J k) y.up (λk hk=>HX.aa k hk) λk hk hx=>by
   rcases hx with hx|hx
   ·have:=GY.aa;have:=Nj.aa;omega
   ·exact HX.aa k ((y.new k hx).resolve_right af))
  have G:=pU.cells;have Np:Hid (∀k,jT gl gd E J k->¬k=gp):=ae λk hk e=>by
   rcases y.new k hk with hx|hx
   ·rw[e]at hx;exact Qq
   ·have:=H.lt;omega
  have E0:Hid (∀k,jT gl gd E J k->kZ gd vh k∨w.heap.size<=k):=ae λk hk=>by
   rcases y.new k hk with hx|hx
   ·exact agR
   ·have:=H.lt;have:=xX.aa;right;omega
  have Sy:Hid (w.heap.size<=gl):=ae af;clear pU y Z Y Yt H hfit fy JM Sw;go_upto_region 14 with fail;have qs:=G;refine dK 3 ?_;iterate 3 refine ar.i ?_
  clear qs;intro V W kW hA;simp only[aN,aQ,b6,aJ,Nat.reduceAdd]at hA;have df:=O.ay kW;have q9:=df.cell;have z9:=df.frozen;refine aH.skip (World.setCell (World.setCell (World.setCell (World.setCell W ⟨gp,0,none⟩ (.int .u64 t)) ⟨gp,1,none⟩ (.slice C s.list.length cl)) ⟨gp,2,none⟩ (.slice F s.prom.length B)) ⟨gp,3,none⟩ (.slice D s.ab.length A)) rfl (by simp[aF,List.lookup,hA,ba,execOp,aG,q9,z9,go_sem]) ?_;apply aH.pure;rfl;simp[aF,List.lookup,ba,hA,execOp,aG,go_sem];rfl;refine aH.h ?_;clear q9 z9 G;have sZ:ah (World.setCell (World.setCell (World.setCell (World.setCell W _ _) _ _) _ _) _ _) gp 46 (cJ ⟨t,s.list,s.prom,s.ab⟩ (.slice C s.list.length cl) (.slice F s.prom.length B) (.slice D s.ab.length A)):=(((df.aP 0 (.int .u64 t)).aP 1 (.slice C s.list.length cl)).aP 2 (.slice F s.prom.length B)).aP 3 (.slice D s.ab.length A);have u9:ag (λk=>k=gp) W _:=(((ag.bK (X:=λk=>k=gp) rfl 0 (.int .u64 t)).tr (ag.bK (X:=λk=>k=gp) rfl 1 (.slice C s.list.length cl))).tr (ag.bK (X:=λk=>k=gp) rfl 2 (.slice F s.prom.length B))).tr (ag.bK (X:=λk=>k=gp) rfl 3 (.slice D s.ab.length A));generalize World.setCell (World.setCell (World.setCell (World.setCell W _ _) _ _) _ _) _ _=W9 at *;have e9:=sZ.cell;have HPP:=wI.aa;clear df wI wJ;have GZ:=ae (((ag.aU kW _).tr u9:ag (λk=>k=gp) T W9));clear u9 hA;go_wp2;try rw[ig]
  refine bodyPost_ret (v:=.tuple #[.pointer (some ⟨gl,0,none⟩),.agg (cJ ⟨t,s.list,s.prom,s.ab⟩ (.slice C s.list.length cl) (.slice F s.prom.length B) (.slice D s.ab.length A)),.int .i64 0]) agS rfl ?_;refine HPP _ _ gl E J (.slice C s.list.length cl) (.slice F s.prom.length B) (.slice D s.ab.length A) yZ.aa ⟨by rw[JK.aa],?_,?_,?_,E0.aa,Sy.aa⟩
  ·show jS gl gd E J (jf _) (jf _).length d.room W9;rw[HN.aa];exact HL8.aa.aX GZ.aa Np.aa
  ·rw[JK.aa];exact (HF8.aa.up GZ.aa λk hk=>.inl (by have:=Nk.aa;omega)).less λk hk=>hk.imp (λh=>af) id
  ·exact HU.aa.gq GZ.aa λk hk hx=>by have:=xX.aa;omega
 ·have fy:Hid (xT (frames j) u d.room=(frames j,90)):=ae (by rw[JM.aa,if_neg hfit]);rw[fy.aa]at Z Y⊢;have yZ:=ae hfit;have O:=H.aX y.up λhx=>by exact Qq
  have Np:Hid (∀k,kZ gd E k->¬k=gp):=ae λk hk e=>by
   rcases y.new k (.inr (.inr hk))with hx|hx
   ·rw[e]at hx;exact Qq
   ·have:=H.lt;omega
  have E0:Hid (∀k,kZ gd E k->kZ gd vh k∨w.heap.size<=k):=ae λk hk=>by
   rcases y.new k (.inr (.inr hk))with hx|hx
   ·exact agR
   ·have:=H.lt;have:=xX.aa;right;omega
  have HD8:=ae Y;clear y Z Y Yt H hfit fy JM;have z:=O.frozen;have qz:=O.cell;go_wp2;have sZ:ah (World.setCell (World.setCell (World.setCell (World.setCell T _ _) _ _) _ _) _ _) gp 46 lH:=(((O.aP 0 (.int .u64 0)).aP 1 (.slice none 0 0)).aP 2 (.slice none 0 0)).aP 3 (.slice none 0 0);have u9:ag (λk=>k=gp) T _:=(((ag.bK (X:=λk=>k=gp) rfl 0 (.int .u64 0)).tr (ag.bK (X:=λk=>k=gp) rfl 1 (.slice none 0 0))).tr (ag.bK (X:=λk=>k=gp) rfl 2 (.slice none 0 0))).tr (ag.bK (X:=λk=>k=gp) rfl 3 (.slice none 0 0));clear z qz O;generalize World.setCell (World.setCell (World.setCell (World.setCell T _ _) _ _) _ _) _ _=W9 at *;have e9:=sZ.cell;try rw[ig]
  refine bodyPost_ret (v:=.tuple #[.pointer none,.agg lH,.int .i64 90]) agS rfl ?_;refine wJ.aa _ _ yZ.aa ⟨E,rfl,?_,HU.aa.gq u9 λk hk hx=>by have:=xX.aa;omega,E0.aa⟩;show gG gd E (jf d) (jf d).length d.room W9;rw[HD.aa];exact HD8.aa.aX u9 Np.aa
structure nE where
 g:Nat
 gl:Nat
 gd:Nat
 gr:Nat
 gt:Nat
 vd:Value
 vr:Value
 vp:Value
 vh:Value
 vl:Value
 vq:Value
 va:Value
 vt:Value
 vf:Value
 vw:Value
 kr:List (Int×Value)
abbrev G0(p:nE)(B:bf):Array Value:=#[.int .i64 B.me,p.vp,p.vh,.pointer (some ⟨p.gl,0,none⟩),.int .u64 (B.st.life:Int),p.vl,p.vq,p.va,p.vt,.int .u64 (B.calls:Int),.map (some p.gr),p.vf,.map (some p.gt),p.vw]
def bu(p:nE)(k:Nat):Prop:=k=p.g∨k=p.gr∨k=p.gt∨jT p.gl p.gd p.vd p.vr k
def Cy(l:List (Int×eW))(ak:List (Int×Value))(W:World):Prop:=ak.length=l.length/\∀i (h:i<ak.length) (h':i<l.length),ak[i].1=l[i].1/\lI l[i].2 ak[i].2 W
def pF(l:List aT):List (aT×Value):=l.zipIdx.map λp=>(p.1,.int .i64 (p.2:Int))
structure Zy(p:nE)(B:bf)(W:World):Prop where
 par:aq cL B.par p.vp W
 ai:aq cL B.ai p.vh W
 list:aq aW B.st.list p.vl W
 prom:aq aW B.st.prom p.vq W
 ab:aq bZ B.st.ab p.va W
 aA:aq cW B.aA p.vt W
 fB:aq bZ B.refused p.vf W
 waits:aq aW B.waits p.vw W
 bI:Cy B.bI p.kr W
structure bA(M:Nat->Prop)(p:nE)(B:bf)(w:World):Prop where
 blk:ah w p.g 162 (G0 p B)
 lg:Sr p.gl p.gd p.vd p.vr B.dk w
 rep:dM encI w p.gr p.kr
 wK:dM lW w p.gt (pF B.told)
 bF:Fx M (Zy p B) w
 sub:∀k,bu p k->M k
 low:∀k,M k->k<w.heap.size
 ne:p.gr≠p.gt
section
variable {M M' X:Nat->Prop} {p p':nE} {B B':bf} {w w' w'':World}
theorem bA.st(h:bA M p B w)(k:K w w'):bA M p B w' :=
 ⟨h.blk.ay k,h.lg.st k,h.rep.st k,h.wK.st k,h.bF.k k,h.sub,λb hb=>bw (h.low b hb) k.size,h.ne⟩
theorem dM.akq{gl gd vd vr d α}[DecidableEq α]{enc b}{ak:List (α×Value)}(h:dM enc w b ak)(l:Sr gl gd vd vr d w):¬jT gl gd vd vr b:=λhk=>by
 obtain⟨n,xs,hn,j⟩:=l.row;rcases hk with rfl|hk|rfl|hk
 ·exact h.cells l.blk
 ·obtain⟨cur,hb⟩:=lO j hk;exact h.cells hb
 ·exact h.cells l.dk.blk
 ·obtain⟨cur,hb⟩:=lO l.dk.own hk;exact h.cells hb
theorem bA.apart(h:bA M p B w):p.g≠p.gr/\p.g≠p.gt/\¬jT p.gl p.gd p.vd p.vr p.g/\¬jT p.gl p.gd p.vd p.vr p.gr/\¬jT p.gl p.gd p.vd p.vr p.gt:=by
 refine⟨λe=>h.rep.cells (e▸h.blk),λe=>h.wK.cells (e▸h.blk),λhk=>?_,h.rep.akq h.lg,h.wK.akq h.lg⟩;obtain⟨n,xs,hn,j⟩:=h.lg.row;rcases hk with e|hk|e|hk
 ·exact absurd (h.blk.gY (e▸h.lg.blk)) ax
 ·obtain⟨cur,hb⟩:=lO j hk;exact absurd (h.blk.gY hb) ax
 ·exact absurd (h.blk.gY (e▸h.lg.dk.blk)) ax
 ·obtain⟨cur,hb⟩:=lO h.lg.dk.own hk;exact absurd (h.blk.gY hb) ax
theorem bA.far(h:bA M p B w)(u:ag X w w')(y:∀k,X k->M k)(hn:∀k,X k->¬bu p k)(t:∀k,k<w.heap.size->M' k->M k)(A:∀k,bu p k->M' k)(C:∀k,M' k->k<w'.heap.size):bA M' p B w' :=
 ⟨h.blk.aX u λj=>hn _ j (.inl rfl),h.lg.aX u λk hk j=>hn k j (.inr (.inr (.inr hk))),h.rep.aX u λj=>hn _ j (.inr (.inl rfl)),h.wK.aX u λj=>hn _ j (.inr (.inr (.inl rfl))),h.bF.to u y t,A,C,h.ne⟩
theorem bA.cell(h:bA M p B w) i v(hb:ah (w.setCell ⟨p.g,i,none⟩ v) p.g 162 (G0 p' B'))
 (hp:p'.g=p.g/\p'.gl=p.gl/\p'.gd=p.gd/\p'.gr=p.gr/\p'.gt=p.gt/\p'.vd=p.vd/\p'.vr=p.vr/\p'.kr=p.kr) (G:B'.dk=B.dk/\B'.told=B.told)
 (H:∀W,ag M w W->Zy p B W->Zy p' B' W):bA M p' B' (w.setCell ⟨p.g,i,none⟩ v):=by
 obtain⟨S,C,D,t,j,O,N,Q⟩:=hp
 obtain⟨F,J⟩:=G
 obtain⟨L,E,I,R,T⟩:=h.apart
 have u:ag (λk=>k=p.g) w (w.setCell ⟨p.g,i,none⟩ v):=ag.bK (X:=λk=>k=p.g) rfl i v
 have A:=u.more λk hk=>h.sub k (.inl hk)
 refine⟨aB,?_,?_,?_,λW y=>H W (A.tr y) (h.bF W (A.tr y)),λk hk=>h.sub k ?_,λk hk=>by simpa using h.low k hk,by rw[t,j];exact h.ne⟩
 ·rw[C,D,O,N,F];exact h.lg.aX u λk hk e=>I (e▸hk)
 ·rw[t,Q];exact h.rep.aX u λe=>L e.symm
 ·rw[j,J];exact h.wK.aX u λe=>E e.symm
 ·grind [bu]
def nE.key(p:nE):Nat×Nat:=(p.g,p.gd)
theorem kg{p:nE}{a b}(h:p.key=(a,b)):p.g=a:=congrArg Prod.fst h
theorem BH{p p':nE}(h:p'.key=p.key):p'.g=p.g:=congrArg Prod.fst h
def dE(M:Nat->Prop)(p:nE)(B':bf)(w w':World):Prop :=
 ∃p',bA (λk=>M k∨bu p' k) p' B' w'/\ag (bu p) w w'/\p'.key=p.key/\∀k,bu p' k->bu p k∨w.heap.size<=k
theorem bA.less(h:bA M p B w)(t:∀k,bu p k->M' k)(j:∀k,M' k->M k):bA M' p B w:=⟨h.blk,h.lg,h.rep,h.wK,h.bF.less j,t,λk hk=>h.low k (j k hk),h.ne⟩
theorem bA.now(h:bA M p B w)(hg:p'.key=p.key)(j:∀k,bu p k->bu p' k∨w'.heap.size<=k)(u:ag (bu p') w' w):dE M p' B w' w :=
 ⟨p,h.less (λk hk=>.inr hk) (λk hk=>hk.elim id (h.sub k)),u,hg.symm,j⟩
theorem bA.n(h:bA M p B w)(k:K w w'):dE M p B w w' :=
 (h.st k).now rfl (λ_ h=>.inl h) (ag.aU k _)
theorem dE.tr{j p1}(u:ag (bu p) w w')(hg:p1.key=p.key)(A:∀k,bu p1 k->bu p k∨w.heap.size<=k)(y:∀k,M k->j k)(h:dE j p1 B' w' w''):dE M p B' w w'':=by
 obtain⟨p2,t,C,D,E⟩:=h;refine⟨p2,t.less (λk hk=>.inr hk) (λk hk=>hk.imp (y k) id),u.gq C λk hk B=>(A k B).resolve_right af,D.trans hg,λk hk=>?_⟩;rcases E k hk with a|a
 ·grind
 ·exact .inr (bo u.size a)
theorem dE.k(h:dE M p B' w w')(k:K w' w''):dE M p B' w w'':=by obtain⟨p2,t,j,u,y⟩:=h;exact⟨p2,t.st k,j.tr (ag.aU k _),u,y⟩
theorem dE.x8{w0}(h:dE M p B' w w')(k:K w0 w)(C:∀j,bu p j->j<w0.heap.size):dE M p B' w0 w':=by obtain⟨p2,t,u,A,B⟩:=h;exact⟨p2,t,(ag.aU k _).tr u,A,λj y=>(B j y).imp id λa=>bo k.size a⟩
end
theorem avC W:Cy [] [] W:=⟨rfl,λi h=>xb⟩
theorem bA.q{M p B w}(h:bA M p B w):∀W,K w W->∀i,W.cell? ⟨p.g,i,none⟩=(G0 p B)[i]?:=h.blk.cells
section
variable {P:Program} {a0:Act}
theorem atv{t} ρ ty W:∃v W',(execOp ρ (aG (.makeMap t none) ty)).run P W=.ok (.value v) W'/\∀b,Bn v=some b->W.heap.size<=b/\b<W'.heap.size :=
 ⟨.map (some W.heap.size),W.alloc (.map #[] 0),by simp[execOp,aG,Instr.makeMap,go_sem],λb hb=>by cases hb;simp⟩
theorem Vn l{s u j e z bytes}(T:fS P j e z 1 bytes){w ρ ty}(I:l.length*(bytes+1)<=140737488355328)(C:ρ s=.slice none 0 0)(y:aq cL l (ρ u) w) :
 ∃v w',(execOp ρ (aG (.call { callee:=.builtin .append,args:=#[s,u],argTypes:=#[j,j] }) ty)).run P w=.ok (.value v) w'/\(∀b,Bn v=some b->w.heap.size<=b/\b<w'.heap.size)/\aC (λk=>k<w.heap.size) w.heap.size e cL l v w'/\K w w':=by
 obtain⟨A,c,y,⟨css,B,F⟩,-⟩:=y
 have:=OM B
 obtain⟨v',w',D,t,J,H,h6⟩:=FK (P:=P) w w.heap.size j ty e z 1 bytes T (.slice none 0 0) 0 [] (jV _ _ _ _) _ A l.length c css.flatten F B.ones aB (aD _)
 simp only[mz,aN]at t
 refine⟨v',w',?_,λb hb=>?_,⟨css,t,aB,λW u=>fk⟩,h6⟩
 ·simp only[execOp,aG,resolve,invoke,builtin,Sem.run_bind,Sem.run_pure,Result.andThen_ok,List.map_toArray,jU,List.map_nil,C,y,D]
 ·have E:v'.ownBlock=some b:=by cases v' <;> first|exact hb|(rcases t.2 with ⟨h,-⟩|⟨_,_,_,h,-⟩ <;> cases h)
  exact t.lt b E
theorem ar.ints{R:World->Prop}{Z:World->World->Prop}{A:List Nat}{C:List Oper->List (List Nat×List (Nat×Nat))->List (Value->World->Prop)->Prop}{m:Nat}{o:Oper}{r:List Oper}{x:List Nat×List (Nat×Nat)}{xs:List (List Nat×List (Nat×Nat))}{t:List (Value->World->Prop)}(y:Nat)(l:List Int){s u:Operand}{B e:TypeId}{z:Value}{bytes:Nat}(T:fS P B e z 1 bytes)
 (L:l.length*(bytes+1)<=140737488355328) (O:∀W,R W->y<=W.heap.size)
 (h:∀(V:Nat->Value) (w:World),R w->(∀j∈x.1,tab t j (V j) w)->aF x.2 a0 V s=.slice none 0 0/\aq cL l (aF x.2 a0 V u) w)
 (k:ar P a0 R Z A C m r xs (t++[λv W=>aC (λk=>k<y) y e cL l v W])) (G:o.op=.call { callee:=.builtin .append,args:=#[s,u],argTypes:=#[B,B] }:=by rfl) (hg:o.guard=none:=by rfl) (I:∀v w w',aC (λk=>k<y) y e cL l v w->Z w w'->aC (λk=>k<y) y e cL l v w':=by exact λ_ _ _ h k=>h.st k) (M:A.contains t.length=false:=by (simp only[dq,eQ,List.length_nil,List.contains_nil];try rfl)):ar P a0 R Z A C (m+1) (o :: r) (x :: xs) t:=by
 refine ar.op _ I (λV w D hp=>?_) k M
 obtain⟨E,J⟩:=h V w D hp
 obtain⟨v,w',F,-,⟨css,N,Q,H⟩,h6⟩:=Vn l T (ty:=o.type) L E J
 rw[hg,if_pos (show bO V none=true from rfl),G,F]
 exact⟨⟨css,mo (O w D) N,Q,λW u=>by rw[OM (H w' (ag.rf _ _))];exact Fw _ _⟩,h6⟩
end
theorem acU p n v g w(j:∃A c,v=.slice A p.length c)(hg:ah w g 23 #[v])(hn:p.length<=1000000) :
 Calls prog 136 #[.int .i64 n,.pointer (some ⟨g,0,none⟩)] w λe w'=>e=.returned (.bool (fY p n))/\K w w':=by
 obtain⟨A,c,rfl⟩:=j
 have q:=hg.cell
 have kk:=K.rf w
 have HC:Hid (fY p n=(decide (0<=n)&&decide (n<(p.length:Int)))):=ae rfl
 generalize fY p n=R at *
 go_in
 by_cases h0:0<=n
 ·by_cases h1:n<(p.length:Int)
  ·have HR:Hid (R=true):=ae Wb;exact Ah
  ·have HR:Hid (R=false):=ae Wb;exact Ah
 ·exact agn
def tY(me:Int)(p ai:List Int)(d:pc)(s:dy):bf:=⟨me,p,ai,s,[],0,[],[],[],[],d⟩
theorem avD p ai me t L y w(F:aq cL p t w)(h2:aq cL ai L w)(N:p.length<=1000000)(lD:ai.length<=1000000)(hdv:y=.pointer none∨∃gd,y=.pointer (some ⟨gd,0,none⟩))
 (u:fK p=false∨fY p me=false∨y=.pointer none∨kN p ai=false) :
 Calls prog 86 #[.int .i64 me,t,L,y] w λe w'=>e=.returned (.tuple #[.pointer none,.int .i64 (if fK p then 1 else 120)])/\K w w':=by
 have HE:Hid ((if fK p then (1:Int)else 120)=if fK p then (1:Int)else 120):=ae rfl
 have I:Hid (xi p=if fK p then 0 else 120):=ae rfl
 have C1:=ae λW (k:K w W)=>Kz p t W (bj F k) N
 have hb:=ah.new w 23 #[t]
 have k1:=hb.aS
 have M:=av F
 have S:=ae λn g W hg=>acU p n t g W M hg N
 obtain⟨A1,c1,rfl⟩:=M
 obtain⟨A2,c2,rfl,fg,-⟩:=h2
 have C:=ae fg
 generalize hR:(if fK p then (1:Int)else 120)=R at HE⊢
 have HR:=ae hR
 generalize xi p=T at *
 go_in
 go_upto_region 1 with fail
 generalize w.alloc _=w1 at *
 generalize w.heap.size=g at hb⊢
 have q:=hb.cell
 go_wp2_with fail
 apply aI (C1.aa w1 k1)
 intro w2 J
 replace hb:=hb.ay J
 replace k1:=k1.tr J
 cases ht:fK p
 ·have HQ:Hid (R=120):=ae agT;obtain rfl:T=120:=by rw[I.aa,ht];rfl
  exact Lu
 have HQ:Hid (R=1):=ae agT
 obtain rfl:T=0:=by rw[I.aa,ht];rfl
 rw[ht]at u
 replace u:=u.resolve_left ax
 have E:=ae u
 have D:=ae hdv
 go_wp2_with fail
 apply aI (S.aa _ g w2 hb)
 intro H O
 replace hb:=hb.ay O
 replace k1:=k1.tr O
 cases hm:fY p me
 ·clear E D C;exact Lu
 rcases D.aa with rfl|⟨gd,rfl⟩
 ·clear E D C;exact Lu
 have HH:=ae (by
  have:=E.aa;rw[hm]at this;exact (this.resolve_left ax).resolve_left aj)
 by_cases h3:ai.length<1
 ·have h3':(ai.length:Int)<1:=af;exact Lu
 have h3':¬(ai.length:Int)<1:=af
 by_cases h4:32<ai.length
 ·have Z:32<(ai.length:Int):=af;exact Lu
 have Z:¬32<(ai.length:Int):=af
 obtain⟨b,off,rfl,hcell⟩:=ints_at C.aa af
 have U:=ae hcell
 have hh:Hid (¬ ∀k (h:k<ai.length),fY p ai[k]=true):=ae λh=>by
  have:=HH.aa;rw[show kN p ai=true by
   simp only[kN,dz,decide_eq_true_eq,vD];exact⟨⟨af,af⟩,λx A=>by obtain⟨k,hk,rfl⟩:=List.mem_iff_getElem.1 A;exact h k hk⟩]at this
  cases this
 go_wp2_with fail
 have V:=K.rf H
 go_loopw [13,43,44,45,46,47,48,49,50] (fun _ i _ _ _ _ _ _ _ W=>∃j:Nat,j<=ai.length/\i=.int .i64 j/\Hid (∀k (h:k<ai.length),k<j->fY p ai[k]=true)/\K H W) (fun _ i _ _ _ _ _ _ _ _=>ai.length-(intOf i).toNat)
 case atStart=>exact⟨0,af,rfl,ae λk _ h=>af,V⟩
 case round =>
  obtain⟨j,hj,rfl,B,kr⟩:=hrel;by_cases Y:j<ai.length
  ·have aO:(j:Int)<ai.length:=af;have cj:=U.aa wr (k1.tr kr) j Y;have Q:Hid (fY p ai[j]=true->∀k (h:k<ai.length),k<j+1->fY p ai[k]=true):=ae λh k hk hkj=>by
    by_cases e:k=j
    ·subst e;exact h
    ·exact B.aa k hk af
   generalize ai[j]=x at *;have pd:=hb.ay kr;go_wp2_with fail
   apply aI (S.aa _ g wr pd);intro w4 G;have kf:=k1.tr (kr.tr G);cases A:fY p x
   ·clear Q B;go_wp2;go_ret2;exact⟨nL,kf⟩
   have wF:=ae (Q.aa A);have X:=kr.tr G;go_wp2;go_roundw
   case rel=>exact⟨j+1,af,bD,wF,X⟩
   case measure=>simp[intOf];omega
  ·exact absurd (λk h=>B.aa k h af) hh.aa
theorem jR.x8{gd vh j w0 w w'}(h:jR gd vh j w w')(k:K w0 w)(_:∀b,kZ gd vh b->b<w0.heap.size):jR gd vh j w0 w':=⟨(ag.aU k _).tr h.up,λb hb=>(h.new b hb).imp id λa=>bo k.size a⟩
structure Yu(gd:Nat)(vh:Value)(B:bf)(w:World)(e:Ending)(w':World)(q:nE):Prop where
 ret:e=.returned (.tuple #[.pointer (some ⟨q.g,0,none⟩),.int .i64 0])
 dd:q.gd=gd
 br:bA (λk=>k<w.heap.size∨bu q k) q B w'
 up:ag (kZ gd vh) w w'
 new:∀k,bu q k->kZ gd vh k∨w.heap.size<=k
 g:w.heap.size<=q.g
def akr(gd:Nat)(vh:Value)(d:pc)(w:World)(e:Ending)(w':World):Prop:=∃j,e=.returned (.tuple #[.pointer none,.int .i64 90])/\JJ gd j d w'/\jR gd vh j w w'
def Ec(gd:Nat)(vh:Value)(d:pc)(s:dy)(me:Int)(p ai:List Int)(w:World)(e:Ending)(w':World):Prop :=
 if ir (dc (cR s))<=d.room then ∃q,Yu gd vh (tY me p ai ⟨dc (cR s),d.room⟩ (cR s)) w e w' q else akr gd vh d w e w'
theorem Lv{M e base l v w Y}(h:aC Y base e cL l v w)(t:∀b,v.ownBlock=some b->¬M b):Fx M (λW=>aq cL l v W) w:=λW u=>by obtain⟨css,A,B,j⟩:=h;have y:=OM (j w (ag.rf _ _));exact O4 (iN A u t) (by rw[y];exact Fw _ _)
theorem KC{P t kt j}(u:P.underlying t=some (.map kt j)) W:(Instr.makeMap t none).run P W=.ok (.map (some W.heap.size)) (W.alloc (.map #[] 0)):=by simp[Instr.makeMap,run_underlying u,go_sem]
theorem ack gd vh d s p ai me Z v2 w(h:JJ gd vh d w)(hG:gU d s)(hA:Gq (d.eZ.map bJ))(hl:s.life+1<18446744073709551616)(G:Fx (kZ gd vh) (λW=>aq cL p Z W) w)(M:Fx (kZ gd vh) (λW=>aq cL ai v2 W) w)
 (ht:fK p=true) (hm:fY p me=true) (hh:kN p ai=true) :
 Calls prog 86 #[.int .i64 me,Z,v2,.pointer (some ⟨gd,0,none⟩)] w (Ec gd vh d s me p ai w):=by
 have dX:p.length<=1000000:=Wm
 obtain⟨⟨lD,xH⟩,hall⟩:(1<=ai.length/\ai.length<=32)/\∀x∈ai,fY p x=true:=by simpa only[kN,dz,decide_eq_true_eq,vD]using hh
 have wI:Hid (∀e w' q,ir (dc (cR s))<=d.room->Yu gd vh (tY me p ai ⟨dc (cR s),d.room⟩ (cR s)) w e w' q->Ec gd vh d s me p ai w e w'):=ae λe w' q c h=>by unfold Ec;rw[if_pos c];exact⟨q,h⟩
 have wJ:Hid (∀e w',¬ir (dc (cR s))<=d.room->akr gd vh d w e w'->Ec gd vh d s me p ai w e w'):=ae λe w' c h=>by unfold Ec;rw[if_neg c];exact h
 have HB:Hid (∀W e w',Eb gd vh d s W e w'->if ir (dc (cR s))<=d.room then ∃gl D vr vl vp va,Yp gd vh ⟨dc (cR s),d.room⟩ (cR s) W e w' gl D vr vl vp va else Yq gd vh d W e w'):=ae λW e w' h=>h
 have C3:=ae λW (k:K w W)=>aoC gd vh d s W (h.st k) hG hA hl
 generalize ir (dc (cR s))=DL at *
 generalize hd':(⟨dc (cR s),d.room⟩:pc)=d' at *
 generalize hs':cR s=y at *
 generalize Ec gd vh d s me p ai w=Post at *
 generalize hBP:Eb gd vh d s=BP at *
 have HDX:=ae h.lt
 have H1:=ae G
 have H2:=ae M
 clear hd' hs' hBP hG hl hh h
 have HTT:xi p=0:=by unfold xi;rw[if_pos ht]
 have C1:=ae λW (k:K w W)=>Kz p Z W (G.at k) dX
 rw[HTT]at C1
 have hb:=ah.new w 23 #[Z]
 have I:=hb.aS
 have hs:=av G.now
 have C2:=ae λn g W hg=>acU p n Z g W hs hg dX
 obtain⟨A1,c1,rfl⟩:=hs
 obtain⟨A2,c2,rfl,fg,-⟩:=M.now
 have zH:=ae fg
 clear G M fg HTT ht
 go_in
 go_upto_region 1 with fail
 generalize w.alloc _=w1 at *
 generalize hg0:w.heap.size=g at hb⊢
 have Sz:=ae hg0
 clear hg0
 have q:=hb.cell
 go_wp2_with fail
 apply aI (C1.aa w1 I)
 intro w2 k2
 replace hb:=hb.ay k2
 replace I:=I.tr k2
 clear q k2 C1
 go_wp2_with fail
 apply aI (C2.aa _ g w2 hb)
 intro w3 k3
 replace hb:=hb.ay k3
 replace I:=I.tr k3
 clear k3
 rw[hm]
 have:¬(ai.length:Int)<1:=af
 obtain⟨b,off,rfl,hcell⟩:=ints_at zH.aa af
 have wy:=ae hcell
 have Rq:Hid (∀k (h:k<ai.length),fY p ai[k]=true):=ae λk hk=>hall _ (bT hk)
 clear hcell zH hall hm
 go_wp2_with fail
 have kk:=K.rf w3
 go_loopw [13,43,44,45,46,47,48,49,50] (fun _ i _ _ _ _ _ _ _ W=>∃j:Nat,j<=ai.length/\i=.int .i64 j/\K w3 W) (fun _ i _ _ _ _ _ _ _ _=>ai.length-(intOf i).toNat)
 case atStart=>exact⟨0,af,rfl,kk⟩
 case round =>
  clear kk;obtain⟨j,hj,rfl,kr⟩:=hrel;by_cases hlt:j<ai.length
  ·have aO:(j:Int)<ai.length:=af;have cj:=wy.aa wr (I.tr kr) j hlt;have t:=Rq.aa j hlt;generalize ai[j]=x at *;have pd:=hb.ay kr;go_wp2_with fail
   apply aI (C2.aa _ g wr pd);intro w4 k4;rw[t];have gW:=kr.tr k4;clear t cj;go_wp2;go_roundw
   case rel=>exact⟨j+1,af,bD,gW⟩
   case measure=>simp[intOf];omega
  ·have aO:¬(j:Int)<ai.length:=af;have kr:=I.tr kr;have hb:=hb.ay af;clear hlt hj I Rq wy C2;go_wp2_with fail
   refine (C3.aa wr kr).mono ?_;intro e J Q;replace Q:=HB.aa _ _ _ Q;have T:=ae kr;have ZA:=ae hb;clear HB C3 hb kr;by_cases hfit:DL<=d.room
   ·rw[if_pos hfit]at Q;obtain⟨gl,D,vr,vl,vp,va,⟨rfl,Sw,F,G2,jM,gF⟩⟩:=Q;have yZ:=ae hfit;have ix:=ZA.aa.aX G2 λt=>by have:=HDX.aa _ t;have:=Sz.aa;omega
    obtain⟨⟨Al,cl,rfl⟩,⟨Ap,cp,rfl⟩,Aa,ca,rfl⟩:(∃A c,vl=.slice A y.list.length c)/\(∃A c,vp=.slice A y.prom.length c)/\∃A c,va=.slice A y.ab.length c:=⟨av F.now.1,av F.now.2.1,av F.now.2.2⟩;have B:=ah.new J 46 lH;have U:=B.cell;have z7:=B.frozen;have HLG:=ae Sw;have HST:=ae F;have Dk:=ae G2;have y4:=ae jM;clear Sw F G2 jM gF hfit;go_upto_region 14 with fail;clear U z7 B;have B:=ah.new J 46 (cJ y (.slice Al y.list.length cl) (.slice Ap y.prom.length cp) (.slice Aa y.ab.length ca));have E:=B.aS;generalize J.alloc _=C at *;generalize J.heap.size=g7 at B⊢;have jG:=ix.ay E;have q6:=jG.cells;have U:=B.cells;have JL:Hid (∀W,K C W->aq cL p (.slice A1 p.length c1) W):=ae λW k=>H1.aa W ((ag.aU T.aa _).tr (Dk.aa.tr (ag.aU (E.tr k) _)))
    have zH:Hid (∀W,K C W->aq cL ai (.slice (some ⟨b,off,none⟩) ai.length c2) W):=ae λW k=>H2.aa W ((ag.aU T.aa _).tr (Dk.aa.tr (ag.aU (E.tr k) _)))
    clear ix jG B;go_upto_region 16 with fail;have qs:=And.intro q6 U;refine abx 9 [7,8] [([],[]),([],[]),([1],[(62,1)]),([],[]),([3],[(64,3)]),([],[]),([],[]),([],[]),([],[]),([0,2,4,5,6,7,8],[(61,0),(63,2),(65,4),(66,5),(67,6),(68,7),(69,8)]),([9],[(70,9)]),([0,1,2,3,4,5,6,7,8,9,10],[(71,10)]),([0,1,2,3,4,5,6,7,8,9,10,11],[])] 72 ?_;iterate 2 refine ar.i ?_
    refine ar.ints C.heap.size p Dh af (λ_ k=>k.size) (λV W kW hp=>?_) ?_
    ·exact agU
    refine ar.i ?_;refine ar.ints C.heap.size ai Dh af (λ_ k=>k.size) (λV W kW hp=>?_) ?_
    ·exact agV
    iterate 2 refine ar.i ?_
    refine ar.op (λv W=>∃b,v=.map (some b)/\C.heap.size<=b/\dM encI W b []) (λ_ _ _ ⟨b,e,G,M⟩ k=>⟨b,e,G,M.st k⟩) (λV W kW hp=>?_) ?_
    ·simp[bO,execOp,aG,KC underlying159,cU];exact Wn
    refine ar.op (λv W=>∃b,v=.map (some b)/\C.heap.size<=b/\dM lW W b []) (λ_ _ _ ⟨b,e,G,M⟩ k=>⟨b,e,G,M.st k⟩) (λV W kW hp=>?_) ?_
    ·simp[bO,execOp,aG,KC underlying160,cU];exact Wn
    clear qs;refine⟨λk hk=>?_,λV W kW hne hA=>?_⟩
    ·simp at hk;rcases hk with rfl|rfl
     ·exact Wo
     ·exact Wo
    simp only[aN,aQ,b6,aJ,Nat.reduceAdd]at hA;obtain⟨e0,e1,Y,e3,S,e5,e6,⟨H,e7,Jp,Jt⟩,⟨L,e8,pV,SA⟩,-⟩:=hA;obtain⟨A5,c5,e2⟩:=Y.slice;obtain⟨A6,c6,e4⟩:=S.slice;rw[e2]at Y;rw[e4]at S;have azb:H≠L:=λe=>hne 7 aj 8 aj ax rfl rfl H Wp (by rw[e8,e];rfl)
    apply aH.pure;rfl;simp[aF,List.lookup,ba,e0,e2,e4,e5,e6,e7,e8,execOp,aG,go_sem];rfl;refine aH.val (.pointer (some ⟨W.heap.size,0,none⟩)) (W.alloc (.cells #[.int .i64 me,.slice A5 p.length c5,.slice A6 ai.length c6,.pointer (some ⟨gl,0,none⟩),.int .u64 y.life,.slice Al y.list.length cl,.slice Ap y.prom.length cp,.slice Aa y.ab.length ca,.slice none 0 0,.int .u64 0,.map (some H),.slice none 0 0,.map (some L),.slice none 0 0] 162)) rfl agW ?_;apply aH.pure;rfl;simp[aF,List.lookup,ba,execOp,aG,go_sem];rfl;apply aH.pure;rfl;simp[aF,List.lookup,ba,execOp,aG,go_sem];rfl;refine aH.nil ?_;simp only[fT,Act.put,rW,rh,qZ,Nat.reduceAdd,ba,e0,e1,e2,e3,e4,e5,e6,e7,e8];have hbk:=ah.new W 162 #[.int .i64 me,.slice A5 p.length c5,.slice A6 ai.length c6,.pointer (some ⟨gl,0,none⟩),.int .u64 y.life,.slice Al y.list.length cl,.slice Ap y.prom.length cp,.slice Aa y.ab.length ca,.slice none 0 0,.int .u64 0,.map (some H),.slice none 0 0,.map (some L),.slice none 0 0];have R:=hbk.aS;generalize hWa:W.alloc _=Wa at *;generalize cd:W.heap.size=O at *;have HQ:Hid (Post (.returned (.tuple #[.pointer (some ⟨O,0,none⟩),.int .i64 0])) Wa):=ae (by
     have:=E.size;have:=Dk.aa.size;have:=T.aa.size;have k5:=E.tr (kW.tr R);have aks:=HLG.aa.st k5;have azU:=HLG.aa.lt;have:=Jt.lt;have:=SA.lt;have akt:=Jt.st R;have aku:=SA.st R;refine wI.aa _ _ ⟨O,gl,gd,H,L,D,vr,.slice A5 p.length c5,.slice A6 ai.length c6,.slice Al y.list.length cl,.slice Ap y.prom.length cp,.slice Aa y.ab.length ca,.slice none 0 0,.slice none 0 0,.slice none 0 0,[]⟩ yZ.aa ⟨rfl,rfl,⟨hbk,aks,akt,aku,λW' u=>?_,λk hk=>.inr hk,λk hk=>?_,azb⟩,?_,λk hk=>?_,?_⟩
     ·have azc:∀k,k<J.heap.size->(k<w.heap.size∨k=O∨k=H∨k=L∨jT gl gd D vr k)->(k<wr.heap.size∨jT gl gd D vr k):=λk hk t=>by
       rcases t with t|t|t|t|t
       ·exact .inl af
       ·omega
       ·omega
       ·omega
       ·exact .inr t
      have F:=(HST.aa.to (X:=λ_=>False) (N:=λk=>k<w.heap.size∨k=O∨k=H∨k=L∨jT gl gd D vr k) (ag.aU k5 _) (λk hk=>hk.elim) azc) W' u;have hno:∀(l:List Int) (A:Option Addr) (c:Nat),aC (λk=>k<C.heap.size) C.heap.size 3 cL l (.slice A l.length c) W->∀b,(Value.slice A l.length c).ownBlock=some b->¬(b<w.heap.size∨b=O∨b=H∨b=L∨jT gl gd D vr b):=λl A c hO b hb t=>by
       have:=hO.blk b hb;obtain⟨css,hr,-,-⟩:=hO;obtain⟨cur,akv⟩:=lO hr hb;rcases t with t|t|t|t|t
       ·omega
       ·omega
       ·subst t;exact Jt.cells akv
       ·subst t;exact SA.cells akv
       ·have:=azU b t;omega
      have hi1:=(Lv Y (hno p A5 c5 Y)) W' ((ag.aU R _).tr u);have hi2:=(Lv S (hno ai A6 c6 S)) W' ((ag.aU R _).tr u);exact⟨hi1,hi2,F.1,F.2.1,F.2.2,gy _ _,gy _ _,gy _ _,avC _⟩
     ·have h9:=hbk.lt;rcases hk with hk|hk|hk|hk|hk
      ·omega
      ·exact hk▸h9
      ·exact hk▸akt.lt
      ·exact hk▸aku.lt
      ·exact aks.lt k hk
     ·exact (ag.aU T.aa _).tr (Dk.aa.tr (ag.aU k5 _))
     ·rcases hk with hk|hk|hk|hk
      ·right;show _<=k;simp only at hk;omega
      ·right;simp only at hk;omega
      ·right;simp only at hk;omega
      ·exact (y4.aa k hk).imp id λh=>af
     ·show w.heap.size<=O;omega)
    clear Jt SA hbk R Y S wI wJ;go_wp2;exact HQ.aa
   ·rw[if_neg hfit]at Q;obtain⟨D,rfl,hd,hu⟩:=Q;have B:=ah.new J 46 lH;have U:=B.cell;have z7:=B.frozen;have E:=B.aS;have HZ:=ae (wJ.aa _ _ hfit ⟨D,rfl,hd.st E,(hu.x8 T.aa HDX.aa).k E⟩);clear hd hu hfit wI wJ E;go_upto_region 14 with fail;generalize J.alloc _=C at *;clear U z7 B;go_wp2;exact HZ.aa
structure bC(B:bf):Prop where
 tr:fK B.par=true
 me:fY B.par B.me=true
 hm:kN B.par B.ai=true
 dk:gU B.dk B.st
 tx:jx B.aA
 calls:B.calls<4611686018427387904
 bI:∀x∈B.bI,dI x.2=true/\nX x.2
 told:B.told.length<=1000000
 fB:B.refused.length<=1000000
 waits:∀x∈B.waits,bH x=true/\cE x
 y5:B.waits.length<=1000000
theorem K5{p ai}(h:kN p ai=true):1<=ai.length/\ai.length<=32:=by
 grind [kN]
theorem acm{M p B w}(h:bA M p B w)(y:bC B) c :
 Calls prog 102 #[.pointer (some ⟨p.g,0,none⟩),.int .i64 c] w λe w'=>e=.returned (.bool (Ch B c))/\K w w':=by
 have u:Hid (Ch B c=(decide (0<=c)&&decide (c<(B.ai.length:Int))&&decide (B.ai[c.toNat]?=some B.me))):=ae rfl
 have q:=h.q
 have C:=h.bF.now.ai
 have:=K5 y.hm
 obtain⟨g,gl,gd,gr,gt,vd,vr,vp,vh,vl,vq,va,vt,vf,vw,kr⟩:=p
 simp only at q C
 clear h y
 obtain⟨A,c1,rfl,D,-⟩:=C
 obtain⟨b,I,rfl,E⟩:=ints_at D af
 generalize Ch B c=R at *
 have:=K.rf w
 clear D
 go_in
 go_upto_region 1 with fail
 rcases (show ¬0<=c∨(0<=c/\¬c<(B.ai.length:Int))∨(0<=c/\c<(B.ai.length:Int)) by omega)with j|⟨j,t⟩|⟨j,t⟩
 have HR:Hid (R=false):=ae (by rw[u.aa];simp[j])
 have F:c<0:=af
 have qs:=And.intro q j
 rotate_left
 have HR:Hid (R=false):=ae (by rw[u.aa];simp[t])
 have F:(B.ai.length:Int)<=c:=af
 have qs:=And.intro q (And.intro j t)
 rotate_left
 obtain⟨n,rfl⟩:∃n:Nat,c=(n:Int):=⟨c.toNat,af⟩
 have hn:n<B.ai.length:=af
 have G:=λW k=>E W k n hn
 have HR:Hid (R=decide (B.ai[n]=B.me)):=ae (by rw[u.aa];simp[t,hn])
 generalize B.ai[n]=x at *
 have qs:=And.intro q (And.intro j (And.intro t G))
 all_goals
  clear u E
  refine dK 26 ?_
  iterate 26 refine ar.i ?_
  clear qs
  intro V W kW hA
  simp only[aN,aQ,b6,aJ,Nat.reduceAdd]at hA
  refine aH.h ?_
  go_wp2
  go_ret
  exact⟨fJ,kW⟩
theorem ajJ:(prog.info? 128).map (λi=>(i.zero,i.size,i.bytes))=some (some (.agg (gP vM (.slice none 0 0) (.slice none 0 0))),9,104):=by rfl
theorem JO:fS prog 123 128 (.agg (gP vM (.slice none 0 0) (.slice none 0 0))) 9 104:=⟨underlying123,ajJ,rfl,ax⟩
def Ex(g:Nat)(x:aL)(v:Value)(W:World):Prop:=∃vf j,v=.agg (aE x vf j)/\Fx (λk=>k<g) (λW=>aW.rel x (aE x vf j).toList W) W
def Nr(g:Nat)(t:eo)(v:Value)(W:World):Prop:=∃vf j,v=.agg (gP t vf j)/\Fx (λk=>k<g) (λW=>cW.rel t (gP t vf j).toList W) W
theorem agX{g x} v w w'(h:Ex g x v w)(k:K w w'):Ex g x v w':=h.imp λ_ h=>h.imp λ_ h=>⟨h.1,h.2.k k⟩
theorem ajK{g x} v w w'(h:Nr g x v w)(k:K w w'):Nr g x v w':=h.imp λ_ h=>h.imp λ_ h=>⟨h.1,h.2.k k⟩
theorem XR{B g}(hg:g<=B){x v w}(h:vN B x v w):Ex g x v w:=by obtain⟨vf,j,e,t⟩:=Ca h;exact⟨vf,j,e,t.less λk hk=>bw hk hg⟩
theorem Ex.tx{g t vf j w}(h:Fx (λk=>k<g) (λW=>aW.rel t.e (aE t.e vf j).toList W) w):Fx (λk=>k<g) (λW=>cW.rel t (gP t vf j).toList W) w:=h.mono λW ⟨u,y,e,h1,h2⟩=>by exact Qe
theorem Kv l v w(h:aq cW l v w)(hs:∀t∈l,ew t.e)(hn:l.length<=1000000) :
 Calls prog 187 #[v] w λe w'=>∃v',e=.returned v'/\aV w.heap.size w.heap.size 128 cW l v' w'/\K w w':=by
 obtain⟨A,c,rfl,hl,hc⟩:=h
 have HS:=ae hs
 have U:=K.rf w
 go_in
 go_wp2_with fail
 go_loopw [3,5,8] (fun o _ i W=>∃j:Nat,j<=l.length/\i=.int .i64 j/\aC (fun k=>k<w.heap.size) w.heap.size 128 cW (l.take j) o W/\K w W) (fun _ _ i _=>l.length-(intOf i).toNat)
 case atStart=>exact⟨0,af,rfl,by simpa using aC.nil _ _ _ _ _,U⟩
 case round =>
  obtain⟨j,hj,rfl,D,kr⟩:=hrel;by_cases H:j<l.length
  ·have aO:(j:Int)<l.length:=af;obtain⟨L,O,cs,rfl,hcl,hrl,Q,d⟩:=ed hl j H ax;have HT:Hid (l.take (j+1)=l.take j++[l[j]]):=ae aj;have hst:=HS.aa _ (bT H);generalize l[j]=t at *;obtain⟨vf,ve,rfl,R,T⟩:=hrl w (K.rf w);obtain⟨C,B,rfl⟩:=b5 R;obtain⟨y,u,rfl⟩:=av T;have HE:Hid (∀W,K w W->dx t.e (.agg (aE t.e (.slice C t.e.f.length B) (.slice y t.e.es.length u))) W):=ae λW k=>⟨_,_,rfl,eu _ _ _ _ R k,bj T k⟩
   have Q:∀W,K w W->W.cell? ⟨L,O+j*9,none⟩=some (.int .i64 t.e.kind):=Q;have d:∀W,K w W->∀i,i<9->W.cell? ⟨L,O+j*9+i,none⟩=(gP t (.slice C t.e.f.length B) (.slice y t.e.es.length u))[i]?:=λW k i hi=>(d W k i hi).trans Array.getElem?_toList
   have:(l.take j).length<=1000000:=aY;have mN:=D.blk;have E:=ah.new wr 128 (gP t (.slice C t.e.f.length B) (.slice y t.e.es.length u));have M:=E.aS;have qI:wr.heap.size<(wr.alloc (.cells (gP t (.slice C t.e.f.length B) (.slice y t.e.es.length u)) 128)).heap.size:=aj;go_upto_region 5 with fail;have dm:=D.st M;generalize wr.alloc _=F at *;have rH:=kr.size;generalize wr.heap.size=g5 at E qI rH mN⊢;generalize Value.slice C t.e.f.length B=vf at *;generalize Value.slice y t.e.es.length u=ve at *;have G:=kr.tr M;have qs:=E.cells;refine dK 8 ?_;iterate 3 refine ar.i ?_
   refine ar.c (Ex F.heap.size t.e) agX (λW k=>(Ky t.e _ W (HE.aa _ (G.tr k)) hst).mono λe w' ⟨v,e1,X,k1⟩=>⟨v,e1,XR k.size X,k1⟩) ?_;iterate 2 refine ar.i ?_
   refine ar.op (Nr F.heap.size t) ajK (λV W kW hp=>?_) ?_
   ·exact Wq
   refine ar.row (S:=cW) (N:=λk=>k<F.heap.size) _ _ 9 104 JO rfl ax _ t rfl rfl (λV W kW hp=>?_) ?_
   ·exact agY
   intro V W kW hA;simp only[aN,aQ,b6,aJ,Nat.reduceAdd]at hA;obtain⟨J,-,-,-,-,-,-,f7,-⟩:=hA;have x9:=dm.st kW;refine aH.push (.tmp 12) (.tmp 19) 123 _ 9 104 JO rfl rfl rfl u3 (l.take j) t J x9 (f7.less λk hk=>?_) af (bo G.size kW.size) ?_
   ·grind
   intro v9 w9 I cd _ Y;rw[<- HT.aa]at I;have Z:=(G.tr kW).trans (Y.mono (aD _));have qs:=True.intro;have hA:=J;refine aH.p ?_;refine aH.e ?_;generalize V 7=v7 at *;go_wp2;go_roundw
   case rel=>exact⟨j+1,af,bD,I,Z⟩
   case measure=>simp[intOf];omega
  ·have aO:¬(j:Int)<l.length:=af;rw[gI af]at D;have HO:=ae D.toL;exact Ws
theorem atw{l a k}(hk:k<l.length)(h:nV a l[k]=true)(j:∀t∈l.take k,nV a t=false):iZ l a=some k:=by
 grind [iZ,List.findIdx?_eq_some_iff_getElem,List.mem_take_iff_getElem]
theorem arz{l a}(j:∀t∈l,nV a t=false):iZ l a=none:=by
 grind [nV,iZ]
theorem atx{l a k}(h:iZ l a=some k):rX l a=(k:Int):=by grind [rX]
theorem arA{l a}(h:iZ l a=none):rX l a=-1:=by grind [rX]
theorem avE a t:nV a t=(decide (t.e.br=a.1)&&decide (t.e.life=a.2.1)&&decide (t.e.bY=a.2.2)):=by
 grind [nV,kL]
theorem aqa t a v g w(h:M6 t v w)(hg:ah w g 26 #[.int .i64 a.1,.int .u64 a.2.1,.int .u64 a.2.2]) :
 Calls prog 268 #[v,.pointer (some ⟨g,0,none⟩)] w λe w'=>e=.returned (.bool (nV a t))/\K w w':=by
 obtain⟨vf,G,rfl,C,E⟩:=h
 obtain⟨A,c,rfl⟩:=b5 C
 obtain⟨D,d,rfl⟩:=av E
 have j:=ae (avE a t)
 have q:=hg.cells
 have:=λo=>(K.rf w).al o
 obtain⟨B,F,y⟩:=a
 obtain⟨⟨k,b,l,s,cl,u,f,es⟩,asked⟩:=t
 simp only at q j⊢
 generalize nV (B,F,y) ⟨⟨k,b,l,s,cl,u,f,es⟩,asked⟩=R at *
 go_in
 go_wp2
 all_goals
  go_ret
  refine⟨?_,(K.rf w).al _⟩
  rw[j.aa]
  show Ending.returned (.bool _)=Ending.returned (.bool _)
  first|(simp_all;done)|(simp_all;omega)|(congr 2;rw[Bool.eq_iff_iff];simp_all;omega)
theorem anX A c l a g w(h:zm cW l A w)(R:l.length<=1000000)(hg:ah w g 26 #[.int .i64 a.1,.int .u64 a.2.1,.int .u64 a.2.2]) :
 Calls prog 267 #[.slice A l.length c,.func (Fn.func 268) #[] #[.pointer (some ⟨g,0,none⟩)]] w λe w'=>e=.returned (.int .i64 (rX l a))/\K w w':=by
 have G:=K.rf w
 go_in
 go_wp2_with fail
 go_loopw [5,8] (fun _ i wr=>∃k:Nat,k<=l.length/\i=.int .i64 k/\Hid (∀t∈l.take k,nV a t=false)/\K w wr) (fun _ i _=>l.length-(intOf i).toNat)
 case atStart=>exact⟨0,af,rfl,ae aj,G⟩
 case round =>
  obtain⟨k,hk,rfl,B,kr⟩:=hrel;by_cases y:k<l.length
  ·have N:(k:Int)<l.length:=af;obtain⟨D,E,cs,rfl,T,M,F,d⟩:=ed h k y ax;have J:Hid (nV a l[k]=false->∀t∈l.take (k+1),nV a t=false):=by
    refine ae λh x u=>?_
    rw[gg y]at u;rcases List.mem_append.1 u with u|u
    ·exact B.aa x u
    ·simp at u;rw[u];exact h
   have I:=ae λh=>atx (atw y h B.aa)
   generalize l[k]=t at *;obtain⟨vf,C,rfl,O,Q⟩:=M wr kr;have F:∀W,K w W->W.cell? ⟨D,E+k*9,none⟩=some (.int .i64 t.e.kind):=F;have d:∀W,K w W->∀i,i<9->W.cell? ⟨D,E+k*9+i,none⟩=(gP t vf C)[i]?:=λW j H=>λL=>(d W j H L).trans Array.getElem?_toList
   go_wp2_with fail
   apply cF (aqa t a _ g wr ⟨vf,C,rfl,O,Q⟩ (hg.ay kr)) kr;intro S U kW;cases u:nV a t
   ·have o6:=ae (J.aa u);exact IC
   ·have HE:=ae (I.aa u);exact Wt
  ·have N:¬(k:Int)<l.length:=af;have HE:=ae (by
    have:=B.aa;rw[gI af]at this;exact arA (arz this))
   exact Lw
theorem Pc l a v w(h:aq cW l v w)(y:l.length<=1000000) :
 Calls prog 183 #[v,cA a] w λe w'=>e=.returned (.int .i64 (rX l a))/\K w w':=by
 obtain⟨A,c,rfl,u,-⟩:=h
 have j:=ah.new w 26 #[.int .i64 a.1,.int .u64 a.2.1,.int .u64 a.2.2]
 have t:=j.aS
 have D:=XN u t
 go_in
 go_wp2_with fail
 generalize w.alloc _=C at *
 apply aI (anX A c l a _ C D y j)
 intro E B
 go_wp2
 go_ret
 exact⟨rfl,t.tr B⟩
theorem avF(l:List eo)(a:aT):AK l a=match iZ l a with|none=>-1|some k=>if (l[k]?.map eo.asked)=some true then -1 else (k:Int):=by
 unfold AK pA
 cases iZ l a with
 | none=>rfl
 | some k =>
  grind
theorem UG l a v w(h:aq cW l v w)(L:l.length<=1000000) :
 Calls prog 188 #[v,cA a] w λe w'=>e=.returned (.int .i64 (AK l a))/\K w w':=by
 have J:=h
 obtain⟨A,c,rfl,T,-⟩:=h
 have G:=ah.new w 26 #[.int .i64 a.1,.int .u64 a.2.1,.int .u64 a.2.2]
 have D:=G.aS
 have C:=ae (avF l a)
 have Q:=ae λW (kW:K w W)=>Pc l a _ W (bj J kW) L
 have y:Hid (rX l a=match iZ l a with|none=>-1|some k=>(k:Int)):=ae (by unfold rX;cases iZ l a <;> rfl)
 have S:=ae λk h=>@KP l a k h
 generalize AK l a=R at *
 generalize rX l a=I at *
 go_in
 go_wp2_with fail
 generalize w.alloc _=H at *
 apply cF (Q.aa H D) D
 intro j X kW
 cases hs:iZ l a with
 | none =>
  obtain rfl:I=-1:=by rw[y.aa,hs]
  obtain rfl:R=-1:=by rw[C.aa,hs]
  go_wp2;go_ret;exact⟨rfl,kW⟩
 | some k =>
  obtain rfl:I=(k:Int):=by rw[y.aa,hs]
  obtain⟨t,u,-,-⟩:=S.aa k hs;obtain⟨hk,M⟩:=List.getElem?_eq_some_iff.1 u;have F:Hid (R=if t.asked=true then -1 else (k:Int)):=ae (by rw[C.aa,hs];simp[u]);obtain⟨N,O,cs,rfl,V,E,Z,d⟩:=ed T k hk ax;rw[M]at E;obtain⟨vf,U,rfl,-,-⟩:=E j kW;have B:j.cell? ⟨N,O+k*9+8,none⟩=some (.bool t.asked):=d j kW 8 ax;have:(k:Int)<l.length:=af;have:(0:Int)<=(k:Int):=af;cases ha:t.asked
  ·obtain rfl:R=(k:Int):=by rw[F.aa,ha];rfl
   rw[ha]at B;go_wp2;go_ret;exact⟨rfl,kW⟩
  ·obtain rfl:R=-1:=by rw[F.aa,ha];rfl
   rw[ha]at B;go_wp2;go_ret;exact⟨rfl,kW⟩
theorem adD x v w(h:dx x v w)(B:cE x) :
 Calls prog 227 #[v] w λe w'=>e=.returned (.bool (r9 x))/\K w w':=by
 have u:=ae λW (kW:K w W)=>Ud x v W (LR h kW) B
 have HB:Hid (r9 x=decide (3000<((pq x).length:Int))):=ae (by
  unfold r9 ajW pq;rw[decide_eq_decide];omega)
 obtain⟨vf,A,rfl,-,-⟩:=h
 have j:=K.new w (.cells (aE x vf A) 126)
 go_in
 go_wp2_with fail
 generalize w.alloc _=C at *
 refine (u.aa C j).mono ?_
 rintro e D⟨F,rfl,t,y⟩
 obtain⟨E,c2,rfl,-⟩:=eK t
 go_wp2
 go_ret
 exact⟨FP,j.tr y⟩
theorem adE l t v u w(h:aq cW l v w)(ht:M6 t u w)(hfit:cE t.e)(hs:ew t.e)(hl:∀s∈l,ew s.e)(U:l.length<=1000000) :
 Calls prog 166 #[v,u] w λe w'=>∃v',e=.returned (.tuple #[v',.int .i64 (vK l t).2])/\aV w.heap.size w.heap.size 128 cW (vK l t).1 v' w'/\K w w':=by
 obtain⟨vf,ve,rfl,hf,Q⟩:=ht
 obtain⟨O,G,rfl⟩:=b5 hf
 obtain⟨E,D,rfl⟩:=av Q
 have M:Hid (∀W,K w W->dx t.e (.agg (aE t.e (.slice O t.e.f.length G) (.slice E t.e.es.length D))) W):=ae λW k=>⟨_,_,rfl,eu _ _ _ _ hf k,bj Q k⟩
 have Y:=ae (ajC h)
 obtain⟨A,c,rfl⟩:=av h
 have J:Hid (vK l t=if rX l (kL t.e)<0 then (if bH t.e=false then (l,110)else if 8<=l.length then (l,171)else if r9 t.e then (l,172)else (l++[t],0))else (l,170)):=ae (by
  unfold vK rX
  cases iZ l (kL t.e)with
  | none=>simp
  | some k =>
   simp only[Option.isSome_some,if_true];rw[if_neg af])
 generalize vK l t=R at *
 have HS:=ae hs
 have HL:=ae hl
 have HF:=ae hfit
 have B:=ah.new w 128 (gP t (.slice O t.e.f.length G) (.slice E t.e.es.length D))
 have y:=B.aS
 go_in
 go_wp2
 go_step3
 go_wp2_with fail
 generalize w.alloc _=w1 at *
 generalize w.heap.size=g3 at B⊢
 generalize Value.slice O t.e.f.length G=vf at *
 generalize Value.slice E t.e.es.length D=ve at *
 have:=B.cells
 refine (Kv l _ w1 (Y.aa _ y) HL.aa U).mono ?_
 rintro e w2⟨u6,rfl,hO,X⟩
 have bB:=y.tr X
 go_wp2_with fail
 go_step3
 go_wp2_with fail
 refine (Pc l (kL t.e) _ w2 (Y.aa _ bB) U).mono ?_
 rintro e w3⟨rfl,L⟩
 have mR:=y.size
 replace hO:=hO.st L
 replace bB:=bB.tr L
 have j:=X.tr L
 have HW:=ae (aV.low (aV.floor hO mR) mR)
 generalize hI:rX l (kL t.e)=I at J⊢
 by_cases Z:I<0
 rotate_left
 ·have HQ:Hid (R=(l,170)):=ae (by rw[J.aa,if_neg Z]);exact IG
 have iT:Hid (R=if bH t.e=false then (l,110)else if 8<=l.length then (l,171)else if r9 t.e then (l,172)else (l++[t],0)):=ae (by rw[J.aa,if_pos Z])
 go_wp2_with fail
 refine (Kx t.e _ w3 (M.aa _ bB)).mono ?_
 rintro e w4⟨rfl,F⟩
 replace hO:=hO.st F
 replace bB:=bB.tr F
 replace j:=j.tr F
 cases hok:bH t.e
 ·have HQ:Hid (R=(l,110)):=ae (by rw[iT.aa,if_pos hok]);have HW:=ae (aV.low (aV.floor hO mR) mR);rw[Fy hok];exact IG
 rw[KO hok]
 by_cases h8:8<=l.length
 ·have xC:(8:Int)<=(l.length:Int):=af;have HQ:Hid (R=(l,171)):=ae (by rw[iT.aa,if_neg (by rw[hok];decide),if_pos h8]);exact agZ
 have xC:¬(8:Int)<=(l.length:Int):=af
 go_wp2_with fail
 refine (adD t.e _ w4 (M.aa _ bB) HF.aa).mono ?_
 rintro e C⟨rfl,H⟩
 replace hO:=hO.st H
 replace bB:=bB.tr H
 replace j:=j.tr H
 cases hb:r9 t.e
 rotate_left
 ·have HQ:Hid (R=(l,172)):=ae ag0;exact agZ
 have HQ:Hid (R=(l++[t],0)):=ae ag0
 go_upto_region 10 with fail
 have eB:=B.ay j
 have mN:=hO.blk
 have rH:=j.size
 have dP:=bo rH (aD C.heap.size)
 have qs:=eB.cells
 have hOY:=hO.sw
 refine dK 8 ?_
 iterate 3 refine ar.i ?_
 refine ar.c (Ex C.heap.size t.e) agX (λW k=>(Ky t.e _ W (M.aa _ (bB.tr k)) HS.aa).mono λe w' ⟨v,e1,ho,y⟩=>⟨v,e1,XR k.size ho,y⟩) ?_
 iterate 2 refine ar.i ?_
 refine ar.op (Nr C.heap.size t) ajK (λV W kW hp=>?_) ?_
 ·exact Wq
 refine ar.row (S:=cW) (N:=λk=>k<C.heap.size) _ _ 9 104 JO rfl ax _ t rfl rfl (λV W kW hp=>?_) ?_
 ·exact agY
 intro V W kW hA
 simp only[aN,aQ,b6,aJ,Nat.reduceAdd]at hA
 obtain⟨T,-,-,-,-,-,-,f7,-⟩:=hA
 refine aH.push (.tmp 28) (.tmp 35) 123 _ 9 104 JO rfl rfl rfl u6 l t T (hOY.st kW) (f7.less λk hk=>?_) af (bo dP kW.size) ?_
 ·rcases hk with hk|hk
  ·omega
  ·have:=mN k hk;omega
 intro v9 w9 bE cd _ bq
 have ZB:=(bB.tr kW).trans (bq.mono mR)
 have HW:=ae (aV.low (aV.floor bE.toL mR) mR)
 have qs:=True.intro
 have hA:=T
 refine aH.p ?_
 refine aH.e ?_
 generalize V 7=v7 at *
 go_wp2
 try rw[ig]
 go_ret2
 exact⟨_,nL,FV,ZB⟩
theorem ag1 t(j:t.e.f=[])(u:t.e.es=[]) w:M6 t (.agg (gP t (.slice none 0 0) (.slice none 0 0))) w :=
 ⟨_,_,rfl,by rw[j];exact⟨none,0,rfl,Reads.nil _ _ _ _⟩,by rw[u];exact gy _ _⟩
theorem avG{a c}(j:dJ a)(t:bR c):cE (vL a c):=⟨by simp[vL,bR],j.1,t,j.2.1,j.2.2,IH,IH,IH⟩
theorem aqb l a c v w(h:aq cW l v w)(E:dJ a)(F:bR c)(G:∀s∈l,ew s.e)(C:l.length<=1000000) :
 Calls prog 101 #[v,cA a,.int .i64 c] w λe w'=>∃v',e=.returned (.tuple #[v',.int .i64 (yG l a c).2])/\aV w.heap.size w.heap.size 128 cW (yG l a c).1 v' w'/\K w w':=by
 have:=ae (ajC h)
 have B:=ae λW (kW:K w W)=>adE l ⟨vL a c,false⟩ v _ W (bj h kW) (ag1 ⟨vL a c,false⟩ rfl rfl W) (avG E F) (by simp[ew,vL]) G C
 obtain⟨A,d,rfl⟩:=av h
 have j:=K.new w (.cells #[.int .i64 a.1,.int .u64 a.2.1,.int .u64 a.2.2] 26)
 unfold yG
 generalize vK l ⟨vL a c,false⟩=R at *
 go_in
 go_wp2_with fail
 generalize w.alloc _=t at *
 refine (B.aa t j).mono ?_
 rintro e H⟨J,rfl,u,D⟩
 have y:=ae (aV.low (aV.floor u j.size) j.size)
 go_wp2
 go_ret2
 exact⟨_,rfl,y.aa,j.tr D⟩
theorem aty l x v u w(h:aq cW l v w)(D:dx x u w)(J:cE x)(E:ew x)(M:∀s∈l,ew s.e)(G:l.length<=1000000) :
 Calls prog 132 #[v,u] w λe w'=>∃v',e=.returned (.tuple #[v',.int .i64 (xv l x).2])/\aV w.heap.size w.heap.size 128 cW (xv l x).1 v' w'/\K w w':=by
 obtain⟨vf,t,rfl,I,L⟩:=D
 have F:=ae λW (kW:K w W)=>adE l ⟨x,true⟩ v (.agg (gP ⟨x,true⟩ vf t)) W (bj h kW) ⟨vf,t,rfl,eu _ _ _ _ I kW,bj L kW⟩ J E M G
 obtain⟨A,d,rfl⟩:=av h
 have j:=K.new w (.cells (aE x vf t) 126)
 unfold xv
 generalize vK l ⟨x,true⟩=R at *
 go_in
 go_wp2_with fail
 generalize w.alloc _=y at *
 refine (F.aa y j).mono ?_
 rintro e N⟨O,rfl,B,H⟩
 have C:=ae (aV.low (aV.floor B j.size) j.size)
 go_wp2
 go_ret2
 exact⟨_,rfl,C.aa,j.tr H⟩
