/-
  A log in memory, and the walks of its Append and Force (layer 10). Conditions: at most two hundred thousand records.
-/
import Derived.Test.YtfndfpdhlbmboaaGreatMd11
import Derived.Test.YtfndfpdhlbmboaaGreatMdz
set_option maxRecDepth 100000
set_option linter.constructorNameAsVariable false
set_option maxHeartbeats 16000000
set_option linter.unusedVariables false
set_option linter.unusedSimpArgs false
namespace Go.Proofs.YtfndfpdhlbmboaaGreat
open Go Go.RowKit _root_.Go.Proofs.Tryz
structure kP(gl gd:Nat)(vh vr:Value)(l:List UInt8)(gZ room:Nat)(w:World):Prop where
 dk:gN gd vh l gZ room w
 blk:ai w gl 195 #[.pointer (some ⟨gd,0,none⟩),vr]
 row:∃n xs,n<=l.length/\w.ownsRow 0 94 1 vr n xs
def kQ(gl gd:Nat)(vh vr:Value)(k:Nat):Prop:=k=gl∨vr.ownBlock=some k∨lP gd vh k
structure oH(gl gd:Nat)(vh vr dI wY:Value)(w w':World):Prop where
 up:ag (kQ gl gd vh vr) w w'
 new:∀k,kQ gl gd dI wY k->kQ gl gd vh vr k∨w.heap.size<=k
section
variable {gl gd:Nat} {vh vr dI wY Ml akh:Value} {l:List UInt8} {gZ room:Nat} {w w' w'':World}
theorem kP.st(h:kP gl gd vh vr l gZ room w)(k:K w w'):kP gl gd vh vr l gZ room w':=by obtain⟨n,xs,hn,j⟩:=h.row;exact⟨h.dk.st k,h.blk.ay k,n,xs,hn,qv j k⟩
theorem kP.lt(h:kP gl gd vh vr l gZ room w):∀k,kQ gl gd vh vr k->k<w.heap.size:=λk hk=>by
 obtain⟨n,xs,hn,j⟩:=h.row;rcases hk with rfl|hk|hk
 ·exact h.blk.lt
 ·exact (j.lt k hk).2
 ·exact h.dk.lt k hk
theorem kP.apart(h:kP gl gd vh vr l gZ room w):¬lP gd vh gl/\(∀k,vr.ownBlock=some k->¬lP gd vh k)/\vr.ownBlock≠some gl:=by
 obtain⟨n,xs,hn,j⟩:=h.row;refine⟨λhk=>?_,λk hk u=>?_,λe=>?_⟩
 ·rcases hk with e|e
  ·exact absurd (h.blk.ie (e▸h.dk.blk)) ax
  ·obtain⟨cur,h1⟩:=mq h.dk.own e;exact Wm
 ·obtain⟨cur,h1⟩:=mq j hk;rcases u with rfl|e
  ·exact absurd (h1.ie h.dk.blk) ax
  ·obtain⟨y,t⟩:=mq h.dk.own e;exact absurd (h1.ie t) ax
 ·obtain⟨cur,h1⟩:=mq j e;exact Wm
theorem kP.Jn{l' j}(h:kP gl gd vh vr l gZ room w)(d:gN gd dI l' j room w')(u:kO gd vh dI w w')(B:l.length<=l'.length):kP gl gd dI vr l' j room w'/\oH gl gd vh vr dI vr w w':=by
 obtain⟨A,t,-⟩:=h.apart;obtain⟨n,xs,hn,y⟩:=h.row;refine⟨⟨d,h.blk.aW u.up A,n,xs,bn hn B,i6 y u.up t⟩,⟨u.up.more λk hk=>.inr (.inr hk),λk hk=>?_⟩⟩;rcases hk with hk|hk|hk
 ·exact .inl (.inl hk)
 ·exact .inl (.inr (.inl hk))
 ·exact (u.new k hk).imp (λh=>.inr (.inr h)) id
theorem oH.rf(k:K w w'):oH gl gd vh vr vh vr w w':=⟨ag.aT k _,λ_ h=>.inl h⟩
theorem oH.tr(h:oH gl gd vh vr dI wY w w')(k:oH gl gd dI wY Ml akh w' w''):oH gl gd vh vr Ml akh w w'' :=
 ⟨h.up.gF k.up λb hb t=>(h.new b t).resolve_right af,λb hb=>(k.new b hb).elim (λj=>h.new b j) λj=>.inr (bn h.up.size j)⟩
end
theorem Pe j:j.length<=(frames j).length:=by
 induction j with
 | nil=>simp
 | cons b j t =>
  grind [frames,dx,fg,BU,xV]
def oI(l:List UInt8)(j:List (List UInt8))(room:Nat):List UInt8×Int:=if j.all ij then tR l (frames j) room else (l,30)
theorem atV{P e w base ρ} s u t ty z size bytes(T:fY P t e z size bytes) v n vs(F:ρ s=v)(y:w.ownsRow base e size v n vs) B A m c j(D:ρ u=.slice A m c)(G:Reads w B size A m j)(H:∀u∈j,u.oneCell'=true)
 (C:(n+m)*(bytes+1)<=140737488355328) (E:base<=w.heap.size) :
 ∃v' w',(execOp ρ (aG (.call { callee:=.builtin .append,args:=#[s,u],argTypes:=#[t,t] }) ty)).run P w=.ok (.value v') w'/\w'.ownsRow base e size v' (n+m) (vs++j)/\w.grownBy w' v.ownBlock/\(v'.ownBlock=v.ownBlock∨v'.ownBlock=some w.heap.size)/\Below base w w':=by
 obtain⟨v',w',I,h⟩:=FR (P:=P) w base t ty e z size bytes T v n vs y B A m c j G H C E
 refine⟨v',w',?_,h⟩
 subst F
 simp only[execOp,aG,resolve,invoke,builtin,Sem.run_bind,Sem.run_pure,Result.andThen_ok,List.map_toArray,jR,List.map_nil,D,I]
theorem ape gl gd vh vr v l D room rs w(h:kP gl gd vh vr l D room w)(Z:Fx (kQ gl gd vh vr) (λW=>aq ly rs v W) w)(sV:rs.length<=200000)(hb:∀b∈rs,b.length<=1000000000) :
 Calls prog 304 #[.pointer (some ⟨gl,0,none⟩),v] w λe w'=>∃dI wY,e=.returned (.int .i64 (oI l rs room).2)/\kP gl gd dI wY (oI l rs room).1 D room w'/\oH gl gd vh vr dI wY w w':=by
 have HA:Hid (oI l rs room=if rs.all ij then tR l (frames rs) room else (l,30)):=ae rfl
 have HD:Hid (tR l (frames rs) room=if l.length+(frames rs).length<=room then (l++frames rs,0)else (l,90)):=ae rfl
 have HF:Hid (Ah rs=if rs.all ij then (frames rs,0)else ([],30)):=ae rfl
 generalize oI l rs room=R at *
 have C1:=ae (abP rs v w Z.now sV hb)
 have cR:(Ah rs).1.length<=1000000000:=agK
 have H:=ae h
 have HV:=ae Z
 have ZE:=ae hb
 obtain⟨A,c,rfl⟩:=av Z.now
 have q:=h.blk.cells
 clear h Z hb
 go_enter func304,ntmps304
 go_wp2_with fail
 refine C1.aa.mono ?_
 rintro e w1⟨v1,rfl,C,E⟩
 generalize Ah rs=F at *
 cases hok:rs.all ij
 ·have G0:Hid (F=([],30)):=ae agL;have fy:Hid (R=(l,30)):=ae agM;rw[G0.aa];clear hok C cR;go_wp2;go_ret;exact⟨vh,vr,Lr,by rw[fy.aa];exact H.aa.st E,oH.rf E⟩
 have G0:Hid (F=(frames rs,0)):=ae agN
 have fy:Hid (R=tR l (frames rs) room):=ae agO
 rw[G0.aa]at C cR⊢
 have S:=ae (H.aa.st E)
 obtain⟨A1,c1,rfl,-⟩:=C.slice
 have C2:=ae (abO gd vh _ l (frames rs) D room w1 S.aa.dk (eT C) cR)
 have q1:=q w1 E
 clear hok q
 go_wp2_with fail
 refine C2.aa.mono ?_
 rintro e I⟨J,rfl,fU,jL⟩
 obtain⟨n,xs,hnl,N⟩:=S.aa.row
 replace N:=i6 N jL.up S.aa.apart.2.1
 obtain⟨rq,M9⟩:=S.aa.Jn fU jL (by rw[HD.aa];split <;> simp)
 have U:=ae ((oH.rf E).tr M9)
 have j:=ae rq
 have uY:=HV.aa.to U.aa.up (λ_ h=>h) λk hk hx=>(U.aa.new k hx).resolve_right af
 clear fU jL rq M9 C q1 HA HF C1 C2
 by_cases hfit:l.length+(frames rs).length<=room
 rotate_left
 ·have zy:Hid (tR l (frames rs) room=(l,90)):=ae agP;rw[zy.aa];clear hfit;go_wp2;go_ret;exact⟨J,vr,Qm,by rw[fy.aa];exact j.aa,U.aa⟩
 have zy:Hid (tR l (frames rs) room=(l++frames rs,0)):=ae agQ
 rw[zy.aa]at j⊢
 obtain⟨-,-,hne⟩:=j.aa.apart
 have q:=j.aa.blk.cells
 clear hfit HD HV
 go_upto_region 9 with (fail)
 have aki:=λk hk=>(N.lt k hk).2
 have Mk:¬vr.ownBlock=some gl:=λe=>hne e
 have qs:=λW (u:ag (λk=>vr.ownBlock=some k) I W)=>(j.aa.blk.aW u Mk).cell
 refine OL 8 [7] (λW=>ag (λk=>vr.ownBlock=some k) I W) (λW W'=>W.grownBy W' vr.ownBlock) (λk vs W=>if k=0 then W.ownsRow 0 94 1 vr n xs else ∃t Y,vs=[t]/\W.ownsRow 0 94 1 t (n+rs.length) Y/\∀b,t.ownBlock=some b->vr.ownBlock=some b∨I.heap.size<=b)
  [([],[]),([],[]),([1],[(28,1)]),([2],[(29,2)]),([3],[(30,3)]),([],[]),([5],[(32,5)]),([4,6],[(31,4),(33,6)]),([0,1,2,3,4,5,6,7],[(27,0)]),([0,1,2,3,4,5,6,7,8],[(35,8)]),([0,1,2,3,4,5,6,7,9],[(36,9),(34,7)])] 37
  (λ_ _ h k=>h.tr (ag.aT k _)) (λ_ _ h=>BN h _) (λk vs W W' h kW=>by
   split at h
   ·next G=>rw[if_pos G];exact qv h kW
   ·next G =>
    rw[if_neg G];obtain⟨t,Y,e1,M,Q⟩:=h;exact⟨t,Y,e1,qv M kW,Q⟩) (ag.rf _ _) (λ_=>N) ?_
 iterate 6 refine au.i ?_
 refine au.c (λv W=>aB (λk=>k<I.heap.size) I.heap.size 94 ly rs v W) (λ_ _ _ h k=>h.up (ag.eU (X:=λk=>vr.ownBlock=some k) k λ_ e=>e) aki λk hk=>by have:=aki k hk;omega)
  (λW u=>(Ui rs _ W (uY W (u.more λ_ h=>.inr (.inl h))) sV ZE.aa).mono λe w4 ⟨v4,e1,cI,k4⟩=>⟨v4,e1,(cI.low u.size).less λk hk=>bz hk u.size,k4⟩) ?_
 refine au.s ?_
 clear qs
 refine⟨⟨⟨_,_,rfl,rfl,rfl,λV W hW hD hp=>?_⟩,trivial⟩,λV W hW hD hA=>?_⟩
 ·simp only[cF,aO,aR,bW,bY,aJ]at hp;obtain⟨e4,hO,-⟩:=hp;obtain⟨A6,c6,e6⟩:=av hO.aq;rw[e6]at hO;obtain⟨css,nP,-,hE6⟩:=hO;have hrf:=Pe rs;have sU:=j.aa.dk.len;have nR:=j.aa.dk.room;have JN:(l++frames rs).length<=1048576:=af;change kI _ _ ((execOp (aF [(31,4),(33,6)] _ V) (aG (.call { callee:=.builtin .append,args:=#[.tmp 31,.tmp 33],argTypes:=#[119,119] }) 119)).run _ _);obtain⟨t,w9,hrun,M,Q,h3,-⟩:=atV (P:=prog) (ρ:=aF [(31,4),(33,6)] _ V) (.tmp 31) (.tmp 33) 119 119 _ 1 24 Sj vr n xs (by simp[aF,List.lookup,e4]) hD W.heap.size A6 rs.length c6 css.flatten (by simp[aF,List.lookup,e6]) (Reads.yH nP) (hE6 W (ag.rf _ _)).ones (by simp only[dx]at JN;omega) (eV _);rw[hrun];exact⟨hW.tr (ag.eU Q λ_ e=>e),Q,⟨t,_,rfl,M,λb hb=>h3.elim (λh=>.inl (h▸hb)) λh=>.inr af6⟩,trivial⟩
 simp only[aO,aR,cC,aJ,Nat.reduceAdd]at hA
 obtain⟨e0,-⟩:=hA
 obtain⟨t,Y,O,T,cY⟩:=hD
 injection O with O
 have sU:=j.aa.dk.len
 have nR:=j.aa.dk.room
 have L:=j.aa.blk.aW hW Mk
 have uZ:gN gd J (l++frames rs) D room W:=by obtain⟨-,a2,-⟩:=j.aa.apart;exact⟨j.aa.dk.blk.aW hW λe=>a2 _ e (.inl rfl),i6 j.aa.dk.own hW λk hk e=>a2 _ e (.inr hk),sU,nR⟩
 have azY:t.ownBlock≠some gl:=λe=>by obtain⟨cur,M⟩:=mq T e;exact absurd (M.ie L) ax
 have hgd:gl≠gd:=λe=>j.aa.apart.1 (.inl e)
 have wZ:J.ownBlock≠some gl:=λe=>j.aa.apart.1 (.inr e)
 have q9:=L.cell
 have z9:=L.frozen
 obtain⟨y,B,rfl⟩:∃A c,t=.slice A (n+rs.length) c:=by
  rcases T.2 with ⟨rfl,G⟩|⟨g,cap,cur,rfl,-⟩
  ·exact⟨_,_,by rw[G]⟩
  ·exact⟨_,_,rfl⟩
 have hA:=And.intro e0 O
 have qs:=And.intro q9 z9
 iterate 2 refine aH.p ?_
 refine aH.s ?_
 refine aH.e ?_
 have u9:ag (λk=>k=gl) W (W.setCell ⟨gl,1,none⟩ (.slice y (n+rs.length) B)):=ag.bM (X:=λk=>k=gl) rfl 1 _
 have hV:kP gl gd J (.slice y (n+rs.length) B) (l++frames rs) D room (W.setCell ⟨gl,1,none⟩ (.slice y (n+rs.length) B)):=by refine⟨⟨uZ.blk.aW u9 λe=>hgd e.symm,i6 uZ.own u9 λk hk e=>wZ vV,sU,nR⟩,L.aQ 1 (.slice y (n+rs.length) B),_,_,?_,i6 T u9 λk hk e=>azY vV⟩;have:=Pe rs;simp only[dx];omega
 have hU:oH gl gd vh vr J (.slice y (n+rs.length) B) w (W.setCell ⟨gl,1,none⟩ (.slice y (n+rs.length) B)):=by
  refine U.aa.tr ⟨(hW.more λk hk=>.inr (.inl hk)).tr (ag.bM (.inl rfl) 1 _),λk hk=>?_⟩;rcases hk with hk|hk|hk
  ·exact .inl (.inl hk)
  ·exact (cY k hk).imp (λh=>.inr (.inl h)) id
  ·exact .inl (.inr (.inr hk))
 clear q9 z9 qs hA T L uZ e0 O
 go_wp2
 go_ret
 exact⟨_,_,Qm,by rw[fy.aa,zy.aa];exact hV,hU⟩
theorem axm l j room:(oI l j room).2=0∨(oI l j room).1=l:=by
 grind [oI,tR]
theorem apO gl gd vh vr v l room j w(h:kP gl gd vh vr l l.length room w)(y:Fx (kQ gl gd vh vr) (λW=>aq ly j v W) w)(U:j.length<=200000)(hb:∀b∈j,b.length<=1000000000) :
 Calls prog 270 #[.pointer (some ⟨gl,0,none⟩),v] w λe w'=>∃G M,e=.returned (.int .i64 (oI l j room).2)/\kP gl gd G M (oI l j room).1 (oI l j room).1.length room w'/\oH gl gd vh vr G M w w':=by
 have B:=ae (ape gl gd vh vr v l l.length room j w h y U hb)
 have O:=ae (axm l j room)
 obtain⟨A,c,rfl⟩:=av y.now
 generalize oI l j room=R at *
 clear h y hb
 go_enter func270,ntmps270
 go_wp2_with fail
 refine B.aa.mono ?_
 rintro e I⟨H,V,rfl,t,u⟩
 by_cases h0:R.2=0
 ·have Q:=ae t;have q:=t.blk.cell;have T:=ae (aqC gd H R.1 l.length room I t.dk);have S:=ae u;have C:=ae h0;rw[h0];clear h0 t u B;go_wp2_with fail
  apply aM T.aa;rintro X⟨J,D⟩;obtain⟨E,N⟩:=Q.aa.Jn J D (aD _);have L:=S.aa.tr N;clear q J D N;go_wp2;go_ret;first
  | exact⟨_,_,by rw[C.aa];rfl,E,L⟩
  | exact⟨by rw[C.aa];rfl,_,_,E,L⟩
 ·have Y:(R.2 != 0)=true:=La;have F:kP gl gd H V R.1 R.1.length room I:=by have:=O.aa.resolve_left h0;rw[this]at t⊢;exact t
  clear t B;go_wp2;go_ret;first
  | exact⟨_,_,rfl,F,u⟩
  | exact⟨rfl,_,_,F,u⟩
def xX(l:List UInt8)(j:List (List UInt8))(room:Nat):List UInt8×Int:=if j.all ij then xW l (frames j) room else (l,30)
theorem aoS gl gd vh vr v l room rs w(h:kP gl gd vh vr l l.length room w)(Q:Fx (kQ gl gd vh vr) (λW=>aq ly rs v W) w)(sV:rs.length<=200000)(hb:∀b∈rs,b.length<=1000000000) :
 Calls prog 229 #[.pointer (some ⟨gl,0,none⟩),v] w λe w'=>∃Z wY,e=.returned (.int .i64 (xX l rs room).2)/\((xX l rs room).2=0->kP gl gd Z wY (xX l rs room).1 (xX l rs room).1.length room w')/\gN gd Z (xX l rs room).1 (xX l rs room).1.length room w'/\oH gl gd vh vr Z wY w w':=by
 have HA:Hid (xX l rs room=if rs.all ij then xW l (frames rs) room else (l,30)):=ae rfl
 have HD:Hid (xW l (frames rs) room=if (frames rs).length<=room then (frames rs,0)else (l,90)):=ae rfl
 have HF:Hid (Ah rs=if rs.all ij then (frames rs,0)else ([],30)):=ae rfl
 generalize xX l rs room=R at *
 have C1:=ae (abP rs v w Q.now sV hb)
 have S:(Ah rs).1.length<=1000000000:=agK
 have H:=ae h
 have HV:=ae Q
 have ZE:=ae hb
 obtain⟨A,c,rfl⟩:=av Q.now
 have q:=h.blk.cells
 clear h Q hb
 go_enter func229,ntmps229
 go_wp2_with fail
 refine C1.aa.mono ?_
 rintro e L⟨v1,rfl,E,I⟩
 generalize Ah rs=F at *
 cases hok:rs.all ij
 ·have T:Hid (F=([],30)):=ae agL;have fy:Hid (R=(l,30)):=ae agM;rw[T.aa];have y:Hid (((30:Int)=0->kP gl gd vh vr l l.length room L)/\gN gd vh l l.length room L/\oH gl gd vh vr vh vr w L):=ae ⟨λe=>absurd e ax,(H.aa.st I).dk,oH.rf I⟩;clear hok E S;go_wp2;go_ret;exact⟨vh,vr,Lr,by rw[fy.aa];exact y.aa⟩
 have T:Hid (F=(frames rs,0)):=ae agN
 have fy:Hid (R=xW l (frames rs) room):=ae agO
 rw[T.aa]at E S⊢
 have M:=ae (H.aa.st I)
 obtain⟨A1,c1,rfl,-⟩:=E.slice
 have C2:=ae (aqD gd vh _ l (frames rs) room L M.aa.dk (eT E) S)
 have q1:=q L I
 clear hok q
 go_wp2_with fail
 refine C2.aa.mono ?_
 rintro e C⟨t,rfl,B,D⟩
 obtain⟨a1,a2,a3⟩:=M.aa.apart
 have hx2:=M.aa.blk.aW D.up a1
 obtain⟨n,xs,hnl,U⟩:=M.aa.row
 replace U:=i6 U D.up a2
 have N:Hid (oH gl gd vh vr t vr w C):=ae ((oH.rf I).tr ⟨D.up.more λk hk=>.inr (.inr hk),λk hk=>by
  rcases hk with hk|hk|hk
  ·exact .inl (.inl hk)
  ·exact .inl (.inr (.inl hk))
  ·exact (D.new k hk).imp (λh=>.inr (.inr h)) id⟩)
 have uY:=HV.aa.to N.aa.up (λ_ h=>h) λk hk hx=>(N.aa.new k hx).resolve_right af
 clear D E q1 HA HF C1 C2
 by_cases hfit:(frames rs).length<=room
 rotate_left
 ·have zy:Hid (xW l (frames rs) room=(l,90)):=ae agP;rw[zy.aa]at B⊢;have y:Hid (((90:Int)=0->kP gl gd t vr l l.length room C)/\gN gd t l l.length room C/\oH gl gd vh vr t vr w C):=ae ⟨λe=>absurd e ax,B,N.aa⟩;clear hfit B;go_wp2;go_ret;exact⟨t,vr,Qm,by rw[fy.aa,zy.aa];exact y.aa⟩
 have zy:Hid (xW l (frames rs) room=(frames rs,0)):=ae agQ
 rw[zy.aa]at B⊢
 have C3:=ae (Ui rs _ C uY.now sV ZE.aa)
 have Na:=ae B
 have q:=hx2.cells
 have fL:=hx2.lt
 clear hfit HD uY HV B
 go_wp2_with fail
 refine C3.aa.mono ?_
 rintro e u⟨j,rfl,bH,V⟩
 obtain⟨css,G,azZ,EX⟩:=bH
 have O:=hx2.below V fL
 have az0:j.ownBlock≠some gl:=λe=>by have:=(G.lt gl e).1;omega
 have hgd:gl≠gd:=λe=>a1 (.inl e)
 have wZ:t.ownBlock≠some gl:=λe=>by obtain⟨cur,h1⟩:=mq Na.aa.own e;exact Qi
 have u9:ag (λk=>k=gl) u (u.setCell ⟨gl,1,none⟩ j):=ag.bM (X:=λk=>k=gl) rfl 1 _
 have J:=Na.aa.st V
 have Y:kP gl gd t j (frames rs) (frames rs).length room (u.setCell ⟨gl,1,none⟩ j) :=
  ⟨⟨J.blk.aW u9 λe=>hgd e.symm,i6 J.own u9 λk hk e=>wZ vV,J.len,J.room⟩,O.aQ 1 j,_,_,Pe rs,mN (eV _) (i6 G u9 λk hk e=>az0 vV)⟩
 have hU:oH gl gd vh vr t j w (u.setCell ⟨gl,1,none⟩ j):=by
  refine N.aa.tr ⟨(ag.aT V _).tr (ag.bM (.inl rfl) 1 _),λk hk=>?_⟩;rcases hk with hk|hk|hk
  ·exact .inl (.inl hk)
  ·exact .inr (G.lt k hk).1
  ·exact .inl (.inr (.inr hk))
 have y:Hid (((0:Int)=0->kP gl gd t j (frames rs) (frames rs).length room (u.setCell ⟨gl,1,none⟩ j))/\gN gd t (frames rs) (frames rs).length room (u.setCell ⟨gl,1,none⟩ j)/\oH gl gd vh vr t j w (u.setCell ⟨gl,1,none⟩ j)):=ae ⟨λ_=>Y,Y.dk,hU⟩
 obtain⟨A3,c3,rfl⟩:=av (aB.aq ⟨css,G,azZ,EX⟩)
 have q3:=O.cell
 have z3:=O.frozen
 clear q hx2 O J Y hU G EX u9 U
 go_wp2
 go_ret
 exact⟨_,_,Qm,by rw[fy.aa,zy.aa];exact⟨λ_=>y.aa.1 (by first|trivial|rfl),y.aa.2⟩⟩
theorem abI gl vd vr j w(D:ai w gl 195 #[vd,vr])(t:aq ly j vr w)(B:j.length<=200000)(hb:∀b∈j,b.length<=1000000000) :
 Calls prog 63 #[.pointer (some ⟨gl,0,none⟩)] w λe w'=>∃v',e=.returned v'/\aB (λk=>k<w.heap.size) w.heap.size 94 ly j v' w'/\K w w':=by
 have u:=ae (Ui j vr w t B hb)
 obtain⟨A,c,rfl⟩:=av t
 have q:=D.cell
 clear t
 go_enter func63,ntmps63
 go_wp2_with fail
 apply bS u.aa
 rintro F E⟨y,C⟩
 go_wp2
 go_ret
 exact⟨_,rfl,y,C⟩
theorem acr gd vh j{C} room w(h:gN gd vh (frames j) C room w)(O:∀b∈j,ij b=true) :
 Calls prog 61 #[.pointer (some ⟨gd,0,none⟩)] w λe w'=>∃gl vr,e=.returned (.tuple #[.pointer (some ⟨gl,0,none⟩),.int .i64 0])/\w.heap.size<=gl/\ai w' gl 195 #[.pointer (some ⟨gd,0,none⟩),vr]/\aB (λk=>k<w.heap.size) w.heap.size 94 ly j vr w'/\gN gd vh (frames j) (frames j).length room w'/\ag (lP gd vh) w w':=by
 have sU:=h.len
 have nR:=h.room
 have V:=ae (acp gd vh (frames j) C room w h)
 have H:=ae h
 clear h
 go_enter func61,ntmps61
 go_wp2_with fail
 refine V.aa.mono ?_
 rintro e y⟨N,rfl,G,S⟩
 have nc:∃A c,N=.slice A (frames j).length c/\Reads y y.heap.size 1 A (frames j).length (dS (frames j))/\(frames j).length<=c:=by
  have E:y.ownsRow w.heap.size 5 1 N (frames j).length (dS (frames j)):=G;have B:=E;rcases E.2 with ⟨rfl,W⟩|⟨g,cap,cur,rfl,-,-,h1,-⟩
  ·exact⟨_,_,by rw[W],by rw[W]at B⊢;exact Reads.yH B,af⟩
  ·exact⟨_,_,rfl,Reads.yH B,h1⟩
 obtain⟨Y,c1,rfl,jZ,az1⟩:=nc
 have L:=ae (aqB j _ y Y c1 rfl jZ az1 af O)
 clear V G O
 go_wp2_with fail
 refine L.aa.mono ?_
 rintro e X⟨v2,rfl,M,k2⟩
 have D:=S.tr k2
 have R:=ae (ar0 gd vh (frames j) C room X (H.aa.st D))
 have J:=ae M
 clear L M
 go_wp2_with fail
 refine R.aa.mono ?_
 rintro e w3⟨rfl,T,u⟩
 have I:=H.aa.lt
 have U:=S.size
 have Q:=((J.aa.less λk hk=>bz hk U).up u.up (λk hk=>I k hk) (λk hk=>by have:=I k hk;omega)).low U
 have ix:=bn D.size u.up.size
 have hb:=ai.new w3 195 #[.pointer (some ⟨gd,0,none⟩),v2]
 have t:=hb.aU
 have F:=Q.st t
 have hd4:=T.st t
 have Z:=((ag.aT D _).tr u.up).tr (ag.aT t _)
 clear Q T u t J R
 obtain⟨A2,c2,rfl⟩:=F.slice
 go_wp2
 go_ret2
 exact⟨_,_,rfl,ix,hb,F,hd4,Z⟩
theorem azi M w:mh M bU (.slice none 0 0) (.slice none 0 0) (.slice none 0 0) w:=λ_ _=>⟨gI _ _,gI _ _,gI _ _⟩
theorem axn l v w(h:aq ly l v w)(hlen:l.length<=800000)(hb:∀b∈l,b.length<=1000000000) :
 Calls prog 62 #[v] w λe w'=>∃vl vp va,e=.returned (.tuple #[.agg (cP (tG l).1 vl vp va),.int .i64 (tG l).2])/\mh (λk=>k<w.heap.size) (tG l).1 vl vp va w'/\K w w':=by
 obtain⟨D,d,rfl,hl,-⟩:=h
 have HL:=ae hl
 generalize ho:tG l=o
 have U:=ae ho
 obtain⟨B,co⟩:=o
 clear ho
 have HB:=ae hb
 have E:=(ai.new w 46 mi).alloc (.cells mi 46)
 have N:=ai.new (w.alloc (.cells mi 46)) 46 mi
 have k0:=K.lW w (.cells mi 46) (.cells mi 46)
 rw[World.size_alloc]at N
 clear hl hb
 go_enter func62,ntmps62
 go_wp2
 go_step3
 go_wp2_with fail
 go_step3
 generalize World.alloc (World.alloc w _) _=w0 at *
 generalize jK:w.heap.size=O at E N⊢
 obtain⟨base,hbase⟩:∃b,b=O+1:=⟨_,rfl⟩
 have GW:=ae (show zt base (O+1) bU w0 from ⟨_,_,_,eM.nil (n:=0) (l:=[]) N af (aB.nil _ _ _ _ _)⟩)
 have hlow:base<=w0.heap.size:=by have:=N.lt;omega
 have kk:Below base w0 w0:=cT _ _
 clear N
 go_wp2_with fail
 go_loopw [5,7,8,9,12] (fun f _ _ _ i W=>∃j:Nat,j<=l.length/\i=.int .i64 j/\f=.int .i64 0/\Hid ((iE bU (l.take j)).2=0)/\Hid (zt base (O+1) (iE bU (l.take j)).1 W)/\Below base w0 W) (fun _ _ _ _ i _=>l.length-(intOf i).toNat)
 case atStart=>exact⟨0,af,rfl,rfl,ae cV,ae fP,kk⟩
 case round =>
  clear kk GW;obtain⟨j,hj,rfl,rfl,T,C,G⟩:=hrel;have kr:K w wr:=k0.trans (G.mono af);by_cases F:j<l.length
  ·have aP:(j:Int)<l.length:=af;obtain⟨b1,off,cs,rfl,hcl,hrl,d0,-⟩:=eB HL.aa j F ax;have S:=ae (adJ F T.aa);have R:=ae (λc=>avK F T.aa (c:=c));have bT:=HB.aa _ (bZ F);have hsz:=avJ (l.take j) bU;simp only[qI,show bU.list.length=0 from rfl,show bU.prom.length=0 from rfl,show bU.ab.length=0 from rfl]at hsz;generalize l[j]=b at *;generalize (iE bU (l.take j)).1=s at *;obtain⟨vb,rfl,nc⟩:=hrl wr kr;have hv:∃A c,vb=.slice A b.length c:=by obtain⟨A,c,h,_⟩:=nc;exact⟨A,c,h⟩
   obtain⟨Ab,cb,rfl⟩:=hv;have q0:wr.cell? ⟨b1,off+j,none⟩=some (.slice Ab b.length cb):=by
    grind
   have C1:=ae (apJ b _ wr nc bT);clear hrl hcl d0 nc;go_wp2_with fail
   refine C1.aa.mono ?_;rintro e M⟨v',rfl,tS,k2⟩;have V:=ae tS;obtain⟨vf,ve,rfl,hf,he⟩:=tS M (aI.rf _ _ _);obtain⟨Af,cf,rfl⟩:=cA hf;obtain⟨Ae,ce,rfl⟩:=av he;have I:=ai.new M 197 (eY (ui b) (.slice Af (ui b).e.f.length cf) (.slice Ae (ui b).e.es.length ce));have L:=I.aU;have J:=k2.tr L;have Y:Hid (sI s b=if um b=0 then mR s (ui b)else (s,um b)):=ae rfl;have HDR:=ae (@arU b);clear tS hf he C1 q0;generalize um b=c at *;by_cases hc:c=0
   ·subst hc;obtain⟨x,hx1,hx2⟩:=HDR.aa rfl;have HFX:=ae (arT hx1);have HOX:=ae (aqu (aqp hx1).2);rw[hx2]at Y V I L J⊢;clear hx1 hx2 HDR;go_upto_region 8 with (fail);generalize M.alloc _=Z at *;generalize M.heap.size=g8 at I⊢;obtain⟨vl,vp,va,hS⟩:=C.aa;have dP:=bn hlow G.size;have M4:M3 base (O+1) s x vl vp va (.agg (eY x (.slice Af x.e.f.length cf) (.slice Ae x.e.es.length ce))) Z :=
     ⟨hS.st J,λW u=>V.aa W ((aI.aT L _ _).tr (u.rY λk h1 _ _ e=>by have:=hS.lt dP k (.inr e);have:=k2.size;omega)),bn dP J.size,⟨af,af,af⟩,HOX.aa,HFX.aa⟩
    have C2:=ae (aew Z M4);have q3:=I.cell;have X:=G.trans (J.mono (bn hlow G.size));clear M4 hS C V I L;go_wp2_with fail
    refine C2.aa.mono ?_;rintro e w4⟨rfl,H,hb4⟩;have Ss:=ae H;have ZF:=X.trans hb4;have ajU:=Y.aa.trans (if_pos aj);have YD:=ae ajU;clear H q3 C2 Y ajU;generalize mR s x=o at *;obtain⟨s',e'⟩:=o;by_cases he':e'=0
    ·subst he';have EY:Hid ((iE bU (l.take (j+1))).2=0):=ae (by rw[S.aa,YD.aa]);have HS5:Hid (zt base (O+1) (iE bU (l.take (j+1))).1 w4):=ae (by rw[S.aa,YD.aa];exact Ss.aa);go_wp2;go_roundw
     case rel=>exact⟨j+1,af,bI,rfl,EY,HS5,ZF⟩
     case measure=>simp[intOf];omega
    ·have y:=R.aa e' (by rw[YD.aa]) he';rw[U.aa]at y;obtain⟨rfl,rfl⟩:=Prod.mk.inj y;clear y R S Ss;have t:=(E.below ZF af);have z:=t.frozen;have Q:=t.cell;obtain⟨aY,k9,-⟩:=LO bU (.slice none 0 0) (.slice none 0 0) (.slice none 0 0) t rfl (k0.trans (ZF.mono af)) af;rw[show ((bU.life:Nat):Int)=0 from rfl]at aY k9;clear E F aP t;go_wp2;clear z Q;generalize World.setCell (World.setCell (World.setCell (World.setCell w4 _ _) _ _) _ _) _ _=W9 at *;exact agR
   ·have y:=R.aa c (by rw[Y.aa,if_neg hc]) hc;rw[U.aa]at y;obtain⟨rfl,rfl⟩:=Prod.mk.inj y;have X:=G.trans (J.mono (bn hlow G.size));go_upto_region 7 with (fail);generalize M.alloc _=Z at *;clear y R S C I L V;have t:=(E.below X af);have z:=t.frozen;have Q:=t.cell;obtain⟨aY,k9,-⟩:=LO bU (.slice none 0 0) (.slice none 0 0) (.slice none 0 0) t rfl (k0.trans (X.mono af)) af;rw[show ((bU.life:Nat):Int)=0 from rfl]at aY k9;clear E F aP t;go_wp2;clear z Q;generalize World.setCell (World.setCell (World.setCell (World.setCell Z _ _) _ _) _ _) _ _=W9 at *;exact agR
  ·have aP:¬(j:Int)<l.length:=af;have y:=T.aa;rw[gQ af]at y C;have y:=atE y;rw[U.aa]at y;obtain⟨sc,rfl⟩:=Prod.mk.inj y;rw[<- sc]at C;obtain⟨vl,vp,va,H⟩:=C.aa;obtain⟨⟨El,fl,rfl⟩,⟨Ep,fp,rfl⟩,Ea,fa,rfl⟩:=H.slices;have q:=H.blk.cell;have t:=E.below G af;have z:=t.frozen;have Q:=t.cell;obtain⟨aY,k9,u9⟩:=LO B (.slice El B.list.length fl) (.slice Ep B.prom.length fp) (.slice Ea B.ab.length fa) t rfl kr af;have H9:=ae (And.intro (H.fx.up u9 λk e=>show k<base by omega) k9);clear H C E y T F U sc t k9 u9;go_wp2;clear q z Q;generalize World.setCell (World.setCell (World.setCell (World.setCell wr _ _) _ _) _ _) _ _=W9 at *;have e9:=aY.cell;try rw[iq]
   refine bodyPost_ret (v:=.tuple #[.agg (cP B (.slice El B.list.length fl) (.slice Ep B.prom.length fp) (.slice Ea B.ab.length fa)),.int .i64 0]) (by simp[results,results62,go_sem,e9]) rfl ?_;exact⟨_,_,_,rfl,H9.aa.1.less λk h=>af,H9.aa.2⟩
def Gr(l:List (List UInt8)):Prop:=∀(v:Value) (w:World),aq ly l v w->Calls prog 62 #[v] w λe w'=>∃vl vp va,e=.returned (.tuple #[.agg (cP (tG l).1 vl vp va),.int .i64 (tG l).2])/\mh (λk=>k<w.heap.size) (tG l).1 vl vp va w'/\K w w'
theorem Gr.all{l}(j:l.length<=800000)(hb:∀b∈l,b.length<=1000000000):Gr l:=λv w h=>axn l v w h j hb
theorem aqE s v w(h:nQ s v w)(hz:s.list.length<=300000/\s.prom.length<=300000/\s.ab.length<=300000)(hok:∀r∈cM s,dR r=true/\jQ r) :
 Calls prog 228 #[v] w λe w'=>∃v',e=.returned (.tuple #[v',.int .i64 0])/\aX w.heap.size w.heap.size 94 ly ((cM s).map bL) v' w'/\K w w':=by
 obtain⟨vl,vp,va,rfl,hl,hp,ha⟩:=h
 obtain⟨Al,cl,rfl,hl,-⟩:=hl
 obtain⟨Ap,cp,rfl,hp,-⟩:=hp
 obtain⟨Aa,ca,rfl,ha,-⟩:=ha
 have dL:=ai.new w 46 (cP s (.slice Al s.list.length cl) (.slice Ap s.prom.length cp) (.slice Aa s.ab.length ca))
 have V:=dL.aU
 have HL:=ae hl
 have HP:=ae hp
 have HA:=ae ha
 have j0:=ae hok
 have H1L:=aex s.life
 obtain⟨C,jZ⟩:∃R,R=wF s.life:=⟨_,rfl⟩
 have hS:cM s=C++mE s.list++lG s.prom++pQ s.ab:=by rw[jZ];rfl
 generalize cM s=I at *
 have HS:=ae hS
 have G1:=ae jZ
 rw[<- jZ]at H1L
 clear hl hp ha hok jZ hS
 go_enter func228,ntmps228
 go_upto_region 2 with (fail)
 generalize w.alloc _=G at *
 generalize jK:w.heap.size=gp at dL⊢
 obtain⟨base,hbase⟩:∃b,Hid (b=G.heap.size):=⟨_,ae rfl⟩
 have qp:=dL.cells
 have M:=K.rf G
 have qz:=dL.cell
 clear dL
 go_upto_if 18 with (fail)
 go_cut [4]from 18 to 24 (fun v4 W=>Hid (aX base 0 197 wq C v4 W)/\K G W)
 case first =>
  by_cases h0:s.life=0
  ·have HQ:Hid (C=[]):=ae (by rw[G1.aa,wF,if_pos h0]);have h0i:((s.life:Int) != 0)=false:=by rw[h0];rfl
   clear h0;go_wp2;go_meet
   case rel=>exact⟨ae (by rw[HQ.aa];exact aX.nil _ _ _ _ _),M⟩
  ·have HQ:Hid (C=[⟨1,s.life,dD,0,0,0⟩]):=ae (by rw[G1.aa,wF,if_neg h0]);have h0i:((s.life:Int) != 0)=true:=ba;have kA:=K.new G (.cells (eY ⟨1,s.life,dD,0,0,0⟩ (.slice none 0 0) (.slice none 0 0)) 197);have yK:base<=(G.alloc (.cells (eY ⟨1,s.life,dD,0,0,0⟩ (.slice none 0 0) (.slice none 0 0)) 197)).heap.size:=by rw[hbase.aa];exact kA.size
   clear h0;go_wp2_with (at_builtin;refine iW rfl _ _ 333 rfl base 197 _ 13 136 Rp (.slice none 0 0) 0 [] rfl (kU _ _ _ _) (G.heap.size+1) _ 1 1 (eY ⟨1,s.life,dD,0,0,0⟩ (.slice none 0 0) (.slice none 0 0)).toList rfl ?c1 ?c2 ?c3 yK ?_)
   case c1=>exact Reads.new G (eY ⟨1,s.life,dD,0,0,0⟩ (.slice none 0 0) (.slice none 0 0)).toList 197 13 1 rfl
   case c2=>and_intros <;> rfl
   case c3=>omega
   intro v9 F gg bC cY aY;have k9:K G F:=kA.trans (aY.mono Qn);have bq:aX base 0 197 wq C v9 F:=by rw[HQ.aa];exact aX.snoc (S:=wq) (l:=[]) (css:=[]) (lo:=0) rfl (λw' u=>Each.nil _ _) gg bC rE (λw' u=>⟨_,_,rfl,⟨none,0,rfl,Reads.nil _ _ _ _⟩,gI _ _⟩)
   have xY:=ae bq;clear gg bC cY aY bq yK kA;go_wp2;go_meet
   case rel=>exact⟨xY,k9⟩
 case rest =>
 obtain⟨T,M⟩:=hcut
 clear qz
 go_wp2_with fail
 go_loopw [4,5,6,28] (fun v4 _ _ i W=>∃j:Nat,j<=s.list.length/\i=.int .i64 j/\Hid (aX base 0 197 wq (C++mE (s.list.take j)) v4 W)/\K G W) (fun _ _ _ i _=>s.list.length-(intOf i).toNat)
 case atStart=>exact⟨0,af,rfl,ae (by simpa [mE]using T.aa),M⟩
 case round =>
  clear M T;obtain⟨j,hj,rfl,t,kr⟩:=hrel;by_cases hlt:j<s.list.length
  ·have aP:(j:Int)<s.list.length:=af;obtain⟨Q,X,cs,rfl,eS,hrl,E,d⟩:=eB HL.aa j hlt ax;have HT:=ae (atF s.list j hlt);have zk:Hid ((C++mE (s.list.take j)).length<=900001):=ae (by simp only[dx,K2,qI];omega);generalize s.list[j]=x at *;have qZ:=V.tr kr;obtain⟨vf,ve,rfl,hf,he⟩:=hrl w (K.rf w);have lL:Hid (∀W,K w W->dm x (.agg (aE x vf ve)) W):=ae λW k=>by exact Wo
   have E:wr.cell? ⟨Q,X+j*8,none⟩=some (.int .i64 x.kind):=E wr qZ;have d:∀i,i<8->wr.cell? ⟨Q,X+j*8+i,none⟩=(aE x vf ve)[i]?:=λi hi=>(d wr qZ i hi).trans Array.getElem?_toList
   obtain⟨J,N,rfl⟩:=cA hf;obtain⟨O,L,rfl⟩:=av he;have y:=ai.new wr 126 (aE x (.slice J x.f.length N) (.slice O x.es.length L));have D:=y.aU;clear hrl eS hf he;go_upto_region 7 with (fail);clear d E;have Z:=t.aa.st D;generalize wr.alloc _=B at *;generalize wr.heap.size=ge at y⊢;replace kr:=kr.tr D;have St:=V.tr kr;have q5:=y.cell;have lq:=Z.blk;obtain⟨css,hown,hcl,lJ⟩:=Z;have gU:=zk.aa;generalize Y:C++mE (s.list.take j)=RJ at *;have Y:=ae Y;have kA:=K.new B (.cells (eY ⟨2,j,x,0,0,0⟩ (.slice J x.f.length N) (.slice O x.es.length L)) 197);have yK:base<=(B.alloc (.cells (eY ⟨2,j,x,0,0,0⟩ (.slice J x.f.length N) (.slice O x.es.length L)) 197)).heap.size:=Wp;have U:=λk e=>(lq k e).1
   simp only[hbase.aa]at U;have Su:=ae λk e=>bn V.size (U k e)
   clear t D y lq U;go_wp2_with (at_builtin;refine iW rfl _ _ 333 rfl base 197 _ 13 136 Rp _ _ _ rfl (qG hown _) (B.heap.size+1) _ 1 1 (eY ⟨2,j,x,0,0,0⟩ (.slice J x.f.length N) (.slice O x.es.length L)).toList rfl ?c1 ?c2 ?c3 yK ?_)
   case c1=>exact Reads.new B (eY ⟨2,j,x,0,0,0⟩ (.slice J x.f.length N) (.slice O x.es.length L)).toList 197 13 1 rfl
   case c2=>and_intros <;> rfl
   case c3=>omega
   intro v9 F gg bC cY aY;have k9:K G F:=(kr.tr kA).trans (aY.mono Qn);have xY:Hid (aX base 0 197 wq (C++mE (s.list.take (j+1))) v9 F):=ae (by
    rw[HT.aa,<- eu,Y.aa];exact aX.snoc (S:=wq) (lo:=0) hcl (λw' u=>lJ w' (aI.tr (aI.aT kA _ _) u)) gg bC rE (λw' u=>ajA (k:=2) (n:=j) (a:=(0,0,0)) (lL.aa w' ((aI.tr (aI.aT kA _ _) u).k St Su.aa))))
   exact Qo
  ·have aP:¬(j:Int)<s.list.length:=af;rw[gQ af]at t;have T:=t;have M:=kr;clear t kr hj hlt;go_wp2_with fail
   clear aP;go_loopw [4,8,44] (fun v4 _ i W=>∃j:Nat,j<=s.prom.length/\i=.int .i64 j/\Hid (aX base 0 197 wq (C++mE s.list++lG (s.prom.take j)) v4 W)/\K G W) (fun _ _ i _=>s.prom.length-(intOf i).toNat)
   case atStart=>exact⟨0,af,rfl,ae (by simpa [lG]using T.aa),M⟩
   case round =>
    clear M T;obtain⟨j,hj,rfl,t,kr⟩:=hrel;by_cases hlt:j<s.prom.length
    ·have aP:(j:Int)<s.prom.length:=af;obtain⟨Q,X,cs,rfl,eS,hrl,E,d⟩:=eB HP.aa j hlt ax;have HT:=ae (atG s.prom j hlt);have zk:Hid ((C++mE s.list++lG (s.prom.take j)).length<=900001):=ae (by simp only[dx,K2,PC,qI];omega);generalize s.prom[j]=x at *;have qZ:=V.tr kr;obtain⟨vf,ve,rfl,hf,he⟩:=hrl w (K.rf w);have lL:Hid (∀W,K w W->dm x (.agg (aE x vf ve)) W):=ae λW k=>by exact Wo
     have E:wr.cell? ⟨Q,X+j*8,none⟩=some (.int .i64 x.kind):=E wr qZ;have d:∀i,i<8->wr.cell? ⟨Q,X+j*8+i,none⟩=(aE x vf ve)[i]?:=λi hi=>(d wr qZ i hi).trans Array.getElem?_toList
     obtain⟨J,N,rfl⟩:=cA hf;obtain⟨O,L,rfl⟩:=av he;have y:=ai.new wr 126 (aE x (.slice J x.f.length N) (.slice O x.es.length L));have D:=y.aU;clear hrl eS hf he;go_upto_region 12 with (fail);clear d E;have Z:=t.aa.st D;generalize wr.alloc _=B at *;generalize wr.heap.size=ge at y⊢;replace kr:=kr.tr D;have St:=V.tr kr;have q5:=y.cell;have lq:=Z.blk;obtain⟨css,hown,hcl,lJ⟩:=Z;have gU:=zk.aa;generalize Y:C++mE s.list++lG (s.prom.take j)=RJ at *;have Y:=ae Y;have kA:=K.new B (.cells (eY ⟨3,0,x,0,0,0⟩ (.slice J x.f.length N) (.slice O x.es.length L)) 197);have yK:base<=(B.alloc (.cells (eY ⟨3,0,x,0,0,0⟩ (.slice J x.f.length N) (.slice O x.es.length L)) 197)).heap.size:=Wp;have U:=λk e=>(lq k e).1
     simp only[hbase.aa]at U;have Su:=ae λk e=>bn V.size (U k e)
     clear t D y lq U;go_wp2_with (at_builtin;refine iW rfl _ _ 333 rfl base 197 _ 13 136 Rp _ _ _ rfl (qG hown _) (B.heap.size+1) _ 1 1 (eY ⟨3,0,x,0,0,0⟩ (.slice J x.f.length N) (.slice O x.es.length L)).toList rfl ?c1 ?c2 ?c3 yK ?_)
     case c1=>exact Reads.new B (eY ⟨3,0,x,0,0,0⟩ (.slice J x.f.length N) (.slice O x.es.length L)).toList 197 13 1 rfl
     case c2=>and_intros <;> rfl
     case c3=>omega
     intro v9 F gg bC cY aY;have k9:K G F:=(kr.tr kA).trans (aY.mono Qn);have xY:Hid (aX base 0 197 wq (C++mE s.list++lG (s.prom.take (j+1))) v9 F):=ae (by
      rw[HT.aa,<- eu,Y.aa];exact aX.snoc (S:=wq) (lo:=0) hcl (λw' u=>lJ w' (aI.tr (aI.aT kA _ _) u)) gg bC rE (λw' u=>ajA (k:=3) (n:=0) (a:=(0,0,0)) (lL.aa w' ((aI.tr (aI.aT kA _ _) u).k St Su.aa))))
     exact Qo
    ·have aP:¬(j:Int)<s.prom.length:=af;rw[gQ af]at t;have T:=t;have M:=kr;clear t kr hj hlt;go_wp2_with fail
     clear aP;go_loopw [4,10,57] (fun v4 _ i W=>∃j:Nat,j<=s.ab.length/\i=.int .i64 j/\Hid (aX base 0 197 wq (C++mE s.list++lG s.prom++pQ (s.ab.take j)) v4 W)/\K G W) (fun _ _ i _=>s.ab.length-(intOf i).toNat)
     case atStart=>exact⟨0,af,rfl,ae (by simpa [pQ]using T.aa),M⟩
     case round =>
      clear M T;obtain⟨j,hj,rfl,t,kr⟩:=hrel;by_cases hlt:j<s.ab.length
      ·have aP:(j:Int)<s.ab.length:=af;obtain⟨Q,X,cs,rfl,eS,hrl,E,d⟩:=eB HA.aa j hlt ax;have HT:=ae (atH s.ab j hlt);have zk:Hid ((C++mE s.list++lG s.prom++pQ (s.ab.take j)).length<=900001):=ae axo;generalize s.ab[j]=x at *;have qZ:=V.tr kr;obtain rfl:=hrl w (K.rf w);have E:wr.cell? ⟨Q,X+j*3,none⟩=some (.int .i64 x.1):=E wr qZ;have d:∀i,i<3->wr.cell? ⟨Q,X+j*3+i,none⟩=(#[.int .i64 x.1,.int .u64 x.2.1,.int .u64 x.2.2]:Array Value)[i]?:=λi hi=>(d wr qZ i hi).trans Array.getElem?_toList
       have y:=ai.new wr 26 #[.int .i64 x.1,.int .u64 x.2.1,.int .u64 x.2.2];have D:=y.aU;clear hrl eS;go_upto_region 17 with (fail);clear d E;have Z:=t.aa.st D;generalize wr.alloc _=B at *;generalize wr.heap.size=ge at y⊢;replace kr:=kr.tr D;have St:=V.tr kr;have q5:=y.cell;have lq:=Z.blk;obtain⟨css,hown,hcl,lJ⟩:=Z;have gU:=zk.aa;generalize Y:C++mE s.list++lG s.prom++pQ (s.ab.take j)=RJ at *;have Y:=ae Y;have kA:=K.new B (.cells (eY ⟨4,0,dD,x.1,x.2.1,x.2.2⟩ (.slice none 0 0) (.slice none 0 0)) 197);have yK:base<=(B.alloc (.cells (eY ⟨4,0,dD,x.1,x.2.1,x.2.2⟩ (.slice none 0 0) (.slice none 0 0)) 197)).heap.size:=Wp;have U:=λk e=>(lq k e).1
       simp only[hbase.aa]at U;have Su:=ae λk e=>bn V.size (U k e)
       clear t D y lq U;go_wp2_with (at_builtin;refine iW rfl _ _ 333 rfl base 197 _ 13 136 Rp _ _ _ rfl (qG hown _) (B.heap.size+1) _ 1 1 (eY ⟨4,0,dD,x.1,x.2.1,x.2.2⟩ (.slice none 0 0) (.slice none 0 0)).toList rfl ?c1 ?c2 ?c3 yK ?_)
       case c1=>exact Reads.new B (eY ⟨4,0,dD,x.1,x.2.1,x.2.2⟩ (.slice none 0 0) (.slice none 0 0)).toList 197 13 1 rfl
       case c2=>and_intros <;> rfl
       case c3=>omega
       intro v9 F gg bC cY aY;have k9:K G F:=(kr.tr kA).trans (aY.mono Qn);have xY:Hid (aX base 0 197 wq (C++mE s.list++lG s.prom++pQ (s.ab.take (j+1))) v9 F):=ae (by
        rw[HT.aa,<- eu,Y.aa];exact aX.snoc (S:=wq) (lo:=0) hcl (λw' u=>lJ w' (aI.tr (aI.aT kA _ _) u)) gg bC rE (λw' u=>⟨_,_,rfl,⟨none,0,rfl,Reads.nil _ _ _ _⟩,gI _ _⟩))
       exact Qo
      ·have aP:¬(j:Int)<s.ab.length:=af;rw[gQ af]at t;have T:=t;have M:=kr;clear t kr hj hlt;rw[<- HS.aa]at T;have gU:I.length<=900001:=by rw[HS.aa];simp only[dx,K2,PC,Vn];omega
       obtain⟨A4,c4,rfl,mg,-⟩:=T.aa.aq;have HR:=ae mg;clear T mg HL HP HA;generalize wr=w2 at *;have k2:=M;obtain⟨H,hb2⟩:∃b,Hid (b=w2.heap.size):=⟨_,ae rfl⟩;have xZ:Hid (aX H H 94 ly ([]:List (List UInt8)) (.slice none 0 0) w2):=ae (aX.nil _ _ _ _ _);go_wp2_with fail
       clear aP;go_loopw [11,13,14,15,69] (fun o _ _ _ i W=>∃j:Nat,j<=I.length/\i=.int .i64 j/\Hid (aX H H 94 ly ((I.take j).map bL) o W)/\K w2 W) (fun _ _ _ _ i _=>I.length-(intOf i).toNat)
       case atStart=>exact⟨0,af,rfl,xZ,K.rf _⟩
       case round =>
        clear M xZ;obtain⟨j,hj,rfl,t,kr⟩:=hrel;by_cases hlt:j<I.length
        ·have aP:(j:Int)<I.length:=af;obtain⟨Q,X,cs,rfl,eS,hrl,E,d⟩:=eB HR.aa j hlt ax;have HT:Hid ((I.take (j+1)).map bL=(I.take j).map bL++[bL I[j]]):=ae Wq;have zk:Hid (((I.take j).map bL).length<=900001):=ae (by simp only[List.length_map,qI];omega);obtain⟨hok,hfit⟩:=j0.aa _ (bZ hlt);generalize I[j]=r at *;obtain⟨vf,ve,rfl,hf,he⟩:=hrl w2 (K.rf w2);have uU:Hid (∀W,K w2 W->p6 r (.agg (eY r vf ve)) W):=ae λW k=>by exact Wo
         have E:wr.cell? ⟨Q,X+j*13,none⟩=some (.int .i64 r.kind):=E wr kr;have d:∀i,i<13->wr.cell? ⟨Q,X+j*13+i,none⟩=(eY r vf ve)[i]?:=λi hi=>(d wr kr i hi).trans Array.getElem?_toList
         obtain⟨J,N,rfl⟩:=cA hf;obtain⟨O,L,rfl⟩:=av he;have y:=ai.new wr 197 (eY r (.slice J r.e.f.length N) (.slice O r.e.es.length L));have D:=y.aU;have hc:ur r=0:=V0;have hE:zY r=bL r:=V1;have C1:=ae λW (kW:K w2 W)=>Vk r _ W (uU.aa W kW) hfit
         simp only[hc,hE]at C1;clear hrl eS hf he hok hfit hc hE;go_upto_region 23 with (fail);clear d E;have Z:=t.aa.st D;generalize wr.alloc _=B at *;generalize wr.heap.size=ge at y⊢;replace kr:=kr.tr D;have q5:=y.cell;clear t D y;have HO5:=ae Z;clear Z;go_wp2_with fail
         have Sv:Hid (H<=B.heap.size):=ae (by rw[hb2.aa];exact kr.size);refine (C1.aa B kr).mono ?_;rintro e w6⟨vb,rfl,dw,k6⟩;have lB:=HO5.aa.st k6;replace kr:=kr.tr k6;obtain⟨Ab,cb,rfl⟩:∃A c,vb=.slice A (bL r).length c:=by obtain⟨A,c,h,_⟩:=eT dw;exact⟨A,c,h⟩
         have lq:=lB.blk;obtain⟨css,hown,hcl,lJ⟩:=lB;have aER:=zk.aa;have Nb:=ae dw;have hwn:=λk e=>mq hown (g:=k) e
         generalize (I.take j).map bL=RJ at *;have kA:=K.new w6 (.cells #[.slice Ab (bL r).length cb] 94);have yK:H<=(w6.alloc (.cells #[.slice Ab (bL r).length cb] 94)).heap.size:=by rw[hb2.aa];exact bn kr.size kA.size
         have HWN:=ae hwn;clear lq C1 HO5 dw hwn;go_wp2_with (at_builtin;refine iW rfl _ _ 119 rfl H 94 _ 1 24 Sj _ _ _ rfl (qG hown _) (w6.heap.size+1) _ 1 1 [.slice Ab (bL r).length cb] rfl ?c1 ?c2 ?c3 yK ?_)
         case c1=>exact Reads.new w6 [.slice Ab (bL r).length cb] 94 1 1 rfl
         case c2=>intro u hu;simp at hu;subst hu;rfl
         case c3=>omega
         intro v9 F gg bC cY aY;have k9:K w2 F:=(kr.tr kA).trans (aY.mono (by rw[hb2.aa];exact aD _));have xY:Hid (aX H H 94 ly ((I.take (j+1)).map bL) v9 F):=ae (by
          rw[HT.aa];exact aX.snoc (S:=ly) (lo:=H) hcl (λw' u=>lJ w' (aI.tr (aI.aT kA _ _) u)) gg bC rE (λw' u=>by
           have ho:=Nb.aa;have u':=(aI.aT kA H _).tr u;exact⟨_,rfl,eT (FJ ho λk h1 h2 h3=>u'.block k (bn Sv.aa h1) h2 (λe=>by
            obtain⟨c1,Q⟩:=HWN.aa k e.symm;obtain⟨c2,H⟩:=mq ho h3;exact absurd (Q.ie H) ax))⟩))
         exact Qo
        ·have aP:¬(j:Int)<I.length:=af;rw[gQ af]at t;have ZG:gp<=H:=by rw[<- jK,hb2.aa];exact bn V.size k2.size
         have zB:=ae (aX.low (aX.floor t.aa ZG) ZG);have x7:=ae jK;clear ZG;have kF:=V.tr (k2.tr kr);clear t hlt hj HR;go_wp2;go_ret2;first|exact⟨_,rfl,zB.aa,kF⟩|exact⟨_,rfl,by rw[x7.aa];exact zB.aa,kF⟩
def jk(d:pC):List UInt8:=frames (d.eZ.map bL)
abbrev JP(gd:Nat)(vh:Value)(d:pC)(w:World):Prop:=gN gd vh (jk d) (jk d).length d.room w
abbrev Sw(gl gd:Nat)(vh vr:Value)(d:pC)(w:World):Prop:=kP gl gd vh vr (jk d) (jk d).length d.room w
structure YE(gd:Nat)(vh:Value)(d:pC)(s:dA)(w:World)(e:Ending)(w':World)(gl:Nat)(dI vr vl vp va:Value):Prop where
 ret:e=.returned (.tuple #[.pointer (some ⟨gl,0,none⟩),.agg (cP s vl vp va),.int .i64 0])
 lg:Sw gl gd dI vr d w'
 st:mh (λk=>k<w.heap.size∨kQ gl gd dI vr k) s vl vp va w'
 up:ag (lP gd vh) w w'
 new:∀k,kQ gl gd dI vr k->lP gd vh k∨w.heap.size<=k
 gl:w.heap.size<=gl
def YF(gd:Nat)(vh:Value)(d:pC)(w:World)(e:Ending)(w':World):Prop :=
 ∃j,e=.returned (.tuple #[.pointer none,.agg mi,.int .i64 90])/\JP gd j d w'/\kO gd vh j w w'
def D7(gd:Nat)(vh:Value)(d:pC)(s:dA)(w:World)(e:Ending)(w':World):Prop :=
 if ir (cM (bP s))<=d.room then ∃gl j vr vl vp va,YE gd vh ⟨cM (bP s),d.room⟩ (bP s) w e w' gl j vr vl vp va else YF gd vh d w e w'
section
variable {gl gd gZ room:Nat} {vh vr:Value} {l:List UInt8} {w w':World} {X:Nat->Prop}
theorem gN.aW(h:gN gd vh l gZ room w)(u:ag X w w')(j:∀k,lP gd vh k->¬X k):gN gd vh l gZ room w' :=
 ⟨h.blk.aW u (j _ (.inl rfl)),i6 h.own u λb hb=>j b (.inr hb),h.len,h.room⟩
theorem kP.aW(h:kP gl gd vh vr l gZ room w)(u:ag X w w')(j:∀k,kQ gl gd vh vr k->¬X k):kP gl gd vh vr l gZ room w':=by obtain⟨n,xs,hn,t⟩:=h.row;exact⟨h.dk.aW u λk hk=>j k (.inr (.inr hk)),h.blk.aW u (j _ (.inl rfl)),n,xs,hn,i6 t u λb hb=>j b (.inr (.inl hb))⟩
end
theorem apf gd vh d s w(h:JP gd vh d w)(hG:gS d s)(hA:Gr (d.eZ.map bL))(hl:s.life+1<18446744073709551616) :
 Calls prog 137 #[.pointer (some ⟨gd,0,none⟩)] w (D7 gd vh d s w):=by
 obtain⟨j,O⟩:∃j,j=d.eZ.map bL:=⟨_,rfl⟩
 obtain⟨u,Y⟩:∃u,u=(cM (bP s)).map bL:=⟨_,rfl⟩
 obtain⟨t,dq⟩:∃n,n=s.life+1:=⟨_,rfl⟩
 have mg:bP s=⟨t,s.list,s.prom,s.ab⟩:=by unfold bP;rw[Nat.mod_eq_of_lt hl,dq]
 have hlen:=hG.len
 rw[<- O]at hA
 have HA:=ae hA
 clear hA
 have hD:jk d=frames j:=by rw[O];rfl
 have hok:∀b∈j,ij b=true:=by rw[O];exact agS
 have J:∀b∈j,b.length<=1000000000:=λb hb=>by have:=hok b hb;simp[ij]at this;omega
 have Eu:u.all ij=true:=by rw[Y,xC];intro b hb;obtain⟨r,hr,rfl⟩:=List.mem_map.1 hb;exact Vp (hG.small r hr)
 have akk:∀b∈u,b.length<=1000000000:=λb hb=>by have:=List.all_eq_true.1 Eu b hb;simp[ij]at this;omega
 have Ji:j.length<=150000:=by rw[O,List.length_map];exact hG.cnt
 have aEx:u.length<=200000:=by have htot:=hG.tot;rw[Y,List.length_map];have:=aex (bP s).life;unfold cM;simp only[dx,K2,PC,Vn];show _+s.list.length+s.prom.length+s.ab.length<=_;omega
 have hall:tG j=(s,0):=by have:=aey d.eZ (λr hr=>⟨(hG.eZ r hr).1,(hG.eZ r hr).2.1⟩) bU s hG.run;rw[O];unfold tG;rw[this];rfl
 have hro:=V7 hG.inv.bP aA
 have cR:(frames u).length=ir (cM (bP s)):=by rw[Y,O6]
 have zC:Hid (∀e w' gl dI vr vl vp va,ir (cM (bP s))<=d.room->YE gd vh ⟨cM (bP s),d.room⟩ (bP s) w e w' gl dI vr vl vp va->D7 gd vh d s w e w'):=ae λe w' gl dI vr vl vp va c h=>by unfold D7;rw[if_pos c];exact⟨gl,dI,vr,vl,vp,va,h⟩
 have Bt:Hid (∀e w',¬ir (cM (bP s))<=d.room->YF gd vh d w e w'->D7 gd vh d s w e w'):=ae λe w' c h=>by unfold D7;rw[if_neg c];exact h
 have HN:Hid (jk ⟨cM (bP s),d.room⟩=frames u):=ae (by rw[Y];rfl)
 have HD:=ae hD
 have HRO:Hid (∀r∈cM ⟨t,s.list,s.prom,s.ab⟩,dR r=true/\jQ r):=ae (by rw[<- mg];exact hro)
 have Sy:Hid ((cM ⟨t,s.list,s.prom,s.ab⟩).map bL=u):=ae aA
 have JQ:=ae mg
 have Sz:=ae cR
 generalize ir (cM (bP s))=DL at *
 generalize D7 gd vh d s w=Post at *
 have j0:=ae hok
 have ZH:=ae J
 have HOT:=ae Eu
 have HBT:=ae akk
 have Rq:=ae hall
 have dc:=ai.new w 46 mi
 have k0:=dc.aU
 have ML:=h.st k0
 have hlo:=h.lt
 have aEy:=ae hlen
 rw[hD]at ML
 have C1:=ae (acr gd vh j d.room _ ML hok)
 have hW:IntKind.u64.wrap ((s.life:Int)+1)=(t:Int):=by rw[IntWalk.u64_in ((s.life:Int)+1) af];omega
 have Dg:=ae dq
 clear dq hl
 clear h hG O Y mg hD hok J Eu akk hall hro cR ML
 go_enter func137,ntmps137
 go_wp2_with fail
 generalize w.alloc _=w1 at *
 generalize jK:w.heap.size=gp at dc⊢
 have x7:=ae jK
 refine C1.aa.mono ?_
 rintro e w2⟨gl,vr,rfl,fL,J,hO,fU,jL⟩
 have hz0:=k0.size
 have Nc:=ae jL.size
 have Nd:=ae dc.lt
 have ZI:=ae hz0
 have bA:=dc.aW jL λh=>by have:=hlo gp h;omega
 have C2:=ae (abI gl _ vr j w2 J hO.aq af ZH.aa)
 have JO:=ae ((ag.aT k0 _).tr jL)
 have xa:=ae hO
 have wX:=ae J
 have Na:=ae fU
 clear jL hO J fU C1 dc jK
 go_wp2_with fail
 refine C2.aa.mono ?_
 rintro e Z⟨v3,rfl,bH,k3⟩
 have C3:=ae (HA.aa v3 Z bH.aq)
 obtain⟨A3,c3,rfl⟩:=bH.slice
 clear C2 bH
 go_wp2_with fail
 refine C3.aa.mono ?_
 rintro e I⟨vl,vp,va,rfl,rh,k4⟩
 rw[Rq.aa]at rh⊢
 have Ss:=ae rh
 have S:=k3.tr k4
 have k24:=ae S
 have eF:=bA.ay S
 have x8:=ae (wX.aa.ay S)
 have HD4:=ae (Na.aa.st S)
 have Dh:=ae (xa.aa.st S)
 have gM:=eF.lt
 have G2:Hid (Z.heap.size<=I.heap.size/\w2.heap.size<=Z.heap.size):=ae ⟨k4.size,k3.size⟩
 have jg:=ai.new I 46 mi
 have H:=jg.cell
 have z7:=jg.frozen
 obtain⟨⟨A,cl,rfl⟩,⟨F,D,rfl⟩,B,C,rfl⟩:=rh.sl
 have ka:=K.new I (.cells mi 46)
 clear C3 rh k3 k4 S
 go_upto_region 5 with (fail)
 clear H z7 jg ka
 have R:=ai.new I 46 (cP s (.slice A s.list.length cl) (.slice F s.prom.length D) (.slice B s.ab.length C))
 have k5:=R.aU
 generalize I.alloc _=w5 at *
 generalize uP:I.heap.size=g7 at R gM⊢
 have H:=R.cell
 have z7:=R.frozen
 have YG:ai (w5.setCell ⟨g7,0,none⟩ (.int .u64 t)) g7 46 (cP ⟨t,s.list,s.prom,s.ab⟩ (.slice A s.list.length cl) (.slice F s.prom.length D) (.slice B s.ab.length C)):=R.aQ 0 (.int .u64 t)
 have k6:K I (w5.setCell ⟨g7,0,none⟩ (.int .u64 t)):=K.set k5 (r:=g7) af 0 _
 go_upto_region 8 with (fail)
 clear H z7 R hW k5
 generalize World.setCell w5 _ _=w6 at *
 have H:=YG.cell
 have tM:=k6.size
 have HX:Hid (∀k,kQ gl gd vh vr k->k<Z.heap.size):=ae λk hk=>by
  have h2:=G2.aa.2;rcases hk with rfl|hk|hk
  ·have:=wX.aa.lt;omega
  ·have:=(xa.aa.blk k hk).2;omega
  ·have:=Na.aa.lt k hk;omega
 have SA:=ae (Ss.aa.k k6)
 have C4:=ae (aqE ⟨t,s.list,s.prom,s.ab⟩ (.agg (cP ⟨t,s.list,s.prom,s.ab⟩ (.slice A s.list.length cl) (.slice F s.prom.length D) (.slice B s.ab.length C))) w6 ⟨_,_,_,rfl,SA.aa.now.1,SA.aa.now.2.1,SA.aa.now.2.2⟩ aA HRO.aa)
 rw[Sy.aa]at C4
 have JR:=ae hlo
 have HG7:=ae uP
 clear hlo uP hlen
 go_wp2_with fail
 refine C4.aa.mono ?_
 rintro e w7⟨v7,rfl,j9,k7⟩
 have ZJ:∀k,kQ gl gd vh vr k->k<w6.heap.size:=λk hk=>by have:=HX.aa k hk;have:=G2.aa;omega
 have E0:=k6.tr k7
 have MU:kP gl gd vh vr (frames j) (frames j).length d.room w7:=by obtain⟨css,hr,hcl,hE⟩:=Dh.aa.st E0;exact⟨HD4.aa.st E0,x8.aa.ay E0,_,_,Pe j,mN (eV _) hr⟩
 have Nf:=(j9.tO.fx λk hk=>hk).less ZJ
 have C5:=ae (aoS gl gd vh vr v7 (frames j) d.room u w7 MU Nf af HBT.aa)
 have JS:Hid (xX (frames j) u d.room=if DL<=d.room then (frames u,0)else (frames j,90)):=ae (by unfold xX xW;rw[if_pos HOT.aa,Sz.aa])
 have HX7:=ae ZJ
 have HF7:=ae (SA.aa.k k7)
 have YH:=YG.ay k7
 have G:=eF.ay E0
 have SB:=ae E0
 obtain⟨A7,c7,rfl⟩:=j9.tO.slice
 clear H YG j9 MU Nf C4 k7 ZJ k6 tM
 go_wp2_with fail
 refine C5.aa.mono ?_
 rintro e w8⟨E,L,rfl,T,U,y⟩
 clear C5
 have HU:=ae (by
  refine (JO.aa.tr (ag.aT (k24.aa.tr SB.aa) _)).gF y.up λk hk hx=>?_
  rcases hx with rfl|hx|hx
  ·omega
  ·have:=(xa.aa.blk k hx).1;have:=ZI.aa;omega
  ·exact hx)
 by_cases hfit:DL<=d.room
 ·have fy:Hid (xX (frames j) u d.room=(frames u,0)):=ae (by rw[JS.aa,if_pos hfit]);rw[fy.aa]at T U⊢;have y4:=ae hfit;have HL8:=ae (T rfl);have SC:=HL8.aa.lt;have pE:=YH.aW y.up λhx=>by have:=HX7.aa _ hx;have:=HX.aa _ hx;have:=HG7.aa;have:=G2.aa;omega
  have Q:=G.aW y.up λhx=>by exact Qp
  have HF8:Hid (mh (λk=>k<w1.heap.size∨kQ gl gd E L k) ⟨t,s.list,s.prom,s.ab⟩ (.slice A s.list.length cl) (.slice F s.prom.length D) (.slice B s.ab.length C) w8):=ae (HF7.aa.to (M:=λk=>k<Z.heap.size) (N:=λk=>k<w1.heap.size∨kQ gl gd E L k) y.up (λk hk=>HX.aa k hk) λk hk hx=>by
   rcases hx with hx|hx
   ·have:=G2.aa;have:=Nc.aa;omega
   ·exact HX.aa k ((y.new k hx).resolve_right af))
  have H:=pE.cells;have JU:Hid (∀k,kQ gl gd E L k->¬k=gp):=ae λk hk e=>by
   rcases y.new k hk with hx|hx
   ·rw[e]at hx;exact Qp
   ·have:=G.lt;omega
  have E1:Hid (∀k,kQ gl gd E L k->lP gd vh k∨w.heap.size<=k):=ae λk hk=>by
   rcases y.new k hk with hx|hx
   ·exact agT
   ·have:=G.lt;have:=x7.aa;right;omega
  have Ni:Hid (w.heap.size<=gl):=ae af;clear pE y T U YH G hfit fy JS SC;go_upto_region 14 with (fail);have qs:=H;refine dV 3 ?_;iterate 3 refine au.i ?_
  clear qs;intro V W kW hA;simp only[aO,aR,cC,aJ,Nat.reduceAdd]at hA;have cX:=Q.ay kW;have q9:=cX.cell;have z9:=cX.frozen;refine aH.skip (World.setCell (World.setCell (World.setCell (World.setCell W ⟨gp,0,none⟩ (.int .u64 t)) ⟨gp,1,none⟩ (.slice A s.list.length cl)) ⟨gp,2,none⟩ (.slice F s.prom.length D)) ⟨gp,3,none⟩ (.slice B s.ab.length C)) rfl (by simp[aF,List.lookup,hA,bj,execOp,aG,q9,z9,go_sem]) ?_;apply aH.pure;rfl;simp[aF,List.lookup,bj,hA,execOp,aG,go_sem];rfl;refine aH.h ?_;clear q9 z9 H;have tK:ai (World.setCell (World.setCell (World.setCell (World.setCell W _ _) _ _) _ _) _ _) gp 46 (cP ⟨t,s.list,s.prom,s.ab⟩ (.slice A s.list.length cl) (.slice F s.prom.length D) (.slice B s.ab.length C)):=(((cX.aQ 0 (.int .u64 t)).aQ 1 (.slice A s.list.length cl)).aQ 2 (.slice F s.prom.length D)).aQ 3 (.slice B s.ab.length C);have u9:ag (λk=>k=gp) W _:=(((ag.bM (X:=λk=>k=gp) rfl 0 (.int .u64 t)).tr (ag.bM (X:=λk=>k=gp) rfl 1 (.slice A s.list.length cl))).tr (ag.bM (X:=λk=>k=gp) rfl 2 (.slice F s.prom.length D))).tr (ag.bM (X:=λk=>k=gp) rfl 3 (.slice B s.ab.length C));generalize World.setCell (World.setCell (World.setCell (World.setCell W _ _) _ _) _ _) _ _=W9 at *;have e9:=tK.cell;have HPP:=zC.aa;clear cX zC Bt;have G3:=ae (((ag.aT kW _).tr u9:ag (λk=>k=gp) w8 W9));clear u9 hA;go_wp2;try rw[iq]
  refine bodyPost_ret (v:=.tuple #[.pointer (some ⟨gl,0,none⟩),.agg (cP ⟨t,s.list,s.prom,s.ab⟩ (.slice A s.list.length cl) (.slice F s.prom.length D) (.slice B s.ab.length C)),.int .i64 0]) agU rfl ?_;refine HPP _ _ gl E L (.slice A s.list.length cl) (.slice F s.prom.length D) (.slice B s.ab.length C) y4.aa ⟨by rw[JQ.aa],?_,?_,?_,E1.aa,Ni.aa⟩
  ·show kP gl gd E L (jk _) (jk _).length d.room W9;rw[HN.aa];exact HL8.aa.aW G3.aa JU.aa
  ·rw[JQ.aa];exact (HF8.aa.up G3.aa λk hk=>.inl (by have:=Nd.aa;omega)).less λk hk=>hk.imp (λh=>af) id
  ·exact HU.aa.gF G3.aa λk hk hx=>by have:=x7.aa;omega
 ·have fy:Hid (xX (frames j) u d.room=(frames j,90)):=ae (by rw[JS.aa,if_neg hfit]);rw[fy.aa]at T U⊢;have y4:=ae hfit;have Q:=G.aW y.up λhx=>by exact Qp
  have JU:Hid (∀k,lP gd E k->¬k=gp):=ae λk hk e=>by
   rcases y.new k (.inr (.inr hk))with hx|hx
   ·rw[e]at hx;exact Qp
   ·have:=G.lt;omega
  have E1:Hid (∀k,lP gd E k->lP gd vh k∨w.heap.size<=k):=ae λk hk=>by
   rcases y.new k (.inr (.inr hk))with hx|hx
   ·exact agT
   ·have:=G.lt;have:=x7.aa;right;omega
  have HD8:=ae U;clear y T U YH G hfit fy JS;have z:=Q.frozen;have qz:=Q.cell;go_wp2;have tK:ai (World.setCell (World.setCell (World.setCell (World.setCell w8 _ _) _ _) _ _) _ _) gp 46 mi:=(((Q.aQ 0 (.int .u64 0)).aQ 1 (.slice none 0 0)).aQ 2 (.slice none 0 0)).aQ 3 (.slice none 0 0);have u9:ag (λk=>k=gp) w8 _:=(((ag.bM (X:=λk=>k=gp) rfl 0 (.int .u64 0)).tr (ag.bM (X:=λk=>k=gp) rfl 1 (.slice none 0 0))).tr (ag.bM (X:=λk=>k=gp) rfl 2 (.slice none 0 0))).tr (ag.bM (X:=λk=>k=gp) rfl 3 (.slice none 0 0));clear z qz Q;generalize World.setCell (World.setCell (World.setCell (World.setCell w8 _ _) _ _) _ _) _ _=W9 at *;have e9:=tK.cell;try rw[iq]
  refine bodyPost_ret (v:=.tuple #[.pointer none,.agg mi,.int .i64 90]) agU rfl ?_;refine Bt.aa _ _ y4.aa ⟨E,rfl,?_,HU.aa.gF u9 λk hk hx=>by have:=x7.aa;omega,E1.aa⟩;show gN gd E (jk d) (jk d).length d.room W9;rw[HD.aa];exact HD8.aa.aW u9 JU.aa
