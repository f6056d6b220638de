/-
  The walks of table.tests, own and events (layer 15). Conditions: lists of at most a million.
-/
import Derived.Test.YtfndfpdhlbmboaaGreatMa16
import Derived.Test.YtfndfpdhlbmboaaGreatMz
set_option maxRecDepth 100000
set_option linter.constructorNameAsVariable false
set_option maxHeartbeats 16000000
set_option linter.unusedVariables false
set_option linter.unusedSimpArgs false
namespace Go.Proofs.YtfndfpdhlbmboaaGreat
open Go Go.RowKit _root_.Go.Proofs.Tryz
theorem TU f v w(h:fu f v w)(E:f.length<=1000000) :
 Calls prog 258 #[v] w λe w'=>∃v',e=.returned v'/\fH w' w.heap.size v' f/\K w w':=by
 obtain⟨A,c,rfl,C⟩:=h
 go_enter func258,ntmps258
 go_wp2_with (at_builtin;refine iF rfl _ _ 53 rfl w.heap.size 73 _ 5 56 TF _ 0 [] rfl (jV _ _ _ _) _ A f.length c (f.flatMap fF) rfl C (Ht f) ?p1 (aC _) ?_)
 case p1=>omega
 intro t u j _ _ y
 have B:=ae (show fH u w.heap.size t f from j)
 obtain⟨D,c1,rfl,-⟩:=(show fH u w.heap.size t f from j).slice
 clear j
 go_wp2
 go_ret
 exact⟨_,rfl,B.aa,y⟩
structure IX(base lo:Nat)(l:List lA)(v:Value)(css:List (List Value))(j:Nat)(W:World):Prop where
 row:W.ownsRow base 246 3 v l.length css.flatten
 len:css.length=l.length
 a:∀i (h:i<l.length) (h':i<css.length),i<j->∀W',ag (λk=>k<lo∨v.ownBlock=some k) W W'->iu.rel l[i] css[i] W'
 b:∀i (h:i<l.length) (h':i<css.length),j<=i->∀W',ag (λk=>v.ownBlock=some k) W W'->iu.rel l[i] css[i] W'
theorem IX.st{base lo l v css j W W'}(h:IX base lo l v css j W)(k:K W W'):IX base lo l v css j W' :=
 ⟨pA h.row k,h.len,λi t A y B u=>h.a i t A y B ((ag.aT k _).tr u),λi t A y B u=>h.b i t A y B ((ag.aT k _).tr u)⟩
theorem acG Y base l v w(h:aA Y base 246 iu l v w)(hlen:l.length<=1000000)(hs:∀x∈l,x.f.length<=1000000) :
 Calls prog 175 #[v] w λe w'=>e=.returned v/\aA (λk=>k<w.heap.size) base 246 iu l v w'/\ag (λk=>v.ownBlock=some k) w w':=by
 have hblk:=h.blk
 obtain⟨css,G,h2,h3⟩:=h
 have J:IX base w.heap.size l v css 0 w:=⟨G,h2,λi h y C=>absurd C af,λi h y _ W' u=>(h3 W' (u.more λk hk=>.inr hk)).2 i h y⟩
 have HS:=ae hs
 have uu:ag (λk=>v.ownBlock=some k) w w:=ag.rf _ _
 obtain⟨A,c,hv⟩:∃A c,v=.slice A l.length c:=by
  rcases G.2 with ⟨rfl,U⟩|⟨g,cap,cur,rfl,_⟩
  ·exact⟨none,0,by rw[U]⟩
  ·exact⟨_,_,rfl⟩
 clear G h2 h3 hs
 subst hv
 go_enter func175,ntmps175
 go_wp2_with fail
 go_loopw [3,6] (fun _ i W=>∃j:Nat,j<=l.length/\i=.int .i64 j/\(∃css,IX base w.heap.size l (.slice A l.length c) css j W)/\ag (fun k=>(Value.slice A l.length c).ownBlock=some k) w W) (fun _ i _=>l.length-(intOf i).toNat)
 case atStart=>exact⟨0,af,rfl,⟨_,J⟩,uu⟩
 case round =>
  clear J uu;obtain⟨j,hj,rfl,⟨cs,t⟩,u⟩:=hrel;by_cases hlt:j<l.length
  ·have aP:(j:Int)<l.length:=af;have hcl:=t.len;have hrel:=t.b j hlt af (aC _) wr (ag.rf _ _);have V:=HS.aa _ (bS hlt);obtain⟨vf,Z,R⟩:=hrel;obtain⟨g,hA⟩:∃g,A=some ⟨g,0,none⟩:=by
    rcases t.row.2 with ⟨_,U⟩|⟨g,cap,cur,e,_⟩
    ·omega
    ·injection e with e;exact⟨g,e⟩
   subst hA;have hgb:=(hblk g rfl).2;have hz:=u.size;obtain⟨q,z⟩:=Fb t.row;have L:∀c∈cs,c.length=3:=by
    intro c hc;obtain⟨i,C,rfl⟩:=List.mem_iff_getElem.1 hc;by_cases hij:i<j
    ·exact iu.len (t.a i af C hij wr (ag.rf _ _))
    ·exact iu.len (t.b i af C af wr (ag.rf _ _))
   have O:=t.row.1;have N:cs[j]=Yk l[j] vf:=Z;have q2:wr.cell? ⟨g,j*3+2,none⟩=some vf:=by rw[q _ (by rw[O];omega),zm 3 cs L j 2 af ay,List.getElem?_eq_getElem (show j<cs.length by omega),N];rfl
   have J:=ae t;have HCJ:=ae N;have HL:=ae L;have Mt:=ae O;have HEL:Hid (∀W',fu l[j].f vf W'->iu.rel l[j] (Yk l[j] vf) W'):=ae λW' h=>⟨vf,rfl,h⟩
   have AO:=R;obtain⟨Af,cf,rfl⟩:=b6 AO;have T:=ae (TU l[j].f _ wr R V);clear AO R t L O N q Z V;go_wp2_with fail
   refine T.aa.mono ?_;rintro e F⟨v2,rfl,Q,M⟩;have D:=J.aa.st M;have hz2:=(Fb D.row).2;have q3:F.cell? ⟨g,j*3+2,none⟩=some (.slice Af l[j].f.length cf):=by rw[M.cell (by simp;omega)];exact q2
   have wj:=ae Q.rel;obtain⟨I,c2,rfl,-⟩:=Q.slice;clear T q2 z Q;go_upto_region 5 with (fail);have S:=Vk D.row (q:=j*3+2) (by rw[Mt.aa];omega) (.slice I l[j].f.length c2);rw[OC 3 _ cs HL.aa j 2 af ay]at S;have E:ag (λk=>(Value.slice (some ⟨g,0,none⟩) l.length c).ownBlock=some k) F (F.setCell ⟨g,j*3+2,none⟩ (.slice I l[j].f.length c2)):=ag.bL (X:=λk=>(Value.slice (some ⟨g,0,none⟩) l.length c).ownBlock=some k) rfl _ _;have u9:=(u.tr (ag.aT M _)).tr E;have hJ9:IX base w.heap.size l (.slice (some ⟨g,0,none⟩) l.length c) (cs.set j ((cs[j]).set 2 (.slice I l[j].f.length c2))) (j+1) (F.setCell ⟨g,j*3+2,none⟩ (.slice I l[j].f.length c2)):=by
    refine⟨S,by simp[hcl],λi h y C W' B=>?_,λi h y C W' B=>?_⟩
    ·by_cases e:i=j
     ·subst e;rw[List.getElem_set_self,HCJ.aa];refine⟨_,rfl,wj.aa W' ?_⟩;have u4:=(E.more λk hk=>.inr hk).tr B;exact u4.qZ λk G _ _ H=>by
       rcases H with H|H
       ·omega
       ·have:g=k:=by injection H
        omega
     ·rw[List.getElem_set_ne af];exact D.a i h af af W' ((E.more λk hk=>.inr hk).tr B)
    ·rw[List.getElem_set_ne af];exact D.b i h (by simpa using y) af W' (E.tr B)
   clear D hz2 q3 S E;generalize F.setCell _ _=w3 at *;go_wp2;go_roundw
   case rel=>exact⟨j+1,af,bJ,⟨_,hJ9⟩,u9⟩
   case measure=>simp[intOf];omega
  ·have aP:¬(j:Int)<l.length:=af;obtain rfl:j=l.length:=af;have HF:Hid (aA (λk=>k<w.heap.size) base 246 iu l (.slice A l.length c) wr):=ae ⟨cs,t.row,t.len,λW' B=>⟨t.len,λi h y=>t.a i h y h W' B⟩⟩;clear t;go_wp2;go_ret;exact⟨rfl,HF.aa,u⟩
theorem TM es v w(h:aq cG es v w)(H:es.length<=1000000)(y:∀e∈es,e.length<=1000000) :
 Calls prog 169 #[v] w λe w'=>∃v',e=.returned v'/\aV w.heap.size w.heap.size 51 cG es v' w'/\K w w':=by
 obtain⟨D,d,rfl,F,M⟩:=h
 have B:=ae y
 have t:=K.rf w
 clear y
 go_enter func169,ntmps169
 go_wp2_with fail
 go_loopw [3,5,8] (fun o _ i W=>∃j:Nat,j<=es.length/\i=.int .i64 j/\aV w.heap.size w.heap.size 51 cG (es.take j) o W/\K w W) (fun _ _ i _=>es.length-(intOf i).toNat)
 case atStart=>exact⟨0,af,rfl,Fu,t⟩
 case round =>
  clear t;obtain⟨j,O,rfl,hO,kr⟩:=hrel;by_cases hlt:j<es.length
  ·have G:(j:Int)<es.length:=af;obtain⟨A,C,cs,rfl,aN,hcl,⟨E,rfl,iy⟩,hcell⟩:=Iy F j hlt ay;have J:wr.cell? ⟨A,C+j,none⟩=some E:=Pz;have HT:Hid (es.take (j+1)=es.take j++[es[j]]):=ae Im;have L:=B.aa _ (bS hlt);exact ag7
  ·have G:¬(j:Int)<es.length:=af;rw[fM af]at hO;have HO:=ae hO;obtain⟨I,N,rfl,-⟩:=hO.slice;exact VY
theorem arG a w:Calls prog 265 #[.int .i64 a] w λe w'=>e=.returned (.bool false)/\K w w':=by have j:=K.rf w;go_enter func265,ntmps265;go_wp2;go_ret;exact⟨aj,j⟩
theorem arH a b w:Calls prog 179 #[.int .i64 a,.int .i64 b] w λe w'=>e=.returned (.int .i64 (ia a b))/\K w w':=by
 have C1:=ae λa W=>arG a W
 have HR:Hid (ia a b=if a<b then -1 else if b<a then 1 else 0):=ae rfl;generalize ia a b=R at *;go_enter func179,ntmps179;exact ag8
theorem arI a w:Calls prog 266 #[.int .u64 a] w λe w'=>e=.returned (.bool false)/\K w w':=by have j:=K.rf w;go_enter func266,ntmps266;go_wp2;go_ret;exact⟨aj,j⟩
theorem arJ a b w:Calls prog 180 #[.int .u64 a,.int .u64 b] w λe w'=>e=.returned (.int .i64 (ia a b))/\K w w':=by
 have C1:=ae λa W=>arI a W
 have HR:Hid (ia a b=if a<b then -1 else if b<a then 1 else 0):=ae rfl;generalize ia a b=R at *;go_enter func180,ntmps180;exact ag8
def GN(l:List Int):Int:=(l.find? λn=>decide (n≠0)).getD 0
theorem ayW a b:GN [a,b]=if a != 0 then a else b:=by unfold GN;by_cases j:a=0 <;> by_cases hb:b=0 <;> simp[j,hb]
theorem aoy{α:Type} p(l:List α) j(t:j<l.length)(h:(l.take j).find? p=none):(l.take (j+1)).find? p=if p l[j]then some l[j]else none:=by rw[gj t,List.find?_append,h];by_cases hp:p l[j] <;> simp[hp]
theorem apu{α:Type} p(l:List α) j x(h:(l.take j).find? p=some x):l.find? p=some x:=by rw[<- List.take_append_drop j l,List.find?_append,h];rfl
theorem atE l v w(h:aq cR l v w)(J:l.length<=1000000):Calls prog 178 #[v] w λe w'=>e=.returned (.int .i64 (GN l))/\K w w':=by
 obtain⟨A,c,rfl,F,-⟩:=h;have E:=K.rf w;have y:Hid (GN l=(l.find? λn=>decide (n≠0)).getD 0):=ae rfl;generalize GN l=R at *;go_enter func178,ntmps178;go_wp2_with fail
 go_loopw [5,8] (fun _ i W=>∃j:Nat,j<=l.length/\i=.int .i64 j/\Hid ((l.take j).find? (fun n=>decide (n≠0))=none)/\K w W) (fun _ i _=>l.length-(intOf i).toNat)
 case atStart=>exact⟨0,af,rfl,ae aj,E⟩
 case round =>
  clear E;obtain⟨j,O,rfl,B,kr⟩:=hrel;by_cases u:j<l.length
  ·have I:(j:Int)<l.length:=af;obtain⟨b,M,rfl,D⟩:=Go.Proofs.YtfndfpdhlbmboaaGreat.ints_at F af;have N:=D wr kr j u;have C:=ae (aoy (λn=>decide (n≠0)) l j u B.aa);have H:=ae (apu (λn=>decide (n≠0)) l (j+1));generalize l[j]=x at *;clear D F;by_cases t:x=0
   ·have G:Hid ((l.take (j+1)).find? (λn=>decide (n≠0))=none):=ae (by rw[C.aa,t];simp);subst t;go_wp2;go_roundw
    case rel=>exact⟨j+1,af,bJ,G,kr⟩
    case measure=>simp[intOf];omega
   ·have HE:Hid (R=x):=ae (by rw[y.aa,H.aa x (by rw[C.aa];simp[t])];rfl);have L:(x != 0)=true:=by simpa using t
    exact K3
  ·have I:¬(j:Int)<l.length:=af;have HE:Hid (R=0):=ae (by
    have:=B.aa;rw[fM af]at this;rw[y.aa,this];rfl)
   exact K3
theorem acH s x v vf L g w(h:sub s v w)(hg:ah w g 126 (aD x vf L)) :
 Calls prog 177 #[v,.pointer (some ⟨g,0,none⟩)] w λe w'=>e=.returned (.int .i64 (jf s x))/\K w w':=by
 have HR:Hid (jf s x=GN [ia s.cl x.cl,ia (s.sub:Int) (x.sub:Int)]):=ae (by rw[ayW];rfl)
 obtain⟨vs,rfl,G⟩:=h
 obtain⟨A,c,rfl⟩:=b6 G
 have hb:=ah.new w 246 (mz s (.slice A s.f.length c))
 have H:=hb.aS
 have F:=hg.cells
 generalize jf s x=R at *
 clear G hg
 go_enter func177,ntmps177
 go_upto_region 1 with (fail)
 generalize w.alloc _=M at *
 generalize w.heap.size=O at hb⊢
 have u:=hb.cells
 have y:=λW (k:K M W)=>F W (H.tr k)
 have C:=ae λW=>arH s.cl x.cl W
 have D:=ae λW=>arJ (s.sub:Int) (x.sub:Int) W
 have E:=ae λv W (h:aq cR [ia s.cl x.cl,ia (s.sub:Int) (x.sub:Int)] v W)=>atE _ v W h aj
 generalize ia s.cl x.cl=j at *
 generalize ia (s.sub:Int) (x.sub:Int)=t at *
 generalize GN [j,t]=I at *
 clear F hb
 have qs:=And.intro u y
 refine dD 13 [([],[]),([0],[(4,0)]),([],[]),([2],[(6,2)]),([1,3],[(5,1),(7,3)]),([],[]),([5],[(9,5)]),([],[]),([7],[(11,7)]),([6,8],[(10,6),(12,8)]),([4,9],[(8,4),(13,9)]),([10],[(14,10)]),([11],[(15,11)])] 16 ?_
 iterate 4 refine au.i ?_
 refine au.is (.int .i64 j) (λV W kW hp=>?_) ?_
 ·(try simp only[cd,aO,aQ,bW,bY,aJ]at hp)
  simp[bP,aE,List.lookup,hp,cN,execOp,aF,aJ,u,y,go_sem];refine (C.aa W).mono ?_;exact Bs
 iterate 4 refine au.i ?_
 refine au.is (.int .i64 t) (λV W kW hp=>?_) ?_
 ·(try simp only[cd,aO,aQ,bW,bY,aJ]at hp)
  simp[bP,aE,List.lookup,hp,cN,execOp,aF,aJ,u,y,go_sem];refine (D.aa W).mono ?_;exact Bs
 refine au.op (λv W=>aq cR [j,t] v W) (λ_ _ _ h k=>bo h k) (λV W kW hp=>?_) ?_
 ·simp only[cd,aO,aQ,bW,bY,aJ]at hp;simp[bP,aE,List.lookup,hp,cN,execOp,aF,go_sem];exact⟨⟨_,_,rfl,⟨[j,t].map BV,Kt _ _,(Reads.new W [.int .i64 j,.int .i64 t] 3 1 2 rfl).more aj⟩,aj⟩,(K.rf W).al _⟩
 refine au.is (.int .i64 I) (λV W kW hp=>?_) ?_
 ·simp only[cd,aO,aQ,bW,bY,aJ]at hp;obtain⟨B,-⟩:=hp;obtain⟨S,N,Q⟩:=aw B;simp[bP,aE,List.lookup,B,cN,execOp,aF,aJ,go_sem];refine (E.aa _ W B).mono ?_;exact Bs
 refine au.i ?_
 clear qs
 intro V W kW hA
 simp only[aO,aQ,cz,aJ,Nat.reduceAdd]at hA
 refine aH.h ?_
 have J:=H.tr kW
 clear hA u y C D E
 go_wp2
 go_ret
 exact⟨fE,J⟩
section
variable {α:Type} {S:dW α} {Y:Nat->Prop} {base:Nat} {e:TypeId} {l l2:List α} {v:Value} {w w':World} {P:Program}
theorem avB t ty z size bytes(T:fK P t e z size bytes)(O:S.size=size)(L:aA Y base e S l v w) u(M:iX (λk=>Y k∨v.ownBlock=some k) S l2 u w)
 (N:(l.length+l2.length)*(bytes+1)<=140737488355328) (E:base<=w.heap.size) :
 ∃v' w',(Builtin.append_ #[t,t] ty #[v,u]).run P w=.ok v' w'/\aA Y base e S (l++l2) v' w'/\w.grownBy w' v.ownBlock/\(v'.ownBlock=v.ownBlock∨v'.ownBlock=some w.heap.size)/\Below base w w':=by
 subst O
 obtain⟨A,c,B,rfl,W,G,U,hn,C⟩:=M
 obtain⟨css,I,R,H⟩:=L
 obtain⟨v',w',F,V,D,J,Q⟩:=Fo w base t ty e z S.size bytes T v l.length css.flatten I w.heap.size A l2.length c B.flatten G (C w (ag.rf _ _)).ones N E
 refine⟨v',w',F,⟨css++B,aG,aG,λy u=>?_⟩,D,J,Q⟩
 have j:=(ag.eM (X:=λk=>Y k∨v.ownBlock=some k) D (λg hg=>.inr hg)).gg u λk hk h=>by
  grind
 exact (H y j).append (C y j)
theorem TV{ops rest o a Q}(H:o.guard=none) s x t
 (M:o.op=.call { callee:=.builtin .append,args:=#[s,x],argTypes:=#[t,t] })
 z size bytes (T:fK P t e z size bytes) (y:S.size=size) (F:a.eval s=v) (D:aA Y base e S l v w) u (E:a.eval x=u) (J:iX (λk=>Y k∨v.ownBlock=some k) S l2 u w)
 (L:(l.length+l2.length)*(bytes+1)<=140737488355328) (A:base<=w.heap.size)
 (h:∀v' w',aA Y base e S (l++l2) v' w'->w.grownBy w' v.ownBlock->(v'.ownBlock=v.ownBlock∨v'.ownBlock=some w.heap.size)->Below base w w'->wpList P ops Q rest (a.put o.dst v') w') :
 wpList P ops Q (o :: rest) a w:=by
 refine wpList_plain H λK G=>?_
 obtain⟨v',w',N,j,B,I,C⟩:=avB (P:=P) t o.type z size bytes T y D u J L A
 unfold Oper.wp execOp
 simp only[M,resolve,invoke,builtin,Sem.run_bind,Sem.run_pure,Result.andThen_ok,List.map_toArray,jU,List.map_nil,F,E,N]
 exact G _ _ (h v' w' j B I C)
end
theorem atF P(w:World) T u v(j:v.oneCell'=true):(store ⟨w.heap.size,0,none⟩ v).run P (w.alloc (.cells #[u] T))=.ok () (w.alloc (.cells #[v] T)):=by have hb:=ah.new w T #[u];rw[run_store _ _ _ _ _ j];rw[hb.cell 0,hb.frozen,World.setCell_alloc_new];rfl
theorem atG s v w(h:sub s v w) :
 Calls prog 176 #[v] w λe w'=>e=.returned (.bool true)/\K w w':=by
 obtain⟨vs,rfl,j⟩:=h
 obtain⟨A,c,rfl⟩:=b6 j
 have t:=K.new w (.cells (mz s (.slice A s.f.length c)) 246)
 clear j
 go_enter func176,ntmps176
 go_wp2
 go_ret
 exact⟨rfl,t⟩
theorem ado s x v vf B g gf w(h:sub s v w)(hg:ah w g 126 (aD x vf B))(y:ah w gf 254 #[.func (.func 177) #[] #[.pointer (some ⟨g,0,none⟩)]]) :
 Calls prog 181 #[v,.pointer (some ⟨gf,0,none⟩)] w λe w'=>e=.returned (.bool (decide (jf s x<0)))/\K w w':=by
 have j:=λo=>(K.rf w).al o
 have t:=ae λW (k:K w W)=>acH s x v vf B g W (ajm h k) (hg.av k)
 obtain⟨vs,rfl,C⟩:=h
 obtain⟨A,c,rfl⟩:=b6 C
 have hb:=ah.new w 246 (mz s (.slice A s.f.length c))
 replace j:=j (.cells (mz s (.slice A s.f.length c)) 246)
 have u:=y.av j
 generalize jf s x=R at *
 clear C hg y
 go_enter func181,ntmps181
 go_upto_region 1 with (fail)
 generalize w.alloc _=H at *
 have F:=hb.cell
 have D:=u.cell
 go_wp2_with fail
 refine (t.aa H j).mono ?_
 rintro e I⟨rfl,E⟩
 have G:=j.tr E
 clear t F D hb u
 go_wp2
 go_ret
 exact⟨fk,G⟩
theorem adp s x v vf B g gf w(h:sub s v w)(hg:ah w g 126 (aD x vf B))(y:ah w gf 254 #[.func (.func 177) #[] #[.pointer (some ⟨g,0,none⟩)]]) :
 Calls prog 182 #[v,.pointer (some ⟨gf,0,none⟩)] w λe w'=>e=.returned (.bool (decide (0<jf s x)))/\K w w':=by
 have j:=λo=>(K.rf w).al o
 have t:=ae λW (k:K w W)=>acH s x v vf B g W (ajm h k) (hg.av k)
 obtain⟨vs,rfl,C⟩:=h
 obtain⟨A,c,rfl⟩:=b6 C
 have hb:=ah.new w 246 (mz s (.slice A s.f.length c))
 replace j:=j (.cells (mz s (.slice A s.f.length c)) 246)
 have u:=y.av j
 generalize jf s x=R at *
 clear C hg y
 go_enter func182,ntmps182
 go_upto_region 1 with (fail)
 generalize w.alloc _=H at *
 have F:=hb.cell
 have D:=u.cell
 go_wp2_with fail
 refine (t.aa H j).mono ?_
 rintro e I⟨rfl,E⟩
 have G:=j.tr E
 clear t F D hb u
 go_wp2
 go_ret
 exact⟨fk,G⟩
theorem IA{α S}{l:List α}{v w}(h:aq S l v w):iX (λk=>w.heap.size<=k) S l v w:=by
 obtain⟨A,c,rfl,⟨css,t,y⟩,D⟩:=h;refine⟨A,c,css,rfl,D,y,t.1,λC B b G e hb=>?_,λW u=>t.st ⟨u.os,u.tape,u.output,u.size,λk hk=>u.block k hk af⟩⟩;have E:0<css.flatten.length:=by rw[t.FQ];exact Nat.mul_pos (List.length_pos_iff.2 C) B
 obtain⟨I,H,j,F,-⟩:=y.2 E;rw[e]at j;injection j with j;injection j with e1;omega
theorem zt{l:List lA}{q}(j:∀s∈l,s.f.length<=1000000):∀s∈l.filter q,s.f.length<=1000000:=λs h=>j s (List.mem_filter.1 h).1
theorem ab6 l x v vx w(h:aq iu l v w)(hx:cV x vx w)(hlen:l.length<=400000)(j:∀s∈l,s.f.length<=1000000)(hxs:x.f.length<=1000000) :
 Calls prog 105 #[v,vx] w λe w'=>∃v',e=.returned v'/\aA (λk=>k<w.heap.size) w.heap.size 246 iu (tE l x) v' w'/\K w w':=by
 have HR:Hid (tE l x=if x.kind=2 then l.filter (λs=>decide (jf s x<0))++[⟨x.cl,x.sub,x.f⟩]++l.filter (λs=>decide (0<jf s x))
  else if x.kind=3 then l.filter (λs=>decide (jf s x<0))++l.filter (λs=>decide (0<jf s x))else l):=ae rfl
 have M:=ae (IA h)
 have U:=ae j
 obtain⟨vf,ve,rfl,hf,he⟩:=hx
 have HF:=ae λW (k:K w W)=>eH _ _ _ _ hf k
 obtain⟨Af,cf,rfl⟩:=b6 hf
 obtain⟨Ae,ce,rfl⟩:=aw he
 obtain⟨A,c,rfl⟩:=aw h
 have hb:=ah.new w 126 (aD x (.slice Af x.f.length cf) (.slice Ae x.es.length ce))
 have k1:=hb.aS
 generalize tE l x=R at *
 clear h hf he j
 go_enter func105,ntmps105
 go_upto_region 1 with (fail)
 generalize w.alloc _=L at *
 have hz1:=k1.size
 generalize kp:w.heap.size=lo at hb M hz1⊢
 have lG:=ae kp
 clear kp
 have om:=hz1
 have qb:=hb.cell
 by_cases hk:x.kind=2∨x.kind=3
 rotate_left
 ·have eZ:Hid (R=l):=ae (by rw[HR.aa,if_neg λh=>hk (.inl h),if_neg λh=>hk (.inr h)]);have hk2:(x.kind != 2)=true:=by simpa using λh=>hk (.inl h)
  have ja:(x.kind != 3)=true:=by simpa using λh=>hk (.inr h)
  have E:=ae (E6 (λk=>lo<=k) l _ (λ_=>true) 176 #[] L (M.aa.st k1) af (λ_ _=>fk) λW _ s _ u D=>atG s u W D);clear HR hk;go_wp2_with fail
  refine E.aa.mono ?_;rintro e Y⟨v2,rfl,V,k2⟩;have C:=k1.tr k2;rw[show l.filter (λ_=>true)=l by simp]at V;have F:=ae (acG _ _ l v2 Y V af U.aa);have bR:=V.blk;obtain⟨A2,c2,rfl⟩:=V.slice;clear E V qb;go_wp2_with fail
  refine F.aa.mono ?_;rintro e O⟨rfl,bE,u3⟩;have kF:=u3.k C λk hk=>by have:=(bR k hk).1;have:=lG.aa;omega
  have HO:Hid (aA (λk=>k<lo) lo 246 iu R (.slice A2 l.length c2) O):=ae awM;clear F bE u3 bR;exact ag9
 have H:=ah.new L 254 #[.func (.func 177) #[] #[.pointer (some ⟨lo,0,none⟩)]]
 have aS:=H.aS
 have hst:=atF prog L 254 .nilFunc (.func (.func 177) #[] #[.pointer (some ⟨lo,0,none⟩)]) rfl
 have Z:=hb.av aS
 have C:=k1.tr aS
 have hzz:=aS.size
 rcases hk with hk|hk
 ·have hk2:(x.kind != 2)=false:=FB;have ja:(x.kind==2)=true:=FB;go_upto_region 4 with (fail);generalize L.alloc _=Y at *;generalize xH:L.heap.size=gf at H⊢;clear xH hst;have E:=ae (E6 (λk=>lo<=k) l _ (λs=>decide (jf s x<0)) 181 #[.pointer (some ⟨gf,0,none⟩)] Y (M.aa.st C) af (λ_ _=>fk) λW k s _ u D=>ado s x u _ _ lo gf W D (Z.av k) (H.av k));clear qb;go_wp2_with fail
  refine E.aa.mono ?_;rintro e O⟨v3,rfl,bE,y⟩;have X:=Z.av y;have Yl:=H.av y;have kT:=C.tr y;have jl:=y.size;obtain⟨A3,c3,rfl⟩:=bE.slice;have cL:=ll (λs=>decide (jf s x<0)) l;have q3:=X.cell;clear E;have kA:=K.new O (.cells (mz ⟨x.cl,x.sub,x.f⟩ (.slice Af x.f.length cf)) 246);have cB:=bE.st kA;have bR:=bE.blk;have hr:=ew.new (S:=iu) (e:=246) (x:=⟨x.cl,x.sub,x.f⟩) (v:=.agg (mz ⟨x.cl,x.sub,x.f⟩ (.slice Af x.f.length cf))) (w:=O) (N:=λk=>lo<=k) (λW u=>⟨_,rfl,HF.aa W (u.k kT λk hk=>We)⟩) 0 (eV _);go_wp2_with (at_builtin;refine jt rfl _ _ 132 rfl _ 3 40 Sn rfl rfl cB _ rfl ⟨x.cl,x.sub,x.f⟩ ?p1 ?p2 ?p3 ?_)
  case p1=>exact hr.less λk hk=>by rcases hk with hk|hk;exact hk;have:=bR k hk;omega
  case p2=>omega
  case p3=>exact bn jl kA.size
  intro v5 w5 G oz XY gT;have Q:=(y.tr kA).trans gT;have yN:=C.tr Q;have Q8:=Z.av Q;have Q9:=H.av Q;have p7:=Q.size;obtain⟨t,B⟩:∃t,Hid (t=l.filter (λs=>decide (jf s x<0))++[(⟨x.cl,x.sub,x.f⟩:lA)]):=⟨_,ae rfl⟩;rw[<- B.aa]at G;obtain⟨A5,c5,rfl⟩:=G.slice;have F:=ae (E6 (λk=>lo<=k) l _ (λs=>decide (0<jf s x)) 182 #[.pointer (some ⟨gf,0,none⟩)] w5 (M.aa.st yN) af (λ_ _=>fk) λW k s _ u D=>adp s x u _ _ lo gf W D (Q8.av k) (Q9.av k));clear hr cB bE q3 X Yl oz XY gT;go_upto_region 7 with (fail);go_wp2_with fail
  refine F.aa.mono ?_;rintro e w6⟨v6,rfl,J,I⟩;have T:=G.st I;have azT:=ll (λs=>decide (0<jf s x)) l;have Ym:=G.blk;have LS:=J.blk;have IY:iX (λk=>False∨(Value.slice A5 t.length c5).ownBlock=some k) iu (l.filter (λs=>decide (0<jf s x))) v6 w6:=J.GM (λk hk=>.inl aha) λk hk hx=>by exact ahb
  have jC:=T.less (Y':=λ_=>False) λ_ h=>h.elim
  have xg:=I.size;have wy:t.length<=400001:=by rw[B.aa,cF];simp;omega
  clear F G T J Q8 Q9;obtain⟨A6,c6,rfl⟩:=IY.slice;go_wp2_with (at_builtin;refine TV rfl _ _ 132 rfl _ 3 40 Sn rfl rfl jC _ rfl IY ?p1 ?p2 ?_)
  case p1=>omega
  case p2=>omega
  intro v8 w8 ij EL akb oM;have eZ:Hid (R=t++l.filter (λs=>decide (0<jf s x))):=ae (by rw[HR.aa,B.aa,if_pos hk]);rw[<- eZ.aa]at ij;have Sq:=(Q.tr I).trans oM;have r9:=C.tr Sq;have Sr:R.length<=1000000:=ahc;have ZC:∀s∈R,s.f.length<=1000000:=by
   rw[eZ.aa,B.aa];intro s j;simp only[DK,List.mem_singleton]at j;rcases j with (j|rfl)|j
   ·exact zt U.aa s j
   ·exact hxs
   ·exact zt U.aa s j
  exact ahd
 ·have hk2:(x.kind != 2)=true:=FB;have ja:(x.kind==2)=false:=FB;go_upto_region 4 with (fail);generalize L.alloc _=Y at *;generalize xH:L.heap.size=gf at H⊢;clear xH hst;have E:=ae (E6 (λk=>lo<=k) l _ (λs=>decide (jf s x<0)) 181 #[.pointer (some ⟨gf,0,none⟩)] Y (M.aa.st C) af (λ_ _=>fk) λW k s _ u D=>ado s x u _ _ lo gf W D (Z.av k) (H.av k));clear qb;go_wp2_with fail
  refine E.aa.mono ?_;rintro e O⟨v3,rfl,bE,y⟩;have X:=Z.av y;have Yl:=H.av y;have kT:=C.tr y;have jl:=y.size;obtain⟨t,B⟩:∃t,Hid (t=l.filter (λs=>decide (jf s x<0))):=⟨_,ae rfl⟩;rw[<- B.aa]at bE;obtain⟨A3,c3,rfl⟩:=bE.slice;have cL:=ll (λs=>decide (jf s x<0)) l;have q3:=X.cell;clear E;have yN:=kT;have Ym:=bE.blk;have G:=bE;generalize A3=A5 at *;generalize c3=c5 at *;have p7:=jl;have F:=ae (E6 (λk=>lo<=k) l _ (λs=>decide (0<jf s x)) 182 #[.pointer (some ⟨gf,0,none⟩)] O (M.aa.st yN) af (λ_ _=>fk) λW k s _ u D=>adp s x u _ _ lo gf W D (X.av k) (Yl.av k));go_upto_region 7 with (fail);clear q3;go_wp2_with fail
  refine F.aa.mono ?_;rintro e w6⟨v6,rfl,J,I⟩;have T:=G.st I;have azT:=ll (λs=>decide (0<jf s x)) l;have LS:=J.blk;have Q8:=0;have Q9:=0;have IY:iX (λk=>False∨(Value.slice A5 t.length c5).ownBlock=some k) iu (l.filter (λs=>decide (0<jf s x))) v6 w6:=J.GM (λk hk=>.inl aha) λk hk hx=>by exact ahb
  have jC:=T.less (Y':=λ_=>False) λ_ h=>h.elim
  have xg:=I.size;have wy:t.length<=400001:=by rw[B.aa];omega
  clear F G T J Q8 Q9;obtain⟨A6,c6,rfl⟩:=IY.slice;go_wp2_with (at_builtin;refine TV rfl _ _ 132 rfl _ 3 40 Sn rfl rfl jC _ rfl IY ?p1 ?p2 ?_)
  case p1=>omega
  case p2=>omega
  intro v8 w8 ij EL akb oM;have eZ:Hid (R=t++l.filter (λs=>decide (0<jf s x))):=ae (by rw[HR.aa,B.aa,if_neg (by omega),if_pos hk]);rw[<- eZ.aa]at ij;have Sq:=(y.tr I).trans oM;have r9:=C.tr Sq;have Sr:R.length<=1000000:=ahc;have ZC:∀s∈R,s.f.length<=1000000:=by
   rw[eZ.aa,B.aa];intro s j;rcases List.mem_append.1 j with j|j
   ·exact zt U.aa s j
   ·exact zt U.aa s j
  exact ahd
theorem apv a b w :
 Calls prog 350 #[.int .i64 a,.int .i64 b] w λe w'=>e=.returned (.int .i64 (ia a b))/\w=w':=by
 by_cases h1:a<b
 ·have HE:Hid (ia a b=-1):=ae (by simp[ia,h1]);exact Wf
 ·by_cases h2:b<a
  ·have HE:Hid (ia a b=1):=ae P8;exact Wf
  ·have HE:Hid (ia a b=0):=ae P8;exact Wf
theorem apw a b w :
 Calls prog 351 #[.int .i64 a,.int .i64 b] w λe w'=>e=.returned (.int .i64 (ia a b))/\w=w':=by
 by_cases h1:a<b
 ·have HE:Hid (ia a b=-1):=ae (by simp[ia,h1]);exact Wg
 ·by_cases h2:b<a
  ·have HE:Hid (ia a b=1):=ae P8;exact Wg
  ·have HE:Hid (ia a b=0):=ae P8;exact Wg
theorem awN a b:(!(Op.bytesLess a.toList b.toList||a.toList==b.toList))=lX b a:=by rw[aeL];simp
theorem apx a b w :
 Calls prog 352 #[.string a,.string b] w λe w'=>e=.returned (.int .i64 (yq a b))/\w=w':=by
 cases h1:lX a b
 ·have h1':Op.bytesLess a.toList b.toList=false:=h1;cases h2:lX b a
  ·have j:(!(a.toList==b.toList))=false:=ahe;have HE:Hid (yq a b=0):=ae (by simp[yq,h1,h2]);clear h1 h2;exact Wh
  ·have j:(!(a.toList==b.toList))=true:=ahe;have HE:Hid (yq a b=1):=ae (by simp[yq,h1,h2]);clear h1 h2;exact Wh
 ·have h1':Op.bytesLess a.toList b.toList=true:=h1;have HE:Hid (yq a b=-1):=ae (by simp[yq,h1]);clear h1;exact Wh
theorem ab7 a b w :
 Calls prog 322 #[vv a.1 a.2.1 a.2.2,vv b.1 b.2.1 b.2.2] w λe w'=>e=.returned (.int .i64 (fG a b))/\Below w.heap.size w w':=by
 obtain⟨u,na,B⟩:=a
 obtain⟨y,j,A⟩:=b
 have hb2:Below w.heap.size w ((w.alloc (.cells #[.int .i64 u,.int .i64 na,.string B] 71)).alloc (.cells #[.int .i64 y,.int .i64 j,.string A] 71)):=((cM _ _).alloc (aC _) _).alloc aj _
 have H:=(ah.new w 71 #[.int .i64 u,.int .i64 na,.string B]).alloc (.cells #[.int .i64 y,.int .i64 j,.string A] 71)
 have I:=ah.new (w.alloc (.cells #[.int .i64 u,.int .i64 na,.string B] 71)) 71 #[.int .i64 y,.int .i64 j,.string A]
 have G:Hid (fG (u,na,B) (y,j,A)=if ia u y != 0 then ia u y else if ia na j != 0 then ia na j else yq B A):=ae rfl
 go_enter func322,ntmps322
 go_wp2
 go_step3
 go_wp2_with fail
 go_step3
 generalize U:((w.alloc (.cells #[.int .i64 u,.int .i64 na,.string B] 71)).alloc (.cells #[.int .i64 y,.int .i64 j,.string A] 71))=W at *
 clear U
 have Y:=H.cell 0
 have S:=H.cell 1
 have O:=H.cell 2
 have Q:=I.cell 0
 have N:=I.cell 1
 have X:=I.cell 2
 simp at Y S O Q N X
 generalize L:ia u y=C at *
 generalize J:ia na j=E at *
 generalize M:yq B A=F at *
 have R:=ae L
 have V:=ae J
 have T:=ae M
 clear L J M
 go_wp2_with fail
 go_loop [5,7] (fun t i=>∃k:Nat,k<=3/\i=.int .i64 k/\t=.int .i64 0/\Hid ((1<=k->C=0)/\(2<=k->E=0)/\(3<=k->F=0))) (fun _ i=>3-(intOf i).toNat)
 case atStart=>exact⟨0,af,rfl,rfl,ae ⟨af,af,af⟩⟩
 case round =>
  obtain⟨k,hk,rfl,rfl,hf⟩:=hrel;rcases (by omega:k=0∨k=1∨k=2∨k=3)with rfl|rfl|rfl|rfl
  ·go_wp2_with fail
   refine (apv u y W).mono ?_;rintro e w'⟨rfl,rfl⟩;rw[R.aa];by_cases h0:C=0
   ·have D:(C != 0)=false:=K7;have Z:=ae h0;obtain rfl:=h0;go_wp2;go_round
    case rel=>exact⟨1,af,rfl,rfl,ae (by refine⟨?_,?_,?_⟩ <;> first|trivial|(intro _;rfl)|(intro _;exact hf.aa.1 (by omega))|(intro _;exact hf.aa.2.1 (by omega))|omega)⟩
    case measure=>simp[intOf]
   ·have D:(C != 0)=true:=K7;have HE:Hid (fG (u,na,B) (y,j,A)=C):=by have:=G.aa;rw[if_pos D]at this;exact ae this
    clear h0;exact Qa
  ·go_wp2_with fail
   refine (apw na j W).mono ?_;rintro e w'⟨rfl,rfl⟩;rw[V.aa];by_cases h0:E=0
   ·obtain rfl:=h0;go_wp2;go_round
    case rel=>exact⟨2,af,rfl,rfl,ae (by refine⟨?_,?_,?_⟩ <;> first|trivial|(intro _;rfl)|(intro _;exact hf.aa.1 (by omega))|(intro _;exact hf.aa.2.1 (by omega))|omega)⟩
    case measure=>simp[intOf]
   ·have D:(E != 0)=true:=K7;have HE:Hid (fG (u,na,B) (y,j,A)=E):=by have:=G.aa;rw[if_neg Wk,if_pos D]at this;exact ae this
    clear h0;exact Qa
  ·have HE:Hid (fG (u,na,B) (y,j,A)=F):=by have:=G.aa;rw[if_neg Wk,if_neg ahf]at this;exact ae this
   go_wp2_with fail
   refine (apx B A W).mono ?_;rintro e w'⟨rfl,rfl⟩;rw[T.aa];by_cases h0:F=0
   ·obtain rfl:=h0;go_wp2;go_round
    case rel=>exact⟨3,af,rfl,rfl,ae (by refine⟨?_,?_,?_⟩ <;> first|trivial|(intro _;rfl)|(intro _;exact hf.aa.1 (by omega))|(intro _;exact hf.aa.2.1 (by omega))|omega)⟩
    case measure=>simp[intOf]
   ·have D:(F != 0)=true:=K7;clear h0;exact Qa
  ·have HE:Hid (fG (u,na,B) (y,j,A)=0):=by have:=G.aa;rw[if_neg Wk,if_neg ahf,hf.aa.2.2 af]at this;exact ae this
   exact Qa
theorem aod a b w :
 Calls prog 366 #[.string a,.string b] w λe w'=>e=.returned (.bool (preB a b))/\w=w':=by
 by_cases j:b.size<=a.size
 ·have t:(b.size:Int)<=a.size:=af;have HE:Hid (preB a b=((a.extract 0 b.size).toList==b.toList)):=ae (by simp[preB,j]);go_enter func366,ntmps366;exact Dt
 ·have t:¬(b.size:Int)<=a.size:=af;have HE:Hid (preB a b=false):=ae (by simp[preB,j]);go_enter func366,ntmps366;exact Dt
theorem aoi a b w :
 Calls prog 353 #[.string a,.string b] w λe w'=>e=.returned (.bool (preB a b))/\w=w':=by
 go_enter func353,ntmps353
 go_wp2_with fail
 refine (aod a b w).mono ?_
 rintro e w'⟨rfl,rfl⟩
 go_wp2
 go_ret
 exact⟨rfl,rfl⟩
theorem TN a b w :
 Calls prog 330 #[vv a.1 a.2.1 a.2.2,vv b.1 b.2.1 b.2.2] w λe w'=>e=.returned (.bool (jH a b))/\Below w.heap.size w w':=by
 obtain⟨y,na,t⟩:=a
 obtain⟨u,A,j⟩:=b
 have hb2:Below w.heap.size w ((w.alloc (.cells #[.int .i64 y,.int .i64 na,.string t] 71)).alloc (.cells #[.int .i64 u,.int .i64 A,.string j] 71)):=((cM _ _).alloc (aC _) _).alloc aj _
 cases h1:(y==2)
 ·have HE:Hid (jH (y,na,t) (u,A,j)=false):=ae (by simp[jH,h1]);go_enter func330,ntmps330;go_wp2;exact Qb
 ·cases h2:(u==2)
  ·have HE:Hid (jH (y,na,t) (u,A,j)=false):=ae (by simp[jH,h2]);go_enter func330,ntmps330;go_wp2;exact Qb
  ·have HE:Hid (jH (y,na,t) (u,A,j)=preB t j):=ae (by simp[jH,h1,h2]);go_enter func330,ntmps330;go_wp2_with fail
   refine (aoi t j _).mono ?_;rintro e w'⟨rfl,rfl⟩;go_wp2;exact Qb
theorem arK g o w(h:w.cell? ⟨g,0,none⟩=some (.int .i64 o)) :
 Calls prog 323 #[.pointer (some ⟨g,0,none⟩)] w λe w'=>e=.returned (.bool (o==0))/\w=w':=by
 go_enter func323,ntmps323
 go_wp2
 go_ret
 exact⟨rfl,rfl⟩
theorem arL g o w(h:w.cell? ⟨g,0,none⟩=some (.int .i64 o)) :
 Calls prog 324 #[.pointer (some ⟨g,0,none⟩)] w λe w'=>e=.returned (.bool (o != 0))/\w=w':=by
 go_enter func324,ntmps324
 go_wp2
 go_ret
 exact⟨rfl,rfl⟩
theorem arM g o w(h:w.cell? ⟨g,0,none⟩=some (.int .i64 o)) :
 Calls prog 325 #[.pointer (some ⟨g,0,none⟩)] w λe w'=>e=.returned (.bool (decide (o<0)))/\w=w':=by
 go_enter func325,ntmps325
 go_wp2
 go_ret
 exact⟨rfl,rfl⟩
theorem arN g o w(h:w.cell? ⟨g,0,none⟩=some (.int .i64 o)) :
 Calls prog 326 #[.pointer (some ⟨g,0,none⟩)] w λe w'=>e=.returned (.bool (decide (o<=0)))/\w=w':=by
 go_enter func326,ntmps326
 go_wp2
 go_ret
 exact⟨rfl,rfl⟩
theorem arO g o w(h:w.cell? ⟨g,0,none⟩=some (.int .i64 o)) :
 Calls prog 327 #[.pointer (some ⟨g,0,none⟩)] w λe w'=>e=.returned (.bool (decide (0<o)))/\w=w':=by
 go_enter func327,ntmps327
 go_wp2
 go_ret
 exact⟨rfl,rfl⟩
theorem arP g o w(h:w.cell? ⟨g,0,none⟩=some (.int .i64 o)) :
 Calls prog 328 #[.pointer (some ⟨g,0,none⟩)] w λe w'=>e=.returned (.bool (decide (0<=o)))/\w=w':=by
 go_enter func328,ntmps328
 go_wp2
 go_ret
 exact⟨rfl,rfl⟩
theorem arQ y gt v(t:dt) w(j:ah w y 71 #[.int .i64 v.1,.int .i64 v.2.1,.string v.2.2])(u:ah w gt 73 #[.string t.1,.int .i64 t.2.1,.int .i64 t.2.2.1,.int .i64 t.2.2.2.1,.string t.2.2.2.2]) :
 Calls prog 329 #[.pointer (some ⟨y,0,none⟩),.pointer (some ⟨gt,0,none⟩)] w λe w'=>e=.returned (.bool (jH v t.2.2))/\Below w.heap.size w w':=by
 obtain⟨s,op,k,n,x⟩:=t
 obtain⟨D,vn,vt⟩:=v
 have C:=j.cell 0
 have B:=j.cell 1
 have F:=j.cell 2
 have E:=u.cell 2
 have A:=u.cell 3
 have G:=u.cell 4
 simp at C B F E A G
 go_enter func329,ntmps329
 go_wp2_with fail
 refine (TN (D,vn,vt) (k,n,x) _).mono ?_
 rintro e H⟨rfl,hb⟩
 go_wp2
 go_ret
 exact⟨rfl,hb⟩
theorem aec t v w :
 Calls prog 302 #[qP t,vv v.1 v.2.1 v.2.2] w λe w'=>e=.returned (.bool (iV t v))/\Below w.heap.size w w':=by
 obtain⟨s,op,k,n,x⟩:=t
 obtain⟨j,vn,vt⟩:=v
 have Q:Below w.heap.size w ((w.alloc (.cells #[.string s,.int .i64 op,.int .i64 k,.int .i64 n,.string x] 73)).alloc (.cells #[.int .i64 j,.int .i64 vn,.string vt] 71)):=((cM _ _).alloc (aC _) _).alloc aj _
 have hx:=(ah.new w 73 #[.string s,.int .i64 op,.int .i64 k,.int .i64 n,.string x]).alloc (.cells #[.int .i64 j,.int .i64 vn,.string vt] 71)
 have V:=ah.new (w.alloc (.cells #[.string s,.int .i64 op,.int .i64 k,.int .i64 n,.string x] 73)) 71 #[.int .i64 j,.int .i64 vn,.string vt]
 rw[World.size_alloc]at V
 have hmm:=@run_makeMap prog
 have A:∀W:World,(zeroValue 22).run prog W=.ok .nilFunc W:=λW=>ef
 go_enter func302,ntmps302
 go_wp2_with fail
 refine (ab7 (j,vn,vt) (k,n,x) _).mono ?_
 rintro e u⟨rfl,C⟩
 generalize ho:fG (j,vn,vt) (k,n,x)=o at *
 have HT:Hid (iV (s,op,k,n,x) (j,vn,vt)=(if op==8 then true else (j==k)&&(if op==1 then o==0 else if op==2 then o != 0 else if op==3 then decide (o<0)else if op==4 then decide (o<=0)
  else if op==5 then decide (0<o)else if op==6 then decide (0<=o)else if op==7 then jH (j,vn,vt) (k,n,x)else false))):=ae (by rw[<- ho];rfl)
 have hlt:w.heap.size+2<=u.heap.size:=by have:=C.size;simp at this;omega
 have hx1:=((hx.av C).alloc (.cells #[.int .i64 o] 3)).alloc (.map #[] 0)
 have Ah:=((V.av C).alloc (.cells #[.int .i64 o] 3)).alloc (.map #[] 0)
 have hz1:=(ah.new u 3 #[.int .i64 o]).alloc (.map #[] 0)
 have C:Below w.heap.size w ((u.alloc (.cells #[.int .i64 o] 3)).alloc (.map #[] 0)):=((Q.trans (C.mono Q.size)).alloc af _).alloc aY _
 have U:=BS.new (u.alloc (.cells #[.int .i64 o] 3))
 simp only[World.size_alloc]at U
 clear ho Q hx V
 go_wp2_with (with_reducible refine wI _ rfl (.tmp 13) (.const (.int .i64 1)) (.tmp 14) 286 rfl 3 22 underlying286 underlying3 (u.heap.size+1) _ rfl U 1 rfl _ rfl rfl ?_)
 intro w2 ez I
 have Z:=C.trans (ky I af C.size)
 have hx2:=hx1.grown I aY
 have hy2:=Ah.grown I aY
 have hz2:=hz1.grown I aj
 clear U I C hx1 Ah hz1
 go_wp2_with (with_reducible refine wI _ rfl (.tmp 13) (.const (.int .i64 2)) (.tmp 15) 286 rfl 3 22 underlying286 underlying3 (u.heap.size+1) _ rfl ez 2 rfl _ rfl rfl ?_)
 intro w3 dq L
 have S:=Z.trans (ky L af Z.size)
 have eO:=hx2.grown L aY
 have qD:=hy2.grown L aY
 have jl:=hz2.grown L aj
 clear ez L Z hx2 hy2 hz2
 go_wp2_with (with_reducible refine wI _ rfl (.tmp 13) (.const (.int .i64 3)) (.tmp 16) 286 rfl 3 22 underlying286 underlying3 (u.heap.size+1) _ rfl dq 3 rfl _ rfl rfl ?_)
 intro w4 eD F
 have R:=S.trans (ky F af S.size)
 have bZ:=eO.grown F aY
 have Jy:=qD.grown F aY
 have ir:=jl.grown F aj
 clear dq F S eO qD jl
 go_wp2_with (with_reducible refine wI _ rfl (.tmp 13) (.const (.int .i64 4)) (.tmp 17) 286 rfl 3 22 underlying286 underlying3 (u.heap.size+1) _ rfl eD 4 rfl _ rfl rfl ?_)
 intro w5 dS H
 have T:=R.trans (ky H af R.size)
 have dR:=bZ.grown H aY
 have Sh:=Jy.grown H aY
 have p7:=ir.grown H aj
 clear eD H R bZ Jy ir
 go_wp2_with (with_reducible refine wI _ rfl (.tmp 13) (.const (.int .i64 5)) (.tmp 18) 286 rfl 3 22 underlying286 underlying3 (u.heap.size+1) _ rfl dS 5 rfl _ rfl rfl ?_)
 intro w6 oD G
 have O:=T.trans (ky G af T.size)
 have iI:=dR.grown G aY
 have hy6:=Sh.grown G aY
 have xg:=p7.grown G aj
 clear dS G T dR Sh p7
 go_wp2_with (with_reducible refine wI _ rfl (.tmp 13) (.const (.int .i64 6)) (.tmp 19) 286 rfl 3 22 underlying286 underlying3 (u.heap.size+1) _ rfl oD 6 rfl _ rfl rfl ?_)
 intro w7 AB M
 have X:=O.trans (ky M af O.size)
 have oA:=iI.grown M aY
 have hy7:=hy6.grown M aY
 have Ru:=xg.grown M aj
 clear oD M O iI hy6 xg
 go_wp2_with (with_reducible refine wI _ rfl (.tmp 13) (.const (.int .i64 7)) (.tmp 20) 286 rfl 3 22 underlying286 underlying3 (u.heap.size+1) _ rfl AB 7 rfl _ rfl rfl ?_)
 intro y B J
 have oM:=X.trans (ky J af X.size)
 have Y:=oA.grown J aY
 have Jw:=hy7.grown J aY
 have qv:=Ru.grown J aj
 clear AB J X oA hy7 Ru
 have D:=qv.cell 0
 have x1:=Y.cell 1
 have x2:=Y.cell 2
 have y0:=Jw.cell 0
 simp at D x1 x2 y0
 have A:=A y
 by_cases h8:op=8
 ·have N:(op==8)=true:=by simp[h8]
  have HE:Hid (iV (s,op,k,n,x) (j,vn,vt)=true):=ae (by rw[HT.aa,N];rfl);clear h8;exact Bw
 by_cases EN:1<=op/\op<=7
 rotate_left
 ·have N:(op==8)=false:=by simp[h8]
  have E:(Instr.lookup 286 (.map (some (u.heap.size+1))) (.int .i64 op) true).run prog y=.ok (.tuple #[.nilFunc,.bool false]) y:=by
   have:=uA underlying286 underlying3 A B op;rw[this];have e:∀i:Int,1<=i->i<=7->(i==op)=false:=λi h1 h2=>aY
   simp[DJ,e]
  have HE:Hid (iV (s,op,k,n,x) (j,vn,vt)=false):=ae (by
   rw[HT.aa,N];have e:∀i:Int,1<=i->i<=7->(op==i)=false:=λi h1 h2=>aY
   simp[e])
  clear h8 EN;exact Bw
 rcases (by omega:op=1∨op=2∨op=3∨op=4∨op=5∨op=6∨op=7)with rfl|rfl|rfl|rfl|rfl|rfl|rfl
 ·have E:(Instr.lookup 286 (.map (some (u.heap.size+1))) (.int .i64 1) true).run prog y=.ok (.tuple #[Value.func (Fn.func 323) #[] #[Value.pointer (some ⟨u.heap.size,0,none⟩)],.bool true]) y :=
   uA underlying286 underlying3 A B 1
  cases hkk:(j==k)
  ·have HE:Hid (iV (s,1,k,n,x) (j,vn,vt)=false):=ae tC;exact Bw
  ·have HE:Hid (iV (s,1,k,n,x) (j,vn,vt)=(o==0)):=ae tC;go_wp2_with fail
   refine (arK u.heap.size o y D).mono ?_;exact Io
 ·have E:(Instr.lookup 286 (.map (some (u.heap.size+1))) (.int .i64 2) true).run prog y=.ok (.tuple #[Value.func (Fn.func 324) #[] #[Value.pointer (some ⟨u.heap.size,0,none⟩)],.bool true]) y :=
   uA underlying286 underlying3 A B 2
  cases hkk:(j==k)
  ·have HE:Hid (iV (s,2,k,n,x) (j,vn,vt)=false):=ae tC;exact Bw
  ·have HE:Hid (iV (s,2,k,n,x) (j,vn,vt)=(o != 0)):=ae tC;go_wp2_with fail
   refine (arL u.heap.size o y D).mono ?_;exact Io
 ·have E:(Instr.lookup 286 (.map (some (u.heap.size+1))) (.int .i64 3) true).run prog y=.ok (.tuple #[Value.func (Fn.func 325) #[] #[Value.pointer (some ⟨u.heap.size,0,none⟩)],.bool true]) y :=
   uA underlying286 underlying3 A B 3
  cases hkk:(j==k)
  ·have HE:Hid (iV (s,3,k,n,x) (j,vn,vt)=false):=ae tC;exact Bw
  ·have HE:Hid (iV (s,3,k,n,x) (j,vn,vt)=(decide (o<0))):=ae tC;go_wp2_with fail
   refine (arM u.heap.size o y D).mono ?_;exact Io
 ·have E:(Instr.lookup 286 (.map (some (u.heap.size+1))) (.int .i64 4) true).run prog y=.ok (.tuple #[Value.func (Fn.func 326) #[] #[Value.pointer (some ⟨u.heap.size,0,none⟩)],.bool true]) y :=
   uA underlying286 underlying3 A B 4
  cases hkk:(j==k)
  ·have HE:Hid (iV (s,4,k,n,x) (j,vn,vt)=false):=ae tC;exact Bw
  ·have HE:Hid (iV (s,4,k,n,x) (j,vn,vt)=(decide (o<=0))):=ae tC;go_wp2_with fail
   refine (arN u.heap.size o y D).mono ?_;exact Io
 ·have E:(Instr.lookup 286 (.map (some (u.heap.size+1))) (.int .i64 5) true).run prog y=.ok (.tuple #[Value.func (Fn.func 327) #[] #[Value.pointer (some ⟨u.heap.size,0,none⟩)],.bool true]) y :=
   uA underlying286 underlying3 A B 5
  cases hkk:(j==k)
  ·have HE:Hid (iV (s,5,k,n,x) (j,vn,vt)=false):=ae tC;exact Bw
  ·have HE:Hid (iV (s,5,k,n,x) (j,vn,vt)=(decide (0<o))):=ae tC;go_wp2_with fail
   refine (arO u.heap.size o y D).mono ?_;exact Io
 ·have E:(Instr.lookup 286 (.map (some (u.heap.size+1))) (.int .i64 6) true).run prog y=.ok (.tuple #[Value.func (Fn.func 328) #[] #[Value.pointer (some ⟨u.heap.size,0,none⟩)],.bool true]) y :=
   uA underlying286 underlying3 A B 6
  cases hkk:(j==k)
  ·have HE:Hid (iV (s,6,k,n,x) (j,vn,vt)=false):=ae tC;exact Bw
  ·have HE:Hid (iV (s,6,k,n,x) (j,vn,vt)=(decide (0<=o))):=ae tC;go_wp2_with fail
   refine (arP u.heap.size o y D).mono ?_;exact Io
 ·have E:(Instr.lookup 286 (.map (some (u.heap.size+1))) (.int .i64 7) true).run prog y=.ok (.tuple #[Value.func (Fn.func 329) #[] #[Value.pointer (some ⟨w.heap.size+1,0,none⟩),Value.pointer (some ⟨w.heap.size,0,none⟩)],.bool true]) y :=
   uA underlying286 underlying3 A B 7
  cases hkk:(j==k)
  ·have HE:Hid (iV (s,7,k,n,x) (j,vn,vt)=false):=ae tC;exact Bw
  ·have HE:Hid (iV (s,7,k,n,x) (j,vn,vt)=(jH (j,vn,vt) (k,n,x))):=ae tC;go_wp2_with fail
   refine (arQ (w.heap.size+1) w.heap.size (j,vn,vt) (s,7,k,n,x) y Jw Y).mono ?_;rintro e w9⟨rfl,aZ⟩;have JE:=oM.trans (aZ.mono oM.size);go_wp2;go_ret;exact⟨gX,JE⟩
