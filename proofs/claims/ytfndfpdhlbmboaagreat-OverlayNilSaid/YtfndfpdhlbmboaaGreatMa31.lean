/-
  The overlay's calls for one who holds it: who holds it, what stays (layer 21). Conditions: none.
-/
import Derived.Test.YtfndfpdhlbmboaaGreatMa30
import Derived.Test.YtfndfpdhlbmboaaGreatMz
set_option maxRecDepth 100000
set_option linter.constructorNameAsVariable false
set_option maxHeartbeats 16000000
set_option linter.unusedVariables false
set_option linter.unusedSimpArgs false
namespace Go.Proofs.YtfndfpdhlbmboaaGreat
open Go Go.RowKit _root_.Go.Proofs.Tryz
def gW(par ai:List Int)(gw:Nat)(O:bH)(k:Nat)(Z:Nat->Prop)(W:World):Prop :=
 bO par ai O k/\∃H own,H.gw=gw/\bu H own O W dJ/\∀b,Z b->b<W.heap.size/\own b=0
def zl(par ai:List Int)(gw:Nat)(O:bH)(k:Nat)(Z:Nat->Prop)(W W':World):Prop:=gW par ai gw O k Z W'/\ag (λb=>¬Z b) W W'
section
variable {par ai:List Int} {gw k:Nat} {O O':bH} {Z:Nat->Prop} {W W':World}
theorem gW.st(h:gW par ai gw O k Z W)(u:K W W'):gW par ai gw O k Z W':=by obtain⟨t,H,own,e,j,hz⟩:=h;exact⟨t,H,own,e,j.st u,λb hb=>⟨bz (hz b hb).1 u.size,(hz b hb).2⟩⟩
theorem gW.more{Z'}(h:gW par ai gw O k Z W)(u:K W W')(t:∀b,Z' b->Z b∨W.heap.size<=b/\b<W'.heap.size):gW par ai gw O k Z' W':=by
 obtain⟨y,H,own,e,j,hz⟩:=h;have A:=u.size;refine⟨y,H,own,e,j.st u,λb hb=>?_⟩;rcases t b hb with h|h
 ·grind
 ·exact⟨h.2,by have:=j.lo b;omega⟩
theorem gW.go(h:gW par ai gw O k Z W){t}{args:Value->Array Value}{R:Ending->World->Prop}{j}
 (E:∀H own,bu H own O W dJ->Calls prog t (args (.pointer (some ⟨H.gw,0,none⟩))) W λe w'=>R e w'/\dh H own O' W w') (I:bO par ai O' j) :
 Calls prog t (args (.pointer (some ⟨gw,0,none⟩))) W λe w'=>R e w'/\zl par ai gw O' j Z W w':=by
 obtain⟨-,H,own,rfl,F,hz⟩:=h
 refine (E H own F).mono ?_
 rintro e w'⟨A,C,G,y,B,u,D⟩
 have J:=u.size
 exact⟨A,⟨I,C,G,B,y,λb hb=>⟨aG,(D b (hz b hb).1).trans (hz b hb).2⟩⟩,u.more λb hb L=>aG⟩
theorem gW.begin(h:gW par ai gw O k Z W)(hk:k<=40000){c}(j:cJ c) :
 Calls prog 14 #[.pointer (some ⟨gw,0,none⟩),.int .i64 c] W λe w'=>e=.returned (.tuple #[bU (uJ O c).2.1,.int .i64 (uJ O c).2.2])/\zl par ai gw (uJ O c).1 (k+1) Z W w' :=
 h.go (args:=λp=>#[p,.int .i64 c]) (λH own t=>ao9 t h.1.fV c j λn B hu=>aiU) (h.1.begin af j)
theorem gW.sub(h:gW par ai gw O k Z W)(hk:k<=40000){c}(j:cJ c){n:Nat}(hn:n<18446744073709551616){f vf}(A:fu f vf W)(hfit:∀t∈f,jh t)(u:f.length<=1000000) :
 Calls prog 32 #[.pointer (some ⟨gw,0,none⟩),.int .i64 c,.int .u64 (n:Int),vf] W λe w'=>e=.returned (.tuple #[bU (yD O c n f).2.1,.int .i64 (yD O c n f).2.2])/\zl par ai gw (yD O c n f).1 (k+1) Z W w' :=
 h.go (args:=λp=>#[p,.int .i64 c,.int .u64 (n:Int),vf]) (λH own y=>aqW y h.1.fV c j n hn f vf A hfit u λn B hu=>aiU) (h.1.sub af j hn hfit)
theorem gW.Iu(h:gW par ai gw O k Z W) c{a}(t:eu a){j u}(A:iU j u W)(C:j.length<=1000000)(y:∀x∈j,mX x) :
 Calls prog 37 #[.pointer (some ⟨gw,0,none⟩),.int .i64 c,bU a,u] W λe w'=>e=.returned (.int .i64 (pM O c a λl=>iY l a j).2.2)/\zl par ai gw (pM O c a λl=>iY l a j).1 (k+1) Z W w' :=
 h.go (args:=λp=>#[p,.int .i64 c,bU a,u]) (λH own D=>aop D h.1.fV c a t j u A C y) (h.1.keep c a _ λB E=>E.Iu y t)
theorem gW.ID(h:gW par ai gw O k Z W) c{a}(j:eu a) :
 Calls prog 17 #[.pointer (some ⟨gw,0,none⟩),.int .i64 c,bU a] W λe w'=>e=.returned (.int .i64 (pM O c a λl=>jG l a).2.2)/\zl par ai gw (pM O c a λl=>jG l a).1 (k+1) Z W w' :=
 h.go (args:=λp=>#[p,.int .i64 c,bU a]) (λH own t=>aoH t h.1.fV c a j) (h.1.keep c a _ λB u=>u.ID j)
theorem gW.round(h:gW par ai gw O k Z W)(hp:par.length<=6)(hk:k+588<=40000) :
 Calls prog 31 #[.pointer (some ⟨gw,0,none⟩)] W λe w'=>e=.returned (.tuple #[])/\zl par ai gw (wU O) (k+588) Z W w' :=
 h.go (args:=λp=>#[p]) (λH own j=>apc j h.1 hp hk) (h.1.round hp af)
theorem gW.XM(h:gW par ai gw O k Z W) n keep(hk:cJ keep) :
 Calls prog 11 #[.pointer (some ⟨gw,0,none⟩),.int .i64 n,.int .i64 keep] W λe w'=>e=.returned (.int .i64 (zE O n).2)/\zl par ai gw (zE O n).1 k Z W w' :=
 h.go (args:=λp=>#[p,.int .i64 n,.int .i64 keep]) (λH own j=>apa j h.1 n keep hk) (h.1.XM n)
theorem gW.Xh(h:gW par ai gw O k Z W)(hk:k<=40000) n :
 Calls prog 20 #[.pointer (some ⟨gw,0,none⟩),.int .i64 n] W λe w'=>e=.returned (.int .i64 (zu O n).2)/\zl par ai gw (zu O n).1 (k+1) Z W w' :=
 h.go (args:=λp=>#[p,.int .i64 n]) (λH own j=>aon j h.1 hk n) (h.1.Xh n af)
theorem gW.Rn(h:gW par ai gw O k Z W)(hk:k<=40000) c :
 Calls prog 15 #[.pointer (some ⟨gw,0,none⟩),.int .i64 c] W λe w'=>(∃v,e=.returned (.tuple #[v,.int .i64 (pN O c).2.2])/\aq cG (pN O c).2.1 v w')/\zl par ai gw (pN O c).1 (k+1) Z W w' :=
 h.go (args:=λp=>#[p,.int .i64 c]) (λH own u=>(apQ u h.1 hk c).mono λe w' ⟨v,j,t,y⟩=>⟨⟨v,j,t⟩,y⟩) (h.1.Rn c)
theorem gW.status(h:gW par ai gw O k Z W) c a :
 Calls prog 16 #[.pointer (some ⟨gw,0,none⟩),.int .i64 c,bU a] W λe w'=>e=.returned (.tuple #[.int .i64 (Dx O c a).1,.int .i64 (Dx O c a).2])/\K W w':=by
 obtain⟨t,H,own,rfl,j,-⟩:=h
 exact aoI j t.fV c a
theorem gW.ayp(h:gW par ai gw O k Z W) c :
 Calls prog 25 #[.pointer (some ⟨gw,0,none⟩),.int .i64 c] W λe w'=>e=.returned (.int .i64 (Iw O c))/\w'=W:=by
 obtain⟨t,H,own,rfl,j,-⟩:=h
 exact aoG j p2 t.fV c
theorem gW.got(h:gW par ai gw O k Z W)(hk:k<=40000)(u:∀l∈O.got,∀b∈l,b.length<=1000000/\∀e∈b,e.length<=1000000) c :
 Calls prog 26 #[.pointer (some ⟨gw,0,none⟩),.int .i64 c] W λe w'=>∃v,e=.returned v/\aq (zQ cG) (Ad O c) v w'/\K W w':=by
 obtain⟨t,H,own,rfl,j,-⟩:=h
 grind [aqY]
theorem gW.state(h:gW par ai gw O k Z W) n :
 Calls prog 19 #[.pointer (some ⟨gw,0,none⟩),.int .i64 n] W λe w'=>∃vl vp va,e=.returned (.agg (cE (oR O n) vl vp va))/\lE (λk=>k<W.heap.size) (oR O n) vl vp va w'/\K W w':=by
 obtain⟨t,H,own,rfl,j,-⟩:=h
 grind [abw,p2,pB]
theorem gW.busy(h:gW par ai gw O k Z W) n :
 Calls prog 24 #[.pointer (some ⟨gw,0,none⟩),.int .i64 n] W λe w'=>e=.returned (.int .i64 (IJ O n:Int))/\K W w':=by
 obtain⟨t,H,own,rfl,j,-⟩:=h
 grind [apR,p2,pB]
theorem gW.up(h:gW par ai gw O k Z W) n :
 Calls prog 13 #[.pointer (some ⟨gw,0,none⟩),.int .i64 n] W λe w'=>e=.returned (.bool (cX O n).isSome)/\w'=W:=by
 obtain⟨t,H,own,rfl,j,-⟩:=h
 exact OT j p2 pB t.fV n
end
theorem axs par ai room j t w(C:aq cR par j w)(D:aq cR ai t w)(A:gQ par=true)(B:pW par ai=true)(u:iO (dF (cZ dw))<=room)(y:room<=1048576) Z(E:∀b,Z b->b<w.heap.size) :
 Calls prog 10 #[j,t,.int .i64 (room:Int)] w λe w'=>∃gw,e=.returned (.tuple #[.pointer (some ⟨gw,0,none⟩),.int .i64 0])/\gW par ai gw (tO par ai room) 0 Z w'/\K w w':=by
 refine (aq0 par ai room j t w C D A B u y).mono ?_
 rintro e w'⟨H,own,rfl,F,G,k⟩
 have I:=k.size
 exact⟨_,rfl,⟨bO.new A B u y,H,own,rfl,F,λb hb=>⟨aG,G b (E b hb)⟩⟩,k⟩
theorem asu n w:Calls prog 39 #[.int .i64 n] w λe w'=>e=.returned (.agg #[.int .i64 1,.int .i64 n,.string ⟨#[]⟩])/\K w w':=by have j:=ah.new w 71 #[.int .i64 0,.int .i64 0,.string ⟨#[]⟩];have y:=j.aS;go_enter func39,ntmps39;go_upto_region 1 with (fail);generalize w.alloc _=t at *;generalize hg:w.heap.size=g at j⊢;have HG:=ae hg;clear hg;have q:=j.cell;have z:=j.frozen;go_wp2;have A:ah (World.setCell (World.setCell (World.setCell t _ _) _ _) _ _) g 71 #[.int .i64 1,.int .i64 n,.string ⟨#[]⟩]:=((j.aM 0 (.int .i64 1)).aM 1 (.int .i64 n)).aM 2 (.string ⟨#[]⟩);have B:=K.set (K.set (K.set y (r:=g) Qg 0 (.int .i64 1)) (r:=g) Qg 1 (.int .i64 n)) (r:=g) Qg 2 (.string ⟨#[]⟩);clear q z;generalize World.setCell (World.setCell (World.setCell t _ _) _ _) _ _=C at *;have u:=A.cell;refine bodyPost_ret (v:=.agg #[.int .i64 1,.int .i64 n,.string ⟨#[]⟩]) (by simp[results,results39,go_sem,u]) rfl ?_;exact⟨rfl,B⟩
theorem aeo{w:World} l T{M}(y:∀k,M k->k<w.heap.size):Fx M (λW=>aq cR l (.slice (some ⟨w.heap.size,0,none⟩) l.length l.length) W) (w.alloc (.cells (l.map λn=>Value.int .i64 n).toArray T)):=by
 intro W u;have hb:=(ah.new w T (l.map λn=>Value.int .i64 n).toArray).aX u λh=>aG
 refine⟨_,_,rfl,⟨l.map BV,Kt _ _,by grind [Um,cR],λ_=>⟨_,0,rfl,hb.lt,λj u t=>?_⟩⟩,aC _⟩;rw[Um]at t;rw[mi,hb.cell j,List.getElem?_toArray];exact t
theorem axt(w:World) t T:fu [t] (.slice (some ⟨w.heap.size,0,none⟩) 1 1) (w.alloc (.cells (fF t).toArray T)) :=
 ⟨_,_,rfl,by simpa using (Reads.new w (fF t) T 5 1 rfl).more (by simp)⟩
theorem axu(w:World) t T:iU [t] (.slice (some ⟨w.heap.size,0,none⟩) 1 1) (w.alloc (.cells (mV t).toArray T)) :=
 ⟨_,_,rfl,by simpa using (Reads.new w (mV t) T 4 1 rfl).more (by simp)⟩
theorem ah.z{Z:Nat->Prop}{W W' g t cs}(h:ah W g t cs)(u:ag (λk=>¬Z k) W W')(hz:Z g):ah W' g t cs:=h.aX u λhn=>hn hz
theorem apU a b c d W:(Instr.field 46 (.agg #[a,b,c,d]) 1).run prog W=.ok b W:=by kernel_rfl
theorem zl.k{par ai gw k O Z w W W'}(h:zl par ai gw O k Z W W')(hk:K w W)(j:∀b,b<w.heap.size->Z b):K w W' :=
 h.2.k hk λb hb=>Nat.le_of_not_lt λh9=>hb (j b h9)
theorem abx w:Calls prog 8 #[] w λe w'=>e=.returned (.bool true)/\K w w':=by
 have kA:=K.lq w (.cells #[.int .i64 (-1),.int .i64 0] 3) (.cells #[.int .i64 1] 3);have h1:=((aeo (w:=w) [-1,0] 3 (M:=λ_=>False) (λ_ h=>h.elim)).k ((K.rf _).al (.cells #[.int .i64 1] 3))).now;have hz1:(w.alloc (.cells #[.int .i64 (-1),.int .i64 0] 3)).heap.size=w.heap.size+1:=aj;have Y:=(aeo (w:=w.alloc (.cells #[.int .i64 (-1),.int .i64 0] 3)) [1] 3 (M:=λ_=>False) (λ_ h=>h.elim)).now;rw[hz1]at Y;have C1:=ae (axs [-1,0] [1] 10000 _ _ _ h1 Y ay ay (by decide +kernel) ay (λb=>b<w.heap.size) λb hb=>bz hb kA.size);clear h1 Y hz1;go_enter func8,ntmps8;go_wp2_with fail
 refine C1.aa.mono ?_;rintro e w1⟨gw,rfl,hO,k1⟩;have E1:=kA.tr k1;have kB:=K.new w1 (.cells #[.string ⟨#[112]⟩,.int .i64 8,.int .i64 0,.int .i64 0,.string ⟨#[]⟩] 73);have H:=(hO.st kB).sub af (c:=0) pD (n:=1) af (f:=tA) (axt w1 (⟨#[112]⟩,8,0,0,⟨#[]⟩) _) (by simp[tA,jh,cJ]) (by simp[tA]);rw[show yD (tO [-1,0] [1] 10000) 0 1 tA=NQ from rfl,Ee.1]at H;replace H:=ae H;have k0B:=E1.tr kB;clear hO C1 k1 E1 kA;go_wp2_with fail
 generalize w1.alloc _=w2 at *;refine H.aa.mono ?_;rintro e w3⟨rfl,j⟩;have kT:=j.k k0B λ_ h=>h
 have bE:=j.1;clear H j kB k0B;go_upto_region 3 with (fail);have X:=K.new w3 (.cells #[.int .i64 1,.int .u64 1,.int .u64 1] 26);have cB:=bE.st X;have sc:=kT.tr X;generalize w3.alloc _=w4 at *;have A:=cB.begin af (c:=0) pD;rw[show uJ NQ.1 0=NR from rfl,Ee.2.1]at A;replace A:=ae A;clear X kT bE cB;go_wp2_with fail
 refine A.aa.mono ?_;rintro e S⟨rfl,j⟩;have yN:=j.k sc λ_ h=>h
 have cC:=j.1;clear A j sc;go_upto_region 4 with (fail);have G:=ah.new S 26 #[.int .i64 1,.int .u64 1,.int .u64 2];have kD:=G.aS;have ko:=cC.more (Z':=λb=>b<w.heap.size∨b=S.heap.size) kD λb hb=>hb.imp id λe=>by rw[e];exact⟨aC _,G.lt⟩
 have JP:=yN.tr kD;generalize S.alloc _=w6 at *;generalize S.heap.size=b2 at *;clear cC yN kD;have qc:=G.cells;have C5:=ae λW=>asu 5 W
 have qs:=qc;refine dD 5 [([],[]),([],[]),([],[]),([2],[(39,2)]),([3],[(40,3)]),([0,1,2,4],[(37,0),(38,1),(41,4)]),([0,1,2,3,4,5],[(42,5)])] 160 ?_;iterate 2 refine au.i ?_
 refine au.is (.agg #[.int .i64 1,.int .i64 5,.string ⟨#[]⟩]) (λV W kW hp=>?_) ?_
 ·(try simp only[cd,aO,aQ,bW,bY,aJ]at hp)
  simp[bP,aE,List.lookup,hp,cN,execOp,aF,aJ,qc,go_sem];refine (C5.aa W).mono ?_;exact Bs
 refine au.i ?_;refine au.op (iU eA) (pE _) (λV W kW hp=>?_) ?_
 ·simp only[cd,aO,aQ,bW,bY,aJ]at hp;simp[bP,aE,List.lookup,hp,cN,execOp,aF,go_sem];exact⟨axu W (⟨#[112]⟩,1,5,⟨#[]⟩) _,(K.rf W).al _⟩
 clear qs;intro V W kW hA;simp only[aO,aQ,cz,aJ,Nat.reduceAdd]at hA;obtain⟨e0,e1,e2,e3,h4,-⟩:=hA;have ue:=JP.tr kW;have hcW:=G.av kW;have t:=(ko.st kW).Iu 0 (a:=(1,1,2)) (by simp[eu,cJ]) (u:=V 4) h4 (by simp[eA]) (by simp[eA,mX,cJ]);rw[show (pM NR.1 0 (1,1,2) λl=>iY l (1,1,2) eA)=NS from rfl,Ee.2.2.1]at t;replace t:=ae t;refine aH.call _ _ rfl (by simp[aE,List.lookup,ba,e0,e1,execOp,aF,go_sem];exact⟨rfl,rfl⟩) ?_;refine t.aa.mono ?_;rintro e w8⟨rfl,j⟩;refine⟨_,rfl,?_⟩;have r9:=j.k ue λ_ h=>.inl h
 have hc8:=hcW.z j.2 (.inr rfl);have ij:=j.1;apply aH.pure;rfl;simp[aE,List.lookup,ba,execOp,aF,go_sem];rfl;refine aH.nil ?_;simp only[fX,Act.put,rJ,qM,qL,Nat.reduceAdd,ba,Nat.reduceEqDiff,reduceIte];clear t C5 ko j kW qc G hcW e0 e1 e2 e3 h4 ue JP;generalize V 0=x0 at *;generalize V 1=x1 at *;generalize V 2=x2 at *;generalize V 3=x3 at *;generalize V 4=x4 at *;clear V;have q2:=hc8.cell;have N:=ij.ID 0 (a:=(1,1,2)) (by simp[eu,cJ]);rw[show (pM NS.1 0 (1,1,2) λl=>jG l (1,1,2))=NT from rfl,Ee.2.2.2.1]at N;replace N:=ae N;clear ij;go_wp2_with fail
 refine N.aa.mono ?_;rintro e w9⟨rfl,j⟩;have SI:=j.k r9 λ_ h=>.inl h
 have oO:=hc8.z j.2 (.inr rfl);have C8:=ae (j.1.round ay af);rw[show wU NT.1=aw5 from rfl]at C8;clear N j r9 hc8 q2;go_wp2_with fail
 refine C8.aa.mono ?_;rintro e sk⟨rfl,j⟩;have G0:=j.k SI λ_ h=>.inl h
 have akJ:=oO.z j.2 (.inr rfl);have C9:=ae (j.1.round ay af);rw[show wU aw5=aw6 from rfl]at C9;clear C8 j SI oO;go_wp2_with fail
 refine C9.aa.mono ?_;rintro e Bc⟨rfl,j⟩;have k11:=j.k G0 λ_ h=>.inl h
 have akK:=akJ.z j.2 (.inr rfl);have C10:=ae (j.1.round ay af);rw[show wU aw6=aw7 from rfl]at C10;clear C9 j G0 akJ;go_wp2_with fail
 refine C10.aa.mono ?_;rintro e w12⟨rfl,j⟩;have kX:=j.k k11 λ_ h=>.inl h
 have akL:=akK.z j.2 (.inr rfl);have O:=j.1.Rn af 0;rw[show pN aw7 0=CZ from rfl,Ee.2.2.2.2.2.1]at O;replace O:=ae O;clear C10 j k11 akK;go_wp2_with fail
 refine O.aa.mono ?_;rintro e w13⟨⟨v13,rfl,akM⟩,j⟩;obtain⟨A13,c13,rfl⟩:=aw akM;rw[Ee.2.2.2.2.1];have ni:=j.k kX λ_ h=>.inl h
 have akN:=akL.z j.2 (.inr rfl);have F3:=j.1;have L:=F3.status 0 (1,1,2);rw[Ee.2.2.2.2.2.2.1]at L;replace L:=ae L;have q13:=akN.cell;clear O j kX akL akM;go_wp2_with fail
 refine L.aa.mono ?_;rintro e w14⟨rfl,qi⟩;have akO:=ni.tr qi;have y:=(F3.st qi).XM 1 0 pD;rw[show zE CZ.1 1=NU from rfl,Ee.2.2.2.2.2.2.2]at y;replace y:=ae y;clear L q13 akN F3 ni qi;go_wp2_with fail
 refine y.aa.mono ?_;rintro e w15⟨rfl,j⟩;have EU:=j.k akO λ_ h=>.inl h
 have E:=j.1.begin af (c:=0) pD;rw[show uJ NU.1 0=NW from rfl,B6.1]at E;replace E:=ae E;clear y j akO;go_wp2_with fail
 refine E.aa.mono ?_;rintro e w16⟨rfl,j⟩;have SZ:=j.k EU λ_ h=>.inl h
 have akP:=j.1;clear E j EU;go_upto_region 13 with (fail);have Z:=K.new w16 (.cells #[.int .i64 0,.int .u64 0,.int .u64 0] 26);have G8:=SZ.tr Z;have J:=(akP.st Z).Xh af 1;rw[show zu NW.1 1=NX from rfl,B6.2.1]at J;replace J:=ae J;generalize w16.alloc _=w17 at *;clear Z SZ akP;go_wp2_with fail
 refine J.aa.mono ?_;rintro e w18⟨rfl,j⟩;have JS:=j.k G8 λ_ h=>.inl h
 have B:=j.1.Rn af 0;rw[show pN NX.1 0=qF from rfl,B6.2.2.2.1]at B;replace B:=ae B;clear J j G8;go_wp2_with fail
 refine B.aa.mono ?_;rintro e w19⟨⟨v19,rfl,akQ⟩,j⟩;obtain⟨A19,c19,rfl⟩:=aw akQ;rw[B6.2.2.1];have xK:=j.k JS λ_ h=>.inl h
 have R:=j.1;have C:=R.ayp 0;rw[B6.2.2.2.2.1]at C;have U:=R.got af ayk 0;replace C:=ae C;replace U:=ae U;have Q:=ae R;clear B j JS akQ R;go_wp2_with fail
 refine C.aa.mono ?_;rintro e w20⟨rfl,rfl⟩;go_wp2_with fail
 refine U.aa.mono ?_;rintro e w21⟨v21,rfl,akR,D⟩;obtain⟨A21,c21,rfl⟩:=aw akR;rw[B6.2.2.2.2.2.1];have C19:=ae ((Q.aa.st D).state 0);have akS:=xK.tr D;clear C U akR xK;go_wp2_with fail
 refine C19.aa.mono ?_;rintro e w22⟨vl,vp,va,rfl,hS,T⟩;obtain⟨⟨Al,cl,rfl⟩,-,-⟩:=hS.sl;rw[B6.2.2.2.2.2.2.1];have fp:=apU;have I:=(Q.aa.st (D.tr T)).busy 1;rw[B6.2.2.2.2.2.2.2.1]at I;replace I:=ae I;have HU:=ae λW (k:K w22 W)=>(Q.aa.st ((D.tr T).tr k)).up 1
 have akT:=akS.tr T;generalize oR qF.1 0=s at *;clear C19 hS akS Q D T;go_wp2_with fail
 refine I.aa.mono ?_;rintro e w23⟨rfl,AX⟩;have F:=HU.aa w23 AX;rw[B6.2.2.2.2.2.2.2.2]at F;replace F:=ae F;have aAA:=akT.tr AX;clear I HU akT AX;go_wp2_with fail
 refine F.aa.mono ?_;rintro e w24⟨rfl,rfl⟩;clear F;go_wp2;go_ret;exact⟨rfl,aAA⟩
theorem aoa w:Calls prog 3 #[] w λe w'=>e=.returned (.bool true)/\Below w.heap.size w w':=by
 have C1:=ae (abx w);go_enter func3,ntmps3;go_wp2_with fail
 refine C1.aa.mono ?_;rintro e j⟨rfl,k1⟩;exact Xt
