/-
  The overlay's calls on none (layer 21). Conditions: none.
-/
import Derived.Test.YtfndfpdhlbmboaaGreatMa31
import Derived.Test.YtfndfpdhlbmboaaGreatMz
set_option maxRecDepth 100000
set_option linter.constructorNameAsVariable false
set_option maxHeartbeats 16000000
set_option linter.unusedVariables false
set_option linter.unusedSimpArgs false
namespace Go.Proofs.YtfndfpdhlbmboaaGreat
open Go Go.RowKit _root_.Go.Proofs.Tryz
theorem Og(w:World)(n:Int):Calls prog 44 #[.pointer none,.int .i64 n] w λe w'=>e=.returned (.bool false)/\w'=w:=by go_enter func44,ntmps44;go_wp2;go_ret;exact⟨rfl,rfl⟩
theorem Xu(w:World)(n:Int):Calls prog 68 #[.pointer none,.int .i64 n] w λe w'=>e=.returned (.bool false)/\w'=w:=by go_enter func68,ntmps68;go_wp2;go_ret;exact⟨rfl,rfl⟩
theorem av4(w:World)(a b:Int):Calls prog 18 #[.pointer none,.int .i64 a,.int .i64 b] w λe w'=>e=.returned (.int .i64 1)/\w'=w:=by go_enter func18,ntmps18;go_wp2;go_ret;exact⟨rfl,rfl⟩
theorem XN(w:World)(a b:Int)(f:Value):Calls prog 79 #[.pointer none,.int .i64 a,.int .i64 b,f] w λe w'=>e=.returned (.int .i64 1)/\w'=w:=by go_enter func79,ntmps79;go_wp2;go_ret;exact⟨rfl,rfl⟩
theorem ay8(w:World)(a b:Int):Calls prog 34 #[.pointer none,.int .i64 a,.int .i64 b] w λe w'=>e=.returned (.int .i64 1)/\w'=w:=by
 have C1:=ae λf=>XN w a b f
 go_enter func34,ntmps34;exact BG
theorem ayq(w:World)(a b:Int):Calls prog 35 #[.pointer none,.int .i64 a,.int .i64 b] w λe w'=>e=.returned (.int .i64 1)/\w'=w:=by
 have C1:=ae λf=>XN w a b f
 go_enter func35,ntmps35;exact BG
theorem ay9(w:World)(a b:Int):Calls prog 36 #[.pointer none,.int .i64 a,.int .i64 b] w λe w'=>e=.returned (.int .i64 1)/\w'=w:=by
 have C1:=ae λf=>XN w a b f
 go_enter func36,ntmps36;exact BG
theorem ZUp(w:World)(n:Int):Calls prog 13 #[.pointer none,.int .i64 n] w λe w'=>e=.returned (.bool false)/\w'=w:=by
 have C1:=ae λW=>Og W n
 go_enter func13,ntmps13;exact BG
theorem aza(w:World)(n:Int):Calls prog 12 #[.pointer none,.int .i64 n] w λe w'=>e=.returned (.int .i64 1)/\w'=w:=by
 have C1:=ae λW=>Og W n
 go_enter func12,ntmps12;exact BG
theorem ayr(w:World)(n k:Int):Calls prog 11 #[.pointer none,.int .i64 n,.int .i64 k] w λe w'=>e=.returned (.int .i64 1)/\w'=w:=by
 have C1:=ae λW=>Og W n
 go_enter func11,ntmps11;exact BG
theorem av5(w:World)(n:Int):Calls prog 20 #[.pointer none,.int .i64 n] w λe w'=>e=.returned (.int .i64 1)/\w'=w:=by
 have C1:=ae λW=>Og W n
 go_enter func20,ntmps20;exact BG
theorem axv(w:World)(n:Int):Calls prog 25 #[.pointer none,.int .i64 n] w λe w'=>e=.returned (.int .i64 0)/\w'=w:=by
 have C1:=ae λW=>Xu W n
 go_enter func25,ntmps25;exact BG
theorem aAB(w:World)(n:Int):Calls prog 26 #[.pointer none,.int .i64 n] w λe w'=>e=.returned (.slice none 0 0)/\w'=w:=by
 have C1:=ae λW=>Xu W n
 go_enter func26,ntmps26;exact BG
theorem LA(w:World)(n:Int):Calls prog 48 #[.pointer none,.int .i64 n] w λe w'=>e=.returned (.tuple #[.pointer none,.int .i64 1])/\w'=w:=by
 have C1:=ae λW=>Xu W n
 go_enter func48,ntmps48;exact aiV
theorem aiW(w:World)(n:Int)(a:aR):Calls prog 52 #[.pointer none,.int .i64 n,bU a] w λe w'=>e=.returned (.tuple #[.pointer none,.int .i64 1])/\K w w':=by
 have j:=ae λW=>LA W n
 have t:=λo=>(K.rf w).al o
 go_enter func52,ntmps52;go_wp2_with fail
 apply bF (j.aa _);rintro w' rfl;clear j;go_wp2;go_ret2;exact⟨rfl,t _⟩
theorem azb(w:World)(n:Int):Calls prog 15 #[.pointer none,.int .i64 n] w λe w'=>e=.returned (.tuple #[.slice none 0 0,.int .i64 1])/\w'=w:=by
 have C1:=ae λW=>LA W n
 go_enter func15,ntmps15;exact aiV
theorem ays(w:World)(n:Int):Calls prog 14 #[.pointer none,.int .i64 n] w λe w'=>e=.returned (.tuple #[bU (0,0,0),.int .i64 1])/\K w w':=by
 have y:=ae λW=>LA W n
 have j:=ah.new w 26 #[.int .i64 0,.int .u64 0,.int .u64 0];have u:=j.aS;go_enter func14,ntmps14;go_upto_region 1 with (fail);generalize w.alloc _=H at *;generalize A:w.heap.size=t at j⊢;have y5:=ae A;clear A;have F:=j.cell;have D:=j.frozen;go_wp2_with fail
 apply bF (y.aa _);rintro w' rfl;have B:=ae (And.intro j u);clear y j u;go_wp2;obtain⟨j,u⟩:=B.aa;have C:ah (World.setCell (World.setCell (World.setCell w' _ _) _ _) _ _) t 26 #[.int .i64 0,.int .u64 0,.int .u64 0]:=(((j).aM 0 (.int .i64 0)).aM 1 (.int .u64 0)).aM 2 (.int .u64 0);have E:=K.set (K.set (K.set (u) (r:=t) rG 0 (.int .i64 0)) (r:=t) rG 1 (.int .u64 0)) (r:=t) rG 2 (.int .u64 0);clear F D j;generalize World.setCell (World.setCell (World.setCell w' _ _) _ _) _ _=G at *;have e9:=C.cell;try rw[gq]
 refine bodyPost_ret (v:=.tuple #[bU (0,0,0),.int .i64 1]) Xj rfl ?_;exact⟨rfl,E⟩
theorem aAC(w:World)(n m:Int)(f:Value):Calls prog 32 #[.pointer none,.int .i64 n,.int .u64 m,f] w λe w'=>e=.returned (.tuple #[bU (0,0,0),.int .i64 1])/\K w w':=by
 have y:=ae λW=>LA W n
 have j:=ah.new w 26 #[.int .i64 0,.int .u64 0,.int .u64 0];have u:=j.aS;go_enter func32,ntmps32;go_upto_region 1 with (fail);generalize w.alloc _=H at *;generalize A:w.heap.size=t at j⊢;have y5:=ae A;clear A;have F:=j.cell;have D:=j.frozen;go_wp2_with fail
 apply bF (y.aa _);rintro w' rfl;have B:=ae (And.intro j u);clear y j u;go_wp2;obtain⟨j,u⟩:=B.aa;have C:ah (World.setCell (World.setCell (World.setCell w' _ _) _ _) _ _) t 26 #[.int .i64 0,.int .u64 0,.int .u64 0]:=(((j).aM 0 (.int .i64 0)).aM 1 (.int .u64 0)).aM 2 (.int .u64 0);have E:=K.set (K.set (K.set (u) (r:=t) rG 0 (.int .i64 0)) (r:=t) rG 1 (.int .u64 0)) (r:=t) rG 2 (.int .u64 0);clear F D j;generalize World.setCell (World.setCell (World.setCell w' _ _) _ _) _ _=G at *;have e9:=C.cell;try rw[gq]
 refine bodyPost_ret (v:=.tuple #[bU (0,0,0),.int .i64 1]) Xk rfl ?_;exact⟨rfl,E⟩
theorem ayt(w:World)(n m:Int):Calls prog 33 #[.pointer none,.int .i64 n,.int .u64 m] w λe w'=>e=.returned (.tuple #[bU (0,0,0),.int .i64 1])/\K w w':=by
 have y:=ae λW=>LA W n
 have j:=ah.new w 26 #[.int .i64 0,.int .u64 0,.int .u64 0];have u:=j.aS;go_enter func33,ntmps33;go_upto_region 1 with (fail);generalize w.alloc _=I at *;generalize A:w.heap.size=t at j⊢;have y5:=ae A;clear A;have G:=j.cell;have E:=j.frozen;go_wp2_with fail
 apply bF (y.aa _);rintro w' rfl;have B:=ae (And.intro j u);clear y j u;go_wp2;obtain⟨j,u⟩:=B.aa;have D:ah (World.setCell (World.setCell (World.setCell w' _ _) _ _) _ _) t 26 #[.int .i64 0,.int .u64 0,.int .u64 0]:=(((j).aM 0 (.int .i64 0)).aM 1 (.int .u64 0)).aM 2 (.int .u64 0);have F:=K.set (K.set (K.set (u) (r:=t) rG 0 (.int .i64 0)) (r:=t) rG 1 (.int .u64 0)) (r:=t) rG 2 (.int .u64 0);clear G E j;generalize World.setCell (World.setCell (World.setCell w' _ _) _ _) _ _=H at *;have C:=D.cell;try rw[gq]
 refine bodyPost_ret (v:=.tuple #[bU (0,0,0),.int .i64 1]) (by simp[results,results33,go_sem,C]) rfl ?_;exact⟨rfl,F⟩
theorem ajr(w:World)(n:Int):Calls prog 19 #[.pointer none,.int .i64 n] w λe w'=>e=.returned (.agg jq)/\K w w':=by
 have y:=ae λW=>Og W n
 have j:=ah.new w 46 jq;have u:=j.aS;go_enter func19,ntmps19;go_upto_region 1 with (fail);generalize w.alloc _=H at *;generalize A:w.heap.size=t at j⊢;have y5:=ae A;clear A;have F:=j.cell;have D:=j.frozen;go_wp2_with fail
 apply bF (y.aa _);rintro w' rfl;have B:=ae (And.intro j u);clear y j u;go_wp2;obtain⟨j,u⟩:=B.aa;have C:ah (World.setCell (World.setCell (World.setCell (World.setCell w' _ _) _ _) _ _) _ _) t 46 jq:=((((j).aM 0 (.int .u64 0)).aM 1 (.slice none 0 0)).aM 2 (.slice none 0 0)).aM 3 (.slice none 0 0);have E:=K.set (K.set (K.set (K.set (u) (r:=t) rG 0 (.int .u64 0)) (r:=t) rG 1 (.slice none 0 0)) (r:=t) rG 2 (.slice none 0 0)) (r:=t) rG 3 (.slice none 0 0);clear F D j;generalize World.setCell (World.setCell (World.setCell (World.setCell w' _ _) _ _) _ _) _ _=G at *;have e9:=C.cell;try rw[gq]
 refine bodyPost_ret (v:=.agg jq) Xq rfl ?_;exact⟨rfl,E⟩
theorem axw(w:World)(n:Int)(a:aR):Calls prog 16 #[.pointer none,.int .i64 n,bU a] w λe w'=>e=.returned (.tuple #[.int .i64 0,.int .i64 1])/\K w w':=by
 have j:=ae λW=>aiW W n a
 have u:=K.rf w;go_enter func16,ntmps16;go_wp2_with fail
 apply oX (j.aa _) (u.al _);rintro w'-t;clear j;go_wp2;go_ret2;exact⟨rfl,t⟩
theorem aiX(w:World)(n:Int)(a:aR)(f:Value):Calls prog 54 #[.pointer none,.int .i64 n,bU a,f] w λe w'=>e=.returned (.int .i64 1)/\K w w':=by
 have C1:=ae λW=>aiW W n a
 have j:=K.rf w;go_enter func54,ntmps54;go_wp2_with fail
 apply oX (C1.aa _) (j.al _);rintro w'-k1;exact Xt
theorem axx(w:World)(n:Int)(a:aR):Calls prog 17 #[.pointer none,.int .i64 n,bU a] w λe w'=>e=.returned (.int .i64 1)/\K w w':=by
 have C1:=ae λW=>λf=>aiX W n a f
 have kk:=K.rf w;go_enter func17,ntmps17;exact aiY
theorem ayu(w:World)(n:Int)(a:aR):Calls prog 38 #[.pointer none,.int .i64 n,bU a] w λe w'=>e=.returned (.int .i64 1)/\K w w':=by
 have C1:=ae λW=>λf=>aiX W n a f
 have kk:=K.rf w;go_enter func38,ntmps38;exact aiY
theorem av6(w:World)(n:Int)(a:aR):Calls prog 37 #[.pointer none,.int .i64 n,bU a,.slice none 0 0] w λe w'=>e=.returned (.int .i64 1)/\K w w':=by have j:=K.rf w;go_enter func37,ntmps37;go_wp2;go_ret;exact⟨rfl,(((j.al _).al _).al _).al _⟩
theorem ayv(w:World):Calls prog 31 #[.pointer none] w λe w'=>e=.returned (.tuple #[])/\K w w':=by have j:=K.new w (.cells #[.pointer none] 28);go_enter func31,ntmps31;go_wp2;exact bodyPost_ret (v:=.tuple #[]) (by simp[results,results31,go_sem]) rfl ⟨rfl,j⟩
theorem azc(w:World)(n:Int):Calls prog 24 #[.pointer none,.int .i64 n] w λe w'=>e=.returned (.int .i64 0)/\K w w':=by
 have j:=ae (ajr w n);have t:=ae λW=>ZUp W n
 have A:=Ue;go_enter func24,ntmps24;go_wp2_with fail
 apply bF j.aa;intro B u;have y:=ae u;clear u j;go_wp2_with fail
 apply bF (t.aa _);rintro w' rfl;clear t;go_wp2;go_ret;exact⟨rfl,y.aa⟩
theorem aoq(C B:Value)(w:World)(Q:ai7 w C)(R:ajx w B) :
 Calls prog 7 #[C,B] w λe w'=>e=.returned (.bool true)/\Below w.heap.size w w':=by
 obtain⟨n,rfl,-,-⟩:=Q
 obtain⟨a,rfl,-⟩:=R
 have hb:=ah.new w 26 (df a)
 have J:=hb.aS
 go_enter func7,ntmps7
 go_upto_region 1 with (fail)
 generalize w.alloc _=X at *
 generalize w.heap.size=g at hb⊢
 have j:=ae (abx X)
 have D:=ae (And.intro hb J)
 clear hb J
 go_wp2_with fail
 apply bF j.aa
 intro S F
 replace D:=ae (And.intro (D.aa.1.av F) (D.aa.2.tr F))
 clear j F
 have j:=ae (ayv S)
 go_wp2_with fail
 apply bF j.aa
 intro V t
 replace D:=ae (And.intro (D.aa.1.av t) (D.aa.2.tr t))
 clear j t
 have j:=ae (ays V n)
 go_wp2_with fail
 apply bF j.aa
 intro H t
 replace D:=ae (And.intro (D.aa.1.av t) (D.aa.2.tr t))
 clear j t
 go_upto_region 7 with (fail)
 have t:=K.new H (.cells #[.int .i64 0,.int .u64 0,.int .u64 0] 26)
 replace D:=ae (And.intro (D.aa.1.av t) (D.aa.2.tr t))
 clear t
 generalize H.alloc _=O at *
 generalize H.heap.size=x5 at *
 have j:=ae (aAC O n 0 (.slice none 0 0))
 go_wp2_with fail
 apply bF j.aa
 intro G t
 replace D:=ae (And.intro (D.aa.1.av t) (D.aa.2.tr t))
 clear j t
 go_upto_region 8 with (fail)
 have t:=K.new G (.cells #[.int .i64 0,.int .u64 0,.int .u64 0] 26)
 replace D:=ae (And.intro (D.aa.1.av t) (D.aa.2.tr t))
 clear t
 generalize G.alloc _=T at *
 generalize G.heap.size=x7 at *
 have j:=ae (ayt T n 0)
 go_wp2_with fail
 apply bF j.aa
 intro I t
 replace D:=ae (And.intro (D.aa.1.av t) (D.aa.2.tr t))
 clear j t
 go_upto_region 9 with (fail)
 have t:=K.new I (.cells #[.int .i64 0,.int .u64 0,.int .u64 0] 26)
 replace D:=ae (And.intro (D.aa.1.av t) (D.aa.2.tr t))
 clear t
 generalize I.alloc _=U at *
 generalize I.heap.size=x9 at *
 have q:=D.aa.1.cell
 have j:=ae (axw U n a)
 go_wp2_with fail
 apply bF j.aa
 intro L t
 replace D:=ae (And.intro (D.aa.1.av t) (D.aa.2.tr t))
 clear j t
 clear q
 have j:=ae (azb L n)
 go_wp2_with fail
 apply bF j.aa
 intro w' u
 obtain rfl:=u.symm
 clear j
 have j:=ae (ajr L n)
 go_wp2_with fail
 apply bF j.aa
 intro A t
 replace D:=ae (And.intro (D.aa.1.av t) (D.aa.2.tr t))
 clear j t
 go_upto_region 12 with (fail)
 have t:=K.new A (.cells jq 46)
 have N:=ah.new A 46 jq
 replace D:=ae (And.intro (D.aa.1.av t) (D.aa.2.tr t))
 clear t
 generalize A.alloc _=Z at *
 generalize A.heap.size=x12 at *
 have E:=ae N
 clear N
 have j:=ae λW=>aza W n
 go_wp2_with fail
 apply bF (j.aa _)
 rintro w' u
 subst u
 clear j
 have j:=ae λW=>av4 W n n
 go_wp2_with fail
 apply bF (j.aa _)
 rintro w' u
 subst u
 clear j
 have j:=ae λW=>ay8 W n n
 go_wp2_with fail
 apply bF (j.aa _)
 rintro w' u
 subst u
 clear j
 have j:=ae λW=>ayq W n n
 go_wp2_with fail
 apply bF (j.aa _)
 rintro w' u
 subst u
 clear j
 have j:=ae λW=>ay9 W n n
 go_wp2_with fail
 apply bF (j.aa _)
 rintro w' u
 subst u
 clear j
 have j:=ae λW=>ayr W n n
 go_wp2_with fail
 apply bF (j.aa _)
 rintro w' u
 subst u
 clear j
 have j:=ae λW=>av5 W n
 go_wp2_with fail
 apply bF (j.aa _)
 rintro w' u
 subst u
 clear j
 have q:=D.aa.1.cell
 have j:=ae (av6 w' n a)
 go_wp2_with fail
 apply bF j.aa
 intro C t
 replace E:=ae (E.aa.av t)
 replace D:=ae (And.intro (D.aa.1.av t) (D.aa.2.tr t))
 clear j t q
 have q:=D.aa.1.cell
 have j:=ae (axx C n a)
 go_wp2_with fail
 apply bF j.aa
 intro B t
 replace E:=ae (E.aa.av t)
 replace D:=ae (And.intro (D.aa.1.av t) (D.aa.2.tr t))
 clear j t q
 have q:=D.aa.1.cell
 have j:=ae (ayu B n a)
 go_wp2_with fail
 apply bF j.aa
 intro Y t
 replace E:=ae (E.aa.av t)
 replace D:=ae (And.intro (D.aa.1.av t) (D.aa.2.tr t))
 clear j t q
 have j:=ae λW=>axv W n
 go_wp2_with fail
 apply bF (j.aa _)
 rintro M u
 subst u
 clear j
 have j:=ae λW=>aAB W n
 go_wp2_with fail
 apply bF (j.aa _)
 rintro M u
 subst u
 clear j
 have q:=E.aa.cell
 have j:=ae (azc M n)
 go_wp2_with fail
 apply bF j.aa
 intro y t
 replace D:=ae (D.aa.2.tr t)
 clear j t q E
 have j:=ae λW=>ZUp W n
 go_wp2_with fail
 apply bF (j.aa _)
 rintro w8' u
 subst u
 go_wp2
 go_ret
 exact⟨rfl,D.aa⟩
