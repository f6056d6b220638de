/-
  The walk of fold.copied (layer 16): a state in memory of its own. Conditions: lists of at most a million.
-/
import Derived.Test.YtagfakjifhdpgaaGreatMa12
set_option maxRecDepth 100000
set_option maxHeartbeats 16000000
set_option linter.unusedVariables false
set_option linter.unusedSimpArgs false
namespace Go.Proofs.YtagfakjifhdpgaaGreat
open Go Go.RowKit
theorem UpN.k {X:Nat->Prop} {a w w':World} (u:UpN X w w') (h:K a w) (hX:∀ k,X k->a.heap.size<=k):K a w' :=
 ⟨u.os.trans h.os,u.tape.trans h.tape,u.output.trans h.output,Nat.le_trans h.size u.size,fun i hi=>(u.block i (Nat.lt_of_lt_of_le hi h.size) (fun e=>by have:=hX i e;omega)).trans (h.block i hi)⟩
theorem ids_reads {l:List Idn} {A:Option Addr} {w:World} (h:lsr idS l A w):Reads w w.heap.size 3 A l.length (l.flatMap idc):=by
 obtain⟨css,hE,hr⟩:=h
 have:css=l.map idc:=by
  refine List.ext_getElem (by simpa using hE.1) fun i h1 h2=>?_
  rw[List.getElem_map]
  exact hE.2 i (by simpa using h2) h1
 rw[this,flat_ids] at hr
 exact hr
theorem ids_one (l:List Idn):∀ u∈l.flatMap idc,u.oneCell'=true:=by
 intro u hu
 obtain⟨a,-,ha⟩:=List.mem_flatMap.1 hu
 simp at ha
 rcases ha with rfl|rfl|rfl <;> rfl
structure StoR (base:Nat) (s:Stt) (vl vp va:Value) (c1 c2:List (List Value)) (W:World):Prop where
 l:W.ownsRow base 42 8 vl s.list.length c1.flatten
 p:W.ownsRow base 42 8 vp s.prom.length c2.flatten
 a:W.ownsRow base 35 3 va s.ab.length (s.ab.flatMap idc)
 ne:∀ b,vl.ownBlock=some b->vp.ownBlock≠some b
 len1:c1.length=s.list.length
 len2:c2.length=s.prom.length
 el:∀ W',UpN (fun k=>k<base∨vl.ownBlock=some k∨vp.ownBlock=some k∨va.ownBlock=some k) W W'->Each enS s.list c1 W'/\Each enS s.prom c2 W'
theorem StoV.r {base g:Nat} {s:Stt} {vl vp va:Value} {c1 c2:List (List Value)} {W:World} (h:StoV base g s vl vp va c1 c2 W):StoR base s vl vp va c1 c2 W :=
 ⟨h.l,h.p,h.a,h.ne,h.len1,h.len2,fun W' u=>h.el W' (u.more fun k e=>by
  rcases e with e|e|e|e
  · exact .inl e
  · exact .inr (.inr (.inl e))
  · exact .inr (.inr (.inr (.inl e)))
  · exact .inr (.inr (.inr (.inr e))))⟩
theorem StoR.low {base:Nat} {s:Stt} {vl vp va:Value} {c1 c2:List (List Value)} {W W':World} (h:StoR base s vl vp va c1 c2 W) (u:UpN (fun k=>k<base) W W'):StoR base s vl vp va c1 c2 W':=by
 have hl:=fun b e=>(h.l.lt b e).1
 have hp:=fun b e=>(h.p.lt b e).1
 have ha:=fun b e=>(h.a.lt b e).1
 exact⟨row_upn h.l u fun b e=>by have:=hl b e;omega,row_upn h.p u fun b e=>by have:=hp b e;omega,row_upn h.a u fun b e=>by have:=ha b e;omega,h.ne,h.len1,h.len2,fun W'' u'=>h.el W'' ((u.more fun k e=>.inl e).tr u')⟩
theorem StoR.v {base:Nat} {s:Stt} {vl vp va:Value} {c1 c2:List (List Value)} {W:World} (h:StoR base s vl vp va c1 c2 W) (hb:base<=W.heap.size) :
 StoV base W.heap.size s vl vp va c1 c2 (W.alloc (.cells (stA s vl vp va) 53)):=by
 have k:K W (W.alloc (.cells (stA s vl vp va) 53)):=(K.rf W).al _
 refine⟨Blk.new _ _ _,hb,row_below h.l k,row_below h.p k,row_below h.a k,h.ne,h.len1,h.len2,fun W'' u'=>h.el W'' ⟨u'.os.trans k.os,u'.tape.trans k.tape,u'.output.trans k.output,Nat.le_trans k.size u'.size,fun i hi hx=>(u'.block i (Nat.lt_of_lt_of_le hi k.size) fun e=>?_).trans (k.block i hi)⟩⟩
 rcases e with e|e|e
 · exact hx (.inl e)
 · omega
 · exact hx (.inr e)
abbrev zSt:Array Value:=#[.int .u64 0,.slice none 0 0,.slice none 0 0,.slice none 0 0]
theorem StoV.empty {base g n:Nat} {l:List Idn} {va:Value} {W:World} (hb:Blk W g 53 (stA ⟨n,[],[],l⟩ (.slice none 0 0) (.slice none 0 0) va)) (hg:base<=g) (ha:W.ownsRow base 35 3 va l.length (l.flatMap idc)) :
 StoV base g ⟨n,[],[],l⟩ (.slice none 0 0) (.slice none 0 0) va [] [] W :=
 ⟨hb,hg,World.ownsRow_nil _ _ _ _,World.ownsRow_nil _ _ _ _,ha,fun b h=>by simp[Value.ownBlock] at h,rfl,rfl,fun _ _=>⟨Each.nil _ _,Each.nil _ _⟩⟩
def newS (base:Nat) (v:Value) (W:World):Prop:=∃ b,v=.pointer (some ⟨b,0,none⟩)/\base<=b/\Blk W b 53 zSt
theorem newS_st (base:Nat):∀ v w w',newS base v w->Below w.heap.size w w'->newS base v w':=by
 rintro v w w' ⟨b,e,h1,h2⟩ k
 exact⟨b,e,h1,h2.below k h2.lt⟩
def rowI (base:Nat) (l:List Idn) (v:Value) (W:World):Prop:=W.ownsRow base 35 3 v l.length (l.flatMap idc)
theorem rowI_st (base:Nat) (l:List Idn):∀ v w w',rowI base l v w->Below w.heap.size w w'->rowI base l v w':=fun _ _ _ h k=>row_below h k
def bldS (base n:Nat) (l:List Idn) (v:Value) (W:World):Prop:=∃ va,v=.agg #[.int .u64 (n:Int),.slice none 0 0,.slice none 0 0,va]/\rowI base l va W
theorem bldS_st (base n:Nat) (l:List Idn):∀ v w w',bldS base n l v w->Below w.heap.size w w'->bldS base n l v w':=by
 rintro v w w' ⟨va,e,h⟩ k
 exact⟨va,e,rowI_st _ _ _ _ _ h k⟩
theorem rowI_slice {base:Nat} {l:List Idn} {v:Value} {W:World} (h:rowI base l v W):∃ A c,v=.slice A l.length c:=by
 rcases h.2 with ⟨h,h0⟩|⟨g,cap,cur,h,_⟩
 · exact⟨_,_,by rw[h,h0]⟩
 · exact⟨_,_,h⟩
theorem StoV.slices {base g:Nat} {s:Stt} {vl vp va:Value} {c1 c2:List (List Value)} {W:World} (h:StoV base g s vl vp va c1 c2 W):(∃ A c,vl=.slice A s.list.length c)/\(∃ A c,vp=.slice A s.prom.length c)/\∃ A c,va=.slice A s.ab.length c:=by
 obtain⟨vl',vp',va',e,h1,h2,h3⟩:=h.stv
 simp at e
 obtain⟨rfl,rfl,rfl⟩:=e
 exact⟨lst_slice h1,lst_slice h2,lst_slice h3⟩
theorem exec_storeF {P:Program} {ρ:Operand->Value} {w:World} (s x:Operand) (T ty t:TypeId) (g o:Nat) (cur cells:Array Value) (hs:ρ s=.pointer (some ⟨g,o,none⟩)) (hx:ρ x=.agg cells) (hb:Blk w g t cur)
 (hi:(P.info? T).map (·.size)=some cells.size) (hl:o+cells.size<=cur.size) (h1:∀ u∈cells.toList,u.oneCell'=true) :
 ∃ w',(execOp ρ (bareOp (.store T s x) ty)).run P w=.ok .skip w'/\Blk w' g t (cur.toList.take o++cells.toList++cur.toList.drop (o+cells.size)).toArray/\w.grownBy w' (some g):=by
 have hst:=run_storeCells_at P g o t cells.toList 0 cur w hb (by simpa using hl) h1
 simp only[Nat.add_zero,Array.length_toList] at hst
 refine⟨_,?_,setRow_heap w g cur _ t _ hb,⟨rfl,rfl,rfl,by simp,fun k hk hne=>setRow_other w g k _ (fun e=>hne (by simp[e]))⟩⟩
 cases hq:P.info? T with
 | none=>simp[hq] at hi
 | some i =>
   have hz:cells.size=i.size:=by simp[hq] at hi;omega
   simp[execOp,bareOp,hs,hx,Instr.storeAt,Instr.sureAddr,storeVar,sizeOf,typeInfo,hq,Value.cells,hz]
   rw[<- hz,hst]
   simp[Result.andThen]
theorem Copied_calls (s:Stt) (v:Value) (w:World) (h:stv s v w) (hsm:∀ x∈s.list,smallEn x) (hsp:∀ x∈s.prom,smallEn x) (hz:s.list.length<=900000/\s.prom.length<=900000/\s.ab.length<=900000) :
 Calls Tryz.prog 244 #[v] w fun e w'=>∃ B vl vp va c1 c2,e=.returned (.agg (stA s vl vp va))/\w.heap.size<=B/\B<=w'.heap.size/\StoR B s vl vp va c1 c2 w'/\K w w':=by
 obtain⟨vl,vp,va,rfl,hl,hp,ha⟩:=h
 obtain⟨Al,cl,rfl,hl,-⟩:=hl
 obtain⟨Ap,cp,rfl,hp,-⟩:=hp
 obtain⟨Aa,ca,rfl,ha,-⟩:=ha
 have hx0:=(Blk.new w 53 (stA s (.slice Al s.list.length cl) (.slice Ap s.prom.length cp) (.slice Aa s.ab.length ca))).alloc (.cells zSt 53)
 have hr0:=Blk.new (w.alloc (.cells (stA s (.slice Al s.list.length cl) (.slice Ap s.prom.length cp) (.slice Aa s.ab.length ca)) 53)) 53 zSt
 have k0:K w ((w.alloc (.cells (stA s (.slice Al s.list.length cl) (.slice Ap s.prom.length cp) (.slice Aa s.ab.length ca)) 53)).alloc (.cells zSt 53)):=((K.rf w).al _).al _
 rw[World.size_alloc] at hr0
 have hsm:=Lib.hid hsm
 have hsp:=Lib.hid hsp
 have HA:=Lib.hid (ids_reads ha)
 have HL:=Lib.hid hl
 have HP:=Lib.hid hp
 clear ha hl hp
 go_enter Tryz.func244,Tryz.ntmps244
 go_upto_region 1 with (fail)
 generalize World.alloc (World.alloc w _) _=w0 at *
 generalize hgp:w.heap.size=gp at hx0 hr0 ⊢
 obtain⟨base,hbase⟩:∃ b,b=w0.heap.size:=⟨_,rfl⟩
 have hgp2:gp+1<base:=by rw[hbase];exact hr0.lt
 obtain⟨C,hC⟩:∃ C:World->Prop,C=fun W=>K w0 W:=⟨_,rfl⟩
 have hg:∀ W W',C W->Below W.heap.size W W'->C W':=by
  subst hC
  intro W W' h hb
  exact h.tr hb
 have hc0:C w0:=by rw[hC];exact K.rf _
 obtain⟨F,hF⟩:∃ F:(Nat->Bool)->(Nat->Value)->World->Prop,F=fun _ V W=>K w0 W/\∃ g va,V 6=.pointer (some ⟨g,0,none⟩)/\StoV base g ⟨s.life,[],[],s.ab⟩ (.slice none 0 0) (.slice none 0 0) va [] [] W:=⟨_,rfl⟩
 refine wp_region_turn4 4 7 [0,1,2,3,4,5,6] [] C (fun _=>True) (fun _=>True) (fun W W'=>K W W') F [isV (.pointer (some ⟨gp,0,none⟩)),
  isV (.int .u64 (s.life:Int)),
  isV (.pointer (some ⟨gp,3,none⟩)),
  isV (.slice Aa s.ab.length ca),
  rowI base s.ab,
  bldS base s.life s.ab,
  newS base,
  anyV]
  [([],[]),([0],[(8,0)]),([],[]),([2],[(10,2)]),([3],[(11,3)]),([1,4],[(9,1),(12,4)]),([],[]),([6,5],[(3,6),(13,5)])] 45 rfl (by kernel_rfl) (by kernel_rfl) (by kernel_rfl) (by decide) (by decide) (by decide) (by kernel_rfl) (by kernel_rfl) hg (fun _ _ h _=>h) (fun _ _ h _=>h) (by exact hg _ _ hc0 (Below.drew (Below.refl _ _))) trivial ?st1 ?stt1 ?ow1 ?_
 case st1 =>
  simp only[List.forall_mem_cons]
  and_intros
  all_goals first|exact isV_st _|exact anyV_st|exact rowI_st _ _|exact bldS_st _ _ _|exact newS_st _|simp
 case stt1 =>
  simp only[List.zipIdx_cons,List.zipIdx_nil,List.forall_mem_cons,Nat.zero_add,Nat.reduceAdd]
  and_intros
  all_goals first|exact .inl rfl|exact .inr (fun _ _ _ h _=>h)|exact .inr (newS_st _)|simp
 case ow1 =>
  simp only[OwedU,OwedT,List.contains_cons,List.contains_nil,Nat.reduceBEq,Bool.or_false,Bool.or_true,Bool.false_eq_true,if_true,if_false,Nat.reduceEqDiff,Nat.reduceAdd,and_true,true_and]
  and_intros
  all_goals try trivial
  all_goals
   first
   | (intro V w' hc hp
      rw[hC] at hc
      have q:=(hx0.below hc hx0.lt).cell
      try simp only[List.forall_mem_cons,tab_zero,tab_succ,isV] at hp
      try (simp[wantsG,rhoP,List.lookup,hp,tab_zero,tab_succ,ResG,execOp,bareOp,isV,undef,Below.refl,q,go_sem];done))
   | skip
  · intro hp2
    simp only[List.forall_mem_cons,tab_zero,tab_succ,isV] at hp2
    obtain⟨h3,-⟩:=hp2
    have hrd:=HA.out.below (k0.tr hc) (Nat.le_refl _)
    obtain⟨v',w'',hrun,h2,h4,-,-⟩:=run_app (P:=Tryz.prog) w' base 51 51 35 _ 3 24 TId (.slice none 0 0) 0 [] (World.ownsRow_nil _ _ _ _) _ Aa s.ab.length ca _ hrd (ids_one _) (by omega) (by rw[hbase];exact hc.size)
    have k':K w' w'':=⟨h4.os,h4.tape,h4.output,h4.size,fun i hi=>h4.block i hi (by simp[Value.ownBlock])⟩
    generalize hA:rhoP [(11,3)] _ V=ρ9
    have ex:ρ9 (.tmp 11)=.slice Aa s.ab.length ca:=by rw[<- hA];exact h3
    have en:ρ9 (.const (.slice none 0 0))=.slice none 0 0:=by rw[<- hA];rfl
    have hr9:(execOp ρ9 (bareOp (.call { callee:=.builtin .append,args:=#[.const (.slice none 0 0),.tmp 11],argTypes:=#[51,51] }) 51)).run Tryz.prog w'=.ok (.value v') w'':=by
     simp only[execOp,bareOp,resolve,invoke,builtin,Sem.run_bind,Sem.run_pure,Result.andThen_ok,List.map_toArray,List.map_cons,List.map_nil,ex,en,hrun]
    rw[hr9]
    exact⟨show rowI base s.ab v' w'' by simpa [rowI] using h2,by rw[hC];exact hc.tr k',trivial,k'⟩
  · obtain⟨h1,h4,-⟩:=hp
    obtain⟨A4,c4,e4⟩:=rowI_slice h4
    simp[h1,e4,wantsG,rhoP,List.lookup,tab_zero,tab_succ,ResG,execOp,bareOp,undef,Below.refl,go_sem]
    exact⟨_,rfl,by rw[<- e4];exact h4⟩
  · simp[wantsG,tab_zero,tab_succ,ResG,execOp,bareOp,go_sem]
    exact⟨⟨w'.heap.size,rfl,by rw[hbase];exact hc.size,Blk.new _ _ _⟩,(K.rf w').al _⟩
  · intro L V w' hal hc _ hp
    have f5:=hp 5 (hal 5 (by simp))
    have f6:=hp 6 (hal 6 (by simp))
    simp only[tab_zero,tab_succ] at f5 f6
    obtain⟨va9,e5,hr5⟩:=f5
    obtain⟨b,e6,hbb,hblk⟩:=f6
    rw[hC] at hc
    obtain⟨A9,c9,rfl⟩:=rowI_slice hr5
    generalize hA:rhoP [(3,6),(13,5)] _ V=ρ9
    have es:ρ9 (.tmp 3)=.pointer (some ⟨b,0,none⟩):=by rw[<- hA];exact e6
    have ex:ρ9 (.tmp 13)=.agg #[.int .u64 (s.life:Int),.slice none 0 0,.slice none 0 0,.slice A9 s.ab.length c9]:=by rw[<- hA];exact e5
    obtain⟨w'',hrun,hb2,hg2⟩:=exec_storeF (P:=Tryz.prog) (ρ:=ρ9) (.tmp 3) (.tmp 13) 53 0 53 b 0 zSt _ es ex hblk (by kernel_rfl) (by simp) (by simp[Value.oneCell'])
    rw[hrun]
    have u9:UpN (fun k=>k=b) w' w'':=UpN.of_mut hg2 (fun k e=>by injection e with e;exact e.symm)
    show F _ _ w''
    rw[hF]
    exact⟨u9.k hc (fun k e=>by rw[e,<- hbase];exact hbb),b,_,by simp[updV,e6],StoV.empty hb2 hbb (row_upn hr5 u9 fun b' e e'=>by obtain⟨cur,h1⟩:=row_blk hr5 e;rw[e'] at h1;exact absurd (h1.unlike hblk) (by decide))⟩
 intro V W hFW
 rw[hF] at hFW
 obtain⟨kk,g,va0,e6,hS0⟩:=hFW
 have HS0:=Lib.hid (show Sto base g ⟨s.life,[],[],s.ab⟩ W from ⟨_,_,_,_,_,hS0⟩)
 simp only[putAll,Act.put,List.setIfInBounds_toArray,List.set_cons_succ,List.set_cons_zero,e6]
 clear hF hC hg hc0 e6
 have qp1:=hx0.cells
 go_wp2_with fail
 go_loopw [5,17] (fun _ i W=>∃ j:Nat,j<=s.list.length/\i=.int .i64 (j:Int)/\Hid (Sto base g ⟨s.life,s.list.take j,[],s.ab⟩ W)/\K w0 W) (fun _ i _=>s.list.length - (intOf i).toNat)
 case atStart=>exact⟨0,by omega,rfl,Lib.hid (by simpa using HS0.out),kk⟩
 case round =>
  clear kk HS0
  obtain⟨j,hj,rfl,HSj,kr⟩:=hrel
  by_cases hlt:j<s.list.length
  · have hji:(j:Int)<(s.list.length:Int):=by omega
    obtain⟨b1,off,cs,rfl,hcl,hrl,d0,d⟩:=lsr_cells HL.out j hlt (by decide)
    have HT:Hid (s.list.take (j+1)=s.list.take j++[s.list[j]]):=Lib.hid (by rw[List.take_succ_eq_append_getElem hlt])
    have hxs:=hsm.out _ (List.getElem_mem hlt)
    generalize s.list[j]=x at *
    obtain⟨vf,ve,rfl,hf,he⟩:=hrl w (K.rf w)
    have HEN:Hid (∀ W,K w W->ent x (.agg (entA x vf ve)) W):=Lib.hid fun W k=>by
     obtain⟨vf',ve',e,h1,h2⟩:=hrl W k
     simp at e
     obtain⟨rfl,rfl⟩:=e
     exact⟨_,_,rfl,h1,h2⟩
    have kwr:=k0.tr kr
    have d0:wr.cell? ⟨b1,off+j * 8,none⟩=some (.int .i64 x.kind):=d0 wr kwr
    have d:∀ i,i<8->wr.cell? ⟨b1,off+j * 8+i,none⟩=(entA x vf ve)[i]?:=fun i hi=>(d wr kwr i hi).trans Array.getElem?_toList
    obtain⟨Af,cf,rfl⟩:=flt_slice hf
    obtain⟨Ae,ce,rfl⟩:=lst_slice he
    have he5:=Blk.new wr 42 (entA x (.slice Af x.f.length cf) (.slice Ae x.es.length ce))
    have k5:K wr (wr.alloc (.cells (entA x (.slice Af x.f.length cf) (.slice Ae x.es.length ce)) 42)):=(K.rf wr).al _
    clear hrl hcl hf he
    go_upto_region 5 with (fail)
    clear d d0
    obtain⟨sj,hsj⟩:∃ sj:Stt,sj=⟨s.life,s.list.take j,[],s.ab⟩:=⟨_,rfl⟩
    rw[<- hsj] at HSj
    obtain⟨vl,vp,va,c1,c2,hSj⟩:=HSj.out
    have hne:vl.ownBlock≠some wr.heap.size:=fun e=>by have:=(hSj.rowl e).2.1;omega
    have HS:=Lib.hid (hSj.st k5)
    generalize wr.alloc _=w5 at *
    generalize wr.heap.size=ge at he5 hne ⊢
    replace kr:=kr.tr k5
    have kw5:=k0.tr kr
    have hlsz:sj.list.length<=900000/\sj.prom.length<=900000:=by rw[hsj];simp;omega
    have hbz:base<=w5.heap.size:=by rw[hbase];exact kr.size
    have hxe:Hid (∀ W',UpN (fun k=>vl.ownBlock=some k) w5 W'->ent x (.agg (entA x (.slice Af x.f.length cf) (.slice Ae x.es.length ce))) W'):=Lib.hid fun W' u=>HEN.out W' (u.k kw5 (fun k e=>by have:=(HS.out.rowl e).1;have:=k0.size;omega))
    clear hSj HSj HEN k5
    obtain⟨C,hC⟩:∃ C:World->Prop,C=fun W=>UpB 0 vl.ownBlock w5 W:=⟨_,rfl⟩
    have hg:∀ W W',C W->Below W.heap.size W W'->C W':=by
     subst hC
     intro W W' h hb
     exact h.tr (UpB.of_k hb _ _)
    have hc0:C w5:=by rw[hC];exact UpB.rf _ _ _
    obtain⟨F,hF⟩:∃ F:World->Prop,F=fun W=>Sto base g ⟨sj.life,sj.list++[x],sj.prom,sj.ab⟩ W/\Below base w5 W/\UpN (fun k=>vl.ownBlock=some k∨k=g) w5 W:=⟨_,rfl⟩
    have hrow:∀ b,vl.ownBlock=some b->b<w5.heap.size:=fun b hb=>(HS.out.rowl hb).2.1
    refine wp_region_turn3 5 7 C (fun W=>W.ownsRow base 42 8 vl sj.list.length c1.flatten) (fun _=>True) (fun W W'=>W.grownBy W' vl.ownBlock) F [isV (.pointer (some ⟨g,1,none⟩)),
     isV (vl),
     isV (.agg (entA x (.slice Af x.f.length cf) (.slice Ae x.es.length ce))),
     elF enS w5.heap.size x,
     rowS enS w5.heap.size 42 x,
     appS enS base w5.heap.size 42 vl.ownBlock sj.list.length c1.flatten x,
     isV (.pointer (some ⟨g,1,none⟩)),
     anyV]
     [([],[]),([0],[(21,0)]),([],[]),([2],[(23,2)]),([3],[(24,3)]),([1,4],[(22,1),(25,4)]),([],[]),([6,5],[(27,6),(26,5)])] 45 rfl (by kernel_rfl) (by kernel_rfl) (by kernel_rfl) (by decide) (by decide) (by decide) (by kernel_rfl) hg (fun W W' h k=>row_below h k) (fun _ _ h _=>h) (by exact hg _ _ hc0 (Below.drew (Below.refl _ _))) (row_below HS.out.l (Below.drew (Below.refl _ _))) ?st5 ?stt5 ?ow5 ?_
    case st5 =>
     simp only[List.forall_mem_cons]
     and_intros
     all_goals first|exact isV_st _|exact anyV_st|exact elF_st _ _|exact rowS_st _ _ _|exact appS_st _ _ _ _ _ _ _|simp
    case stt5 =>
     simp only[List.zipIdx_cons,List.zipIdx_nil,List.forall_mem_cons,Nat.zero_add,Nat.reduceAdd]
     and_intros
     all_goals first|exact .inl rfl|exact .inr (fun _ _ _ h _=>h)|exact .inr (elF_row hrow)|exact .inr (rowS_row hrow)|simp
    case ow5 =>
     simp only[OwedY,OwedT]
     and_intros
     all_goals try trivial
     all_goals
      simp only[Nat.reduceEqDiff,if_false,Nat.reduceAdd]
     all_goals
      first
      | (intro V w' hc hD hp
         simp only[List.forall_mem_cons,tab_zero,tab_succ,isV] at hp
         rw[hC] at hc)
      | (intro V w' hc hp
         rw[hC] at hc
         have qg:=(HS.out.blk.upB hc (fun e=>(HS.out.rowl e).2.2.1 rfl)).cell
         have qe:=(he5.upB hc (fun e=>hne e)).cell
         try simp only[List.forall_mem_cons,tab_zero,tab_succ,isV] at hp
         try (simp[wantsG,rhoP,List.lookup,hp,tab_zero,tab_succ,ResG,execOp,bareOp,isV,undef,Below.refl,qg,qe,go_sem];done))
      | skip
     · simp only[if_pos (show wantsG V none=true from rfl)]
       simp[rhoP,List.lookup,hp,tab_zero,tab_succ,ResG,execOp,bareOp,go_sem]
       refine (Whole_calls x _ w' (hxe.out w' (hc.upN (fun k hk=>hk.elim (fun h=>by omega) (fun h=>h.symm)))) hxs).mono ?_
       rintro e w2 ⟨v,rfl,ho,hb⟩
       exact⟨v,rfl,elF_of_entO (by have:=hc.size;omega) ho,hb⟩
     · obtain⟨hp7,-⟩:=hp
       obtain⟨vf7,ve7,e7⟩:=elF_agg hp7
       have hF7:=hp7.2.2
       rw[e7] at hF7
       simp[e7,wantsG,rhoP,List.lookup,tab_zero,tab_succ,ResG,execOp,bareOp,undef,go_sem]
       exact⟨⟨w'.heap.size,_,rfl,by have:=hc.size;omega,Blk.new _ _ _,rfl,fun W' u=>hF7 W' ((UpB.of_k ((K.rf w').al _) _ _).tr u)⟩,(K.rf w').al _⟩
     · obtain⟨h1,h4,-⟩:=hp
       obtain⟨v',w'',hrun,h7,h5,h3⟩:=exec_appS (P:=Tryz.prog) (S:=enS) (ρ:=rhoP [(22,1),(25,4)] _ V) (.tmp 22) (.tmp 25) 32 32 42 base _ 96 sj.list.length c1.flatten TEn vl h1 hD w5.heap.size (by first|exact HS.out.2|omega) hrow (by have:=hc.size;omega) x _ rfl h4 (by omega)
       rw[hrun]
       refine⟨h7,?_,trivial,h3⟩
       rw[hC]
       exact hc.tr (UpB.of_mut h3 0)
     · obtain⟨h6,h9,-⟩:=hp
       have hb9:=HS.out.blk.upB hc (fun e=>(HS.out.rowl e).2.2.1 rfl)
       have z:=hb9.frozen
       have q:=hb9.cell
       have hpu:=HS.out.pushL (by omega) hc h9
       obtain⟨A9,n9,c9,e9⟩:=appS_slice h9
       generalize hA:rhoP [(27,6),(26,5)] _ V=ρ9
       have es4:ρ9 (.tmp 27)=.pointer (some ⟨g,1,none⟩):=by rw[<- hA];exact h6
       have ex4:ρ9 (.tmp 26)=V 5:=by rw[<- hA];rfl
       rw[e9] at ex4 hpu
       have hs7:(execOp ρ9 (bareOp (.store 32 (.tmp 27) (.tmp 26)) 0)).run Tryz.prog w'=.ok .skip (w'.setCell ⟨g,1,none⟩ (.slice A9 n9 c9)):=by
        simp[es4,ex4,execOp,bareOp,q,z,go_sem]
       rw[hs7]
       show F _
       rw[hF]
       exact⟨hpu,(below_upB hc (by omega) (fun b hb=>(HS.out.rowl hb).1)).setCell HS.out.low _,grow_upn hc (UpN.rf (fun _=>False) _) (fun k _ e=>e.elim (fun e=>.inr e) (fun e=>e.elim (fun e=>.inl e.symm) False.elim))⟩
    intro V W hFW
    rw[hF] at hFW
    obtain⟨HSF,kbF,unF⟩:=hFW
    have HSF:=Lib.hid HSF
    clear hC hg hc0 hF hrow
    simp only[putAll,Act.put,List.setIfInBounds_toArray,List.set_cons_succ,List.set_cons_zero]
    go_wp2
    go_roundw
    case rel=>exact⟨j+1,by omega,by go_num,Lib.hid (by rw[HT.out];have:=HSF.out;rw[hsj] at this;exact this),kr.trans (kbF.mono (by omega))⟩
    case measure=>simp[intOf];omega
  · have hji:¬ (j:Int)<(s.list.length:Int):=by omega
    rw[List.take_of_length_le (by omega)] at HSj
    have HS0:=HSj
    have kk:=kr
    clear HSj kr
    clear hj hlt
    generalize wr=wa at *
    go_wp2_with fail
    clear hji
    go_loopw [7,32] (fun _ i W=>∃ j:Nat,j<=s.prom.length/\i=.int .i64 (j:Int)/\Hid (Sto base g ⟨s.life,s.list,s.prom.take j,s.ab⟩ W)/\K w0 W) (fun _ i _=>s.prom.length - (intOf i).toNat)
    case atStart=>exact⟨0,by omega,rfl,Lib.hid (by simpa using HS0.out),kk⟩
    case round =>
     clear kk HS0
     obtain⟨j,hj,rfl,HSj,kr⟩:=hrel
     by_cases hlt:j<s.prom.length
     · have hji:(j:Int)<(s.prom.length:Int):=by omega
       obtain⟨b1,off,cs,rfl,hcl,hrl,d0,d⟩:=lsr_cells HP.out j hlt (by decide)
       have HT:Hid (s.prom.take (j+1)=s.prom.take j++[s.prom[j]]):=Lib.hid (by rw[List.take_succ_eq_append_getElem hlt])
       have hxs:=hsp.out _ (List.getElem_mem hlt)
       generalize s.prom[j]=x at *
       obtain⟨vf,ve,rfl,hf,he⟩:=hrl w (K.rf w)
       have HEN:Hid (∀ W,K w W->ent x (.agg (entA x vf ve)) W):=Lib.hid fun W k=>by
        obtain⟨vf',ve',e,h1,h2⟩:=hrl W k
        simp at e
        obtain⟨rfl,rfl⟩:=e
        exact⟨_,_,rfl,h1,h2⟩
       have kwr:=k0.tr kr
       have d0:wr.cell? ⟨b1,off+j * 8,none⟩=some (.int .i64 x.kind):=d0 wr kwr
       have d:∀ i,i<8->wr.cell? ⟨b1,off+j * 8+i,none⟩=(entA x vf ve)[i]?:=fun i hi=>(d wr kwr i hi).trans Array.getElem?_toList
       obtain⟨Af,cf,rfl⟩:=flt_slice hf
       obtain⟨Ae,ce,rfl⟩:=lst_slice he
       have he5:=Blk.new wr 42 (entA x (.slice Af x.f.length cf) (.slice Ae x.es.length ce))
       have k5:K wr (wr.alloc (.cells (entA x (.slice Af x.f.length cf) (.slice Ae x.es.length ce)) 42)):=(K.rf wr).al _
       clear hrl hcl hf he
       go_upto_region 10 with (fail)
       clear d d0
       obtain⟨sj,hsj⟩:∃ sj:Stt,sj=⟨s.life,s.list,s.prom.take j,s.ab⟩:=⟨_,rfl⟩
       rw[<- hsj] at HSj
       obtain⟨vl,vp,va,c1,c2,hSj⟩:=HSj.out
       have hne:vp.ownBlock≠some wr.heap.size:=fun e=>by have:=(hSj.rowp e).2.1;omega
       have HS:=Lib.hid (hSj.st k5)
       generalize wr.alloc _=w5 at *
       generalize wr.heap.size=ge at he5 hne ⊢
       replace kr:=kr.tr k5
       have kw5:=k0.tr kr
       have hlsz:sj.list.length<=900000/\sj.prom.length<=900000:=by rw[hsj];simp;omega
       have hbz:base<=w5.heap.size:=by rw[hbase];exact kr.size
       have hxe:Hid (∀ W',UpN (fun k=>vp.ownBlock=some k) w5 W'->ent x (.agg (entA x (.slice Af x.f.length cf) (.slice Ae x.es.length ce))) W'):=Lib.hid fun W' u=>HEN.out W' (u.k kw5 (fun k e=>by have:=(HS.out.rowp e).1;have:=k0.size;omega))
       clear hSj HSj HEN k5
       obtain⟨C,hC⟩:∃ C:World->Prop,C=fun W=>UpB 0 vp.ownBlock w5 W:=⟨_,rfl⟩
       have hg:∀ W W',C W->Below W.heap.size W W'->C W':=by
        subst hC
        intro W W' h hb
        exact h.tr (UpB.of_k hb _ _)
       have hc0:C w5:=by rw[hC];exact UpB.rf _ _ _
       obtain⟨F,hF⟩:∃ F:World->Prop,F=fun W=>Sto base g ⟨sj.life,sj.list,sj.prom++[x],sj.ab⟩ W/\Below base w5 W/\UpN (fun k=>vp.ownBlock=some k∨k=g) w5 W:=⟨_,rfl⟩
       have hrow:∀ b,vp.ownBlock=some b->b<w5.heap.size:=fun b hb=>(HS.out.rowp hb).2.1
       refine wp_region_turn3 5 7 C (fun W=>W.ownsRow base 42 8 vp sj.prom.length c2.flatten) (fun _=>True) (fun W W'=>W.grownBy W' vp.ownBlock) F [isV (.pointer (some ⟨g,2,none⟩)),
        isV (vp),
        isV (.agg (entA x (.slice Af x.f.length cf) (.slice Ae x.es.length ce))),
        elF enS w5.heap.size x,
        rowS enS w5.heap.size 42 x,
        appS enS base w5.heap.size 42 vp.ownBlock sj.prom.length c2.flatten x,
        isV (.pointer (some ⟨g,2,none⟩)),
        anyV]
        [([],[]),([0],[(36,0)]),([],[]),([2],[(38,2)]),([3],[(39,3)]),([1,4],[(37,1),(40,4)]),([],[]),([6,5],[(42,6),(41,5)])] 45 rfl (by kernel_rfl) (by kernel_rfl) (by kernel_rfl) (by decide) (by decide) (by decide) (by kernel_rfl) hg (fun W W' h k=>row_below h k) (fun _ _ h _=>h) (by exact hg _ _ hc0 (Below.drew (Below.refl _ _))) (row_below HS.out.p (Below.drew (Below.refl _ _))) ?st10 ?stt10 ?ow10 ?_
       case st10 =>
        simp only[List.forall_mem_cons]
        and_intros
        all_goals first|exact isV_st _|exact anyV_st|exact elF_st _ _|exact rowS_st _ _ _|exact appS_st _ _ _ _ _ _ _|simp
       case stt10 =>
        simp only[List.zipIdx_cons,List.zipIdx_nil,List.forall_mem_cons,Nat.zero_add,Nat.reduceAdd]
        and_intros
        all_goals first|exact .inl rfl|exact .inr (fun _ _ _ h _=>h)|exact .inr (elF_row hrow)|exact .inr (rowS_row hrow)|simp
       case ow10 =>
        simp only[OwedY,OwedT]
        and_intros
        all_goals try trivial
        all_goals
         simp only[Nat.reduceEqDiff,if_false,Nat.reduceAdd]
        all_goals
         first
         | (intro V w' hc hD hp
            simp only[List.forall_mem_cons,tab_zero,tab_succ,isV] at hp
            rw[hC] at hc)
         | (intro V w' hc hp
            rw[hC] at hc
            have qg:=(HS.out.blk.upB hc (fun e=>(HS.out.rowp e).2.2.1 rfl)).cell
            have qe:=(he5.upB hc (fun e=>hne e)).cell
            try simp only[List.forall_mem_cons,tab_zero,tab_succ,isV] at hp
            try (simp[wantsG,rhoP,List.lookup,hp,tab_zero,tab_succ,ResG,execOp,bareOp,isV,undef,Below.refl,qg,qe,go_sem];done))
         | skip
        · simp only[if_pos (show wantsG V none=true from rfl)]
          simp[rhoP,List.lookup,hp,tab_zero,tab_succ,ResG,execOp,bareOp,go_sem]
          refine (Whole_calls x _ w' (hxe.out w' (hc.upN (fun k hk=>hk.elim (fun h=>by omega) (fun h=>h.symm)))) hxs).mono ?_
          rintro e w2 ⟨v,rfl,ho,hb⟩
          exact⟨v,rfl,elF_of_entO (by have:=hc.size;omega) ho,hb⟩
        · obtain⟨hp7,-⟩:=hp
          obtain⟨vf7,ve7,e7⟩:=elF_agg hp7
          have hF7:=hp7.2.2
          rw[e7] at hF7
          simp[e7,wantsG,rhoP,List.lookup,tab_zero,tab_succ,ResG,execOp,bareOp,undef,go_sem]
          exact⟨⟨w'.heap.size,_,rfl,by have:=hc.size;omega,Blk.new _ _ _,rfl,fun W' u=>hF7 W' ((UpB.of_k ((K.rf w').al _) _ _).tr u)⟩,(K.rf w').al _⟩
        · obtain⟨h1,h4,-⟩:=hp
          obtain⟨v',w'',hrun,h7,h5,h3⟩:=exec_appS (P:=Tryz.prog) (S:=enS) (ρ:=rhoP [(37,1),(40,4)] _ V) (.tmp 37) (.tmp 40) 32 32 42 base _ 96 sj.prom.length c2.flatten TEn vp h1 hD w5.heap.size (by first|exact HS.out.2|omega) hrow (by have:=hc.size;omega) x _ rfl h4 (by omega)
          rw[hrun]
          refine⟨h7,?_,trivial,h3⟩
          rw[hC]
          exact hc.tr (UpB.of_mut h3 0)
        · obtain⟨h6,h9,-⟩:=hp
          have hb9:=HS.out.blk.upB hc (fun e=>(HS.out.rowp e).2.2.1 rfl)
          have z:=hb9.frozen
          have q:=hb9.cell
          have hpu:=HS.out.pushP (by omega) hc h9
          obtain⟨A9,n9,c9,e9⟩:=appS_slice h9
          generalize hA:rhoP [(42,6),(41,5)] _ V=ρ9
          have es4:ρ9 (.tmp 42)=.pointer (some ⟨g,2,none⟩):=by rw[<- hA];exact h6
          have ex4:ρ9 (.tmp 41)=V 5:=by rw[<- hA];rfl
          rw[e9] at ex4 hpu
          have hs7:(execOp ρ9 (bareOp (.store 32 (.tmp 42) (.tmp 41)) 0)).run Tryz.prog w'=.ok .skip (w'.setCell ⟨g,2,none⟩ (.slice A9 n9 c9)):=by
           simp[es4,ex4,execOp,bareOp,q,z,go_sem]
          rw[hs7]
          show F _
          rw[hF]
          exact⟨hpu,(below_upB hc (by omega) (fun b hb=>(HS.out.rowp hb).1)).setCell HS.out.low _,grow_upn hc (UpN.rf (fun _=>False) _) (fun k _ e=>e.elim (fun e=>.inr e) (fun e=>e.elim (fun e=>.inl e.symm) False.elim))⟩
       intro V W hFW
       rw[hF] at hFW
       obtain⟨HSF,kbF,unF⟩:=hFW
       have HSF:=Lib.hid HSF
       clear hC hg hc0 hF hrow
       simp only[putAll,Act.put,List.setIfInBounds_toArray,List.set_cons_succ,List.set_cons_zero]
       go_wp2
       go_roundw
       case rel=>exact⟨j+1,by omega,by go_num,Lib.hid (by rw[HT.out];have:=HSF.out;rw[hsj] at this;exact this),kr.trans (kbF.mono (by omega))⟩
       case measure=>simp[intOf];omega
     · have hji:¬ (j:Int)<(s.prom.length:Int):=by omega
       rw[List.take_of_length_le (by omega)] at HSj
       have HS0:=HSj
       have kk:=kr
       clear HSj kr
       clear hj hlt
       obtain⟨vl,vp,va,c1,c2,hS⟩:=HS0.out
       obtain⟨⟨Bl,dl,rfl⟩,⟨Bp,dp,rfl⟩,Ba,da,rfl⟩:=hS.slices
       have q:=hS.blk.cell
       have hr9:=hr0.below kk hr0.lt
       have z:=hr9.frozen
       have qz:=hr9.cell
       have HR:=Lib.hid hS.r
       have kw:=k0.tr kk
       have hbb:base<=wr.heap.size:=by rw[hbase];exact kk.size
       clear hS HS0 kk hx0 hr0
       go_wp2
       have hr91:Blk (World.setCell (World.setCell (World.setCell (World.setCell wr _ _) _ _) _ _) _ _) (gp+1) 53 (stA s (.slice Bl s.list.length dl) (.slice Bp s.prom.length dp) (.slice Ba s.ab.length da)):=(((hr9.set_ 0 (.int .u64 (s.life:Int))).set_ 1 (.slice Bl s.list.length dl)).set_ 2 (.slice Bp s.prom.length dp)).set_ 3 (.slice Ba s.ab.length da)
       have kS:=K.set (K.set (K.set (K.set kw (r:=gp+1) (by omega) 0 (.int .u64 (s.life:Int))) (r:=gp+1) (by omega) 1 (.slice Bl s.list.length dl)) (r:=gp+1) (by omega) 2 (.slice Bp s.prom.length dp)) (r:=gp+1) (by omega) 3 (.slice Ba s.ab.length da)
       have uS:=(((UpN.setF (X:=fun k=>k<base) (g:=gp+1) (i:=0) (by omega) wr (.int .u64 (s.life:Int))).tr (UpN.setF (X:=fun k=>k<base) (g:=gp+1) (i:=1) (by omega) _ (.slice Bl s.list.length dl))).tr (UpN.setF (X:=fun k=>k<base) (g:=gp+1) (i:=2) (by omega) _ (.slice Bp s.prom.length dp))).tr (UpN.setF (X:=fun k=>k<base) (g:=gp+1) (i:=3) (by omega) _ (.slice Ba s.ab.length da))
       clear q z qz hr9
       generalize World.setCell (World.setCell (World.setCell (World.setCell wr _ _) _ _) _ _) _ _=W9 at *
       have e9:=hr91.cell
       refine bodyPost_ret (v:=.agg (stA s (.slice Bl s.list.length dl) (.slice Bp s.prom.length dp) (.slice Ba s.ab.length da))) (by simp[results,Tryz.results244,go_sem,e9]) rfl ?_
       exact⟨base,_,_,_,rfl,by omega,Nat.le_trans hbb uS.size,⟨_,_,HR.out.low uS⟩,kS⟩
theorem StoR.stv {base:Nat} {s:Stt} {vl vp va:Value} {c1 c2:List (List Value)} {W:World} (h:StoR base s vl vp va c1 c2 W):stv s (.agg (stA s vl vp va)) W:=by
 obtain⟨e1,e2⟩:=h.el W (UpN.rf _ _)
 exact⟨vl,vp,va,rfl,lst_of_own h.l e1,lst_of_own h.p e2,lst_of_own (by rw[flat_ids];exact h.a) (each_ids _ _)⟩
theorem Step_own (s:Stt) (r:Rec) (v u:Value) (w:World) (h:stv s v w) (hr:rcd r u w) (hfit:fitRec r) (hsmr:smallEn r.e) (hsm:∀ x∈s.list,smallEn x) (hsp:∀ x∈s.prom,smallEn x) (hz:s.list.length<=900000/\s.prom.length<=900000/\s.ab.length<=900000) :
 Calls Tryz.prog 207 #[v,u] w fun e w'=>∃ B vl vp va c1 c2,e=.returned (.tuple #[.agg (stA (stepS s r).1 vl vp va),.int .i64 (stepS s r).2])/\w.heap.size<=B/\StoR B (stepS s r).1 vl vp va c1 c2 w'/\K w w':=by
 have C1:=Lib.hid fun W (k:K w W)=>Copied_calls s v W (stv_st h k) hsm hsp hz
 obtain⟨vl,vp,va,rfl,hl,hp,ha⟩:=h
 obtain⟨Al,cl,rfl⟩:=lst_slice hl
 obtain⟨Ap,cp,rfl⟩:=lst_slice hp
 obtain⟨Aa,ca,rfl⟩:=lst_slice ha
 have HRC:=Lib.hid (fun W (k:K w W)=>rcd_st hr k)
 obtain⟨vf,ve,rfl,hf,he⟩:=hr
 obtain⟨Af,cf,rfl⟩:=flt_slice hf
 obtain⟨Ae,ce,rfl⟩:=lst_slice he
 have HF:=Lib.hid hfit
 generalize ho:stepS s r=o
 have HO:=Lib.hid ho
 obtain⟨s',e'⟩:=o
 clear ho
 have HM:=Lib.hid hsmr
 clear hf he hl hp ha hsm hsp hfit hsmr
 have hx0:=((Blk.new w 53 (stA s (.slice Al s.list.length cl) (.slice Ap s.prom.length cp) (.slice Aa s.ab.length ca))).alloc (.cells (recA r (.slice Af r.e.f.length cf) (.slice Ae r.e.es.length ce)) 219)).alloc (.cells zSt 53)
 have hb0:=(Blk.new (w.alloc (.cells (stA s (.slice Al s.list.length cl) (.slice Ap s.prom.length cp) (.slice Aa s.ab.length ca)) 53)) 219 (recA r (.slice Af r.e.f.length cf) (.slice Ae r.e.es.length ce))).alloc (.cells zSt 53)
 have hr0:=Blk.new ((w.alloc (.cells (stA s (.slice Al s.list.length cl) (.slice Ap s.prom.length cp) (.slice Aa s.ab.length ca)) 53)).alloc (.cells (recA r (.slice Af r.e.f.length cf) (.slice Ae r.e.es.length ce)) 219)) 53 zSt
 have k0:K w (((w.alloc (.cells (stA s (.slice Al s.list.length cl) (.slice Ap s.prom.length cp) (.slice Aa s.ab.length ca)) 53)).alloc (.cells (recA r (.slice Af r.e.f.length cf) (.slice Ae r.e.es.length ce)) 219)).alloc (.cells zSt 53)):=(((K.rf w).al _).al _).al _
 simp only[World.size_alloc] at hb0 hr0
 go_enter Tryz.func207,Tryz.ntmps207
 go_wp2_with fail
 generalize World.alloc (World.alloc (World.alloc w _) _) _=w0 at *
 generalize hgp:w.heap.size=gp at hx0 hb0 hr0 ⊢
 refine (C1.out w0 k0).mono ?_
 rintro e w1 ⟨B,vl1,vp1,va1,c1,c2,rfl,hB1,hB2,hS,k1⟩
 have hV:=hS.v hB2
 obtain⟨⟨Bl,dl,rfl⟩,⟨Bp,dp,rfl⟩,Ba,da,rfl⟩:=hV.slices
 have kA:K w1 (w1.alloc (.cells (stA s (.slice Bl s.list.length dl) (.slice Bp s.prom.length dp) (.slice Ba s.ab.length da)) 53)):=(K.rf w1).al _
 have k02:=k1.tr kA
 have q2:=(hb0.below k02 hb0.lt).cell
 have HV:=Lib.hid hV
 have hg1:=k1.size
 have hgr:=hr0.lt
 clear hS hV C1 hx0
 go_wp2_with fail
 generalize World.alloc w1 _=w2 at *
 generalize w1.heap.size=g at *
 have kw2:=k0.tr k02
 have hOn:OnH B g s r (.slice Bl s.list.length dl) (.slice Bp s.prom.length dp) (.slice Ba s.ab.length da) (.agg (recA r (.slice Af r.e.f.length cf) (.slice Ae r.e.es.length ce))) c1 c2 w2 :=
  ⟨HV.out,fun W' u'=>HRC.out W' (u'.k kw2 fun k e=>by
   have hz0:=k0.size
   rcases e with e|e|e|e
   · omega
   · have:=(HV.out.rowl e).1;omega
   · have:=(HV.out.rowp e).1;omega
   · have:=(HV.out.rowa e).1;omega),by have:=HV.out.blk.lt;omega,hz,HM.out,HF.out⟩
 have C2:=On_calls w2 hOn
 rw[HO.out] at C2
 have C2:=Lib.hid C2
 clear q2 hOn
 refine C2.out.mono ?_
 rintro e w3 ⟨rfl,hS3,hb3⟩
 obtain⟨vl,vp,va,c1',c2',hS4⟩:=hS3
 simp only at hS4 ⊢
 obtain⟨⟨El,fl,rfl⟩,⟨Ep,fp,rfl⟩,Ea,fa,rfl⟩:=hS4.slices
 have q:=hS4.blk.cell
 have hr9:=(hr0.below k02 hr0.lt).below hb3 (by have:=k0.size;omega)
 have z:=hr9.frozen
 have qz:=hr9.cell
 have HR:=Lib.hid hS4.r
 have kw3:=kw2.trans (hb3.mono (by have:=k0.size;omega))
 have hgb:gp+2<B:=by omega
 clear hS4 hr0 C2 k02 kA k1
 go_wp2
 have hr91:Blk (World.setCell (World.setCell (World.setCell (World.setCell w3 _ _) _ _) _ _) _ _) (gp+2) 53 (stA s' (.slice El s'.list.length fl) (.slice Ep s'.prom.length fp) (.slice Ea s'.ab.length fa)):=(((hr9.set_ 0 (.int .u64 (s'.life:Int))).set_ 1 (.slice El s'.list.length fl)).set_ 2 (.slice Ep s'.prom.length fp)).set_ 3 (.slice Ea s'.ab.length fa)
 have kS:=K.set (K.set (K.set (K.set kw3 (r:=gp+2) (by omega) 0 (.int .u64 (s'.life:Int))) (r:=gp+2) (by omega) 1 (.slice El s'.list.length fl)) (r:=gp+2) (by omega) 2 (.slice Ep s'.prom.length fp)) (r:=gp+2) (by omega) 3 (.slice Ea s'.ab.length fa)
 have uS:=(((UpN.setF (X:=fun k=>k<B) (g:=gp+2) (i:=0) (by omega) w3 (.int .u64 (s'.life:Int))).tr (UpN.setF (X:=fun k=>k<B) (g:=gp+2) (i:=1) (by omega) _ (.slice El s'.list.length fl))).tr (UpN.setF (X:=fun k=>k<B) (g:=gp+2) (i:=2) (by omega) _ (.slice Ep s'.prom.length fp))).tr (UpN.setF (X:=fun k=>k<B) (g:=gp+2) (i:=3) (by omega) _ (.slice Ea s'.ab.length fa))
 clear q z qz hr9
 generalize World.setCell (World.setCell (World.setCell (World.setCell w3 _ _) _ _) _ _) _ _=W9 at *
 have e9:=hr91.cell
 refine bodyPost_ret (v:=.tuple #[.agg (stA s' (.slice El s'.list.length fl) (.slice Ep s'.prom.length fp) (.slice Ea s'.ab.length fa)),.int .i64 e']) (by simp[results,Tryz.results207,go_sem,e9]) rfl ?_
 exact⟨B,_,_,_,rfl,by omega,⟨_,_,HR.out.low uS⟩,kS⟩
theorem rdEv_fit (n:Int) (l:List UInt8) (wr:Bool):∀ a∈(rdEv n l wr).1,fitA a:=by
 simp only[rdEv]
 cases hd:decE (rdB n l wr).1 with
 | none=>simp
 | some e=>exact (decE_back hd).2.2
theorem rdFi_fit (n:Int) (l:List UInt8) (wr:Bool):∀ a∈(rdFi n l wr).1,fitT a:=by
 simp only[rdFi]
 cases hd:decF8 (rdB n l wr).1 with
 | none=>simp
 | some e=>exact (decF_back hd).2.2
theorem rd6_lt (l:List UInt8) (wr:Bool):(rd6 l wr).1.2.2.1<18446744073709551616/\(rd6 l wr).1.2.2.2.1<18446744073709551616/\(rd6 l wr).1.2.2.2.2.2<18446744073709551616 :=
 ⟨rdN_lt _ _,rdN_lt _ _,rdN_lt _ _⟩
theorem hdEn_fit (a:Nat×Nat×Nat×Nat×Nat×Nat) (f:List Tst) (es:List (List Att)) (h1:a.2.2.1<18446744073709551616) (h2:a.2.2.2.1<18446744073709551616) (h3:a.2.2.2.2.2<18446744073709551616) (hf:∀ t∈f,fitT t) (he:∀ e∈es,∀ a∈e,fitA a) :
 fitEn { hdEn a with f:=f,es:=es }:=by
 refine⟨?_,?_,?_,h1,h2,h3,hf,he⟩
 · simp only[hdEn,i64ok];omega
 · simp only[hdEn,i64ok];omega
 · simp only[hdEn,i64ok];omega
theorem rdEn_fit (n:Int) (l:List UInt8) (wr:Bool):fitEn (rdEn n l wr).1:=by
 obtain⟨h1,h2,h3⟩:=rd6_lt l wr
 unfold rdEn
 split
 · exact hdEn_fit _ [] _ h1 h2 h3 (by simp) (rdL_all (fun e=>∀ a∈e,fitA a) (rdEv_fit n) _ _ _)
 · split
   · exact hdEn_fit _ _ [] h1 h2 h3 (rdFi_fit n _ _) (by simp)
   · exact hdEn_fit _ [] [] h1 h2 h3 (by simp) (by simp)
theorem decEn_fit {b:List UInt8} {x:Ent} (h:decEn b=some x):fitEn x:=by
 unfold decEn at h
 split at h
 · injection h with h
   rw[<- h]
   exact rdEn_fit _ _ _
 · cases h
theorem ent0_fit:fitEn ent0:=by simp[fitEn,ent0,i64ok]
theorem rdRec_fit (n:Int) (l:List UInt8) (wr:Bool):fitRec (rdRec n l wr).1:=by
 have h0:∀ (k m:Nat) (e:Ent) (b c d:Nat),fitEn e->m<18446744073709551616->c<18446744073709551616->d<18446744073709551616->fitRec ⟨(min k 6:Nat),m,e,(min b 16:Nat),c,d⟩:=by
  intro k m e b c d he hm hc hd
  refine⟨?_,hm,he,?_,hc,hd⟩
  · simp only[i64ok];omega
  · simp only[i64ok];omega
 unfold rdRec
 simp only
 split
 · split
   · simp[fitRec,rec0,i64ok,ent0_fit]
   · rename_i e he
     have:=h0 (rdN l wr).1 _ _ 0 0 0 (decEn_fit he) (rdN_lt (rdN l wr).2.1 (rdN l wr).2.2) (by omega) (by omega)
     simpa using this
 · split
   · exact h0 _ _ _ _ _ _ ent0_fit (rdN_lt _ _) (rdN_lt _ _) (rdN_lt _ _)
   · have:=h0 (rdN l wr).1 _ _ 0 0 0 ent0_fit (rdN_lt (rdN l wr).2.1 (rdN l wr).2.2) (by omega) (by omega)
     simpa using this
theorem decRec_fit {b:List UInt8} {x:Rec} (h:decRec b=some x):fitRec x:=by
 unfold decRec at h
 split at h
 · injection h with h
   rw[<- h]
   exact rdRec_fit _ _ _
 · cases h
def byS:Shp (List UInt8) where
 size:=1
 rel l cs w:=∃ v,cs=[v]/\sl l v w
 len:=by rintro _ _ _ ⟨v,rfl,_⟩;rfl
 one:=by rintro _ _ _ ⟨v,rfl,A,c,rfl,_⟩ u hu;simp at hu;subst hu;rfl
 st:=by rintro _ _ _ _ ⟨v,rfl,h⟩ k;exact⟨v,rfl,sl_st _ _ _ _ h k⟩
def oneG (s:Stt) (b:List UInt8):Stt×Int:=if decRecC b=0 then stepS s (decRecX b) else (s,decRecC b)
def allG:Stt->List (List UInt8)->Stt×Int
 | s,[]=>(s,0)
 | s,b :: l=>if (oneG s b).2=0 then allG (oneG s b).1 l else oneG s b
def allS (l:List (List UInt8)):Stt×Int:=if (allG st0 l).2=0 then allG st0 l else (st0,(allG st0 l).2)
theorem allG_snoc (l:List (List UInt8)) (b:List UInt8):∀ s,(allG s l).2=0->allG s (l++[b])=oneG (allG s l).1 b:=by
 induction l with
 | nil =>
   intro s _
   simp only[List.nil_append,allG]
   split
   · rename_i h;rw[<- h]
   · rfl
 | cons c l ih =>
   intro s h
   simp only[List.cons_append,allG] at h ⊢
   split at h
   · rename_i h1
     rw[if_pos h1,if_pos h1]
     exact ih _ h
   · rename_i h1;exact absurd h h1
theorem allG_bad (l m:List (List UInt8)):∀ s,(allG s l).2≠0->allG s (l++m)=allG s l:=by
 induction l with
 | nil=>intro s h;simp[allG] at h
 | cons c l ih =>
   intro s h
   simp only[List.cons_append,allG] at h ⊢
   split at h
   · rename_i h1
     rw[if_pos h1,if_pos h1]
     exact ih _ h
   · rename_i h1;rw[if_neg h1,if_neg h1]
theorem decRecC_ok {b:List UInt8} (h:decRecC b=0):∃ x,decRec b=some x/\decRecX b=x:=by
 unfold decRecC at h
 cases hd:decRec b with
 | none=>simp[hd] at h
 | some x=>exact⟨x,rfl,by simp[decRecX,hd]⟩
theorem okE_16 {l:List Att} (h:okE l=true):l.length<=16:=by
 unfold okE at h
 simp only[Bool.and_eq_true,decide_eq_true_eq] at h
 omega
theorem okEn_small {x:Ent} (h:okEn x=true):smallEn x:=by
 unfold okEn at h
 simp only[Bool.and_eq_true,decide_eq_true_eq] at h
 obtain⟨-,h⟩:=h
 split at h
 · simp only[Bool.and_eq_true,decide_eq_true_eq,List.isEmpty_iff] at h
   obtain⟨⟨⟨-,h1⟩,h2⟩,h3⟩:=h
   exact⟨by simp[h1],by omega,fun e he=>by have:=okE_16 (List.all_eq_true.1 h3 e he);omega⟩
 · split at h
   · simp only[Bool.and_eq_true,List.isEmpty_iff] at h
     exact⟨by simp[h.1],by simp[h.2],by simp[h.2]⟩
   · split at h
     · simp only[Bool.and_eq_true,List.isEmpty_iff] at h
       exact⟨by have:=(okF_parts h.2).1;omega,by simp[h.1],by simp[h.1]⟩
     · cases h
theorem small_ent0:smallEn ent0:=by simp[smallEn,ent0]
theorem okRec_small {x:Rec} (h:okRec x=true):smallEn x.e:=by
 rcases okRec_kind h with ⟨-,e,-⟩|⟨-,e,-⟩|⟨-,-,-,e⟩
 · rw[e];exact small_ent0
 · exact okEn_small e
 · rw[e];exact small_ent0
theorem len_on (s t:Stt) (r:Rec) (h:onS s r=some t):t.list.length<=s.list.length+1/\t.prom.length<=s.prom.length+1/\t.ab.length<=s.ab.length+1:=by
 have hd:∀ (l:List Ent) a,(dropE l a).length<=l.length:=fun l a=>List.length_filter_le _ _
 have h1:=hd s.prom (idE r.e)
 have h2:=hd s.prom (idR r)
 unfold onS on1 on2 on3 on4 on5 at h
 repeat' split at h
 all_goals first|(cases h;done)|(injection h with h;subst h;refine⟨?_,?_,?_⟩ <;> (try simp only[List.length_append,List.length_singleton]) <;> omega)
theorem len_step (s:Stt) (r:Rec):(stepS s r).1.list.length<=s.list.length+1/\(stepS s r).1.prom.length<=s.prom.length+1/\(stepS s r).1.ab.length<=s.ab.length+1:=by
 unfold stepS
 split
 · cases h:onS s r with
   | none=>simp
   | some t=>exact len_on s t r h
 · simp
theorem oneG_len (s:Stt) (b:List UInt8):(oneG s b).1.list.length<=s.list.length+1/\(oneG s b).1.prom.length<=s.prom.length+1/\(oneG s b).1.ab.length<=s.ab.length+1:=by
 unfold oneG
 split
 · exact len_step _ _
 · simp
theorem allG_len (l:List (List UInt8)):∀ s,(allG s l).1.list.length<=s.list.length+l.length/\(allG s l).1.prom.length<=s.prom.length+l.length/\(allG s l).1.ab.length<=s.ab.length+l.length:=by
 induction l with
 | nil=>intro s;simp[allG]
 | cons c l ih =>
   intro s
   have h1:=oneG_len s c
   simp only[allG,List.length_cons]
   split
   · have h2:=ih (oneG s c).1;omega
   · omega
theorem allG_next {l:List (List UInt8)} {j:Nat} (hlt:j<l.length) (h0:(allG st0 (l.take j)).2=0):allG st0 (l.take (j+1))=oneG (allG st0 (l.take j)).1 l[j]:=by
 rw[List.take_succ_eq_append_getElem hlt,allG_snoc _ _ _ h0]
theorem allS_bad {l:List (List UInt8)} {j:Nat} (hlt:j<l.length) (h0:(allG st0 (l.take j)).2=0) {c:Int} (hb:(oneG (allG st0 (l.take j)).1 l[j]).2=c) (hc:¬ c=0):allS l=(st0,c):=by
 have h1:=allG_next hlt h0
 have h2:allG st0 l=allG st0 (l.take (j+1)):=by
  conv=>lhs;rw[<- List.take_append_drop (j+1) l]
  exact allG_bad _ _ _ (by rw[h1,hb];exact hc)
 unfold allS
 rw[h2,h1,hb,if_neg hc]
theorem allS_good {l:List (List UInt8)} (h:(allG st0 l).2=0):allS l=((allG st0 l).1,0):=by
 unfold allS
 rw[if_pos h]
 exact Prod.ext rfl h
def recL (l:List Ent):List Rec:=l.zipIdx.map fun p=>⟨2,p.2,p.1,0,0,0⟩
def recP (l:List Ent):List Rec:=l.map fun x=>⟨3,0,x,0,0,0⟩
def recB (l:List Idn):List Rec:=l.map fun a=>⟨4,0,ent0,a.1,a.2.1,a.2.2⟩
def rec1 (n:Nat):List Rec:=if n=0 then [] else [⟨1,n,ent0,0,0,0⟩]
def recsS (s:Stt):List Rec:=rec1 s.life++recL s.list++recP s.prom++recB s.ab
theorem recL_snoc (l:List Ent) (j:Nat) (h:j<l.length):recL (l.take (j+1))=recL (l.take j)++[⟨2,j,l[j],0,0,0⟩]:=by
 unfold recL
 rw[List.take_succ_eq_append_getElem h,List.zipIdx_append,List.map_append]
 simp[List.length_take,Nat.min_eq_left (Nat.le_of_lt h)]
theorem recP_snoc (l:List Ent) (j:Nat) (h:j<l.length):recP (l.take (j+1))=recP (l.take j)++[⟨3,0,l[j],0,0,0⟩]:=by
 unfold recP
 rw[List.take_succ_eq_append_getElem h,List.map_append];rfl
theorem recB_snoc (l:List Idn) (j:Nat) (h:j<l.length):recB (l.take (j+1))=recB (l.take j)++[⟨4,0,ent0,l[j].1,l[j].2.1,l[j].2.2⟩]:=by
 unfold recB
 rw[List.take_succ_eq_append_getElem h,List.map_append];rfl
theorem rec1_len (n:Nat):(rec1 n).length<=1:=by unfold rec1;split <;> simp
theorem recL_len (l:List Ent):(recL l).length=l.length:=by simp[recL]
theorem recP_len (l:List Ent):(recP l).length=l.length:=by simp[recP]
theorem recB_len (l:List Idn):(recB l).length=l.length:=by simp[recB]
theorem infoRec:(Tryz.prog.info? 219).map (fun i=>(i.zero,i.size,i.bytes))=some (some (.agg zRec),13,136):=by kernel_rfl
theorem TRec:SliceT Tryz.prog 233 219 (.agg zRec) 13 136:=⟨Tryz.underlying233,infoRec,rfl,by decide⟩
theorem infoBy:(Tryz.prog.info? 62).map (fun i=>(i.zero,i.size,i.bytes))=some (some (.slice none 0 0),1,24):=by kernel_rfl
theorem TBy:SliceT Tryz.prog 153 62 (.slice none 0 0) 1 24:=⟨Tryz.underlying153,infoBy,rfl,by decide⟩
theorem rcd_of {k:Int} {n:Nat} {x:Ent} {a:Idn} {vf ve:Value} {W:World} (h:ent x (.agg (entA x vf ve)) W):recS.rel ⟨k,n,x,a.1,a.2.1,a.2.2⟩ (recA ⟨k,n,x,a.1,a.2.1,a.2.2⟩ vf ve).toList W:=by
 obtain⟨vf',ve',e,h1,h2⟩:=h
 simp at e
 obtain⟨rfl,rfl⟩:=e
 exact⟨_,_,rfl,h1,h2⟩
