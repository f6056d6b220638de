/-
  Filters in plain Lean: which of two values comes first, what a test asks, what may be, what bytes they are. Conditions: none.
-/
import Derived.Test.YtagfakjifhdpgaaGreatMa02
set_option maxRecDepth 100000
set_option maxHeartbeats 16000000
set_option linter.unusedVariables false
set_option linter.unusedSimpArgs false
namespace Go.Proofs.YtagfakjifhdpgaaGreat
open Go Go.RowKit
abbrev Vl:=Int×Int×ByteArray
def ordI (a b:Int):Int:=if a<b then -1 else if b<a then 1 else 0
def ordS (a b:ByteArray):Int:=if ltS a b then -1 else if ltS b a then 1 else 0
def ordV (a b:Vl):Int:=if ordI a.1 b.1 != 0 then ordI a.1 b.1 else if ordI a.2.1 b.2.1 != 0 then ordI a.2.1 b.2.1 else ordS a.2.2 b.2.2
def preB (a b:ByteArray):Bool:=decide (b.size<=a.size)&&((a.extract 0 b.size).toList==b.toList)
def begV (a b:Vl):Bool:=a.1==2&&b.1==2&&preB a.2.2 b.2.2
def isT (t:Tst) (v:Vl):Bool :=
 if t.2.1==8 then true else
 (v.1==t.2.2.1)&&(if t.2.1==1 then ordV v t.2.2==0 else if t.2.1==2 then ordV v t.2.2 != 0 else if t.2.1==3 then decide (ordV v t.2.2<0) else if t.2.1==4 then decide (ordV v t.2.2<=0)
  else if t.2.1==5 then decide (0<ordV v t.2.2) else if t.2.1==6 then decide (0<=ordV v t.2.2) else if t.2.1==7 then begV v t.2.2 else false)
def holdsT (t:Tst) (e:List Att):Bool:=match e.find? (isN t.1) with|some x=>isT t x.2|none=>false
def matchesF (f:List Tst) (e:List Att):Bool:=f.all fun t=>holdsT t e
def okT (t:Tst):Bool :=
 okName t.1&&(if t.2.1==8 then decide (t.2.2=(0,0,⟨#[]⟩)) else if t.2.1==7 then okV t.2.2.1 t.2.2.2.1 t.2.2.2.2&&t.2.2.1==2 else decide (1<=t.2.1)&&decide (t.2.1<=8)&&okV t.2.2.1 t.2.2.2.1 t.2.2.2.2)
def okF (l:List Tst):Bool:=decide (l.length<=8)&&l.all okT
def chkT (t:Tst):Int:=if okT t then 0 else 50
def chkF (l:List Tst):Int:=if okF l then 0 else 50
def encT (t:Tst):List UInt8:=(packN t.1.size++byt t.1)++(packN (kindN t.2.1)++(if t.2.1==8 then [] else packV t.2.2.1 t.2.2.2.1 t.2.2.2.2))
def encF (l:List Tst):List UInt8:=packN l.length++l.flatMap encT
def encFR (l:List Tst):List UInt8:=if okF l then encF l else []
def rdT:Rdr Tst:=fun l wr =>
 if 8<(rdN (rdB 16 l wr).2.1 (rdB 16 l wr).2.2).1 then ((⟨#[]⟩,0,0,0,⟨#[]⟩),(rdN (rdB 16 l wr).2.1 (rdB 16 l wr).2.2).2.1,true)
 else if (rdN (rdB 16 l wr).2.1 (rdB 16 l wr).2.2).1=8 then ((⟨(rdB 16 l wr).1.toArray⟩,8,0,0,⟨#[]⟩),(rdN (rdB 16 l wr).2.1 (rdB 16 l wr).2.2).2)
 else ((⟨(rdB 16 l wr).1.toArray⟩,((rdN (rdB 16 l wr).2.1 (rdB 16 l wr).2.2).1:Int),(rdV (rdN (rdB 16 l wr).2.1 (rdB 16 l wr).2.2).2.1 (rdN (rdB 16 l wr).2.1 (rdB 16 l wr).2.2).2.2).1.1,
  (rdV (rdN (rdB 16 l wr).2.1 (rdB 16 l wr).2.2).2.1 (rdN (rdB 16 l wr).2.1 (rdB 16 l wr).2.2).2.2).1.2.1,⟨(rdV (rdN (rdB 16 l wr).2.1 (rdB 16 l wr).2.2).2.1 (rdN (rdB 16 l wr).2.1 (rdB 16 l wr).2.2).2.2).1.2.2.toArray⟩),
  (rdV (rdN (rdB 16 l wr).2.1 (rdB 16 l wr).2.2).2.1 (rdN (rdB 16 l wr).2.1 (rdB 16 l wr).2.2).2.2).2)
def decFS (b:List UInt8):List Tst×List UInt8×Bool:=rdL rdT (rdN b false).1 (rdN b false).2.1 (rdN b false).2.2
def decF8 (b:List UInt8):Option (List Tst) :=
 if decide ((rdN b false).1<=8)&&!(decFS b).2.2&&(decFS b).2.1.isEmpty&&okF (decFS b).1 then some (decFS b).1 else none
def decFL (b:List UInt8):List Tst:=(decF8 b).getD []
def decFC (b:List UInt8):Int:=if (decF8 b).isSome then 0 else 50
theorem okF_parts {l:List Tst} (h:okF l=true):l.length<=8/\∀ x∈l,okT x=true:=by
 simp only[okF,Bool.and_eq_true,decide_eq_true_eq,List.all_eq_true] at h
 exact h
theorem okT_parts {t:Tst} (h:okT t=true):t.1.size<=16/\1<=t.2.1/\t.2.1<=8/\(t.2.1=8->t.2.2=(0,0,⟨#[]⟩))/\(t.2.1≠8->okV t.2.2.1 t.2.2.2.1 t.2.2.2.2=true):=by
 simp only[okT,Bool.and_eq_true] at h
 obtain⟨h1,h2⟩:=h
 simp only[okName,Bool.and_eq_true,decide_eq_true_eq] at h1
 refine⟨h1.1.2,?_⟩
 by_cases e8:t.2.1=8
 · rw[if_pos (by simp[e8])] at h2
   exact⟨by omega,by omega,fun _=>of_decide_eq_true h2,fun h=>absurd e8 h⟩
 · rw[if_neg (by simp[e8])] at h2
   by_cases e7:t.2.1=7
   · rw[if_pos (by simp[e7])] at h2
     simp only[Bool.and_eq_true] at h2
     exact⟨by omega,by omega,fun h=>absurd h e8,fun _=>h2.1⟩
   · rw[if_neg (by simp[e7])] at h2
     simp only[Bool.and_eq_true,decide_eq_true_eq] at h2
     exact⟨h2.1.1,h2.1.2,fun h=>absurd h e8,fun _=>h2.2⟩
theorem rdT_len (l:List UInt8) (wr:Bool):(rdT l wr).2.1.length<=l.length:=by
 have h1:=rdB_len 16 l wr
 have h2:=rdN_len (rdB 16 l wr).2.1 (rdB 16 l wr).2.2
 have h3:=rdV_len (rdN (rdB 16 l wr).2.1 (rdB 16 l wr).2.2).2.1 (rdN (rdB 16 l wr).2.1 (rdB 16 l wr).2.2).2.2
 unfold rdT
 split
 · simp only;omega
 · split
   · simp only;omega
   · simp only;omega
theorem rdT_fwd (t:Tst) (h:okT t=true/\fitT t) (rest:List UInt8):rdT (encT t++rest) false=(t,rest,false):=by
 obtain⟨hok,hf⟩:=h
 obtain⟨h16,h1,h8,he,hv⟩:=okT_parts hok
 obtain⟨s,op,k,n,x⟩:=t
 simp only at h16 h1 h8 he hv hf
 have hk:kindN op=op.toNat:=by unfold kindN;omega
 have e1:rdB 16 (encT (s,op,k,n,x)++rest) false=(byt s,packN (kindN op)++(if op==8 then [] else packV k n x)++rest,false):=by
  have:=rdB_pack 16 (byt s) (by simp;omega) (by simp;omega) (packN (kindN op)++(if op==8 then [] else packV k n x)++rest)
  rw[show (byt s).length=s.size by simp] at this
  unfold encT
  rw[List.append_assoc (packN s.size++byt s)]
  exact this
 have e2:=rdN_pack (kindN op) (kindN_lt op) ((if op==8 then [] else packV k n x)++rest)
 unfold rdT
 rw[e1]
 simp only
 rw[List.append_assoc (packN (kindN op)),e2]
 simp only
 rw[if_neg (by omega)]
 by_cases e8:op=8
 · rw[if_pos (by omega)]
   have:=he e8
   simp only[Prod.mk.injEq] at this
   obtain⟨rfl,rfl,rfl⟩:=this
   subst e8
   cases s
   rfl
 · rw[if_neg (by omega),if_neg (by simp[e8])]
   have e3:=rdV_pack k n x (hv e8) hf.2.2.1 hf.2.2.2 rest
   rw[e3]
   cases s
   cases x
   simp only[Prod.mk.injEq,and_true,true_and]
   omega
theorem rdT_back (l:List UInt8) (wr:Bool) (h:(rdT l wr).2.2=false):l=encT (rdT l wr).1++(rdT l wr).2.1/\wr=false:=by
 have hlt:=rdN_lt (rdB 16 l wr).2.1 (rdB 16 l wr).2.2
 unfold rdT at h ⊢
 split at h
 · cases h
 · rename_i h8
   rw[if_neg h8]
   split at h
   · rename_i e8
     rw[if_pos e8]
     obtain⟨e2,w2⟩:=rdN_back h
     obtain⟨e1,_,w1⟩:=rdB_back w2
     refine⟨?_,w1⟩
     unfold encT
     simp only
     have hs:(⟨(rdB 16 l wr).1.toArray⟩:ByteArray).size=(rdB 16 l wr).1.length:=by simp[ByteArray.size]
     rw[hs,show byt ⟨(rdB 16 l wr).1.toArray⟩=(rdB 16 l wr).1 by simp[byt]]
     rw[show kindN (8:Int)=(rdN (rdB 16 l wr).2.1 (rdB 16 l wr).2.2).1 by rw[e8];rfl]
     rw[if_pos (by decide),List.append_nil,List.append_assoc,<- e2]
     exact e1
   · rename_i e8
     rw[if_neg e8]
     obtain⟨e3,_,w3,_⟩:=rdV_back h
     obtain⟨e2,w2⟩:=rdN_back w3
     obtain⟨e1,_,w1⟩:=rdB_back w2
     refine⟨?_,w1⟩
     unfold encT
     simp only
     have hs:(⟨(rdB 16 l wr).1.toArray⟩:ByteArray).size=(rdB 16 l wr).1.length:=by simp[ByteArray.size]
     rw[hs,show byt ⟨(rdB 16 l wr).1.toArray⟩=(rdB 16 l wr).1 by simp[byt]]
     rw[show kindN ((rdN (rdB 16 l wr).2.1 (rdB 16 l wr).2.2).1:Int)=(rdN (rdB 16 l wr).2.1 (rdB 16 l wr).2.2).1 by unfold kindN;omega]
     rw[if_neg (by simp;omega),List.append_assoc,List.append_assoc (packN (rdN (rdB 16 l wr).2.1 (rdB 16 l wr).2.2).1),<- e3,<- e2]
     exact e1
theorem rdT_codec:Codec encT (fun t=>okT t=true/\fitT t) rdT:=⟨rdT_fwd,rdT_back,rdT_len⟩
theorem rdT_fit (l:List UInt8) (wr:Bool):fitT (rdT l wr).1/\(rdT l wr).1.1.size<=16:=by
 have hB:=rdB_most 16 l wr
 have hV:=rdV_i64 (rdN (rdB 16 l wr).2.1 (rdB 16 l wr).2.2).2.1 (rdN (rdB 16 l wr).2.1 (rdB 16 l wr).2.2).2.2
 unfold rdT
 split
 · exact⟨by unfold fitT i64ok;simp,by simp[ByteArray.size]⟩
 · split
   · exact⟨by unfold fitT i64ok;simp,by simpa [ByteArray.size] using hB⟩
   · refine⟨⟨?_,hV.1,hV.2⟩,by simpa [ByteArray.size] using hB⟩
     unfold i64ok;simp only;omega
theorem decF_parts (l:List Tst) (hl:okF l=true) (hf:∀ x∈l,fitT x) (rest:List UInt8):rdN (encF l++rest) false=(l.length,l.flatMap encT++rest,false)/\decFS (encF l++rest)=(l,rest,false):=by
 obtain⟨h2,h3⟩:=okF_parts hl
 have e1:rdN (encF l++rest) false=(l.length,l.flatMap encT++rest,false):=by
  unfold encF;rw[List.append_assoc];exact rdN_pack l.length (by omega) _
 refine⟨e1,?_⟩
 have h5:=rdL_fwd rdT_codec l (fun x hx=>⟨h3 x hx,hf x hx⟩) rest l.length (Nat.le_refl _)
 unfold decFS
 rw[e1]
 simpa using h5
theorem decF_enc (l:List Tst) (hl:okF l=true) (hf:∀ x∈l,fitT x):decF8 (encF l)=some l:=by
 have h:=decF_parts l hl hf []
 rw[List.append_nil] at h
 have h2:=(okF_parts hl).1
 unfold decF8
 rw[h.2,h.1]
 simp[hl,h2]
theorem decF_back {b:List UInt8} {y:List Tst} (h:decF8 b=some y):b=encF y/\okF y=true/\∀ x∈y,fitT x:=by
 unfold decF8 at h
 split at h
 · rename_i hq
   injection h with h
   simp only[Bool.and_eq_true,Bool.not_eq_true',List.isEmpty_iff,decide_eq_true_eq] at hq
   obtain⟨⟨⟨h16,hw⟩,hr⟩,hok⟩:=hq
   unfold decFS at hw hr hok h
   obtain⟨e2,w2⟩:=rdL_back rdT_codec hw
   obtain⟨e1,_⟩:=rdN_back w2
   have hlen:=(rdL_len rdT_codec (rdN b false).1 (rdN b false).2.1 (rdN b false).2.2).2
   have hfit:=rdL_all (fun x:Tst=>fitT x/\x.1.size<=16) rdT_fit (rdN b false).1 (rdN b false).2.1 (rdN b false).2.2
   rw[h] at e2 hlen hok hfit
   rw[hr,List.append_nil] at e2
   refine⟨?_,hok,fun x hx=>(hfit x hx).1⟩
   unfold encF
   rw[hlen,<- e2]
   exact e1
 · cases h
theorem One_calls (t:Tst) (w:World) :
 Calls Tryz.prog 240 #[tstv t] w fun e w'=>e=.returned (.int .i64 (chkT t))/\Below w.heap.size w w':=by
 obtain⟨s,op,k,n,x⟩:=t
 have hb0:Below w.heap.size w (w.alloc (.cells #[.string s,.int .i64 op,.int .i64 k,.int .i64 n,.string x] 87)):=(Below.refl _ _).alloc (Nat.le_refl _) _
 have hx0:=Blk.new w 87 #[.string s,.int .i64 op,.int .i64 k,.int .i64 n,.string x]
 have HT:Hid (okT (s,op,k,n,x)=(okName s&&(if op==8 then decide ((k,n,x)=(0,0,(⟨#[]⟩:ByteArray))) else if op==7 then okV k n x&&k==2 else decide (1<=op)&&decide (op<=8)&&okV k n x))):=Lib.hid rfl
 have hbad:Hid (okT (s,op,k,n,x)=false->chkT (s,op,k,n,x)=50):=Lib.hid (fun h=>by simp[chkT,h])
 have hgood:Hid (okT (s,op,k,n,x)=true->chkT (s,op,k,n,x)=0):=Lib.hid (fun h=>by simp[chkT,h])
 go_enter Tryz.func240,Tryz.ntmps240
 go_wp2_with fail
 refine (Name_calls s _).mono ?_
 rintro e w' ⟨rfl,rfl⟩
 cases hn:okName s
 · have HE:=Lib.hid (hbad.out (by rw[HT.out,hn];rfl))
   go_wp2
   go_ret
   exact⟨by rw[HE.out];rfl,hb0⟩
 by_cases h1:op<1
 · have HE:=Lib.hid (hbad.out (by
    rw[HT.out,if_neg (by simp;omega),if_neg (by simp;omega)]
    simp;omega))
   go_wp2
   go_ret
   exact⟨by rw[HE.out];rfl,hb0⟩
 by_cases h8:8<op
 · have HE:=Lib.hid (hbad.out (by
    rw[HT.out,if_neg (by simp;omega),if_neg (by simp;omega)]
    simp;omega))
   go_wp2
   go_ret
   exact⟨by rw[HE.out];rfl,hb0⟩
 go_wp2_with fail
 refine (Check_calls k n x _).mono ?_
 rintro e w2 ⟨rfl,hb2⟩
 have hx2:=hx0.below hb2 hx0.lt
 have hbw:=hb0.trans (hb2.mono hb0.size)
 have x1:=hx2.cell 1
 have x2:=hx2.cell 2
 have x3:=hx2.cell 3
 have x4:=hx2.cell 4
 simp at x1 x2 x3 x4
 have HC:Hid ((chk k n x==0)=okV k n x):=Lib.hid (by unfold chk;cases okV k n x <;> rfl)
 clear hb2 hb0 hx0
 by_cases e7:op=7
 · have HE:Hid (okT (s,op,k,n,x)=(okV k n x&&k==2)):=by
    refine Lib.hid ?_
    rw[HT.out,hn,if_neg (by simp;omega),if_pos (by simp;omega)]
    rfl
   have b7:(op==7)=true:=by simp[e7]
   have b8:(op==8)=false:=by simp[e7]
   clear e7 h1 h8
   cases hv:okV k n x
   · have hch:(chk k n x==0)=false:=by rw[HC.out,hv]
     have HF:=Lib.hid (hbad.out (by rw[HE.out,hv];rfl))
     go_wp2
     go_ret
     exact⟨by rw[HF.out];rfl,hbw⟩
   · have hch:(chk k n x==0)=true:=by rw[HC.out,hv]
     cases hk:(k==2)
     · have HF:=Lib.hid (hbad.out (by rw[HE.out,hv,hk];rfl))
       go_wp2
       go_ret
       exact⟨by rw[HF.out];rfl,hbw⟩
     · have HF:=Lib.hid (hgood.out (by rw[HE.out,hv,hk];rfl))
       go_wp2
       go_ret
       exact⟨by rw[HF.out];rfl,hbw⟩
 · have b7:(op==7)=false:=by simp[e7]
   by_cases e8:op=8
   · have HE:Hid (okT (s,op,k,n,x)=decide ((k,n,x)=(0,0,(⟨#[]⟩:ByteArray)))):=by
      refine Lib.hid ?_
      rw[HT.out,hn,if_pos (by simp;omega)]
      rfl
     have b8:(op==8)=true:=by simp[e8]
     clear e8 h1 h8 e7
     have hev:=eql_val k n 0 0 x ⟨#[]⟩
     generalize hd:decide ((k,n,x)=(0,0,(⟨#[]⟩:ByteArray)))=d at *
     have HD:=Lib.hid hd
     clear hd
     cases d
     · have HF:=Lib.hid (hbad.out (by rw[HE.out]))
       go_wp2
       go_ret
       exact⟨by rw[HF.out];rfl,hbw⟩
     · have HF:=Lib.hid (hgood.out (by rw[HE.out]))
       go_wp2
       go_ret
       exact⟨by rw[HF.out];rfl,hbw⟩
   · have HE:Hid (okT (s,op,k,n,x)=okV k n x):=by
      refine Lib.hid ?_
      rw[HT.out,hn,if_neg (by simp;omega),if_neg (by simp;omega)]
      simp;omega
     have b8:(op==8)=false:=by simp[e8]
     clear e8 h1 h8 e7
     cases hv:okV k n x
     · have hch:(chk k n x==0)=false:=by rw[HC.out,hv]
       have HF:=Lib.hid (hbad.out (by rw[HE.out,hv]))
       go_wp2
       go_ret
       exact⟨by rw[HF.out];rfl,hbw⟩
     · have hch:(chk k n x==0)=true:=by rw[HC.out,hv]
       have HF:=Lib.hid (hgood.out (by rw[HE.out,hv]))
       go_wp2
       go_ret
       exact⟨by rw[HF.out];rfl,hbw⟩
theorem okF_bad (l:List Tst) (k:Nat) (h:k<l.length) (hb:okT l[k]=false):chkF l=50:=by
 have:l.all okT=false:=by rw[List.all_eq_false];exact⟨l[k],List.getElem_mem h,by simp[hb]⟩
 simp[chkF,okF,this]
theorem okF_good (l:List Tst) (h8:l.length<=8) (h:∀ x∈l.take l.length,okT x=true):chkF l=0:=by
 rw[List.take_length] at h
 have:l.all okT=true:=List.all_eq_true.2 h
 simp[chkF,okF,this,h8]
theorem allT_take (l:List Tst) (k:Nat) (h:k<l.length) (ha:∀ x∈l.take k,okT x=true) (hb:okT l[k]=true):∀ x∈l.take (k+1),okT x=true:=by
 intro x hx
 rw[List.take_succ_eq_append_getElem h] at hx
 rcases List.mem_append.1 hx with hx|hx
 · exact ha x hx
 · simp at hx;rw[hx];exact hb
theorem chkT_cases (t:Tst):(chkT t=0/\okT t=true)∨(chkT t=50/\okT t=false):=by
 unfold chkT;cases okT t <;> simp
theorem FCheck_calls (A:Option Addr) (c:Nat) (l:List Tst) (w:World) (B:Nat) (hR:Reads w B 5 A l.length (l.flatMap tstc)) (hB:B<=w.heap.size) :
 Calls Tryz.prog 200 #[.slice A l.length c] w fun e w'=>e=.returned (.int .i64 (chkF l))/\Below w.heap.size w w':=by
 by_cases h8:8<l.length
 · have h8':(8:Int)<(l.length:Int):=by omega
   have HE:Hid (chkF l=50):=Lib.hid (by simp[chkF,okF,show ¬ l.length<=8 by omega])
   clear hR
   generalize l.length=n at *
   go_enter Tryz.func200,Tryz.ntmps200
   go_wp2
   go_ret
   exact⟨by rw[HE.out];rfl,Below.refl _ _⟩
 have h8':¬ (8:Int)<(l.length:Int):=by omega
 have HA:=Lib.hid hR
 clear hR
 go_enter Tryz.func200,Tryz.ntmps200
 go_wp2_with fail
 go_loopw [11] (fun i wr=>∃ k:Nat,k<=l.length/\i=.int .i64 (k:Int)/\Hid (∀ x∈l.take k,okT x=true)/\Below w.heap.size w wr) (fun i _=>l.length - (intOf i).toNat)
 case atStart=>exact⟨0,by omega,rfl,Lib.hid (by simp),Below.refl _ _⟩
 case round =>
  obtain⟨k,hk,rfl,hall,hb⟩:=hrel
  by_cases hlt:k<l.length
  · have hki:(k:Int)<(l.length:Int):=by omega
    obtain⟨b,off,rfl,hbB,hcell⟩:=HA.out.tsts (by omega)
    obtain⟨e0,e1,e2,e3,e4⟩:=hcell k hlt
    have hbw:b<w.heap.size:=Nat.lt_of_lt_of_le hbB hB
    have d0:=(hb.cell (p:=⟨b,off+k * 5,none⟩) hbw).trans e0
    have d1:=(hb.cell (p:=⟨b,off+k * 5+1,none⟩) hbw).trans e1
    have d2:=(hb.cell (p:=⟨b,off+k * 5+2,none⟩) hbw).trans e2
    have d3:=(hb.cell (p:=⟨b,off+k * 5+3,none⟩) hbw).trans e3
    have d4:=(hb.cell (p:=⟨b,off+k * 5+4,none⟩) hbw).trans e4
    have HT:=Lib.hid (allT_take l k hlt hall.out)
    have HBD:=Lib.hid (okF_bad l k hlt)
    have hz:=hb.size
    clear e0 e1 e2 e3 e4 hcell
    generalize l[k]=x at *
    obtain⟨xs,xo,xk,xn,xt⟩:=x
    simp only at d0 d1 d2 d3 d4
    go_wp2_with fail
    refine (One_calls (xs,xo,xk,xn,xt) _).mono ?_
    rintro e w2 ⟨rfl,hb2⟩
    have hbw2:Below w.heap.size w w2:=(hb.alloc hz _).trans (hb2.mono (by simp;omega))
    rcases chkT_cases (xs,xo,xk,xn,xt) with ⟨hc,ho⟩|⟨hc,ho⟩
    · have hne:(chkT (xs,xo,xk,xn,xt) != 0)=false:=by rw[hc];rfl
      have hr:=Lib.hid (HT.out ho)
      clear hc ho
      go_wp2
      go_roundw
      case rel=>exact⟨k+1,by omega,by go_num,hr,hbw2⟩
      case measure=>simp[intOf];omega
    · have hne:(chkT (xs,xo,xk,xn,xt) != 0)=true:=by rw[hc];rfl
      have HE:Hid (chkF l=50):=Lib.hid (HBD.out ho)
      have HC:=Lib.hid hc
      clear hc ho
      go_wp2
      go_ret
      exact⟨by rw[HE.out,<- HC.out];rfl,hbw2⟩
  · have hki:¬ (k:Int)<(l.length:Int):=by omega
    have HE:Hid (chkF l=0):=Lib.hid (okF_good l (by omega) (by
     have:=hall.out
     rwa [show k=l.length by omega] at this))
    go_wp2
    go_ret
    exact⟨by rw[HE.out];rfl,hb⟩
theorem FCheck_flt {l:List Tst} {v:Value} {w:World} (h:flt l v w):Calls Tryz.prog 200 #[v] w fun e w'=>e=.returned (.int .i64 (chkF l))/\Below w.heap.size w w':=by
 obtain⟨A,c,rfl,hR⟩:=h
 exact FCheck_calls A c l w _ hR (Nat.le_refl _)
theorem infoTest:(Tryz.prog.info? 87).map (fun i=>(i.zero,i.size,i.bytes))=some (some (.agg #[.string { data:=#[] },.int .i64 0,.int .i64 0,.int .i64 0,.string { data:=#[] }]),5,56):=by kernel_rfl
theorem TF:SliceT Tryz.prog 40 87 (.agg #[.string { data:=#[] },.int .i64 0,.int .i64 0,.int .i64 0,.string { data:=#[] }]) 5 56:=⟨Tryz.underlying40,infoTest,rfl,by decide⟩
abbrev OwnF (w:World) (base:Nat) (v:Value) (l:List Tst):Prop:=w.ownsRow base 87 5 v l.length (l.flatMap tstc)
theorem OwnF.slice {w:World} {base:Nat} {v:Value} {l:List Tst} (h:OwnF w base v l):∃ A c,v=.slice A l.length c/\Reads w w.heap.size 5 A l.length (l.flatMap tstc)/\l.length<=c/\c<=maxLen:=by
 have h':=h
 rcases h.2 with ⟨rfl,h0⟩|⟨g,cap,cur,rfl,_,_,hn,hc,_⟩
 · obtain rfl:l=[]:=List.eq_nil_of_length_eq_zero h0
   exact⟨none,0,rfl,Reads.of_own h',by simp,by simp⟩
 · exact⟨_,_,rfl,Reads.of_own h',hn,hc⟩
theorem tstc_one (x:Tst):∀ u∈tstc x,u.oneCell'=true:=by
 intro u hu
 simp at hu
 rcases hu with rfl|rfl|rfl|rfl|rfl <;> rfl
theorem flt_own {w:World} {base:Nat} {v:Value} {l:List Tst} (h:OwnF w base v l):flt l v w:=by
 obtain⟨A,c,rfl,hr,_⟩:=h.slice
 exact⟨A,c,rfl,hr⟩
theorem decFS_bad (b:List UInt8) (k:Nat) (hk:k<=(rdN b false).1) (h:(rdL rdT k (rdN b false).2.1 (rdN b false).2.2).2.2=true):decFC b=50/\decFL b=[]:=by
 have:(decFS b).2.2=true:=by
  have:=rdL_bad rdT_codec h ((rdN b false).1 - k)
  rwa [show k+((rdN b false).1 - k)=(rdN b false).1 by omega] at this
 have h2:decF8 b=none:=by simp[decF8,this]
 simp[decFC,decFL,h2]
theorem rdT_more (l:List UInt8) (wr:Bool) (h:8<(rdN (rdB 16 l wr).2.1 (rdB 16 l wr).2.2).1):(rdT l wr).2.2=true:=by
 unfold rdT;rw[if_pos h]
theorem rdT_eight (l:List UInt8) (wr:Bool) (h:(rdN (rdB 16 l wr).2.1 (rdB 16 l wr).2.2).1=8):rdT l wr=((⟨(rdB 16 l wr).1.toArray⟩,8,0,0,⟨#[]⟩),(rdN (rdB 16 l wr).2.1 (rdB 16 l wr).2.2).2):=by
 unfold rdT;rw[if_neg (by omega),if_pos h]
theorem rdT_less (l:List UInt8) (wr:Bool) (h:(rdN (rdB 16 l wr).2.1 (rdB 16 l wr).2.2).1<8):rdT l wr=((⟨(rdB 16 l wr).1.toArray⟩,((rdN (rdB 16 l wr).2.1 (rdB 16 l wr).2.2).1:Int),(rdV (rdN (rdB 16 l wr).2.1 (rdB 16 l wr).2.2).2.1 (rdN (rdB 16 l wr).2.1 (rdB 16 l wr).2.2).2.2).1.1,
 (rdV (rdN (rdB 16 l wr).2.1 (rdB 16 l wr).2.2).2.1 (rdN (rdB 16 l wr).2.1 (rdB 16 l wr).2.2).2.2).1.2.1,⟨(rdV (rdN (rdB 16 l wr).2.1 (rdB 16 l wr).2.2).2.1 (rdN (rdB 16 l wr).2.1 (rdB 16 l wr).2.2).2.2).1.2.2.toArray⟩),
 (rdV (rdN (rdB 16 l wr).2.1 (rdB 16 l wr).2.2).2.1 (rdN (rdB 16 l wr).2.1 (rdB 16 l wr).2.2).2.2).2):=by
 unfold rdT;rw[if_neg (by omega),if_neg (by omega)]
theorem rdL_succ (k:Nat) (l:List UInt8) (bad:Bool) (s:List Tst×List UInt8×Bool) (hs:rdL rdT k l bad=s):rdL rdT (k+1) l bad=(s.1++[(rdT s.2.1 s.2.2).1],(rdT s.2.1 s.2.2).2):=by subst hs;rfl
theorem FDecode_calls (A:Option Addr) (n c:Nat) (b:List UInt8) (w:World) (B:Nat) (hR:Reads w B 1 A n (bys b)) (hB:B<=w.heap.size) (hn:n<=1000000000) :
 Calls Tryz.prog 243 #[.slice A n c] w fun e w' =>
  ∃ v',e=.returned (.tuple #[v',.int .i64 (decFC b)])/\OwnF w' w.heap.size v' (decFL b)/\Below w.heap.size w w':=by
 have hbl:b.length=n:=by simpa using hR.len
 have hle:b.length<=1000000000:=by omega
 clear hbl
 go_enter Tryz.func243,Tryz.ntmps243
 go_wp2_with fail
 refine (New_calls A n c b w B hR hB hn).mono ?_
 rintro e w1 ⟨g,rfl,hg,hr1,hb1⟩
 go_wp2_with fail
 refine (RNumber_calls g b false w1 hr1).mono ?_
 rintro e w2 ⟨rfl,hr2,hg2⟩
 have hgl:=hr1.lt
 have hz2:=hg2.size
 have hbw:Below w.heap.size w w2:=hb1.trans (below_of_mut hg2 hg hb1.size)
 have hlt:=rdN_lt b false
 have hle2:=rdN_len b false
 have HB:=Lib.hid (decFS_bad b)
 have HD:Hid (decF8 b=if decide ((rdN b false).1<=8)&&!(rdL rdT (rdN b false).1 (rdN b false).2.1 (rdN b false).2.2).2.2&&(rdL rdT (rdN b false).1 (rdN b false).2.1 (rdN b false).2.2).2.1.isEmpty&&okF (rdL rdT (rdN b false).1 (rdN b false).2.1 (rdN b false).2.2).1 then some (rdL rdT (rdN b false).1 (rdN b false).2.1 (rdN b false).2.2).1 else none):=Lib.hid rfl
 generalize rdN b false=a at *
 obtain⟨m,l,bad⟩:=a
 simp only at hr2 hlt hle2 HD HB ⊢
 clear hr1 hb1 hR
 by_cases h16:m<=8
 rotate_left
 · have h16':(8:Int)<(m:Int):=by omega
   have HE:Hid (decFC b=50):=Lib.hid (by have:=HD.out;simp[h16] at this;simp[decFC,this])
   have HL:Hid (decFL b=[]):=Lib.hid (by have:=HD.out;simp[h16] at this;simp[decFL,this])
   go_wp2
   go_ret2
   exact⟨_,by rw[HE.out];rfl,by rw[HL.out];exact World.ownsRow_nil _ _ _ _,hbw⟩
 have h16':¬ (8:Int)<(m:Int):=by omega
 go_wp2_with fail
 go_loopw [6,7,8,16] (fun v _ _ i wk=>∃ k:Nat,k<=m/\i=.int .u64 (k:Int)/\OwnF wk w1.heap.size v (rdL rdT k l bad).1/\Rd wk g (rdL rdT k l bad).2.1 (rdL rdT k l bad).2.2/\Below w.heap.size w wk/\w1.heap.size<=wk.heap.size) (fun _ _ _ i _=>m - (intOf i).toNat)
 case atStart=>exact⟨0,by omega,rfl,World.ownsRow_nil _ _ _ _,hr2,hbw,hz2⟩
 case round =>
  obtain⟨k,hk,rfl,hown,hrd,hb,hz⟩:=hrel
  by_cases hlt:k<m
  · have hki:(k:Int)<(m:Int):=by omega
    have hlk:=rdL_len rdT_codec k l bad
    have hfit:=rdL_succ k l bad
    have hbd:=HB.out (k+1) (by omega)
    generalize hs:rdL rdT k l bad=s at *
    replace hfit:=hfit s rfl
    obtain⟨ats,lk,wk⟩:=s
    simp only at hown hrd hlk hfit
    rw[hfit] at hbd
    obtain⟨hlk1,hlk2⟩:=hlk
    have HLK:=Lib.hid hlk2
    have hasl:ats.length<=8:=by omega
    clear hlk2
    have C1:=Lib.hid (RBytes_calls g lk wk 16 wr hrd (by omega) (by omega) (by omega))
    have hl1:=rdB_len 16 lk wk
    have F8:=Lib.hid fun h=>hbd (rdT_more lk wk h)
    have FE:=Lib.hid fun h=>hfit.trans (show ((ats,lk,wk).1++[(rdT lk wk).1],(rdT lk wk).2)=_ by rw[rdT_eight lk wk h])
    have FL:=Lib.hid fun h=>hfit.trans (show ((ats,lk,wk).1++[(rdT lk wk).1],(rdT lk wk).2)=_ by rw[rdT_less lk wk h])
    clear hfit hs hbd
    have hl2:=rdN_len (rdB 16 lk wk).2.1 (rdB 16 lk wk).2.2
    have hlt2:=rdN_lt (rdB 16 lk wk).2.1 (rdB 16 lk wk).2.2
    have C2:Hid (∀ W,Rd W g (rdB 16 lk wk).2.1 (rdB 16 lk wk).2.2->Calls Tryz.prog 147 #[.pointer (some ⟨g,0,none⟩)] W fun e w'=>e=.returned (.int .u64 ((rdN (rdB 16 lk wk).2.1 (rdB 16 lk wk).2.2).1:Nat))/\Went g (rdN (rdB 16 lk wk).2.1 (rdB 16 lk wk).2.2).2.1 (rdN (rdB 16 lk wk).2.1 (rdB 16 lk wk).2.2).2.2 W w'):=Lib.hid fun W hW=>RNumber_calls g _ _ W hW
    generalize rdB 16 lk wk=sb at *
    obtain⟨nm,lb,wb⟩:=sb
    simp only at C1 C2 F8 FE FL hl1 hl2 hlt2
    generalize rdN lb wb=sn at *
    obtain⟨op,lo,wo⟩:=sn
    simp only at C2 F8 FE FL hl2 hlt2
    have hl3:=rdV_len lo wo
    have C3:Hid (∀ W,Rd W g lo wo->Calls Tryz.prog 270 #[.pointer (some ⟨g,0,none⟩)] W fun e w'=>e=.returned (vd (rdV lo wo).1)/\Went g (rdV lo wo).2.1 (rdV lo wo).2.2 W w'):=Lib.hid fun W hW=>RValue_calls g _ _ W hW (by omega)
    generalize rdV lo wo=sv at *
    obtain⟨⟨vk,vn,vt⟩,lv,wv⟩:=sv
    simp only[vd] at C3 FL hl3
    have hgz:g<wr.heap.size:=by omega
    go_wp2_with fail
    refine C1.out.mono ?_
    rintro e w3 ⟨v3,rfl,ho3,hr3,hg3⟩
    have hst:=str (sl_own ho3)
    have hz3:=hg3.size
    have hown3:=row_mut hown hg3 hgl
    have hb3:Below w.heap.size w w3:=hb.trans (below_of_mut hg3 hg hb.size)
    clear hown hrd hg3 hb C1
    go_wp2_with fail
    have hx3:=Blk.new w3 87 #[.string ⟨nm.toArray⟩,.int .i64 0,.int .i64 0,.int .i64 0,.string ⟨#[]⟩]
    have hb3a:Below w3.heap.size w3 (w3.alloc (.cells #[.string ⟨nm.toArray⟩,.int .i64 0,.int .i64 0,.int .i64 0,.string ⟨#[]⟩] 87)):=(Below.refl _ _).alloc (Nat.le_refl _) _
    have hr3a:=hr3.below hb3a (by omega)
    have hown3a:=row_below hown3 hb3a
    have hbw3:=hb3.trans (hb3a.mono hb3.size)
    have hhz:w3.heap.size<(w3.alloc (.cells #[.string ⟨nm.toArray⟩,.int .i64 0,.int .i64 0,.int .i64 0,.string ⟨#[]⟩] 87)).heap.size:=by simp
    have hgh:g≠w3.heap.size:=by omega
    have hh1:w1.heap.size<=w3.heap.size:=by omega
    have hhw:w.heap.size<=w3.heap.size:=hb3.size
    have hnb:u6.ownBlock≠some w3.heap.size:=by
     intro e
     have:=(hown3.lt _ e).2
     omega
    clear hr3 hb3a hown3 hb3 hst ho3
    generalize w3.alloc (.cells #[.string ⟨nm.toArray⟩,.int .i64 0,.int .i64 0,.int .i64 0,.string ⟨#[]⟩] 87)=w3a at *
    generalize w3.heap.size=h at *
    refine (C2.out _ hr3a).mono ?_
    rintro e w4 ⟨rfl,hr4,hg4⟩
    have hz4:=hg4.size
    have hown4:=row_mut hown3a hg4 hgl
    have hb4:Below w.heap.size w w4:=hbw3.trans (below_of_mut hg4 hg hbw3.size)
    have hx4:=hx3.grown hg4 (by intro e;injection e with e;exact hgh e.symm)
    clear hown3a hr3a hg4 hbw3 C2 hx3
    by_cases h8:8<op
    · have h8':(8:Int)<(op:Int):=by omega
      obtain⟨hC,hL⟩:=F8.out h8
      have HC:=Lib.hid hC
      have HL:=Lib.hid hL
      clear hC hL h8
      go_wp2
      go_ret2
      exact⟨_,by rw[HC.out];rfl,by rw[HL.out];exact World.ownsRow_nil _ _ _ _,hb4⟩
    have h8':¬ (8:Int)<(op:Int):=by omega
    have q0:=hx4.cell 0
    have q1:=hx4.cell 1
    have q2:=hx4.cell 2
    have q3:=hx4.cell 3
    have q4:=hx4.cell 4
    have z1:=hx4.frozen 1
    simp at q0 q1 q2 q3 q4
    go_upto_region 13 with (fail)
    have hg5:w4.grownBy (w4.setCell ⟨h,1,none⟩ (.int .i64 (op:Int))) (some h):=mut_set (mut_refl w4 _) rfl _
    have hz5:=hg5.size
    have hx5:=hx4.set_ 1 (.int .i64 (op:Int))
    have hb5:Below w.heap.size w (w4.setCell ⟨h,1,none⟩ (.int .i64 (op:Int))):=hb4.trans (below_of_mut hg5 hhw hb4.size)
    have hr5:=hr4.below (below_of_mut hg5 (Nat.le_refl h) (by omega)) (by omega)
    have hown5:OwnF _ _ _ _:=World.ownsRow.kept hown4 hg5 (.inr hnb)
    clear hg5 hx4 hb4 hr4 hown4 q0 q1 q2 q3 q4 z1
    generalize w4.setCell ⟨h,1,none⟩ (.int .i64 (op:Int))=w5 at *
    have q0:=hx5.cell 0
    have q1:=hx5.cell 1
    have q2:=hx5.cell 2
    have q3:=hx5.cell 3
    have q4:=hx5.cell 4
    simp at q0 q1 q2 q3 q4
    by_cases he:op=8
    · have HF:=Lib.hid (FE.out he)
      subst he
      have hw15:w1.heap.size<=w5.heap.size:=by omega
      go_wp2_with (at_builtin;refine wpList_app rfl _ _ 40 rfl w1.heap.size 87 _ 5 56 TF _ _ _ rfl (World.ownsRow.alloc hown5 _) (w5.heap.size+1) _ 1 1 (tstc ((⟨nm.toArray⟩,8,0,0,⟨#[]⟩):Tst)) rfl ?c1 ?c2 ?c3 ?c5 ?_)
      case c1=>exact Reads.new w5 (tstc ((⟨nm.toArray⟩,8,0,0,⟨#[]⟩):Tst)) 87 5 1 rfl
      case c2=>first|exact tstc_one _|exact⟨rfl,rfl,rfl,rfl,rfl⟩|exact⟨rfl,rfl,rfl,rfl⟩
      case c3=>omega
      case c5=>first|omega|(simp;omega)
      intro v9 w9 hown9 hg9 hat9 hb9
      have hown10:OwnF w9 w1.heap.size v9 (rdL rdT (k+1) l bad).1:=by
       rw[HF.out]
       unfold OwnF
       simpa [List.flatMap_append] using hown9
      have hr9:Rd w9 g (rdL rdT (k+1) l bad).2.1 (rdL rdT (k+1) l bad).2.2:=by
       rw[HF.out]
       exact (hr5.below (Below.alloc (Below.refl _ _) (Nat.le_refl _) _) hr5.lt).below hb9 hgl
      have hbw9:Below w.heap.size w w9:=(hb5.alloc hb5.size _).trans (hb9.mono (by omega))
      have hz9:w1.heap.size<=w9.heap.size:=by have:=hb9.size;simp at this;omega
      clear hown9 hg9 hat9 hb9
      go_wp2
      go_roundw
      case rel=>exact⟨k+1,by omega,by go_num,hown10,hr9,hbw9,hz9⟩
      case measure=>simp[intOf];omega
    · have HF:=Lib.hid (FL.out (by omega))
      have hne:¬ (op:Int)=8:=by omega
      go_wp2_with fail
      refine (C3.out _ hr5).mono ?_
      rintro e w6 ⟨rfl,hr6,hg6⟩
      have hz6:=hg6.size
      have hown6:=row_mut hown5 hg6 hgl
      have hb6:Below w.heap.size w w6:=hb5.trans (below_of_mut hg6 hg hb5.size)
      have hx6:=hx5.grown hg6 (by intro e;injection e with e;exact hgh e.symm)
      clear hown5 hr5 hg6 hb5 C3 hx5 q0 q1 q2 q3 q4
      have q0:=hx6.cell 0
      have q1:=hx6.cell 1
      have q2:=hx6.cell 2
      have q3:=hx6.cell 3
      have q4:=hx6.cell 4
      have z2:=hx6.frozen 2
      have z3:=hx6.frozen 3
      have z4:=hx6.frozen 4
      simp at q0 q1 q2 q3 q4
      go_upto_region 15 with (fail)
      have hg7:=mut_set (mut_set (mut_set (mut_refl w6 (some h)) (p:=⟨h,2,none⟩) rfl (.int .i64 vk)) (p:=⟨h,3,none⟩) rfl (.int .i64 vn)) (p:=⟨h,4,none⟩) rfl (.string ⟨vt.toArray⟩)
      have hz7:=hg7.size
      have hx7:=((hx6.set_ 2 (.int .i64 vk)).set_ 3 (.int .i64 vn)).set_ 4 (.string ⟨vt.toArray⟩)
      have hb7:Below w.heap.size w (((w6.setCell ⟨h,2,none⟩ (.int .i64 vk)).setCell ⟨h,3,none⟩ (.int .i64 vn)).setCell ⟨h,4,none⟩ (.string ⟨vt.toArray⟩)):=hb6.trans (below_of_mut hg7 hhw hb6.size)
      have hr7:=hr6.below (below_of_mut hg7 (Nat.le_refl h) (by omega)) (by omega)
      have hown7:OwnF _ _ _ _:=World.ownsRow.kept hown6 hg7 (.inr hnb)
      clear hg7 hx6 hb6 hr6 hown6 q0 q1 q2 q3 q4 z2 z3 z4
      generalize ((w6.setCell ⟨h,2,none⟩ (.int .i64 vk)).setCell ⟨h,3,none⟩ (.int .i64 vn)).setCell ⟨h,4,none⟩ (.string ⟨vt.toArray⟩)=w7 at *
      have q0:=hx7.cell 0
      have q1:=hx7.cell 1
      have q2:=hx7.cell 2
      have q3:=hx7.cell 3
      have q4:=hx7.cell 4
      simp at q0 q1 q2 q3 q4
      have hw17:w1.heap.size<=w7.heap.size:=by omega
      go_wp2_with (at_builtin;refine wpList_app rfl _ _ 40 rfl w1.heap.size 87 _ 5 56 TF _ _ _ rfl (World.ownsRow.alloc hown7 _) (w7.heap.size+1) _ 1 1 (tstc ((⟨nm.toArray⟩,(op:Int),vk,vn,⟨vt.toArray⟩):Tst)) rfl ?c1 ?c2 ?c3 ?c5 ?_)
      case c1=>exact Reads.new w7 (tstc ((⟨nm.toArray⟩,(op:Int),vk,vn,⟨vt.toArray⟩):Tst)) 87 5 1 rfl
      case c2=>first|exact tstc_one _|exact⟨rfl,rfl,rfl,rfl,rfl⟩|exact⟨rfl,rfl,rfl,rfl⟩
      case c3=>omega
      case c5=>first|omega|(simp;omega)
      intro v9 w9 hown9 hg9 hat9 hb9
      have hown10:OwnF w9 w1.heap.size v9 (rdL rdT (k+1) l bad).1:=by
       rw[HF.out]
       unfold OwnF
       simpa [List.flatMap_append] using hown9
      have hr9:Rd w9 g (rdL rdT (k+1) l bad).2.1 (rdL rdT (k+1) l bad).2.2:=by
       rw[HF.out]
       exact (hr7.below (Below.alloc (Below.refl _ _) (Nat.le_refl _) _) hr7.lt).below hb9 hgl
      have hbw9:Below w.heap.size w w9:=(hb7.alloc hb7.size _).trans (hb9.mono (by omega))
      have hz9:w1.heap.size<=w9.heap.size:=by have:=hb9.size;simp at this;omega
      clear hown9 hg9 hat9 hb9
      go_wp2
      go_roundw
      case rel=>exact⟨k+1,by omega,by go_num,hown10,hr9,hbw9,hz9⟩
      case measure=>simp[intOf];omega
  · have hki:¬ (k:Int)<(m:Int):=by omega
    obtain rfl:k=m:=by omega
    clear hlt hk
    have hlk:=(rdL_len rdT_codec k l bad).2
    generalize rdL rdT k l bad=s at *
    obtain⟨ats,lk,wk⟩:=s
    simp only at hown hrd HD hlk
    have HLK:=Lib.hid hlk
    clear hlk
    have hcomp:∀ x:Bool,x=(!wk&&lk.isEmpty&&okF ats)->Hid (decFC b=(if x then 0 else 50))/\Hid (decFL b=if x then ats else []):=by
     intro x hx
     have h:=HD.out
     rw[show (decide (k<=8))=true by simp;omega] at h
     cases x with
     | true=>rw[Bool.true_and,<- hx] at h;exact⟨Lib.hid (by simp[decFC,h]),Lib.hid (by simp[decFL,h])⟩
     | false=>rw[Bool.true_and,<- hx] at h;exact⟨Lib.hid (by simp[decFC,h]),Lib.hid (by simp[decFL,h])⟩
    have HCO:=Lib.hid hcomp
    clear hcomp
    go_wp2_with fail
    refine (Done_calls g _ _ wr hrd).mono ?_
    rintro e w' ⟨rfl,rfl⟩
    cases hd:(!wk&&lk.isEmpty)
    · obtain⟨HE,HL⟩:=HCO.out false (by rw[hd];rfl)
      go_wp2
      go_ret2
      exact⟨_,by rw[HE.out];rfl,by rw[HL.out];exact World.ownsRow_nil _ _ _ _,hb⟩
    · obtain⟨A',c',rfl,hR',_,_⟩:=hown.slice
      have hrow:=row_base (Nat.le_trans hg (Nat.le_of_lt hgl)) hown
      go_wp2_with fail
      refine (FCheck_calls A' c' ats wr wr.heap.size hR' (Nat.le_refl _)).mono ?_
      rintro e w6 ⟨rfl,hb6⟩
      have hbw6:=hb.trans (hb6.mono hb.size)
      have hrow6:=row_below hrow hb6
      cases hok:okF ats
      · have hne:(chkF ats != 0)=true:=by simp[chkF,hok]
        obtain⟨HE,HL⟩:=HCO.out false (by rw[hd,hok];rfl)
        go_wp2
        go_ret2
        exact⟨_,by rw[HE.out];rfl,by rw[HL.out];exact World.ownsRow_nil _ _ _ _,hbw6⟩
      · have hne:(chkF ats != 0)=false:=by simp[chkF,hok]
        obtain⟨HE,HL⟩:=HCO.out true (by rw[hd,hok];rfl)
        go_wp2
        go_ret2
        exact⟨_,by rw[HE.out];rfl,by rw[HL.out];exact hrow6,hbw6⟩
theorem FDecode_sl {b:List UInt8} {v:Value} {w:World} (h:sl b v w) (hn:b.length<=1000000000):Calls Tryz.prog 243 #[v] w fun e w' =>
 ∃ v',e=.returned (.tuple #[v',.int .i64 (decFC b)])/\OwnF w' w.heap.size v' (decFL b)/\Below w.heap.size w w':=by
 obtain⟨A,c,rfl,hR⟩:=h
 exact FDecode_calls A _ c b w _ hR (Nat.le_refl _) hn
abbrev K (w W:World):Prop:=Below w.heap.size w W
section
variable {a b c w w' w'':World} {B g base lo:Nat} {row:Option Nat}
theorem K.rf (w:World):K w w:=Below.refl _ _
theorem _root_.Go.RowKit.Below.tr (h:Below a.heap.size a b) (k:Below b.heap.size b c):Below a.heap.size a c:=h.trans (k.mono h.size)
theorem _root_.Go.RowKit.Below.al (h:Below a.heap.size a b) (o:Obj):Below a.heap.size a (b.alloc o):=h.alloc h.size o
theorem Blk.cells {t:TypeId} {cs:Array Value} (h:Blk w g t cs):∀ W,K w W->∀ i,W.cell? ⟨g,i,none⟩=cs[i]?:=fun _ k i=>(h.below k h.lt).cell i
structure UpB (lo:Nat) (row:Option Nat) (w w':World):Prop where
 os:w'.os=w.os
 tape:w'.tape=w.tape
 output:w'.output=w.output
 size:w.heap.size<=w'.heap.size
 block:∀ k,lo<=k->k<w.heap.size->some k≠row->w'.heap[k]?=w.heap[k]?
theorem UpB.rf (lo:Nat) (row:Option Nat) (w:World):UpB lo row w w:=⟨rfl,rfl,rfl,Nat.le_refl _,fun _ _ _ _=>rfl⟩
theorem UpB.tr (h:UpB lo row a b) (k:UpB lo row b c):UpB lo row a c :=
 ⟨k.os.trans h.os,k.tape.trans h.tape,k.output.trans h.output,Nat.le_trans h.size k.size,fun i h1 h2 h3=>(k.block i h1 (Nat.lt_of_lt_of_le h2 h.size) h3).trans (h.block i h1 h2 h3)⟩
theorem UpB.of_k (h:K w w') (lo:Nat) (row:Option Nat):UpB lo row w w':=⟨h.os,h.tape,h.output,h.size,fun i _ h2 _=>h.block i h2⟩
theorem UpB.of_mut (h:w.grownBy w' row) (lo:Nat):UpB lo row w w':=⟨h.os,h.tape,h.output,h.size,fun i _ h2 h3=>h.block i h2 h3⟩
theorem UpB.more {lo':Nat} {row':Option Nat} (h:UpB lo row w w') (h1:lo<=lo') (h2:∀ k,lo'<=k->some k≠row'->some k≠row):UpB lo' row' w w' :=
 ⟨h.os,h.tape,h.output,h.size,fun i g1 g2 g3=>h.block i (by omega) g2 (h2 i g1 g3)⟩
theorem UpB.k (h:UpB 0 row w w') (h0:K a w) (hr:∀ k,row=some k->a.heap.size<=k):K a w' :=
 h0.trans ⟨h.os,h.tape,h.output,h.size,fun i hi=>h.block i (Nat.zero_le _) (Nat.lt_of_lt_of_le hi h0.size) (by rintro rfl;have:=hr i rfl;omega)⟩
theorem UpB.app (h:w.grownBy w' row) {row':Option Nat} (hat:row'=row∨row'=some w.heap.size) (k:UpB lo row' w' w''):UpB lo row w w'':=by
 refine⟨k.os.trans h.os,k.tape.trans h.tape,k.output.trans h.output,Nat.le_trans h.size k.size,fun i h1 h2 h3=>(k.block i h1 (Nat.lt_of_lt_of_le h2 h.size) ?_).trans (h.block i h2 h3)⟩
 rcases hat with rfl|rfl
 · exact h3
 · intro e;injection e with e;omega
theorem len0' {α:Type} (l:List α):((l.length:Int)==0)=l.isEmpty:=by
 cases l with
 | nil=>rfl
 | cons x l=>simp;omega
structure Shp (α:Type) where
 size:Nat
 rel:α->List Value->World->Prop
 len:∀ {x cs w},rel x cs w->cs.length=size
 one:∀ {x cs w},rel x cs w->∀ u∈cs,u.oneCell'=true
 st:∀ {x cs w w'},rel x cs w->K w w'->rel x cs w'
variable {α:Type} {S:Shp α} {l:List α} {v:Value} {A:Option Addr}
def Each (S:Shp α) (l:List α) (css:List (List Value)) (w:World):Prop:=css.length=l.length/\∀ i (h:i<l.length) (h':i<css.length),S.rel l[i] css[i] w
theorem Each.lens {css:List (List Value)} (h:Each S l css w):∀ cs∈css,cs.length=S.size:=by
 intro cs hcs
 obtain⟨i,hi,rfl⟩:=List.mem_iff_getElem.1 hcs
 exact S.len (h.2 i (by have:=h.1;omega) hi)
theorem Each.ones {css:List (List Value)} (h:Each S l css w):∀ u∈css.flatten,u.oneCell'=true:=by
 intro u hu
 obtain⟨cs,hcs,hu⟩:=List.mem_flatten.1 hu
 obtain⟨i,hi,rfl⟩:=List.mem_iff_getElem.1 hcs
 exact S.one (h.2 i (by have:=h.1;omega) hi) u hu
theorem Each.st {css:List (List Value)} (h:Each S l css w) (k:K w w'):Each S l css w':=⟨h.1,fun i hi hi'=>S.st (h.2 i hi hi') k⟩
theorem Each.flen {css:List (List Value)} (h:Each S l css w):css.flatten.length=l.length * S.size:=by
 rw[flatten_len S.size css h.lens,h.1]
theorem Each.get {css:List (List Value)} (h:Each S l css w) (i:Nat) (hi:i<l.length):∃ cs,css[i]?=some cs/\cs.length=S.size/\S.rel l[i] cs w/\∀ j,j<S.size->css.flatten[i * S.size+j]?=cs[j]?:=by
 have hi':i<css.length:=by have:=h.1;omega
 have hr:=h.2 i hi hi'
 refine⟨css[i],List.getElem?_eq_getElem hi',S.len hr,hr,fun j hj=>?_⟩
 rw[flatten_at S.size css h.lens i j hi' hj,List.getElem?_eq_getElem hi']
 rfl
theorem Each.nil (S:Shp α) (w:World):Each S [] [] w:=⟨rfl,fun i hi=>by simp at hi⟩
theorem Each.snoc {css:List (List Value)} (h:Each S l css w) {x:α} {cs:List Value} (hx:S.rel x cs w):Each S (l++[x]) (css++[cs]) w:=by
 refine⟨by simp[h.1],fun i hi hi'=>?_⟩
 have hl:=h.1
 by_cases hlt:i<l.length
 · have:=h.2 i hlt (by omega)
   rw[List.getElem_append_left hlt,List.getElem_append_left (by omega)]
   exact this
 · simp at hi
   have e:i=l.length:=by omega
   subst e
   rw[List.getElem_append_right (Nat.le_refl _),List.getElem_append_right (by omega)]
   simpa [hl] using hx
theorem Each.one {x:α} {cs:List Value} (hx:S.rel x cs w):Each S [x] [cs] w:=by simpa using (Each.nil S w).snoc hx
theorem Each.take {css:List (List Value)} (h:Each S l css w) (k:Nat):Each S (l.take k) (css.take k) w:=by
 refine⟨by simp[h.1],fun i hi hi'=>?_⟩
 simp only[List.getElem_take]
 exact h.2 i (by simp at hi;omega) (by simp at hi';omega)
theorem Each.drop {css:List (List Value)} (h:Each S l css w) (k:Nat):Each S (l.drop k) (css.drop k) w:=by
 refine⟨by simp[h.1],fun i hi hi'=>?_⟩
 simp only[List.getElem_drop]
 exact h.2 (k+i) (by simp at hi;omega) (by simp at hi';omega)
theorem Each.append {l2:List α} {css css2:List (List Value)} (h:Each S l css w) (k:Each S l2 css2 w):Each S (l++l2) (css++css2) w:=by
 refine⟨by simp[h.1,k.1],fun i hi hi'=>?_⟩
 have h1:=h.1
 by_cases hlt:i<l.length
 · rw[List.getElem_append_left hlt,List.getElem_append_left (by omega)]
   exact h.2 i hlt (by omega)
 · rw[List.getElem_append_right (by omega),List.getElem_append_right (by omega)]
   have:=k.2 (i - l.length) (by simp at hi;omega) (by simp at hi';omega)
   simpa [h1] using this
def lsr (S:Shp α) (l:List α) (A:Option Addr) (w:World):Prop:=∃ css,Each S l css w/\Reads w w.heap.size S.size A l.length css.flatten
theorem lsr_st (h:lsr S l A w) (k:K w w'):lsr S l A w':=by
 obtain⟨css,h1,h2⟩:=h
 exact⟨css,h1.st k,(h2.below k (Nat.le_refl _)).more k.size⟩
theorem lsr_nil (S:Shp α) (A:Option Addr) (w:World):lsr S [] A w:=⟨[],Each.nil _ _,Reads.nil _ _ _ _⟩
theorem lsr_at (h:lsr S l A w) (i:Nat) (hi:i<l.length) (hs:0<S.size):∃ b off cs,A=some ⟨b,off,none⟩/\b<w.heap.size/\cs.length=S.size/\S.rel l[i] cs w/\∀ j,j<S.size->w.cell? ⟨b,off+i * S.size+j,none⟩=cs[j]?:=by
 obtain⟨css,h1,h2⟩:=h
 obtain⟨cs,hcs,hl,hr,hc⟩:=h1.get i hi
 have h0:0<css.flatten.length:=by rw[h1.flen];exact Nat.mul_pos (by omega) hs
 obtain⟨b,off,rfl,hb,hcell⟩:=h2.2 h0
 refine⟨b,off,cs,rfl,hb,hl,hr,fun j hj=>?_⟩
 have:=hc j hj
 rw[List.getElem?_eq_getElem (show j<cs.length by omega)] at this ⊢
 rw[Nat.add_assoc]
 exact hcell _ _ this
def lst (S:Shp α) (l:List α) (v:Value) (w:World):Prop:=∃ A c,v=.slice A l.length c/\lsr S l A w/\l.length<=c
theorem lst_st (h:lst S l v w) (k:K w w'):lst S l v w':=by
 obtain⟨A,c,h1,h2,h3⟩:=h
 exact⟨A,c,h1,lsr_st h2 k,h3⟩
theorem lst_al (h:lst S l v w):∀ W,K w W->lst S l v W:=fun _ k=>lst_st h k
theorem lst_nil (S:Shp α) (w:World):lst S [] (.slice none 0 0) w:=⟨none,0,rfl,lsr_nil _ _ _,Nat.le_refl _⟩
def OwnL (base lo:Nat) (e:TypeId) (S:Shp α) (l:List α) (v:Value) (w:World):Prop :=
 ∃ css,w.ownsRow base e S.size v l.length css.flatten/\css.length=l.length/\∀ w',UpB lo v.ownBlock w w'->Each S l css w'
theorem OwnL.nil (base lo:Nat) (e:TypeId) (S:Shp α) (w:World):OwnL base lo e S [] (.slice none 0 0) w:=⟨[],World.ownsRow_nil _ _ _ _,rfl,fun _ _=>Each.nil _ _⟩
theorem OwnL.st {e:TypeId} (h:OwnL base lo e S l v w) (k:K w w'):OwnL base lo e S l v w':=by
 obtain⟨css,h1,h2,h3⟩:=h
 exact⟨css,row_below h1 k,h2,fun w'' u=>h3 w'' ((UpB.of_k k lo _).tr u)⟩
theorem OwnL.up {e:TypeId} (h:OwnL base lo e S l v w) (hl:lo<=base) (u:UpB lo none w w'):OwnL base lo e S l v w':=by
 obtain⟨css,h1,h2,h3⟩:=h
 refine⟨css,⟨h1.1,h1.2.imp id ?_⟩,h2,fun w'' u'=>h3 w'' (UpB.tr (u.more (Nat.le_refl _) (fun _ _ _=>by simp)) u')⟩
 rintro ⟨g,cap,cur,g1,g2,g3,g4⟩
 exact⟨g,cap,cur,g1,g2,(u.block g (by omega) (Array.getElem?_eq_some_iff.1 g3).1 (by simp)).trans g3,g4⟩
theorem OwnL.low {e:TypeId} {base':Nat} (h:OwnL base' lo e S l v w) (hb:base<=base'):OwnL base lo e S l v w:=by
 obtain⟨css,h1,h2,h3⟩:=h
 exact⟨css,row_base hb h1,h2,h3⟩
theorem OwnL.slice {e:TypeId} (h:OwnL base lo e S l v w):∃ A c,v=.slice A l.length c/\lsr S l A w/\l.length<=c/\(∀ g,v.ownBlock=some g->base<=g/\g<w.heap.size):=by
 obtain⟨css,h1,h2,h3⟩:=h
 have h1':=h1
 have he:=h3 w (UpB.rf _ _ _)
 have hg:∀ g,v.ownBlock=some g->base<=g/\g<w.heap.size:=fun g hg=>h1.lt g hg
 rcases h1.2 with ⟨rfl,h0⟩|⟨g,cap,cur,rfl,_,_,hn,_⟩
 · obtain rfl:l=[]:=List.eq_nil_of_length_eq_zero h0
   exact⟨none,0,rfl,lsr_nil _ _ _,by simp,hg⟩
 · exact⟨_,_,rfl,⟨css,he,Reads.of_own h1'⟩,hn,hg⟩
theorem OwnL.blk {e:TypeId} (h:OwnL base lo e S l v w):∀ g,v.ownBlock=some g->base<=g/\g<w.heap.size:=by
 obtain⟨css,h1,_,_⟩:=h
 exact fun g hg=>h1.lt g hg
theorem OwnL.lst {e:TypeId} (h:OwnL base lo e S l v w):lst S l v w:=by
 obtain⟨A,c,h1,h2,h3,_⟩:=h.slice
 exact⟨A,c,h1,h2,h3⟩
theorem OwnL.snoc {e:TypeId} {css:List (List Value)} (hcl:css.length=l.length) (hE:∀ w',UpB lo v.ownBlock w w'->Each S l css w')
 {x:α} {cs:List Value} {v':Value} (ho:w'.ownsRow base e S.size v' (l.length+1) (css.flatten++cs)) (hg:w.grownBy w' v.ownBlock) (hat:v'.ownBlock=v.ownBlock∨v'.ownBlock=some w.heap.size)
 (hx:∀ w',UpB lo v.ownBlock w w'->S.rel x cs w'):OwnL base lo e S (l++[x]) v' w':=by
 refine⟨css++[cs],by simpa using ho,by simp[hcl],fun w'' u=>?_⟩
 have u':=UpB.app hg hat u
 exact (hE _ u').snoc (hx _ u')
end
def encA (x:Att):List UInt8:=(packN x.1.size++byt x.1)++packV x.2.1 x.2.2.1 x.2.2.2
def encE (l:List Att):List UInt8:=packN l.length++l.flatMap encA
def encR (l:List Att):List UInt8:=if okE l then encE l else []
theorem okL_all {p:Option ByteArray} {l:List Att} (h:okL p l=true):∀ x∈l,okA x=true:=by
 induction l generalizing p with
 | nil=>simp
 | cons y l ih =>
   simp only[okL,Bool.and_eq_true] at h
   intro x hx
   rcases List.mem_cons.1 hx with rfl|hx
   · exact h.1.1
   · exact ih h.2 x hx
theorem okA_sizes {x:Att} (h:okA x=true):x.1.size<=16/\x.2.2.2.size<=40:=by
 simp only[okA,okName,Bool.and_eq_true,decide_eq_true_eq] at h
 exact⟨h.1.1.2,(okV_kind h.2).2⟩
theorem okE_parts {l:List Att} (h:okE l=true):1<=l.length/\l.length<=16/\okL none l=true:=by
 simp only[okE,Bool.and_eq_true,decide_eq_true_eq] at h
 exact⟨h.1.1,h.1.2,h.2⟩
theorem encA_len {x:Att} (h:okA x=true) (h0:-9223372036854775808<=x.2.2.1) (h1:x.2.2.1<=9223372036854775807):(encA x).length<=92:=by
 obtain⟨a,b⟩:=okA_sizes h
 have h2:=packN_len x.1.size (by omega)
 have h3:=packN_len (kindN x.2.1) (kindN_lt _)
 have h4:=packN_len (numV x.2.1 x.2.2.1) (numV_lt _ _ h0 h1)
 have h5:=packN_len x.2.2.2.size (by omega)
 have e1:x.1.data.size<=16:=a
 have e2:x.2.2.2.data.size<=40:=b
 simp[encA,packV];omega
theorem encT_len (l:List Att) (hk:∀ x∈l,(encA x).length<=92):(l.flatMap encA).length<=92 * l.length:=by
 induction l with
 | nil=>simp
 | cons y l ih =>
   have h1:=ih fun x hx=>hk x (by simp[hx])
   have h2:=hk y (by simp)
   simp only[List.flatMap_cons,List.length_append,List.length_cons]
   omega
theorem encP_len (l:List Att) (k:Nat) (hl:okE l=true) (hi:∀ x∈l,i64ok x.2.1/\i64ok x.2.2.1):(packN l.length++(l.take k).flatMap encA).length<=2000:=by
 obtain⟨h1,h2,h3⟩:=okE_parts hl
 have h4:=packN_len l.length (by omega)
 have h5:=encT_len (l.take k) fun x hx=>encA_len (okL_all h3 x (List.mem_of_mem_take hx)) (hi x (List.mem_of_mem_take hx)).2.1 (hi x (List.mem_of_mem_take hx)).2.2
 have h6:(l.take k).length<=16:=by simp;omega
 simp only[List.length_append];omega
theorem encP_succ (l:List Att) (k:Nat) (h:k<l.length):packN l.length++(l.take (k+1)).flatMap encA=packN l.length++(l.take k).flatMap encA++(packN l[k].1.size++byt l[k].1)++packV l[k].2.1 l[k].2.2.1 l[k].2.2.2:=by
 rw[List.take_succ_eq_append_getElem h,List.flatMap_append,List.flatMap_cons,List.flatMap_nil,List.append_nil]
 simp only[encA,List.append_assoc]
theorem Reads.conv' (w:World) (s:ByteArray) (c:Nat) (x:Nat×Nat) (e:TypeId) (n:Nat) (hn:w.heap.size=n):Reads (w.alloc (.cells (bytesRow s c) e x)).drew (n+1) 1 (some ⟨n,0,none⟩) s.size (bys (byt s)):=by
 subst hn;exact Reads.drew (Reads.conv w s c x e)
