/-
  Plain laws of events: what is encoded is decoded, and what is decoded was encoded so; what is found; what may be left away. Conditions: none beyond those stated.
-/
import Derived.Test.YtagfakjifhdpgaaGreatMa03
set_option maxRecDepth 100000
set_option maxHeartbeats 16000000
set_option linter.unusedVariables false
set_option linter.unusedSimpArgs false
namespace Go.Proofs.YtagfakjifhdpgaaGreat
open Go Go.RowKit
def fitA (x:Att):Prop:=i64ok x.2.1/\i64ok x.2.2.1
theorem byt_mk (l:List UInt8):byt ⟨l.toArray⟩=l:=by simp[byt]
theorem byt_len (s:ByteArray):(byt s).length=s.size:=by simp
theorem rdA_enc (x:Att) (hx:okA x=true) (hf:fitA x) (rest:List UInt8):rdA (encA x++rest) false=(x,rest,false):=by
 obtain⟨h16,h40⟩:=okA_sizes hx
 obtain⟨s,k,n,t⟩:=x
 have hv:okV k n t=true:=by simp only[okA,Bool.and_eq_true] at hx;exact hx.2
 have e1:rdB 16 (encA (s,k,n,t)++rest) false=(byt s,packV k n t++rest,false):=by
  have:=rdB_pack 16 (byt s) (by rw[byt_len];simp at h16;omega) (by rw[byt_len];simp at h16;omega) (packV k n t++rest)
  rw[byt_len] at this
  simp only[encA]
  rw[List.append_assoc (packN s.size++byt s)]
  exact this
 have e2:=rdV_pack k n t hv hf.2.1 hf.2.2 rest
 unfold rdA
 rw[e1]
 simp only
 rw[e2]
theorem rdAs_enc (l:List Att) (h:∀ x∈l,okA x=true/\fitA x) (rest:List UInt8):∀ k,k<=l.length->rdAs k (l.flatMap encA++rest) false=(l.take k,(l.drop k).flatMap encA++rest,false):=by
 intro k
 induction k with
 | zero=>intro _;simp[rdAs]
 | succ k ih =>
   intro hk
   have hk':k<l.length:=by omega
   have hd:l.drop k=l[k] :: l.drop (k+1):=by rw[List.getElem_cons_drop]
   have hx:=h l[k] (List.getElem_mem hk')
   show ((rdAs k (l.flatMap encA++rest) false).1++[(rdA (rdAs k (l.flatMap encA++rest) false).2.1 (rdAs k (l.flatMap encA++rest) false).2.2).1],(rdA (rdAs k (l.flatMap encA++rest) false).2.1 (rdAs k (l.flatMap encA++rest) false).2.2).2)=_
   rw[ih (by omega)]
   simp only
   rw[hd,List.flatMap_cons,List.append_assoc,rdA_enc _ hx.1 hx.2,List.take_succ_eq_append_getElem hk']
theorem dec_parts (l:List Att) (hl:okE l=true) (hf:∀ x∈l,fitA x) (rest:List UInt8):rdN (encE l++rest) false=(l.length,l.flatMap encA++rest,false)/\decS (encE l++rest)=(l,rest,false):=by
 obtain⟨h1,h2,h3⟩:=okE_parts hl
 have e1:rdN (encE l++rest) false=(l.length,l.flatMap encA++rest,false):=by
  unfold encE;rw[List.append_assoc];exact rdN_pack l.length (by omega) _
 refine⟨e1,?_⟩
 have h5:=rdAs_enc l (fun x hx=>⟨okL_all h3 x hx,hf x hx⟩) rest l.length (Nat.le_refl _)
 unfold decS
 rw[e1]
 simpa using h5
theorem decE_enc (l:List Att) (hl:okE l=true) (hf:∀ x∈l,fitA x):decE (encE l)=some l:=by
 have h:=dec_parts l hl hf []
 rw[List.append_nil] at h
 have h2:=(okE_parts hl).2.1
 unfold decE
 rw[h.2,h.1]
 simp[hl,h2]
theorem rdA_back {l:List UInt8} {wr:Bool} (h:(rdA l wr).2.2=false):l=encA (rdA l wr).1++(rdA l wr).2.1/\wr=false:=by
 obtain⟨e2,_,w2,_⟩:=rdV_back (l:=(rdB 16 l wr).2.1) (wr:=(rdB 16 l wr).2.2) h
 obtain⟨e1,_,w1⟩:=rdB_back w2
 refine⟨?_,w1⟩
 unfold rdA encA
 simp only
 rw[byt_mk]
 have hs:(⟨(rdB 16 l wr).1.toArray⟩:ByteArray).size=(rdB 16 l wr).1.length:=by simp[ByteArray.size]
 rw[hs,List.append_assoc,<- e2]
 exact e1
theorem rdAs_back {k:Nat} {l:List UInt8} {wr:Bool} (h:(rdAs k l wr).2.2=false):l=(rdAs k l wr).1.flatMap encA++(rdAs k l wr).2.1/\wr=false:=by
 induction k with
 | zero=>exact⟨by simp[rdAs],h⟩
 | succ k ih =>
   obtain⟨e1,w1⟩:=rdA_back (l:=(rdAs k l wr).2.1) (wr:=(rdAs k l wr).2.2) h
   obtain⟨e2,w2⟩:=ih w1
   refine⟨?_,w2⟩
   show l=((rdAs k l wr).1++[(rdA (rdAs k l wr).2.1 (rdAs k l wr).2.2).1]).flatMap encA++(rdA (rdAs k l wr).2.1 (rdAs k l wr).2.2).2.1
   rw[List.flatMap_append,List.flatMap_cons,List.flatMap_nil,List.append_nil,List.append_assoc,<- e1]
   exact e2
theorem decE_back {b:List UInt8} {y:List Att} (h:decE b=some y):b=encE y/\okE y=true/\∀ x∈y,fitA x:=by
 unfold decE at h
 split at h
 · rename_i hq
   injection h with h
   simp only[Bool.and_eq_true,Bool.not_eq_true',List.isEmpty_iff,decide_eq_true_eq] at hq
   obtain⟨⟨⟨h16,hw⟩,hr⟩,hok⟩:=hq
   unfold decS at hw hr hok h
   obtain⟨e2,w2⟩:=rdAs_back hw
   obtain⟨e1,_⟩:=rdN_back w2
   have hlen:=(rdAs_len (rdN b false).1 (rdN b false).2.1 (rdN b false).2.2).2
   have hfit:=rdAs_fit (rdN b false).1 (rdN b false).2.1 (rdN b false).2.2
   rw[h] at e2 hlen hok hfit
   rw[hr,List.append_nil] at e2
   refine⟨?_,hok,fun x hx=>(hfit x hx).1⟩
   unfold encE
   rw[hlen,<- e2]
   exact e1
 · cases h
theorem encE_len {l:List Att} (h:okE l=true) (hf:∀ x∈l,fitA x):(encE l).length<=2000:=by
 have:=encP_len l l.length h hf
 rwa [List.take_length] at this
structure Ent where
 kind:Int
 br:Int
 life:Nat
 ser:Nat
 cl:Int
 sub:Nat
 f:List Tst
 es:List (List Att)
 deriving DecidableEq
def ent0:Ent:=⟨0,0,0,0,0,0,[],[]⟩
def fitEn (x:Ent):Prop:=i64ok x.kind/\i64ok x.br/\i64ok x.cl/\x.life<18446744073709551616/\x.ser<18446744073709551616/\x.sub<18446744073709551616/\(∀ t∈x.f,fitT t)/\∀ e∈x.es,∀ a∈e,fitA a
def homeB (b:Int):Bool:=decide (0<=b)&&decide (b<16)
def okEn (x:Ent):Bool :=
 homeB x.br&&decide (0<=x.cl)&&decide (x.cl<32) &&
  (if x.kind=1 then decide (x.sub=0)&&x.f.isEmpty&&decide (x.es.length<=8)&&x.es.all okE
   else if x.kind=3 then x.f.isEmpty&&x.es.isEmpty
   else if x.kind=2 then x.es.isEmpty&&okF x.f else false)
def chkEn (x:Ent):Int:=if okEn x then 0 else 110
def packB (b:List UInt8):List UInt8:=packN b.length++b
def encHd (x:Ent):List UInt8:=packN (kindN x.kind)++(packN (kindN x.br)++(packN x.life++(packN x.ser++(packN (kindN x.cl)++packN x.sub))))
def encEn (x:Ent):List UInt8 :=
 encHd x++(if x.kind=1 then packN x.es.length++x.es.flatMap (fun e=>packB (encE e)) else if x.kind=2 then packB (encF x.f) else [])
def rdEv (n:Int):Rdr (List Att):=fun l wr=>match decE (rdB n l wr).1 with
 | none=>([],(rdB n l wr).2.1,true)
 | some e=>(e,(rdB n l wr).2)
def rdFi (n:Int):Rdr (List Tst):=fun l wr=>match decF8 (rdB n l wr).1 with
 | none=>([],(rdB n l wr).2.1,true)
 | some e=>(e,(rdB n l wr).2)
theorem rdEv_codec (n:Int):Codec (fun e=>packB (encE e)) (fun e=>okE e=true/\(∀ x∈e,fitA x)/\((encE e).length:Int)<=n) (rdEv n) where
 fwd:=by
  rintro e ⟨h1,h2,h3⟩ rest
  have hl:=encE_len h1 h2
  have hb:=rdB_pack n (encE e) (by omega) h3 rest
  simp only[rdEv,packB]
  rw[hb]
  simp only[decE_enc e h1 h2]
 back:=by
  intro l wr h
  simp only[rdEv] at h ⊢
  cases hd:decE (rdB n l wr).1 with
  | none=>rw[hd] at h;cases h
  | some e =>
    rw[hd] at h
    obtain⟨e1,_,w1⟩:=rdB_back h
    have e2:=(decE_back hd).1
    refine⟨?_,w1⟩
    simp only[packB]
    rw[<- e2]
    exact e1
 len:=by
  intro l wr
  have:=rdB_len n l wr
  simp only[rdEv]
  split <;> simpa using this
theorem encF_len9 {l:List Tst} (h:okF l=true) (hf:∀ x∈l,fitT x) (hl:(encF l).length<18446744073709551616) (n:Int) (hn:((encF l).length:Int)<=n) (rest:List UInt8):rdFi n (packB (encF l)++rest) false=(l,rest,false):=by
 have hb:=rdB_pack n (encF l) hl hn rest
 simp only[rdFi,packB]
 rw[hb]
 simp only[decF_enc l h hf]
theorem rdFi_back (n:Int) (l:List UInt8) (wr:Bool) (h:(rdFi n l wr).2.2=false):l=packB (encF (rdFi n l wr).1)++(rdFi n l wr).2.1/\wr=false:=by
 simp only[rdFi] at h ⊢
 cases hd:decF8 (rdB n l wr).1 with
 | none=>rw[hd] at h;cases h
 | some e =>
   rw[hd] at h
   obtain⟨e1,_,w1⟩:=rdB_back h
   have e2:=(decF_back hd).1
   refine⟨?_,w1⟩
   simp only[packB]
   rw[<- e2]
   exact e1
def rd6 (l:List UInt8) (wr:Bool):(Nat×Nat×Nat×Nat×Nat×Nat)×List UInt8×Bool :=
 let r1:=rdN l wr
 let r2:=rdN r1.2.1 r1.2.2
 let r3:=rdN r2.2.1 r2.2.2
 let r4:=rdN r3.2.1 r3.2.2
 let r5:=rdN r4.2.1 r4.2.2
 let r6:=rdN r5.2.1 r5.2.2
 ((r1.1,r2.1,r3.1,r4.1,r5.1,r6.1),r6.2)
theorem rd6_fwd (a b c d e f:Nat) (ha:a<18446744073709551616) (hb:b<18446744073709551616) (hc:c<18446744073709551616) (hd:d<18446744073709551616) (he:e<18446744073709551616) (hf:f<18446744073709551616) (rest:List UInt8) :
 rd6 (packN a++(packN b++(packN c++(packN d++(packN e++packN f))))++rest) false=((a,b,c,d,e,f),rest,false):=by
 simp only[rd6,List.append_assoc,rdN_pack,ha,hb,hc,hd,he,hf]
theorem rd6_back (l:List UInt8) (wr:Bool) (h:(rd6 l wr).2.2=false) :
 l=packN (rd6 l wr).1.1++(packN (rd6 l wr).1.2.1++(packN (rd6 l wr).1.2.2.1++(packN (rd6 l wr).1.2.2.2.1++(packN (rd6 l wr).1.2.2.2.2.1++packN (rd6 l wr).1.2.2.2.2.2))))++(rd6 l wr).2.1/\wr=false:=by
 simp only[rd6] at h ⊢
 obtain⟨e6,h⟩:=rdN_back h
 obtain⟨e5,h⟩:=rdN_back h
 obtain⟨e4,h⟩:=rdN_back h
 obtain⟨e3,h⟩:=rdN_back h
 obtain⟨e2,h⟩:=rdN_back h
 obtain⟨e1,h⟩:=rdN_back h
 refine⟨?_,h⟩
 simp only[List.append_assoc]
 rw[<- e6,<- e5,<- e4,<- e3,<- e2]
 exact e1
theorem packV_len' {k n:Int} {s:ByteArray} (h0:-9223372036854775808<=n) (h1:n<=9223372036854775807) (hs:s.size<=40):(packV k n s).length<=67:=by
 have g1:=packN_len (kindN k) (kindN_lt _)
 have g2:=packN_len (numV k n) (numV_lt _ _ h0 h1)
 have g3:=packN_len s.size (by omega)
 have g4:s.data.size<=40:=hs
 simp[packV];omega
theorem encT_ln' {t:Tst} (h:okT t=true) (hf:fitT t):(encT t).length<=101:=by
 obtain⟨hs,_,_,h8,hn⟩:=okT_parts h
 have h2:=packN_len t.1.size (by omega)
 have h3:=packN_len (kindN t.2.1) (kindN_lt _)
 have e1:t.1.data.size<=16:=hs
 unfold encT
 simp only[List.length_append]
 split
 · simp only[byt,Array.length_toList,List.length_nil]
   omega
 · rename_i e
   have h1:(packV t.2.2.1 t.2.2.2.1 t.2.2.2.2).length<=67:=packV_len' hf.2.2.1 hf.2.2.2 (okV_kind (hn (by simpa using e))).2
   simp only[byt,Array.length_toList]
   omega
def hdEn (a:Nat×Nat×Nat×Nat×Nat×Nat):Ent:=⟨(min a.1 4:Nat),(min a.2.1 16:Nat),a.2.2.1,a.2.2.2.1,(min a.2.2.2.2.1 32:Nat),a.2.2.2.2.2,[],[]⟩
def rdEn (n:Int):Rdr Ent:=fun l wr =>
 if min (rd6 l wr).1.1 4=1 then
  ({ hdEn (rd6 l wr).1 with es:=(rdL (rdEv n) (min (rdN (rd6 l wr).2.1 (rd6 l wr).2.2).1 9) (rdN (rd6 l wr).2.1 (rd6 l wr).2.2).2.1 (rdN (rd6 l wr).2.1 (rd6 l wr).2.2).2.2).1 },
   (rdL (rdEv n) (min (rdN (rd6 l wr).2.1 (rd6 l wr).2.2).1 9) (rdN (rd6 l wr).2.1 (rd6 l wr).2.2).2.1 (rdN (rd6 l wr).2.1 (rd6 l wr).2.2).2.2).2)
 else if min (rd6 l wr).1.1 4=2 then ({ hdEn (rd6 l wr).1 with f:=(rdFi n (rd6 l wr).2.1 (rd6 l wr).2.2).1 },(rdFi n (rd6 l wr).2.1 (rd6 l wr).2.2).2)
 else (hdEn (rd6 l wr).1,(rd6 l wr).2)
theorem okEn_parts {x:Ent} (h:okEn x=true):(0<=x.br/\x.br<16)/\(0<=x.cl/\x.cl<32) /\
 ((x.kind=1/\x.sub=0/\x.f=[]/\x.es.length<=8/\∀ e∈x.es,okE e=true)∨(x.kind=3/\x.f=[]/\x.es=[])∨(x.kind=2/\x.es=[]/\okF x.f=true)):=by
 simp only[okEn,homeB,Bool.and_eq_true,decide_eq_true_eq] at h
 obtain⟨⟨⟨⟨h1,h2⟩,h3⟩,h4⟩,h5⟩:=h
 refine⟨⟨h1,h2⟩,⟨h3,h4⟩,?_⟩
 split at h5
 · rename_i hk
   simp only[Bool.and_eq_true,decide_eq_true_eq,List.isEmpty_iff,List.all_eq_true] at h5
   exact .inl ⟨hk,h5.1.1.1,h5.1.1.2,h5.1.2,h5.2⟩
 · split at h5
   · rename_i hk
     simp only[Bool.and_eq_true,List.isEmpty_iff] at h5
     exact .inr (.inl ⟨hk,h5.1,h5.2⟩)
   · split at h5
     · rename_i hk
       simp only[Bool.and_eq_true,List.isEmpty_iff] at h5
       exact .inr (.inr ⟨hk,h5.1,h5.2⟩)
     · cases h5
theorem kindN_nat (k:Int) (h0:0<=k) (h1:k<100):kindN k=k.toNat:=by unfold kindN;omega
theorem rdEn_fwd (n:Int) (x:Ent) (h:okEn x=true) (hf:fitEn x) (hes:∀ e∈x.es,((encE e).length:Int)<=n) (hff:((encF x.f).length:Int)<=n) (hf9:(encF x.f).length<18446744073709551616) (rest:List UInt8) :
 rdEn n (encEn x++rest) false=(x,rest,false):=by
 obtain⟨⟨hb0,hb1⟩,⟨hc0,hc1⟩,hk⟩:=okEn_parts h
 obtain⟨_,_,_,hl,hs,hu,hft,hfa⟩:=hf
 obtain⟨kind,br,life,ser,cl,sub,f,es⟩:=x
 simp only at hb0 hb1 hc0 hc1 hk hl hs hu hft hfa hes hff hf9
 have hbk:=kindN_nat br hb0 (by omega)
 have hck:=kindN_nat cl hc0 (by omega)
 have h6:∀ R,rd6 (encHd ⟨kind,br,life,ser,cl,sub,f,es⟩++R) false=((kindN kind,kindN br,life,ser,kindN cl,sub),R,false):=fun R =>
  rd6_fwd (kindN kind) (kindN br) life ser (kindN cl) sub (kindN_lt _) (kindN_lt _) hl hs (kindN_lt _) hu R
 have hm16:((min (kindN br) 16:Nat):Int)=br:=by omega
 have hm32:((min (kindN cl) 32:Nat):Int)=cl:=by omega
 rcases hk with ⟨rfl,rfl,rfl,h8,hall⟩|⟨rfl,rfl,rfl⟩|⟨rfl,rfl,hok⟩
 · have e:encEn ⟨1,br,life,ser,cl,0,[],es⟩++rest=encHd ⟨1,br,life,ser,cl,0,[],es⟩++(packN es.length++(es.flatMap (fun e=>packB (encE e))++rest)):=by
    simp[encEn,List.append_assoc]
   have hL:=rdL_fwd (rdEv_codec n) es (fun e he=>⟨hall e he,hfa e he,hes e he⟩) rest es.length (Nat.le_refl _)
   have hk1:kindN 1=1:=rfl
   unfold rdEn
   rw[e,h6]
   simp only[hk1]
   rw[if_pos (by decide),rdN_pack es.length (by omega)]
   simp only
   rw[show min es.length 9=es.length by omega,hL]
   simp[hdEn,hm16,hm32]
 · have e:encEn ⟨3,br,life,ser,cl,sub,[],[]⟩++rest=encHd ⟨3,br,life,ser,cl,sub,[],[]⟩++rest:=by simp[encEn]
   have hk1:kindN 3=3:=rfl
   unfold rdEn
   rw[e,h6]
   simp only[hk1]
   rw[if_neg (by decide),if_neg (by decide)]
   simp[hdEn,hm16,hm32]
 · have e:encEn ⟨2,br,life,ser,cl,sub,f,[]⟩++rest=encHd ⟨2,br,life,ser,cl,sub,f,[]⟩++(packB (encF f)++rest):=by simp[encEn,List.append_assoc]
   have hk1:kindN 2=2:=rfl
   unfold rdEn
   rw[e,h6]
   simp only[hk1]
   rw[if_neg (by decide),if_pos (by decide),encF_len9 hok hft hf9 n hff]
   simp[hdEn,hm16,hm32]
theorem encEn_1 {x:Ent} (h:x.kind=1):encEn x=encHd x++(packN x.es.length++x.es.flatMap fun e=>packB (encE e)):=by unfold encEn;rw[if_pos h]
theorem encEn_2 {x:Ent} (h:x.kind=2):encEn x=encHd x++packB (encF x.f):=by unfold encEn;rw[if_neg (by omega),if_pos h]
theorem encEn_3 {x:Ent} (h1:¬ x.kind=1) (h2:¬ x.kind=2):encEn x=encHd x:=by unfold encEn;rw[if_neg h1,if_neg h2,List.append_nil]
theorem rdEn_back (n:Int) (l:List UInt8) (wr:Bool) (h:(rdEn n l wr).2.2=false) (ok:okEn (rdEn n l wr).1=true):l=encEn (rdEn n l wr).1++(rdEn n l wr).2.1/\wr=false:=by
 have h6:=rd6_back l wr
 unfold rdEn at h ok ⊢
 generalize rd6 l wr=r at *
 obtain⟨⟨a,b,c,d,e,f⟩,l6,w6⟩:=r
 simp only at h ok h6 ⊢
 have hd:∀ x:Ent,x.kind=(min a 4:Nat)->x.br=(min b 16:Nat)->x.cl=(min e 32:Nat)->x.life=c->x.ser=d->x.sub=f->okEn x=true ->
  encHd x=packN a++(packN b++(packN c++(packN d++(packN e++packN f)))):=by
  intro x h1 h2 h3 h4 h5 h6 hx
  obtain⟨⟨hb0,hb1⟩,⟨hc0,hc1⟩,hk⟩:=okEn_parts hx
  have hka:kindN x.kind=a:=by
   have:x.kind=1∨x.kind=3∨x.kind=2:=by
    rcases hk with hk|hk|hk
    · exact .inl hk.1
    · exact .inr (.inl hk.1)
    · exact .inr (.inr hk.1)
   rw[kindN_nat x.kind (by omega) (by omega)];omega
  have hkb:kindN x.br=b:=by rw[kindN_nat x.br hb0 (by omega)];omega
  have hke:kindN x.cl=e:=by rw[kindN_nat x.cl hc0 (by omega)];omega
  unfold encHd
  rw[hka,hkb,hke,h4,h5,h6]
 split at h
 · rename_i hk1
   rw[if_pos hk1] at ok ⊢
   have h8:(rdL (rdEv n) (min (rdN l6 w6).1 9) (rdN l6 w6).2.1 (rdN l6 w6).2.2).1.length=min (rdN l6 w6).1 9:=(rdL_len (rdEv_codec n) _ _ _).2
   obtain⟨e8,w8⟩:=rdL_back (rdEv_codec n) h
   obtain⟨e7,w7⟩:=rdN_back w8
   obtain⟨e6,w⟩:=h6 w7
   refine⟨?_,w⟩
   have hh:=hd _ rfl rfl rfl rfl rfl rfl ok
   obtain⟨-,-,hk⟩:=okEn_parts ok
   have hes:(rdL (rdEv n) (min (rdN l6 w6).1 9) (rdN l6 w6).2.1 (rdN l6 w6).2.2).1.length<=8:=by
    rcases hk with hk|hk|hk
    · exact hk.2.2.2.1
    · have:=hk.1;simp only[hdEn] at this;omega
    · have:=hk.1;simp only[hdEn] at this;omega
   have hm:min (rdN l6 w6).1 9=(rdN l6 w6).1:=by omega
   rw[encEn_1 (by simp only[hdEn];omega),hh]
   simp only
   rw[h8,hm]
   rw[hm] at e8
   generalize packN a++(packN b++(packN c++(packN d++(packN e++packN f))))=H at e6 ⊢
   rw[List.append_assoc H,List.append_assoc (packN (rdN l6 w6).1),<- e8,<- e7]
   exact e6
 · rename_i hk1
   rw[if_neg hk1] at ok ⊢
   split at h
   · rename_i hk2
     rw[if_pos hk2] at ok ⊢
     obtain⟨e8,w8⟩:=rdFi_back n l6 w6 h
     obtain⟨e6,w⟩:=h6 w8
     refine⟨?_,w⟩
     have hh:=hd _ rfl rfl rfl rfl rfl rfl ok
     rw[encEn_2 (by simp only[hdEn];omega),hh]
     simp only
     generalize packN a++(packN b++(packN c++(packN d++(packN e++packN f))))=H at e6 ⊢
     rw[List.append_assoc H,<- e8]
     exact e6
   · rename_i hk2
     rw[if_neg hk2] at ok ⊢
     obtain⟨e6,w⟩:=h6 h
     refine⟨?_,w⟩
     have hh:=hd _ rfl rfl rfl rfl rfl rfl ok
     rw[encEn_3 (by simp only[hdEn];omega) (by simp only[hdEn];omega),hh]
     exact e6
def decEn (b:List UInt8):Option Ent:=if !(rdEn b.length b false).2.2&&(rdEn b.length b false).2.1.isEmpty&&okEn (rdEn b.length b false).1 then some (rdEn b.length b false).1 else none
def decEnX (b:List UInt8):Ent:=(decEn b).getD ent0
def decEnC (b:List UInt8):Int:=if (decEn b).isSome then 0 else 110
theorem decEn_back {b:List UInt8} {x:Ent} (h:decEn b=some x):b=encEn x/\okEn x=true:=by
 unfold decEn at h
 split at h
 · rename_i hq
   injection h with h
   simp only[Bool.and_eq_true,Bool.not_eq_true',List.isEmpty_iff] at hq
   obtain⟨⟨h1,h2⟩,h3⟩:=hq
   have hb:=(rdEn_back _ b false h1 h3).1
   rw[h2,List.append_nil,h] at hb
   rw[h] at h3
   exact⟨hb,h3⟩
 · cases h
theorem encEn_es (x:Ent) (hk:x.kind=1) (e:List Att) (he:e∈x.es):(encE e).length<=(encEn x).length:=by
 have h1:(packB (encE e)).length<=(x.es.flatMap fun e=>packB (encE e)).length:=by
  obtain⟨s,t,hs⟩:=List.append_of_mem he
  rw[hs,List.flatMap_append,List.flatMap_cons]
  simp only[List.length_append]
  omega
 unfold encEn
 rw[if_pos hk]
 simp only[packB,List.length_append] at h1 ⊢
 omega
theorem decEn_enc (x:Ent) (h:okEn x=true) (hf:fitEn x):decEn (encEn x)=some x:=by
 obtain⟨-,-,hk⟩:=okEn_parts h
 have hF:(encF x.f).length<18446744073709551616/\((encF x.f).length:Int)<=((encEn x).length:Int):=by
  have hp1:1<=(packN (kindN x.kind)).length:=by simp[packN]
  have hp:1<=(encHd x).length:=by unfold encHd;rw[List.length_append];omega
  rcases hk with ⟨_,_,hfn,_⟩|⟨_,hfn,_⟩|⟨hk,_,hok⟩
  · rw[hfn]
    have:(encF []).length=1:=by simp[encF,packN,longN,be]
    rw[this];unfold encEn;rw[List.length_append];omega
  · rw[hfn]
    have:(encF []).length=1:=by simp[encF,packN,longN,be]
    rw[this];unfold encEn;rw[List.length_append];omega
  · refine⟨?_,?_⟩
    · have h8:=okF_parts hok
      have hft:=hf.2.2.2.2.2.2.1
      have h4:=packN_len x.f.length (by omega)
      have h5:(x.f.flatMap encT).length<=101 * x.f.length:=by
       have:∀ l:List Tst,(∀ t∈l,okT t=true/\fitT t)->(l.flatMap encT).length<=101 * l.length:=by
        intro l
        induction l with
        | nil=>simp
        | cons y l ih =>
          intro hl
          have h1:=ih fun t ht=>hl t (by simp[ht])
          obtain⟨g1,g2⟩:=hl y (by simp)
          have h2:(encT y).length<=101:=encT_ln' g1 g2
          simp only[List.flatMap_cons,List.length_append,List.length_cons]
          omega
       exact this _ fun t ht=>⟨h8.2 t ht,hft t ht⟩
      unfold encF;rw[List.length_append];omega
    · unfold encEn
      rw[if_neg (by omega),if_pos hk]
      simp only[packB,List.length_append];omega
 have hE:∀ e∈x.es,((encE e).length:Int)<=((encEn x).length:Int):=by
  intro e he
  rcases hk with ⟨hk,_⟩|⟨_,_,hn⟩|⟨_,hn,_⟩
  · have:=encEn_es x hk e he;omega
  · rw[hn] at he;cases he
  · rw[hn] at he;cases he
 have hR:=rdEn_fwd (encEn x).length x h hf hE hF.2 hF.1 []
 rw[List.append_nil] at hR
 unfold decEn
 rw[hR]
 simp[h]
theorem encF_most {l:List Tst} (h:okF l=true) (hf:∀ x∈l,fitT x):(encF l).length<=900:=by
 have h8:=okF_parts h
 have h4:=packN_len l.length (by omega)
 have h5:∀ l:List Tst,(∀ t∈l,okT t=true/\fitT t)->(l.flatMap encT).length<=101 * l.length:=by
  intro l
  induction l with
  | nil=>simp
  | cons y l ih =>
    intro hl
    have h1:=ih fun t ht=>hl t (by simp[ht])
    obtain⟨g1,g2⟩:=hl y (by simp)
    have h2:(encT y).length<=101:=encT_ln' g1 g2
    simp only[List.flatMap_cons,List.length_append,List.length_cons]
    omega
 have h6:=h5 l fun t ht=>⟨h8.2 t ht,hf t ht⟩
 unfold encF;rw[List.length_append];omega
theorem encEs_most (es:List (List Att)) (h:∀ e∈es,okE e=true/\∀ a∈e,fitA a):(es.flatMap fun e=>packB (encE e)).length<=2009 * es.length:=by
 induction es with
 | nil=>simp
 | cons y l ih =>
   have h1:=ih fun t ht=>h t (by simp[ht])
   obtain⟨g1,g2⟩:=h y (by simp)
   have h2:=encE_len g1 g2
   have h3:=packN_len (encE y).length (by omega)
   have h4:(packB (encE y)).length=(packN (encE y).length).length+(encE y).length:=by simp[packB]
   simp only[List.flatMap_cons,List.length_append,List.length_cons]
   omega
theorem encEn_len {x:Ent} (h:okEn x=true) (hf:fitEn x):(encEn x).length<=20000:=by
 obtain⟨_,_,hk⟩:=okEn_parts h
 obtain⟨_,_,_,hl,hs,hu,hft,hfa⟩:=hf
 have g1:=packN_len (kindN x.kind) (kindN_lt _)
 have g2:=packN_len (kindN x.br) (kindN_lt _)
 have g3:=packN_len x.life hl
 have g4:=packN_len x.ser hs
 have g5:=packN_len (kindN x.cl) (kindN_lt _)
 have g6:=packN_len x.sub hu
 have hh:(encHd x).length<=54:=by unfold encHd;simp only[List.length_append];omega
 rcases hk with ⟨hk,_,_,h8,hall⟩|⟨hk,_,_⟩|⟨hk,_,hok⟩
 · have h1:=encEs_most x.es fun e he=>⟨hall e he,hfa e he⟩
   have h2:=packN_len x.es.length (by omega)
   rw[encEn_1 hk];simp only[List.length_append];omega
 · rw[encEn_3 (by omega) (by omega)];omega
 · have h1:=encF_most hok hft
   have h2:=packN_len (encF x.f).length (by omega)
   rw[encEn_2 hk];simp only[List.length_append,packB];omega
structure Rec where
 kind:Int
 n:Nat
 e:Ent
 br:Int
 life:Nat
 ser:Nat
 deriving DecidableEq
def rec0:Rec:=⟨0,0,ent0,0,0,0⟩
def fitRec (x:Rec):Prop:=i64ok x.kind/\x.n<18446744073709551616/\fitEn x.e/\i64ok x.br/\x.life<18446744073709551616/\x.ser<18446744073709551616
def noId (x:Rec):Bool:=decide (x.br=0)&&decide (x.life=0)&&decide (x.ser=0)
def okRec (x:Rec):Bool :=
 if x.kind=1 then decide (x.e=ent0)&&noId x
 else if x.kind=2 then okEn x.e&&noId x
 else if x.kind=3 then decide (x.n=0)&&okEn x.e&&noId x
 else if x.kind=4∨x.kind=5 then homeB x.br&&decide (x.n=0)&&decide (x.e=ent0) else false
def encRec (x:Rec):List UInt8 :=
 packN (kindN x.kind)++(packN x.n++(if x.kind=2∨x.kind=3 then packB (encEn x.e) else if x.kind=4∨x.kind=5 then packN (kindN x.br)++(packN x.life++packN x.ser) else []))
theorem okRec_kind {x:Rec} (h:okRec x=true):(x.kind=1/\x.e=ent0/\x.br=0/\x.life=0/\x.ser=0)∨((x.kind=2∨x.kind=3/\x.n=0)/\okEn x.e=true/\x.br=0/\x.life=0/\x.ser=0) ∨
 ((x.kind=4∨x.kind=5)/\(0<=x.br/\x.br<16)/\x.n=0/\x.e=ent0):=by
 unfold okRec noId homeB at h
 split at h
 · rename_i hk
   simp only[Bool.and_eq_true,decide_eq_true_eq] at h
   exact .inl ⟨hk,h.1,h.2.1.1,h.2.1.2,h.2.2⟩
 · split at h
   · rename_i hk
     simp only[Bool.and_eq_true,decide_eq_true_eq] at h
     exact .inr (.inl ⟨.inl hk,h.1,h.2.1.1,h.2.1.2,h.2.2⟩)
   · split at h
     · rename_i hk
       simp only[Bool.and_eq_true,decide_eq_true_eq] at h
       exact .inr (.inl ⟨.inr ⟨hk,h.1.1⟩,h.1.2,h.2.1.1,h.2.1.2,h.2.2⟩)
     · split at h
       · rename_i hk
         simp only[Bool.and_eq_true,decide_eq_true_eq] at h
         exact .inr (.inr ⟨hk,h.1.1,h.1.2,h.2⟩)
       · cases h
def rdRec (m:Int):Rdr Rec:=fun l wr =>
 let a:=rdN l wr
 let b:=rdN a.2.1 a.2.2
 let k:=min a.1 6
 if k=2∨k=3 then
  match decEn (rdB m b.2.1 b.2.2).1 with
  | none=>(rec0,(rdB m b.2.1 b.2.2).2.1,true)
  | some e=>(⟨(k:Nat),b.1,e,0,0,0⟩,(rdB m b.2.1 b.2.2).2)
 else if k=4∨k=5 then
  let c:=rdN b.2.1 b.2.2
  let d:=rdN c.2.1 c.2.2
  let e:=rdN d.2.1 d.2.2
  (⟨(k:Nat),b.1,ent0,(min c.1 16:Nat),d.1,e.1⟩,e.2)
 else (⟨(k:Nat),b.1,ent0,0,0,0⟩,b.2)
theorem rdRec_fwd (m:Int) (x:Rec) (h:okRec x=true) (hf:fitRec x) (hm:((encEn x.e).length:Int)<=m) (hl:(encEn x.e).length<18446744073709551616) (rest:List UInt8):rdRec m (encRec x++rest) false=(x,rest,false):=by
 obtain⟨kind,n,e,br,life,ser⟩:=x
 obtain⟨-,hn,hfe,-,hli,hse⟩:=hf
 simp only at hn hfe hli hse hm hl
 rcases okRec_kind h with ⟨hk,he,hb,h1,h2⟩|⟨hk,he,hb,h1,h2⟩|⟨hk,hb,h1,he⟩
 · simp only at hk he hb h1 h2
   subst hk he hb h1 h2
   have e1:encRec ⟨1,n,ent0,0,0,0⟩++rest=packN 1++(packN n++rest):=by
    simp[encRec,show kindN 1=1 from rfl,List.append_assoc]
   simp only[rdRec]
   rw[e1,rdN_pack 1 (by decide)]
   simp only[rdN_pack,hn]
   simp
 · simp only at hk he hb h1 h2
   subst hb h1 h2
   have hkk:kind=2∨kind=3:=by omega
   have hkn:=kindN_nat kind (by omega) (by omega)
   have e1:encRec ⟨kind,n,e,0,0,0⟩++rest=packN (kindN kind)++(packN n++(packN (encEn e).length++encEn e++rest)):=by
    simp only[encRec]
    rw[if_pos hkk]
    simp[packB,List.append_assoc]
   have hbp:=rdB_pack m (encEn e) hl hm rest
   simp only[rdRec]
   rw[e1,rdN_pack _ (kindN_lt _)]
   simp only[rdN_pack,hn]
   rw[if_pos (by omega),hbp]
   simp only[decEn_enc e he hfe]
   rw[show ((min (kindN kind) 6:Nat):Int)=kind by omega]
 · simp only at hk hb h1 he
   subst h1 he
   have hkn:=kindN_nat kind (by omega) (by omega)
   have hbn:=kindN_nat br hb.1 (by omega)
   have e1:encRec ⟨kind,0,ent0,br,life,ser⟩++rest=packN (kindN kind)++(packN 0++(packN (kindN br)++(packN life++(packN ser++rest)))):=by
    simp only[encRec]
    rw[if_neg (by omega),if_pos hk]
    simp[List.append_assoc]
   simp only[rdRec]
   rw[e1,rdN_pack _ (kindN_lt _)]
   simp only[rdN_pack,hli,hse,kindN_lt,show (0:Nat)<18446744073709551616 by decide]
   rw[if_neg (by omega),if_pos (by omega),show ((min (kindN kind) 6:Nat):Int)=kind by omega,show ((min (kindN br) 16:Nat):Int)=br by omega]
theorem rdRec_back (m:Int) (l:List UInt8) (wr:Bool) (h:(rdRec m l wr).2.2=false) (ok:okRec (rdRec m l wr).1=true):l=encRec (rdRec m l wr).1++(rdRec m l wr).2.1/\wr=false:=by
 have ha:=@rdN_back l wr
 unfold rdRec at h ok ⊢
 simp only at h ok ⊢
 generalize rdN l wr=a at *
 obtain⟨a,l1,w1⟩:=a
 simp only at h ok ha ⊢
 have hb:=@rdN_back l1 w1
 generalize rdN l1 w1=b at *
 obtain⟨b,l2,w2⟩:=b
 simp only at h ok hb ⊢
 split at h
 · rename_i hk
   rw[if_pos hk] at ok ⊢
   have hB:=@rdB_back m l2 w2
   generalize rdB m l2 w2=r at *
   obtain⟨bs,l3,w3⟩:=r
   simp only at h ok hB ⊢
   cases hd:decEn bs with
   | none=>rw[hd] at h;cases h
   | some e =>
     rw[hd] at h ok
     simp only at h ok ⊢
     obtain⟨e3,_,w⟩:=hB h
     obtain⟨e2,w⟩:=hb w
     obtain⟨e1,w⟩:=ha w
     refine⟨?_,w⟩
     have hbe:=(decEn_back hd).1
     have hkn:kindN ((min a 6:Nat):Int)=a:=by rw[kindN_nat _ (by omega) (by omega)];omega
     unfold encRec
     simp only
     rw[if_pos (by omega),hkn]
     simp only[packB,List.append_assoc]
     rw[<- hbe,<- List.append_assoc (packN bs.length),<- e3,<- e2]
     exact e1
 · rename_i hk
   rw[if_neg hk] at ok ⊢
   split at h
   · rename_i hk4
     rw[if_pos hk4] at ok ⊢
     have hc:=@rdN_back l2 w2
     generalize rdN l2 w2=c at *
     obtain⟨c,l3,w3⟩:=c
     simp only at h ok hc ⊢
     have hd:=@rdN_back l3 w3
     generalize rdN l3 w3=d at *
     obtain⟨d,l4,w4⟩:=d
     simp only at h ok hd ⊢
     have he:=@rdN_back l4 w4
     generalize rdN l4 w4=e at *
     obtain⟨e,l5,w5⟩:=e
     simp only at h ok he ⊢
     obtain⟨e5,w⟩:=he h
     obtain⟨e4,w⟩:=hd w
     obtain⟨e3,w⟩:=hc w
     obtain⟨e2,w⟩:=hb w
     obtain⟨e1,w⟩:=ha w
     refine⟨?_,w⟩
     have hbr:0<=((min c 16:Nat):Int)/\((min c 16:Nat):Int)<16:=by
      rcases okRec_kind ok with ⟨g,_⟩|⟨g,_⟩|⟨_,g,_⟩
      · simp only at g;omega
      · simp only at g;omega
      · exact g
     have hkn:kindN ((min a 6:Nat):Int)=a:=by rw[kindN_nat _ (by omega) (by omega)];omega
     have hbn:kindN ((min c 16:Nat):Int)=c:=by rw[kindN_nat _ (by omega) (by omega)];omega
     unfold encRec
     simp only
     rw[if_neg (by omega),if_pos (by omega),hkn,hbn]
     simp only[List.append_assoc]
     rw[<- e5,<- e4,<- e3,<- e2]
     exact e1
   · rename_i hk4
     rw[if_neg hk4] at ok ⊢
     simp only at h ⊢
     obtain⟨e2,w⟩:=hb h
     obtain⟨e1,w⟩:=ha w
     refine⟨?_,w⟩
     have hk1:((min a 6:Nat):Int)=1:=by
      rcases okRec_kind ok with ⟨g,_⟩|⟨g,_⟩|⟨g,_⟩
      · exact g
      · simp only at g;omega
      · simp only at g;omega
     have hkn:kindN ((min a 6:Nat):Int)=a:=by rw[kindN_nat _ (by omega) (by omega)];omega
     unfold encRec
     simp only
     rw[if_neg (by omega),if_neg (by omega),hkn]
     simp only[List.append_assoc,List.nil_append]
     rw[<- e2]
     exact e1
def decRec (b:List UInt8):Option Rec:=if !(rdRec b.length b false).2.2&&(rdRec b.length b false).2.1.isEmpty&&okRec (rdRec b.length b false).1 then some (rdRec b.length b false).1 else none
def decRecX (b:List UInt8):Rec:=(decRec b).getD rec0
def decRecC (b:List UInt8):Int:=if (decRec b).isSome then 0 else 110
theorem decRec_back {b:List UInt8} {x:Rec} (h:decRec b=some x):b=encRec x/\okRec x=true:=by
 unfold decRec at h
 split at h
 · rename_i hq
   injection h with h
   simp only[Bool.and_eq_true,Bool.not_eq_true',List.isEmpty_iff] at hq
   obtain⟨⟨h1,h2⟩,h3⟩:=hq
   have hb:=(rdRec_back _ b false h1 h3).1
   rw[h2,List.append_nil,h] at hb
   rw[h] at h3
   exact⟨hb,h3⟩
 · cases h
theorem encEn_0:(encEn ent0).length=6:=by simp[encEn,encHd,ent0,packN,kindN,longN,be]
theorem decRec_enc (x:Rec) (h:okRec x=true) (hf:fitRec x):decRec (encRec x)=some x:=by
 have hl:(encEn x.e).length<18446744073709551616/\((encEn x.e).length:Int)<=30000/\((x.kind=2∨x.kind=3)->((encEn x.e).length:Int)<=((encRec x).length:Int)):=by
  have hle:(x.kind=2∨x.kind=3)->((encEn x.e).length:Int)<=((encRec x).length:Int):=by
   intro hk
   unfold encRec
   rw[if_pos hk]
   simp only[packB,List.length_append];omega
  rcases okRec_kind h with ⟨_,he,_⟩|⟨_,he,_⟩|⟨_,_,_,he⟩
  · rw[he,encEn_0];rw[he,encEn_0] at hle;exact⟨by omega,by omega,hle⟩
  · have:=encEn_len he hf.2.2.1;exact⟨by omega,by omega,hle⟩
  · rw[he,encEn_0];rw[he,encEn_0] at hle;exact⟨by omega,by omega,hle⟩
 have hR:rdRec (encRec x).length (encRec x++[]) false=(x,[],false):=by
  by_cases hk:x.kind=2∨x.kind=3
  · exact rdRec_fwd _ x h hf (hl.2.2 hk) hl.1 []
  · have h1:=rdRec_fwd 30000 x h hf hl.2.1 hl.1 []
    rw[<- h1]
    have hn:(rdN (encRec x++[]) false).1=kindN x.kind:=by
     unfold encRec
     rw[List.append_assoc,rdN_pack _ (kindN_lt _)]
    have hkk:¬ (min (rdN (encRec x++[]) false).1 6=2∨min (rdN (encRec x++[]) false).1 6=3):=by
     rw[hn]
     rcases okRec_kind h with ⟨g,_⟩|⟨g,_⟩|⟨g,_⟩
     · rw[kindN_nat _ (by omega) (by omega)];omega
     · omega
     · rw[kindN_nat _ (by omega) (by omega)];omega
    unfold rdRec
    simp only
    rw[if_neg hkk,if_neg hkk]
 rw[List.append_nil] at hR
 unfold decRec
 rw[hR]
 simp[h]
abbrev Idn:=Int×Nat×Nat
abbrev idv (a:Idn):Value:=.agg #[.int .i64 a.1,.int .u64 (a.2.1:Int),.int .u64 (a.2.2:Int)]
section
open Go Go.RowKit Go.ChangeShapes Go.WideShapes Go.ChangeAt
def evS:Shp (List Att) where
 size:=1
 rel l cs w:=∃ v,cs=[v]/\evt l v w
 len:=by rintro _ _ _ ⟨v,rfl,_⟩;rfl
 one:=by rintro _ _ _ ⟨v,rfl,A,c,rfl,_⟩ u hu;simp at hu;subst hu;rfl
 st:=by rintro _ _ _ _ ⟨v,rfl,h⟩ k;exact⟨v,rfl,evt_st _ _ _ _ h k⟩
abbrev idc (a:Idn):List Value:=[.int .i64 a.1,.int .u64 (a.2.1:Int),.int .u64 (a.2.2:Int)]
def fitI (a:Idn):Prop:=i64ok a.1/\a.2.1<18446744073709551616/\a.2.2<18446744073709551616
def idS:Shp Idn where
 size:=3
 rel a cs _:=cs=idc a
 len:=by rintro _ _ _ rfl;rfl
 one:=by rintro _ _ _ rfl u hu;simp at hu;rcases hu with rfl|rfl|rfl <;> rfl
 st:=by rintro _ _ _ _ h _;exact h
abbrev entc (x:Ent) (vf ve:Value):List Value:=[.int .i64 x.kind,.int .i64 x.br,.int .u64 (x.life:Int),.int .u64 (x.ser:Int),.int .i64 x.cl,.int .u64 (x.sub:Int),vf,ve]
abbrev entA (x:Ent) (vf ve:Value):Array Value:=#[.int .i64 x.kind,.int .i64 x.br,.int .u64 (x.life:Int),.int .u64 (x.ser:Int),.int .i64 x.cl,.int .u64 (x.sub:Int),vf,ve]
theorem flt_slice {l:List Tst} {v:Value} {w:World} (h:flt l v w):∃ A c,v=.slice A l.length c:=by
 obtain⟨A,c,rfl,_⟩:=h
 exact⟨A,c,rfl⟩
theorem evt_slice {l:List Att} {v:Value} {w:World} (h:evt l v w):∃ A c,v=.slice A l.length c:=by
 obtain⟨A,c,rfl,_⟩:=h
 exact⟨A,c,rfl⟩
theorem lst_slice {α:Type} {S:Shp α} {l:List α} {v:Value} {w:World} (h:lst S l v w):∃ A c,v=.slice A l.length c:=by
 obtain⟨A,c,rfl,_⟩:=h
 exact⟨A,c,rfl⟩
def enS:Shp Ent where
 size:=8
 rel x cs w:=∃ vf ve,cs=entc x vf ve/\flt x.f vf w/\lst evS x.es ve w
 len:=by rintro _ _ _ ⟨vf,ve,rfl,_⟩;rfl
 one:=by
  rintro x _ _ ⟨vf,ve,rfl,⟨A,c,rfl,_⟩,⟨D,d,rfl,_⟩⟩ u hu
  simp at hu
  rcases hu with rfl|rfl|rfl|rfl|rfl|rfl|rfl|rfl <;> rfl
 st:=by rintro _ _ _ _ ⟨vf,ve,rfl,h1,h2⟩ k;exact⟨vf,ve,rfl,flt_st _ _ _ _ h1 k,lst_st h2 k⟩
def ent (x:Ent) (v:Value) (w:World):Prop:=∃ vf ve,v=.agg (entA x vf ve)/\flt x.f vf w/\lst evS x.es ve w
theorem ent_st {x:Ent} {v:Value} {w w':World} (h:ent x v w) (k:K w w'):ent x v w':=by
 obtain⟨vf,ve,rfl,h1,h2⟩:=h
 exact⟨vf,ve,rfl,flt_st _ _ _ _ h1 k,lst_st h2 k⟩
theorem ent_al {x:Ent} {v:Value} {w:World} (h:ent x v w):∀ W,K w W->ent x v W:=fun _ k=>ent_st h k
theorem ent_zero (w:World):ent ent0 (.agg #[.int .i64 0,.int .i64 0,.int .u64 0,.int .u64 0,.int .i64 0,.int .u64 0,.slice none 0 0,.slice none 0 0]) w :=
 ⟨_,_,rfl,⟨none,0,rfl,Reads.nil _ _ _ _⟩,lst_nil _ _⟩
abbrev recA (x:Rec) (vf ve:Value):Array Value:=#[.int .i64 x.kind,.int .u64 (x.n:Int),.int .i64 x.e.kind,.int .i64 x.e.br,.int .u64 (x.e.life:Int),.int .u64 (x.e.ser:Int),.int .i64 x.e.cl,.int .u64 (x.e.sub:Int),vf,ve,.int .i64 x.br,.int .u64 (x.life:Int),.int .u64 (x.ser:Int)]
def rcd (x:Rec) (v:Value) (w:World):Prop:=∃ vf ve,v=.agg (recA x vf ve)/\flt x.e.f vf w/\lst evS x.e.es ve w
theorem rcd_st {x:Rec} {v:Value} {w w':World} (h:rcd x v w) (k:K w w'):rcd x v w':=by
 obtain⟨vf,ve,rfl,h1,h2⟩:=h
 exact⟨vf,ve,rfl,flt_st _ _ _ _ h1 k,lst_st h2 k⟩
theorem rcd_al {x:Rec} {v:Value} {w:World} (h:rcd x v w):∀ W,K w W->rcd x v W:=fun _ k=>rcd_st h k
def recS:Shp Rec where
 size:=13
 rel x cs w:=∃ vf ve,cs=(recA x vf ve).toList/\flt x.e.f vf w/\lst evS x.e.es ve w
 len:=by rintro _ _ _ ⟨vf,ve,rfl,_⟩;rfl
 one:=by
  rintro x _ _ ⟨vf,ve,rfl,⟨A,c,rfl,_⟩,⟨D,d,rfl,_⟩⟩ u hu
  simp at hu
  rcases hu with rfl|rfl|rfl|rfl|rfl|rfl|rfl|rfl|rfl|rfl|rfl|rfl|rfl <;> rfl
 st:=by rintro _ _ _ _ ⟨vf,ve,rfl,h1,h2⟩ k;exact⟨vf,ve,rfl,flt_st _ _ _ _ h1 k,lst_st h2 k⟩
section
variable {H:Type} {enc:TypeId×Value->H} {w:World} {base:Nat} {r:Reach} {b0:Nat} {spare:Nat->Bool} {held:Bool} {v:Value} {d:DataW H} {p:List MemPlace} {α:Type}
end
end
theorem OwnL.floor {α:Type} {S:Shp α} {l:List α} {v:Value} {w:World} {base lo lo':Nat} {e:TypeId} (h:OwnL base lo e S l v w) (hl:lo'<=lo):OwnL base lo' e S l v w:=by
 obtain⟨css,h1,h2,h3⟩:=h
 exact⟨css,h1,h2,fun w' u=>h3 w' (u.more hl (fun _ _ h=>h))⟩
theorem OwnF.up {w w':World} {B:Nat} {v:Value} {l:List Tst} (h:OwnF w B v l) (u:UpB B none w w'):OwnF w' B v l:=by
 refine⟨h.1,h.2.imp id ?_⟩
 rintro ⟨g,cap,cur,g1,g2,g3,g4⟩
 exact⟨g,cap,cur,g1,g2,(u.block g g2 (Array.getElem?_eq_some_iff.1 g3).1 (by simp)).trans g3,g4⟩
theorem atts_one (l:List Att):∀ u∈l.flatMap attc,u.oneCell'=true:=by
 intro u hu
 obtain⟨x,_,hx⟩:=List.mem_flatMap.1 hu
 exact attc_one x u hx
theorem tsts_one' (l:List Tst):∀ u∈l.flatMap tstc,u.oneCell'=true:=by
 intro u hu
 obtain⟨x,_,hx⟩:=List.mem_flatMap.1 hu
 simp at hx
 rcases hx with rfl|rfl|rfl|rfl|rfl <;> rfl
theorem lsr_cells {α:Type} {S:Shp α} {l:List α} {A:Option Addr} {w:World} (h:lsr S l A w) (i:Nat) (hi:i<l.length) (hs:0<S.size) :
 ∃ b off cs,A=some ⟨b,off,none⟩/\cs.length=S.size/\(∀ W,K w W->S.rel l[i] cs W)/\(∀ W,K w W->W.cell? ⟨b,off+i * S.size,none⟩=cs[0]?)/\∀ W,K w W->∀ j,j<S.size->W.cell? ⟨b,off+i * S.size+j,none⟩=cs[j]?:=by
 obtain⟨b,off,cs,e,hb,hl,hr,hc⟩:=lsr_at h i hi hs
 have key:∀ W,K w W->∀ j,j<S.size->W.cell? ⟨b,off+i * S.size+j,none⟩=cs[j]?:=fun W k j hj=>(k.cell (p:=⟨b,off+i * S.size+j,none⟩) hb).trans (hc j hj)
 exact⟨b,off,cs,e,hl,fun W k=>S.st hr k,fun W k=>key W k 0 hs,key⟩
theorem UpB.row {w w':World} {g:Nat} {row:Option Nat} (h:w.grownBy w' row) (hr:∀ b,row=some b->b<g):UpB g none w w' :=
 (UpB.of_mut h g).more (Nat.le_refl _) (fun k hk _ e=>by have:=hr k e.symm;omega)
theorem own_set {w:World} {base g n cap q:Nat} {e:TypeId} {size:Nat} {xs:List Value} (h:w.ownsRow base e size (.slice (some ⟨g,0,none⟩) n cap) n xs) (_:q<xs.length) (u:Value) :
 (w.setCell ⟨g,q,none⟩ u).ownsRow base e size (.slice (some ⟨g,0,none⟩) n cap) n (xs.set q u):=by
 refine⟨by simpa using h.1,.inr ?_⟩
 rcases h.2 with ⟨h0,_⟩|⟨g',cap',cur,e0,g1,g2,g3,g4,g5,g6⟩
 · cases h0
 · injection e0 with e1 _ e3
   injection e1 with e1
   injection e1 with e1
   subst e1 e3
   refine⟨g,cap,cur.setIfInBounds q u,rfl,g1,(show Blk w g e cur from g2).set_ q u,g3,g4,by simpa using g5,?_⟩
   rw[Array.toList_setIfInBounds,<- g6,List.take_set]
theorem own_cells {w:World} {base g n cap:Nat} {e:TypeId} {size:Nat} {xs:List Value} (h:w.ownsRow base e size (.slice (some ⟨g,0,none⟩) n cap) n xs):(∀ q,q<xs.length->w.cell? ⟨g,q,none⟩=xs[q]?)/\∀ q,w.frozen? ⟨g,q,none⟩=false:=by
 rcases h.2 with ⟨h0,_⟩|⟨g',cap',cur,e0,g1,g2,g3,g4,g5,g6⟩
 · cases h0
 · injection e0 with e1 _ e3
   injection e1 with e1
   injection e1 with e1
   subst e1 e3
   refine⟨fun q hq=>?_,fun q=>(show Blk w g e cur from g2).frozen q⟩
   rw[(show Blk w g e cur from g2).cell q,<- g6]
   rw[<- g6] at hq
   have:q<n * size:=by simp at hq;omega
   rw[List.getElem?_take_of_lt this,Array.getElem?_toList]
theorem flatten_set {α:Type} (n:Nat) (u:α):∀ (css:List (List α)),(∀ cs∈css,cs.length=n)->∀ (k j:Nat) (hk:k<css.length),j<n->css.flatten.set (k * n+j) u=(css.set k ((css[k]).set j u)).flatten
 | [],_,k,j,hk,_=>by simp at hk
 | c :: css,h,0,j,hk,hj=>by
   have hc:=h c (by simp)
   simp only[Nat.zero_mul,Nat.zero_add,List.flatten_cons,List.set_cons_zero,List.getElem_cons_zero]
   rw[List.set_append,if_pos (by omega)]
 | c :: css,h,k+1,j,hk,hj=>by
   have hc:=h c (by simp)
   have ih:=flatten_set n u css (fun x hx=>h x (by simp[hx])) k j (by simpa using hk) hj
   simp only[List.flatten_cons,List.set_cons_succ,List.getElem_cons_succ]
   rw[List.set_append,if_neg (by rw[hc,Nat.succ_mul];omega),<- ih]
   congr 2
   rw[hc,Nat.succ_mul];omega
theorem Each.set {α:Type} {S:Shp α} {l:List α} {css:List (List Value)} {w:World} (h:Each S l css w) (k:Nat) {x:α} {cs:List Value} (hx:S.rel x cs w):Each S (l.set k x) (css.set k cs) w:=by
 refine⟨by simp[h.1],fun i hi hi'=>?_⟩
 by_cases hik:k=i
 · subst hik
   simpa using hx
 · rw[List.getElem_set_ne hik,List.getElem_set_ne hik]
   exact h.2 i (by simpa using hi) (by simpa using hi')
structure UpN (X:Nat->Prop) (w w':World):Prop where
 os:w'.os=w.os
 tape:w'.tape=w.tape
 output:w'.output=w.output
 size:w.heap.size<=w'.heap.size
 block:∀ k,k<w.heap.size->¬ X k->w'.heap[k]?=w.heap[k]?
section
variable {X:Nat->Prop} {a b c w w':World}
theorem UpN.rf (X:Nat->Prop) (w:World):UpN X w w:=⟨rfl,rfl,rfl,Nat.le_refl _,fun _ _ _=>rfl⟩
theorem UpN.tr (h:UpN X a b) (k:UpN X b c):UpN X a c :=
 ⟨k.os.trans h.os,k.tape.trans h.tape,k.output.trans h.output,Nat.le_trans h.size k.size,fun i h1 h2=>(k.block i (Nat.lt_of_lt_of_le h1 h.size) h2).trans (h.block i h1 h2)⟩
theorem UpN.of_k (h:K w w') (X:Nat->Prop):UpN X w w':=⟨h.os,h.tape,h.output,h.size,fun i h2 _=>h.block i h2⟩
theorem UpN.of_mut {row:Option Nat} (h:w.grownBy w' row) (hX:∀ g,row=some g->X g):UpN X w w' :=
 ⟨h.os,h.tape,h.output,h.size,fun i h1 h2=>h.block i h1 (fun e=>h2 (hX i e.symm))⟩
theorem UpN.upB {lo:Nat} {row:Option Nat} (h:UpN X w w') (hX:∀ k,lo<=k->k<w.heap.size->some k≠row->¬ X k):UpB lo row w w' :=
 ⟨h.os,h.tape,h.output,h.size,fun i h1 h2 h3=>h.block i h2 (hX i h1 h2 h3)⟩
theorem UpB.upN {lo:Nat} {row:Option Nat} (h:UpB lo row w w') (hX:∀ k,k<lo∨some k=row->X k):UpN X w w' :=
 ⟨h.os,h.tape,h.output,h.size,fun i h1 h2=>h.block i (Nat.le_of_not_lt fun hl=>h2 (hX i (.inl hl))) h1 (fun e=>h2 (hX i (.inr e)))⟩
theorem row_keep {base:Nat} {e:TypeId} {size n:Nat} {v:Value} {xs:List Value} (h:w.ownsRow base e size v n xs) (k:∀ g,base<=g->g<w.heap.size->v.ownBlock=some g->w'.heap[g]?=w.heap[g]?):w'.ownsRow base e size v n xs:=by
 refine⟨h.1,h.2.imp id ?_⟩
 rintro ⟨g,cap,cur,rfl,g2,g3,g4⟩
 exact⟨g,cap,cur,rfl,g2,(k g g2 (Array.getElem?_eq_some_iff.1 g3).1 rfl).trans g3,g4⟩
theorem row_blk {base:Nat} {e:TypeId} {size n:Nat} {v:Value} {xs:List Value} (h:w.ownsRow base e size v n xs) {g:Nat} (hg:v.ownBlock=some g):∃ cur,Blk w g e cur:=by
 rcases h.2 with ⟨rfl,_⟩|⟨g',cap,cur,rfl,_,g3,_⟩
 · cases hg
 · injection hg with hg
   subst hg
   exact⟨cur,g3⟩
theorem Blk.unlike {g:Nat} {t t':TypeId} {cs cs':Array Value} (h:Blk w g t cs) (h':Blk w g t' cs'):t=t':=by
 unfold Blk at h h'
 rw[h] at h'
 injection h' with h'
 injection h'
theorem lst_of_own {α:Type} {S:Shp α} {l:List α} {v:Value} {base:Nat} {e:TypeId} {css:List (List Value)} (h1:w.ownsRow base e S.size v l.length css.flatten) (he:Each S l css w):lst S l v w:=by
 have h1':=h1
 rcases h1.2 with ⟨rfl,h0⟩|⟨g,cap,cur,rfl,_,_,hn,_⟩
 · obtain rfl:l=[]:=List.eq_nil_of_length_eq_zero h0
   exact lst_nil _ _
 · exact⟨_,_,rfl,⟨css,he,Reads.of_own h1'⟩,hn⟩
def setsL:List Value->Nat->List Value->List Value
 | xs,_,[]=>xs
 | xs,q,u :: us=>setsL (xs.set q u) (q+1) us
def setsW:World->Nat->Nat->List Value->World
 | w,_,_,[]=>w
 | w,g,q,u :: us=>setsW (w.setCell ⟨g,q,none⟩ u) g (q+1) us
theorem own_sets {base g n cap:Nat} {e:TypeId} {size:Nat}:∀ (us xs:List Value) (q:Nat) (w:World),w.ownsRow base e size (.slice (some ⟨g,0,none⟩) n cap) n xs->q+us.length<=xs.length ->
 (setsW w g q us).ownsRow base e size (.slice (some ⟨g,0,none⟩) n cap) n (setsL xs q us)
 | [],_,_,_,h,_=>h
 | u :: us,xs,q,w,h,hl=>by
   simp only[setsW,setsL]
   simp only[List.length_cons] at hl
   exact own_sets us _ _ _ (own_set h (by omega) u) (by simp;omega)
theorem flatten_sets (n:Nat):∀ (us:List Value) (css:List (List Value)),(∀ cs∈css,cs.length=n)->∀ (k j:Nat) (hk:k<css.length),j+us.length<=n->setsL css.flatten (k * n+j) us=(css.set k (setsL (css[k]) j us)).flatten
 | [],css,h,k,j,hk,hj=>by simp[setsL]
 | u :: us,css,h,k,j,hk,hj=>by
   simp only[List.length_cons] at hj
   simp only[setsL]
   rw[flatten_set n u css h k j hk (by omega)]
   have hl:∀ cs∈css.set k ((css[k]).set j u),cs.length=n:=by
    intro cs hcs
    rcases List.mem_or_eq_of_mem_set hcs with h1|rfl
    · exact h cs h1
    · simp;exact h _ (List.getElem_mem hk)
   have ih:=flatten_sets n us (css.set k ((css[k]).set j u)) hl k (j+1) (by simpa using hk) (by omega)
   rw[show k * n+j+1=k * n+(j+1) by omega,ih]
   simp
theorem UpN.sets {g:Nat} (hX:X g):∀ (us:List Value) (q:Nat) (w:World),UpN X w (setsW w g q us)
 | [],_,_=>UpN.rf _ _
 | u :: us,q,w=>by
   simp only[setsW]
   refine UpN.tr (b:=w.setCell ⟨g,q,none⟩ u) ⟨rfl,rfl,rfl,by simp[World.setCell],fun i _ h=>Below.heap_setCell w ⟨g,q,none⟩ u i (by rintro rfl;exact h hX)⟩ (UpN.sets hX us _ _)
end
