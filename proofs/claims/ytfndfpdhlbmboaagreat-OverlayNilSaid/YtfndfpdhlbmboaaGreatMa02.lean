/-
  Events: what may be, in plain Lean; an attribute's cells; the walks of event.Check and of the document's Check (layer 4). Conditions: none.
-/
import Derived.Test.YtfndfpdhlbmboaaGreatMa01
import Derived.BigQuiet
import Derived.IntWalk
import Derived.Deep.QuietTactic
import Derived.Deep.RegionHeld3
import Derived.Deep.DrawnRows
import Derived.Test.YtfndfpdhlbmboaaGreatMz
set_option maxRecDepth 100000
set_option maxHeartbeats 16000000
set_option linter.unusedVariables false
set_option linter.unusedSimpArgs false
namespace Go.Proofs.YtfndfpdhlbmboaaGreat
open Go Go.RowKit _root_.Go.Proofs.Tryz
def j9(x:cT):Bool:=sF x.1&&iH x.2.1 x.2.2.1 x.2.2.2
def lX(a b:ByteArray):Bool:=Op.bytesLess a.toList b.toList
theorem aeK:∀x y:List UInt8,Op.bytesLess x y=decide (x<y)
 | [],[]=>Va
 | _ :: _,[]=>Va
 | [],_ :: _=>Va
 | a :: x,b :: y=>by rw[Op.bytesLess,aeK x y];simp only[List.cons_lt_cons_iff];by_cases j:a<b <;> by_cases t:a=b <;> simp[j,t]
theorem KM a b:lX a b=true↔dK a<dK b:=by
 grind [lX,aeK,ByteArray.toList_eq]
theorem Vb{a b}(h:dK a=dK b):a=b:=by cases a;cases b;simp only[ByteArray.mk.injEq];exact Array.toList_inj.1 h
theorem KO(a b:ByteArray):(a.toList==b.toList)=decide (a=b):=by
 grind [ByteArray.toList_eq,Vb]
theorem TZ a:lX a a=false:=by simp[Bool.eq_false_iff,KM,List.lt_irrefl]
theorem ac0{a b c}(h:lX a b=true)(k:lX b c=true):lX a c=true:=by
 grind [KM,List.lt_trans]
theorem aeL a b:(Op.bytesLess a.toList b.toList||a.toList==b.toList)=!lX b a:=by
 have j:Op.bytesLess a.toList b.toList=lX a b:=rfl;rw[j,KO];by_cases e:a=b
 ·grind [TZ]
 ·cases h:lX a b
  ·cases k:lX b a
   ·exfalso;have u:¬dK a<dK b:=λx=>by grind [KM]
    have t:¬dK b<dK a:=λx=>by grind [KM]
    exact e (Vb (List.le_antisymm (List.not_lt.1 t) (List.not_lt.1 u)))
   ·simp[e]
  ·grind [lX,ac0,TZ]
def BK:Option ByteArray->List cT->Option ByteArray
 | p,[]=>p
 | _,x :: r=>BK (some x.1) r
def behind(p:Option ByteArray)(s:ByteArray):Bool:=match p with|none=>true|some y=>lX y s
def jk:Option ByteArray->List cT->Bool
 | _,[]=>true
 | p,x :: r=>j9 x&&behind p x.1&&jk (some x.1) r
def fB(l:List cT):Bool:=decide (1<=l.length)&&decide (l.length<=16)&&jk none l
def jY(l:List cT):Int:=if fB l then 0 else 40
theorem apd p a b:BK p (a++b)=BK (BK p a) b:=by
 induction a generalizing p with
 | nil=>rfl
 | cons x a j=>simp only[aQ,BK];exact j _
theorem aco p a b:jk p (a++b)=(jk p a&&jk (BK p a) b):=by
 induction a generalizing p with
 | nil=>simp[jk,BK]
 | cons x a j=>simp only[aQ,jk,BK,j,Bool.and_assoc]
theorem aq5(l:List cT) k(h:k<l.length):BK none (l.take (k+1))=some l[k].1:=by rw[gj h,apd];rfl
theorem aur(l:List cT)(h:0<l.length):jk none (l.take 1)=j9 l[0]:=by
 grind [gj,jk,behind]
theorem aus(l:List cT)(k:Nat)(h:k+1<l.length):jk none (l.take (k+1+1))=(jk none (l.take (k+1))&&(j9 l[k+1]&&lX (l[k]'af).1 l[k+1].1)):=by
 grind [gj,aco,aq5,jk,behind]
theorem awb l k(h:jk none (l.take k)=false):jk none l=false:=by
 grind [aco,List.take_append_drop]
theorem awc l k(h:jk none (l.take k)=false):jY l=40:=by grind [jY,fB,awb]
theorem aut l(j:1<=l.length)(t:l.length<=16)(h:jk none (l.take l.length)=true):jY l=0:=by
 grind [jk,jY,fB]
abbrev azg(x:cT):Value:=.agg #[.string x.1,.int .i64 x.2.1,.int .i64 x.2.2.1,.string x.2.2.2]
theorem Pq(l:List cT) k(hk:k<l.length):∀j,(t:j<4)->(l.flatMap mV)[k*4+j]?=some ((mV l[k])[j]'t):=by intro j t;rw[List.flatMap_def,zm 4 _ aG k j aG t];simp[hk]
theorem auu(l:List cT):(l.flatMap mV).length=l.length*4:=by rw[List.flatMap_def,Db 4 _ aG];simp
theorem Reads.QT{w B n A}{l:List cT}(h:Reads w B 4 A n (l.flatMap mV))(D:0<l.length) :
 ∃b j,A=some ⟨b,j,none⟩/\b<B/\∀k (hk:k<l.length),w.cell? ⟨b,j+k*4,none⟩=some (.string l[k].1)/\w.cell? ⟨b,j+k*4+1,none⟩=some (.int .i64 l[k].2.1) /\
  w.cell? ⟨b,j+k*4+2,none⟩=some (.int .i64 l[k].2.2.1)/\w.cell? ⟨b,j+k*4+3,none⟩=some (.string l[k].2.2.2):=by
 obtain⟨b,j,e,hb,t⟩:=h.2 (by grind [auu])
 refine⟨b,j,e,hb,λk hk=>?_⟩
 have C:=t _ _ (Pq l k hk 0 ay)
 have u:=t _ _ (Pq l k hk 1 ay)
 have y:=t _ _ (Pq l k hk 2 ay)
 have E:=t _ _ (Pq l k hk 3 ay)
 grind
theorem below_drewN{B w w'}(h:Below B w w') n:Below B w (w'.drewN n):=by
 induction n with
 | zero=>exact h
 | succ n j=>exact⟨h.os,h.tape,h.output,h.size,h.block⟩
def iU(l:List cT)(v:Value)(w:World):Prop:=∃A c,v=.slice A l.length c/\Reads w w.heap.size 4 A l.length (l.flatMap mV)
theorem pE l:∀v w w',iU l v w->Below w.heap.size w w'->iU l v w':=aeM
theorem str{w v l}(h:sl l v w):(convert 94 9 v).run prog w=.ok (.string ⟨l.toArray⟩) w :=
 axN _ _ _ underlying94 underlying5 underlying9 h
def sO(l:List UInt8)(wr:Bool):cT×List UInt8×Bool :=
 ((⟨(aL 16 l wr).1.toArray⟩,(fq (aL 16 l wr).2.1 (aL 16 l wr).2.2).1.1,(fq (aL 16 l wr).2.1 (aL 16 l wr).2.2).1.2.1,⟨(fq (aL 16 l wr).2.1 (aL 16 l wr).2.2).1.2.2.toArray⟩),(fq (aL 16 l wr).2.1 (aL 16 l wr).2.2).2)
def fQ:Nat->List UInt8->Bool->List cT×List UInt8×Bool
 | 0,l,wr=>([],l,wr)
 | k+1,l,wr=>((fQ k l wr).1++[(sO (fQ k l wr).2.1 (fQ k l wr).2.2).1],(sO (fQ k l wr).2.1 (fQ k l wr).2.2).2)
def FP(b:List UInt8):List cT×List UInt8×Bool:=fQ (ax b false).1 (ax b false).2.1 (ax b false).2.2
def sJ(b:List UInt8):Option (List cT) :=
 if decide ((ax b false).1<=16)&&!(FP b).2.2&&(FP b).2.1.isEmpty&&fB (FP b).1 then some (FP b).1 else none
def yo(b:List UInt8):List cT:=(sJ b).getD []
def yp(b:List UInt8):Int:=if (sJ b).isSome then 0 else 40
theorem Pr l wr:(fq l wr).2.1.length<=l.length:=by
 grind [nv,ax,Dl,fq]
theorem aeN l wr:cJ (fq l wr).1.1/\cJ (fq l wr).1.2.1:=by
 grind [fq,UA,Hx,cJ]
theorem awd l wr:(sO l wr).2.1.length<=l.length :=
 bn (Pr _ _) (Dl 16 l wr)
theorem UB k l wr:(fQ k l wr).2.1.length<=l.length/\(fQ k l wr).1.length=k:=by
 induction k with
 | zero=>exact⟨aC _,rfl⟩
 | succ k j=>exact⟨bn (awd _ _) j.1,by grind [fQ]⟩
theorem Hy j l wr:(aL j l wr).1.length<=j.toNat:=by
 grind [aL]
theorem auv k l wr:∀x∈(fQ k l wr).1,(cJ x.2.1/\cJ x.2.2.1)/\x.1.size<=16:=by
 induction k with
 | zero=>simp[fQ]
 | succ k t =>
  intro x j;rcases List.mem_append.1 j with j|j
  ·grind
  ·simp only[List.mem_singleton]at j;subst j;exact⟨aeN _ _,Hy 16 _ _⟩
theorem awe:(prog.info? 76).map (λi=>(i.zero,i.size,i.bytes))=some (some (.agg #[.string { data:=#[] },.int .i64 0,.int .i64 0,.string { data:=#[] }]),4,48):=by rfl
theorem TE:fK prog 51 76 (.agg #[.string { data:=#[] },.int .i64 0,.int .i64 0,.string { data:=#[] }]) 4 48:=⟨underlying51,awe,rfl,ay⟩
abbrev pP(w:World)(base:Nat)(v:Value)(l:List cT):Prop:=w.ownsRow base 76 4 v l.length (l.flatMap mV)
theorem pP.slice{w base v l}(h:pP w base v l):∃A c,v=.slice A l.length c/\Reads w w.heap.size 4 A l.length (l.flatMap mV)/\l.length<=c/\c<=maxLen:=by
 have u:=h;rcases h.2 with ⟨rfl,j⟩|⟨g,cap,cur,rfl,_,_,hn,t,_⟩
 ·grind [List.eq_nil_of_length_eq_zero,Reads.uH]
 ·grind [Reads.uH]
theorem mg{w:World}{base base' e size n v xs}(hb:base<=base')(h:w.ownsRow base' e size v n xs):w.ownsRow base e size v n xs:=aer
theorem pA{w w' base e size n v xs}(h:w.ownsRow base e size v n xs)(hb:Below w.heap.size w w'):w'.ownsRow base e size v n xs:=aes
theorem KP{w w':World}{base g e size n v xs}(h:w.ownsRow base e size v n xs)(hb:w.grownBy w' (some g))(hg:g<base):w'.ownsRow base e size v n xs :=
 World.ownsRow.kept h hb (.inr (by
  intro e;have:=(h.lt g e).1;omega))
theorem adQ x:∀u∈mV x,u.oneCell'=true:=by intro u j;simp at j;rcases j with rfl|rfl|rfl|rfl <;> rfl
theorem aeO{w base v l}(h:pP w base v l):iU l v w:=by
 obtain⟨A,c,rfl,j,_⟩:=h.slice
 grind [iU]
section
open Go Go.RowKit Go.ChangeShapes Go.WideShapes Go.ChangeAt
abbrev dt:=ByteArray×Int×Int×Int×ByteArray
abbrev fF(x:dt):List Value:=[.string x.1,.int .i64 x.2.1,.int .i64 x.2.2.1,.int .i64 x.2.2.2.1,.string x.2.2.2.2]
abbrev qP(x:dt):Value:=.agg #[.string x.1,.int .i64 x.2.1,.int .i64 x.2.2.1,.int .i64 x.2.2.2.1,.string x.2.2.2.2]
def jh(x:dt):Prop:=cJ x.2.1/\cJ x.2.2.1/\cJ x.2.2.2.1
theorem KQ(l:List dt) k(hk:k<l.length):∀j,(t:j<5)->(l.flatMap fF)[k*5+j]?=some ((fF l[k])[j]'t):=by intro j t;rw[List.flatMap_def,zm 5 _ aeP k j aG t];simp[hk]
theorem auw(l:List dt):(l.flatMap fF).length=l.length*5:=by rw[List.flatMap_def,Db 5 _ aeP];simp
theorem Reads.LF{w B n A}{l:List dt}(h:Reads w B 5 A n (l.flatMap fF))(E:0<l.length) :
 ∃b j,A=some ⟨b,j,none⟩/\b<B/\∀k (hk:k<l.length),w.cell? ⟨b,j+k*5,none⟩=some (.string l[k].1)/\w.cell? ⟨b,j+k*5+1,none⟩=some (.int .i64 l[k].2.1) /\
  w.cell? ⟨b,j+k*5+2,none⟩=some (.int .i64 l[k].2.2.1)/\w.cell? ⟨b,j+k*5+3,none⟩=some (.int .i64 l[k].2.2.2.1)/\w.cell? ⟨b,j+k*5+4,none⟩=some (.string l[k].2.2.2.2):=by
 obtain⟨b,j,e,hb,t⟩:=h.2 (by grind [auw])
 refine⟨b,j,e,hb,λk hk=>?_⟩
 have D:=t _ _ (KQ l k hk 0 ay)
 have u:=t _ _ (KQ l k hk 1 ay)
 have y:=t _ _ (KQ l k hk 2 ay)
 have F:=t _ _ (KQ l k hk 3 ay)
 have C:=t _ _ (KQ l k hk 4 ay)
 grind
def fu(l:List dt)(v:Value)(w:World):Prop:=∃A c,v=.slice A l.length c/\Reads w w.heap.size 5 A l.length (l.flatMap fF)
theorem eH l:∀v w w',fu l v w->Below w.heap.size w w'->fu l v w':=aeM
section
variable {H:Type} {enc:TypeId×Value->H} {w:World} {base:Nat} {r:Reach} {b0:Nat} {spare:Nat->Bool} {held:Bool} {v:Value} {d:DataW H} {p:List MemPlace}
end
end
abbrev Aj(α:Type):=List UInt8->Bool->α×List UInt8×Bool
structure DH{α:Type}(enc:α->List UInt8)(ok:α->Prop)(rd:Aj α):Prop where
 fwd:∀x,ok x->∀rest,rd (enc x++rest) false=(x,rest,false)
 back:∀l wr,(rd l wr).2.2=false->l=enc (rd l wr).1++(rd l wr).2.1/\wr=false
 len:∀l wr,(rd l wr).2.1.length<=l.length
def cU{α:Type}(rd:Aj α):Nat->Aj (List α)
 | 0,l,wr=>([],l,wr)
 | k+1,l,wr=>((cU rd k l wr).1++[(rd (cU rd k l wr).2.1 (cU rd k l wr).2.2).1],(rd (cU rd k l wr).2.1 (cU rd k l wr).2.2).2)
section
variable {α:Type} {enc:α->List UInt8} {ok:α->Prop} {rd:Aj α}
theorem DH.bad(C:DH enc ok rd) l:(rd l true).2.2=true:=by
 cases h:(rd l true).2.2 with
 | true=>rfl
 | false=>have:=(C.back l true h).2;cases this
theorem KR(C:DH enc ok rd) k l wr:(cU rd k l wr).2.1.length<=l.length/\(cU rd k l wr).1.length=k:=by
 induction k with
 | zero=>exact⟨aC _,rfl⟩
 | succ k j=>exact⟨bn (C.len _ _) j.1,by grind [cU]⟩
theorem Vc(C:DH enc ok rd){k l wr}(h:(cU rd k l wr).2.2=true):∀d,(cU rd (k+d) l wr).2.2=true
 | 0=>h
 | d+1=>by have:=Vc C h d;show (rd (cU rd (k+d) l wr).2.1 (cU rd (k+d) l wr).2.2).2.2=true;rw[this];exact C.bad _
theorem aeQ(p:α->Prop)(hp:∀l wr,p (rd l wr).1) k l wr:∀x∈(cU rd k l wr).1,p x:=by
 induction k with
 | zero=>simp[cU]
 | succ k j =>
  grind [cU]
theorem aeR(C:DH enc ok rd)(l:List α)(h:∀x∈l,ok x) rest:∀k,k<=l.length->cU rd k (l.flatMap enc++rest) false=(l.take k,(l.drop k).flatMap enc++rest,false):=by
 intro k
 induction k with
 | zero=>intro _;simp[cU]
 | succ k ih => intro hk;have hk':k<l.length:=af;have hd:l.drop k=l[k] :: l.drop (k+1):=aj;have hx:=h l[k] (bS hk');show ((cU rd k (l.flatMap enc++rest) false).1++[(rd (cU rd k (l.flatMap enc++rest) false).2.1 (cU rd k (l.flatMap enc++rest) false).2.2).1],(rd (cU rd k (l.flatMap enc++rest) false).2.1 (cU rd k (l.flatMap enc++rest) false).2.2).2)=_;exact aeS
theorem adR(C:DH enc ok rd){k l wr}(h:(cU rd k l wr).2.2=false):l=(cU rd k l wr).1.flatMap enc++(cU rd k l wr).2.1/\wr=false:=by
 induction k with
 | zero=>exact⟨fk,h⟩
 | succ k t => obtain⟨e1,j⟩:=C.back (cU rd k l wr).2.1 (cU rd k l wr).2.2 h;obtain⟨e2,u⟩:=t j;refine⟨?_,u⟩;show l=((cU rd k l wr).1++[(rd (cU rd k l wr).2.1 (cU rd k l wr).2.2).1]).flatMap enc++(rd (cU rd k l wr).2.1 (cU rd k l wr).2.2).2.1;exact aeT
end
def mC(s:ByteArray)(x:cT):Bool:=decide (x.1=s)
def BL(l:List cT)(s:ByteArray):Value:=match l.find? (mC s)with|some x=>.tuple #[vv x.2.1 x.2.2.1 x.2.2.2,.bool true]|none=>.tuple #[vv 0 0 { data:=#[] },.bool false]
theorem adS(l:List cT) s k(hk:k<l.length)(h:mC s l[k]=true)(j:∀x∈l.take k,mC s x=false):l.find? (mC s)=some l[k]:=by
 grind [List.getElem_cons_drop,List.take_append_drop,List.find?_eq_none,List.find?_cons_of_pos]
theorem asB(l:List cT) s(t:∀x∈l,mC s x=false):l.find? (mC s)=none:=List.find?_eq_none.2 λx j=>by simp[t x j]
theorem adT(s:ByteArray):∀l:List cT,(∃k,∃hk:k<l.length,mC s l[k]=true/\∀x∈l.take k,mC s x=false)∨∀x∈l,mC s x=false
 | []=>.inr aj
 | y :: l=>by
  cases h:mC s y with
  | true=>exact .inl ⟨0,aj,zw,aj⟩
  | false =>
   rcases adT s l with ⟨k,hk,h1,t⟩|h1
   ·refine .inl ⟨k+1,sE,Bo,?_⟩;intro x j;rw[XF]at j;rcases List.mem_cons.1 j with rfl|j
    ·exact h
    ·exact t x j
   ·refine .inr λx j=>?_
    rcases List.mem_cons.1 j with rfl|j
    ·exact h
    ·exact h1 x j
theorem Kh(a b:ByteArray):a.toList=b.toList↔a=b:=by
 grind [ByteArray.toList_eq,Vb]
theorem aq6 k n j u s t w d:(Op.equalIn (d+1+1) 71 (vv k n s) (vv j u t)).run prog w=.ok (decide ((k,n,s)=(j,u,t))) w:=by
 simp[go_sem,Kh]
 grind
theorem awf k n j u s t w:(binOp .eql 71 (vv k n s) (vv j u t)).run prog w=.ok (.bool (decide ((k,n,s)=(j,u,t)))) w:=by rw[run_eql_struct,aq6 k n j u s t w 9998];rfl
abbrev Vl:=Int×Int×ByteArray
def ia(a b:Int):Int:=if a<b then -1 else if b<a then 1 else 0
def yq(a b:ByteArray):Int:=if lX a b then -1 else if lX b a then 1 else 0
def fG(a b:Vl):Int:=if ia a.1 b.1 != 0 then ia a.1 b.1 else if ia a.2.1 b.2.1 != 0 then ia a.2.1 b.2.1 else yq a.2.2 b.2.2
def preB(a b:ByteArray):Bool:=decide (b.size<=a.size)&&((a.extract 0 b.size).toList==b.toList)
def jH(a b:Vl):Bool:=a.1==2&&b.1==2&&preB a.2.2 b.2.2
def iV(t:dt)(v:Vl):Bool :=
 if t.2.1==8 then true else
 (v.1==t.2.2.1)&&(if t.2.1==1 then fG v t.2.2==0 else if t.2.1==2 then fG v t.2.2 != 0 else if t.2.1==3 then decide (fG v t.2.2<0)else if t.2.1==4 then decide (fG v t.2.2<=0)
  else if t.2.1==5 then decide (0<fG v t.2.2)else if t.2.1==6 then decide (0<=fG v t.2.2)else if t.2.1==7 then jH v t.2.2 else false)
def rH(t:dt)(e:List cT):Bool:=match e.find? (mC t.1)with|some x=>iV t x.2|none=>false
def mL(f:List dt)(e:List cT):Bool:=f.all λt=>rH t e
def fY(t:dt):Bool :=
 sF t.1&&(if t.2.1==8 then decide (t.2.2=(0,0,⟨#[]⟩))else if t.2.1==7 then iH t.2.2.1 t.2.2.2.1 t.2.2.2.2&&t.2.2.1==2 else decide (1<=t.2.1)&&decide (t.2.1<=8)&&iH t.2.2.1 t.2.2.2.1 t.2.2.2.2)
def okF(l:List dt):Bool:=decide (l.length<=8)&&l.all fY
def zP(t:dt):Int:=if fY t then 0 else 50
def mW(l:List dt):Int:=if okF l then 0 else 50
def jI(t:dt):List UInt8:=(az t.1.size++dK t.1)++(az (bf t.2.1)++(if t.2.1==8 then []else nB t.2.2.1 t.2.2.2.1 t.2.2.2.2))
def ji(l:List dt):List UInt8:=az l.length++l.flatMap jI
def BM(l:List dt):List UInt8:=if okF l then ji l else []
def fS:Aj dt:=λl wr =>
 if 8<(ax (aL 16 l wr).2.1 (aL 16 l wr).2.2).1 then ((⟨#[]⟩,0,0,0,⟨#[]⟩),(ax (aL 16 l wr).2.1 (aL 16 l wr).2.2).2.1,true)
 else if (ax (aL 16 l wr).2.1 (aL 16 l wr).2.2).1=8 then ((⟨(aL 16 l wr).1.toArray⟩,8,0,0,⟨#[]⟩),(ax (aL 16 l wr).2.1 (aL 16 l wr).2.2).2)
 else ((⟨(aL 16 l wr).1.toArray⟩,((ax (aL 16 l wr).2.1 (aL 16 l wr).2.2).1:Int),(fq (ax (aL 16 l wr).2.1 (aL 16 l wr).2.2).2.1 (ax (aL 16 l wr).2.1 (aL 16 l wr).2.2).2.2).1.1,
  (fq (ax (aL 16 l wr).2.1 (aL 16 l wr).2.2).2.1 (ax (aL 16 l wr).2.1 (aL 16 l wr).2.2).2.2).1.2.1,⟨(fq (ax (aL 16 l wr).2.1 (aL 16 l wr).2.2).2.1 (ax (aL 16 l wr).2.1 (aL 16 l wr).2.2).2.2).1.2.2.toArray⟩),
  (fq (ax (aL 16 l wr).2.1 (aL 16 l wr).2.2).2.1 (ax (aL 16 l wr).2.1 (aL 16 l wr).2.2).2.2).2)
def DI(b:List UInt8):List dt×List UInt8×Bool:=cU fS (ax b false).1 (ax b false).2.1 (ax b false).2.2
def qI(b:List UInt8):Option (List dt) :=
 if decide ((ax b false).1<=8)&&!(DI b).2.2&&(DI b).2.1.isEmpty&&okF (DI b).1 then some (DI b).1 else none
def uK(b:List UInt8):List dt:=(qI b).getD []
def uL(b:List UInt8):Int:=if (qI b).isSome then 0 else 50
theorem De{l}(h:okF l=true):l.length<=8/\∀x∈l,fY x=true:=by
 grind [okF,fY]
theorem Fa{t}(h:fY t=true):t.1.size<=16/\1<=t.2.1/\t.2.1<=8/\(t.2.1=8->t.2.2=(0,0,⟨#[]⟩))/\(t.2.1≠8->iH t.2.2.1 t.2.2.2.1 t.2.2.2.2=true):=by
 grind [fY,iH,sF]
theorem awg l wr:(fS l wr).2.1.length<=l.length:=by
 grind [Dl,nv,aL,Pr,ax,fS]
theorem awh t(h:fY t=true/\jh t) rest:fS (jI t++rest) false=(t,rest,false):=by
 obtain⟨D,j⟩:=h;obtain⟨B,y,h8,F,u⟩:=Fa D;obtain⟨s,op,k,n,x⟩:=t;simp only at B y h8 F u j;have hk:bf op=op.toNat:=by grind [bf]
 have E:aL 16 (jI (s,op,k,n,x)++rest) false=(dK s,az (bf op)++(if op==8 then []else nB k n x)++rest,false):=by
  have:=Ff 16 (dK s) aY aY (az (bf op)++(if op==8 then []else nB k n x)++rest)
  rw[show (dK s).length=s.size by simp]at this
  unfold jI
  grind
 have G:=qG (bf op) (fW op) ((if op==8 then []else nB k n x)++rest);unfold fS;rw[E];simp only;rw[dY (az (bf op)),G];simp only;rw[if_neg af];by_cases A:op=8
 ·simp_all
 ·rw[if_neg af,if_neg aG];have C:=adP k n x (u A) j.2.2.1 j.2.2.2 rest;rw[C];cases s;grind [Prod.mk.injEq]
theorem auy l wr(h:(fS l wr).2.2=false):l=jI (fS l wr).1++(fS l wr).2.1/\wr=false:=by
 have E:=nz (aL 16 l wr).2.1 (aL 16 l wr).2.2;unfold fS at h⊢;split at h
 ·cases h
 ·rename_i h8;rw[if_neg h8];split at h
  ·rename_i j;rw[if_pos j];obtain⟨B,A⟩:=tk h;obtain⟨u,_,y⟩:=Dk A;refine⟨?_,y⟩;unfold jI;simp only;have t:(⟨(aL 16 l wr).1.toArray⟩:ByteArray).size=(aL 16 l wr).1.length:=Vd;rw[t,show dK ⟨(aL 16 l wr).1.toArray⟩=(aL 16 l wr).1 by simp[dK]];rw[show bf (8:Int)=(ax (aL 16 l wr).2.1 (aL 16 l wr).2.2).1 by rw[j];rfl];rw[if_pos ay,List.append_nil,dY,<- B];exact u
  ·rename_i j;rw[if_neg j];obtain⟨C,_,D,_⟩:=UA h;obtain⟨B,A⟩:=tk D;obtain⟨u,_,y⟩:=Dk A;refine⟨?_,y⟩;unfold jI;simp only;have t:(⟨(aL 16 l wr).1.toArray⟩:ByteArray).size=(aL 16 l wr).1.length:=Vd;rw[t,show dK ⟨(aL 16 l wr).1.toArray⟩=(aL 16 l wr).1 by simp[dK]];rw[show bf ((ax (aL 16 l wr).2.1 (aL 16 l wr).2.2).1:Int)=(ax (aL 16 l wr).2.1 (aL 16 l wr).2.2).1 by unfold bf;omega];rw[if_neg aY,dY,dY (az (ax (aL 16 l wr).2.1 (aL 16 l wr).2.2).1),<- C,<- B];exact u
theorem Hs:DH jI (λt=>fY t=true/\jh t) fS:=⟨awh,auy,awg⟩
theorem awi l wr:jh (fS l wr).1/\(fS l wr).1.1.size<=16:=by
 grind [Hy,aeN,ax,aL,fS,jh,cJ,ByteArray.size]
theorem aq7 l(u:okF l=true)(y:∀x∈l,jh x) rest:ax (ji l++rest) false=(l.length,l.flatMap jI++rest,false)/\DI (ji l++rest)=(l,rest,false):=by
 obtain⟨B,A⟩:=De u
 have t:ax (ji l++rest) false=(l.length,l.flatMap jI++rest,false):=by
  grind [ji,dY,qG]
 refine⟨t,?_⟩
 have C:=aeR Hs l (λx j=>⟨A x j,y x j⟩) rest l.length (aC _)
 unfold DI
 grind
theorem auz l(j:okF l=true)(t:∀x∈l,jh x):qI (ji l)=some l:=by
 have h:=aq7 l j t []
 rw[List.append_nil]at h
 have u:=(De j).1
 unfold qI
 grind
theorem ac1{b y}(h:qI b=some y):b=ji y/\okF y=true/\∀x∈y,jh x:=by
 unfold qI at h;split at h
 ·rename_i C;injection h with h;simp only[dE,Bool.not_eq_true',List.isEmpty_iff,decide_eq_true_eq]at C;obtain⟨⟨⟨G,u⟩,A⟩,j⟩:=C;unfold DI at u A j h;obtain⟨t,F⟩:=adR Hs u;obtain⟨E,_⟩:=tk F;have B:=(KR Hs (ax b false).1 (ax b false).2.1 (ax b false).2.2).2;have hfit:=aeQ (λx:dt=>jh x/\x.1.size<=16) awi (ax b false).1 (ax b false).2.1 (ax b false).2.2;rw[h]at t B j hfit;rw[A,List.append_nil]at t;refine⟨?_,j,λx D=>(hfit x D).1⟩;unfold ji;rw[B,<- t];exact E
 ·cases h
theorem asC t w :
 Calls prog 313 #[qP t] w λe w'=>e=.returned (.int .i64 (zP t))/\Below w.heap.size w w':=by
 obtain⟨s,op,k,n,x⟩:=t
 have hb0:Below w.heap.size w (w.alloc (.cells #[.string s,.int .i64 op,.int .i64 k,.int .i64 n,.string x] 73)):=(cM _ _).alloc (aC _) _
 have G:=ah.new w 73 #[.string s,.int .i64 op,.int .i64 k,.int .i64 n,.string x]
 have HT:Hid (fY (s,op,k,n,x)=(sF s&&(if op==8 then decide ((k,n,x)=(0,0,(⟨#[]⟩:ByteArray)))else if op==7 then iH k n x&&k==2 else decide (1<=op)&&decide (op<=8)&&iH k n x))):=ae rfl
 have pO:Hid (fY (s,op,k,n,x)=false->zP (s,op,k,n,x)=50):=ae (λh=>by simp[zP,h])
 have C:Hid (fY (s,op,k,n,x)=true->zP (s,op,k,n,x)=0):=ae (λh=>by simp[zP,h])
 go_enter func313,ntmps313
 go_wp2_with fail
 refine (TX s _).mono ?_
 rintro e w'⟨rfl,rfl⟩
 cases hn:sF s
 ·have HE:=ae (pO.aa (by rw[HT.aa,hn];rfl));go_wp2;go_ret;exact⟨gX,hb0⟩
 by_cases A:op<1
 ·exact aeU
 by_cases h8:8<op
 ·exact aeU
 go_wp2_with fail
 refine (OB k n x _).mono ?_
 rintro e Q⟨rfl,D⟩
 have y:=G.av D
 have dQ:=hb0.trans (D.mono hb0.size)
 have H:=y.cell 1
 have I:=y.cell 2
 have J:=y.cell 3
 have L:=y.cell 4
 simp at H I J L
 have HC:Hid ((lW k n x==0)=iH k n x):=ae (by unfold lW;cases iH k n x <;> rfl)
 clear D hb0 G
 by_cases j:op=7
 ·have HE:Hid (fY (s,op,k,n,x)=(iH k n x&&k==2)):=by refine ae ?_;rw[HT.aa,hn,if_neg aY,if_pos aY];rfl
  have M:(op==7)=true:=by simp[j]
  have E:(op==8)=false:=by simp[j]
  clear j A h8;cases hv:iH k n x
  ·have B:(lW k n x==0)=false:=Ps;have HF:=ae (pO.aa (by rw[HE.aa,hv];rfl));exact Fp
  ·have B:(lW k n x==0)=true:=Ps;cases hk:(k==2)
   ·have HF:=ae (pO.aa aeV);exact Fp
   ·have HF:=ae (C.aa aeV);exact Fp
 ·have M:(op==7)=false:=by simp[j]
  by_cases u:op=8
  ·have HE:Hid (fY (s,op,k,n,x)=decide ((k,n,x)=(0,0,(⟨#[]⟩:ByteArray)))):=by refine ae ?_;rw[HT.aa,hn,if_pos aY];rfl
   have E:(op==8)=true:=by simp[u]
   clear u A h8 j;have N:=awf k n 0 0 x ⟨#[]⟩;generalize F:decide ((k,n,x)=(0,0,(⟨#[]⟩:ByteArray)))=d at *;have O:=ae F;clear F;cases d
   ·have HF:=ae (pO.aa KS);exact Fp
   ·have HF:=ae (C.aa KS);exact Fp
  ·have HE:Hid (fY (s,op,k,n,x)=iH k n x):=by refine ae ?_;rw[HT.aa,hn,if_neg aY,if_neg aY];simp;omega
   have E:(op==8)=false:=by simp[u]
   clear u A h8 j;cases hv:iH k n x
   ·have B:(lW k n x==0)=false:=Ps;have HF:=ae (pO.aa (by rw[HE.aa,hv]));exact Fp
   ·have B:(lW k n x==0)=true:=Ps;have HF:=ae (C.aa (by rw[HE.aa,hv]));exact Fp
theorem awj l k(h:k<l.length)(hb:fY l[k]=false):mW l=50:=by
 have:l.all fY=false:=by rw[List.all_eq_false];exact⟨l[k],bS h,by simp[hb]⟩
 simp[mW,okF,this]
theorem auA l(h8:l.length<=8)(h:∀x∈l.take l.length,fY x=true):mW l=0:=by rw[lL]at h;have:l.all fY=true:=List.all_eq_true.2 h;simp[mW,okF,this,h8]
theorem asD(l:List dt) k(h:k<l.length)(ha:∀x∈l.take k,fY x=true)(hb:fY l[k]=true):∀x∈l.take (k+1),fY x=true:=aeW
theorem aq8 t:(zP t=0/\fY t=true)∨(zP t=50/\fY t=false):=by unfold zP;cases fY t <;> simp
theorem TJ A c l w B(G:Reads w B 5 A l.length (l.flatMap fF))(Y:B<=w.heap.size) :
 Calls prog 287 #[.slice A l.length c] w λe w'=>e=.returned (.int .i64 (mW l))/\Below w.heap.size w w':=by
 by_cases h8:8<l.length
 ·have W:(8:Int)<(l.length:Int):=af;have HE:Hid (mW l=50):=ae (by simp[mW,okF,show ¬l.length<=8 by omega]);clear G;generalize l.length=n at *;go_enter func287,ntmps287;go_wp2;go_ret;exact⟨gX,cM _ _⟩
 have W:¬(8:Int)<(l.length:Int):=af
 have U:=ae G
 clear G
 go_enter func287,ntmps287
 go_wp2_with fail
 go_loopw [11] (fun i wr=>∃k:Nat,k<=l.length/\i=.int .i64 k/\Hid (∀x∈l.take k,fY x=true)/\Below w.heap.size w wr) (fun i _=>l.length-(intOf i).toNat)
 case atStart=>exact⟨0,af,rfl,ae aj,cM _ _⟩
 case round =>
  obtain⟨k,hk,rfl,N,hb⟩:=hrel;by_cases H:k<l.length
  ·have X:(k:Int)<l.length:=af;obtain⟨b,u,rfl,V,Q⟩:=U.aa.LF af;obtain⟨J,I,L,M,R⟩:=Q k H;have t:=bz V Y;have d0:=(hb.cell (p:=⟨b,u+k*5,none⟩) t).trans J;have d1:=(hb.cell (p:=⟨b,u+k*5+1,none⟩) t).trans I;have d2:=(hb.cell (p:=⟨b,u+k*5+2,none⟩) t).trans L;have d3:=(hb.cell (p:=⟨b,u+k*5+3,none⟩) t).trans M;have Z:=(hb.cell (p:=⟨b,u+k*5+4,none⟩) t).trans R;have T:=ae (asD l k H N.aa);have Ej:=ae (awj l k H);have hz:=hb.size;clear J I L M R Q;generalize l[k]=x at *;obtain⟨xs,C,F,E,D⟩:=x;simp only at d0 d1 d2 d3 Z;go_wp2_with fail
   refine (asC (xs,C,F,E,D) _).mono ?_;rintro e w2⟨rfl,hb2⟩;have O:=(hb.alloc hz _).trans (hb2.mono aY);rcases aq8 (xs,C,F,E,D)with ⟨j,y⟩|⟨j,y⟩
   ·have hne:(zP (xs,C,F,E,D) != 0)=false:=by rw[j];rfl
    have S:=ae (T.aa y);clear j y;go_wp2;go_roundw
    case rel=>exact⟨k+1,af,bJ,S,O⟩
    case measure=>simp[intOf];omega
   ·have hne:(zP (xs,C,F,E,D) != 0)=true:=by rw[j];rfl
    have HE:=ae (Ej.aa y);have HC:=ae j;clear j y;go_wp2;go_ret;exact⟨by rw[HE.aa,<- HC.aa];rfl,O⟩
  ·have X:¬(k:Int)<l.length:=af;have HE:=ae (auA l af (by
    have:=N.aa;rwa [show k=l.length by omega]at this))
   go_wp2;exact Pt
theorem acp{l v w}(h:fu l v w):Calls prog 287 #[v] w λe w'=>e=.returned (.int .i64 (mW l))/\Below w.heap.size w w':=by obtain⟨A,c,rfl,j⟩:=h;exact TJ A c l w _ j (aC _)
theorem auB:(prog.info? 73).map (λi=>(i.zero,i.size,i.bytes))=some (some (.agg #[.string { data:=#[] },.int .i64 0,.int .i64 0,.int .i64 0,.string { data:=#[] }]),5,56):=by kernel_rfl
theorem TF:fK prog 53 73 (.agg #[.string { data:=#[] },.int .i64 0,.int .i64 0,.int .i64 0,.string { data:=#[] }]) 5 56:=⟨underlying53,auB,rfl,ay⟩
abbrev fH(w:World)(base:Nat)(v:Value)(l:List dt):Prop:=w.ownsRow base 73 5 v l.length (l.flatMap fF)
theorem fH.slice{w base v l}(h:fH w base v l):∃A c,v=.slice A l.length c/\Reads w w.heap.size 5 A l.length (l.flatMap fF)/\l.length<=c/\c<=maxLen:=by
 have j:=h;rcases h.2 with ⟨rfl,t⟩|⟨g,cap,cur,rfl,_,_,hn,u,_⟩
 ·obtain rfl:l=[]:=List.eq_nil_of_length_eq_zero t;exact⟨none,0,rfl,Reads.uH j,aj,aj⟩
 ·exact⟨_,_,rfl,Reads.uH j,hn,u⟩
theorem adU x:∀u∈fF x,u.oneCell'=true:=by intro u j;simp at j;rcases j with rfl|rfl|rfl|rfl|rfl <;> rfl
theorem wP{w base v l}(h:fH w base v l):fu l v w:=by obtain⟨A,c,rfl,j,_⟩:=h.slice;exact⟨A,c,rfl,j⟩
theorem asE b k(hk:k<=(ax b false).1)(h:(cU fS k (ax b false).2.1 (ax b false).2.2).2.2=true):uL b=50/\uK b=[]:=by
 have:(DI b).2.2=true:=by have:=Vc Hs h ((ax b false).1-k);rwa [show k+((ax b false).1-k)=(ax b false).1 by omega]at this
 have j:qI b=none:=by simp[qI,this]
 simp[uL,uK,j]
theorem auC l wr(h:8<(ax (aL 16 l wr).2.1 (aL 16 l wr).2.2).1):(fS l wr).2.2=true:=by unfold fS;rw[if_pos h]
theorem asF l wr(h:(ax (aL 16 l wr).2.1 (aL 16 l wr).2.2).1=8):fS l wr=((⟨(aL 16 l wr).1.toArray⟩,8,0,0,⟨#[]⟩),(ax (aL 16 l wr).2.1 (aL 16 l wr).2.2).2):=by unfold fS;rw[if_neg af,if_pos h]
theorem auD l wr(h:(ax (aL 16 l wr).2.1 (aL 16 l wr).2.2).1<8):fS l wr=((⟨(aL 16 l wr).1.toArray⟩,((ax (aL 16 l wr).2.1 (aL 16 l wr).2.2).1:Int),(fq (ax (aL 16 l wr).2.1 (aL 16 l wr).2.2).2.1 (ax (aL 16 l wr).2.1 (aL 16 l wr).2.2).2.2).1.1,
 (fq (ax (aL 16 l wr).2.1 (aL 16 l wr).2.2).2.1 (ax (aL 16 l wr).2.1 (aL 16 l wr).2.2).2.2).1.2.1,⟨(fq (ax (aL 16 l wr).2.1 (aL 16 l wr).2.2).2.1 (ax (aL 16 l wr).2.1 (aL 16 l wr).2.2).2.2).1.2.2.toArray⟩),
 (fq (ax (aL 16 l wr).2.1 (aL 16 l wr).2.2).2.1 (ax (aL 16 l wr).2.1 (aL 16 l wr).2.2).2.2).2):=by
 unfold fS;rw[if_neg af,if_neg af]
theorem auE k l bad s(j:cU fS k l bad=s):cU fS (k+1) l bad=(s.1++[(fS s.2.1 s.2.2).1],(fS s.2.1 s.2.2).2):=by subst j;rfl
theorem aoL A n c b w B(hR:Reads w B 1 A n (dP b))(hB:B<=w.heap.size)(hn:n<=1000000000) :
 Calls prog 274 #[.slice A n c] w λe w' =>
  ∃v',e=.returned (.tuple #[v',.int .i64 (uL b)])/\fH w' w.heap.size v' (uK b)/\Below w.heap.size w w':=by
 have bR:b.length=n:=Fm
 have hle:b.length<=1000000000:=af
 clear bR
 go_enter func274,ntmps274
 go_wp2_with fail
 refine (Kr A n c b w B hR hB hn).mono ?_
 rintro e w1⟨g,rfl,hg,hr1,aN⟩
 go_wp2_with fail
 refine (sA g b false w1 hr1).mono ?_
 rintro e w2⟨rfl,aW,dH⟩
 have M:=hr1.lt
 have hz2:=dH.size
 have dQ:=aN.trans (ky dH hg aN.size)
 have hlt:=nz b false
 have XQ:=nv b false
 have HB:=ae (asE b)
 have X:Hid (qI b=if decide ((ax b false).1<=8)&&!(cU fS (ax b false).1 (ax b false).2.1 (ax b false).2.2).2.2&&(cU fS (ax b false).1 (ax b false).2.1 (ax b false).2.2).2.1.isEmpty&&okF (cU fS (ax b false).1 (ax b false).2.1 (ax b false).2.2).1 then some (cU fS (ax b false).1 (ax b false).2.1 (ax b false).2.2).1 else none):=ae rfl
 generalize ax b false=a at *
 obtain⟨m,l,bad⟩:=a
 simp only at aW hlt XQ X HB⊢
 clear hr1 aN hR
 by_cases gU:m<=8
 rotate_left
 ·have ym:(8:Int)<(m:Int):=af;have HE:Hid (uL b=50):=ae (by have:=X.aa;simp[gU]at this;simp[uL,this]);have HL:Hid (uK b=[]):=ae (by have:=X.aa;simp[gU]at this;simp[uK,this]);exact aeX
 have ym:¬(8:Int)<(m:Int):=af
 go_wp2_with fail
 go_loopw [6,7,8,16] (fun v _ _ i j=>∃k:Nat,k<=m/\i=.int .u64 k/\fH j w1.heap.size v (cU fS k l bad).1/\Rd j g (cU fS k l bad).2.1 (cU fS k l bad).2.2/\Below w.heap.size w j/\w1.heap.size<=j.heap.size) (fun _ _ _ i _=>m-(intOf i).toNat)
 case atStart=>exact⟨0,af,rfl,jV _ _ _ _,aW,dQ,hz2⟩
 case round =>
  obtain⟨k,hk,rfl,O,Y,hb,hz⟩:=hrel;by_cases hlt:k<m
  ·have fA:(k:Int)<m:=af;have T:=KR Hs k l bad;have hfit:=auE k l bad;have Ge:=HB.aa (k+1) af;generalize hs:cU fS k l bad=s at *;replace hfit:=hfit s rfl;obtain⟨C,t,j⟩:=s;simp only at O Y T hfit;rw[hfit]at Ge;obtain⟨azh,XR⟩:=T;have azi:C.length<=8:=af;clear XR;have C1:=ae (Oq g t j 16 wr Y af af af);have kO:=Dl 16 t j;have F8:=ae λh=>Ge (auC t j h)
   have FE:=ae λh=>hfit.trans (show ((C,t,j).1++[(fS t j).1],(fS t j).2)=_ by rw[asF t j h])
   have FL:=ae λh=>hfit.trans (show ((C,t,j).1++[(fS t j).1],(fS t j).2)=_ by rw[auD t j h])
   clear hfit hs Ge;have eE:=nv (aL 16 t j).2.1 (aL 16 t j).2.2;have vA:=nz (aL 16 t j).2.1 (aL 16 t j).2.2;have C2:Hid (∀W,Rd W g (aL 16 t j).2.1 (aL 16 t j).2.2->Calls prog 192 #[.pointer (some ⟨g,0,none⟩)] W λe w'=>e=.returned (.int .u64 ((ax (aL 16 t j).2.1 (aL 16 t j).2.2).1:Nat))/\nD g (ax (aL 16 t j).2.1 (aL 16 t j).2.2).2.1 (ax (aL 16 t j).2.1 (aL 16 t j).2.2).2.2 W w'):=ae λW hW=>sA g _ _ W hW
   generalize aL 16 t j=sb at *;obtain⟨J,lb,wb⟩:=sb;simp only at C1 C2 F8 FE FL kO eE vA;generalize ax lb wb=sn at *;obtain⟨op,lo,Q⟩:=sn;simp only at C2 F8 FE FL eE vA;have p6:=Pr lo Q;have C3:Hid (∀W,Rd W g lo Q->Calls prog 308 #[.pointer (some ⟨g,0,none⟩)] W λe w'=>e=.returned (vd (fq lo Q).1)/\nD g (fq lo Q).2.1 (fq lo Q).2.2 W w'):=ae λW hW=>abA g _ _ W hW af
   generalize fq lo Q=sv at *;obtain⟨⟨R,vn,vt⟩,lv,wv⟩:=sv;simp only[vd]at C3 FL p6;have sP:g<wr.heap.size:=af;go_wp2_with fail
   refine C1.aa.mono ?_;rintro e u⟨v3,rfl,eD,dI,ix⟩;have hst:=str (eK eD);have jl:=ix.size;have BJ:=KP O ix M;have bG:=hb.trans (ky ix hg hb.size);clear O Y ix hb C1;go_wp2_with fail
   have eO:=ah.new u 73 #[.string ⟨J.toArray⟩,.int .i64 0,.int .i64 0,.int .i64 0,.string ⟨#[]⟩];have QU:Below u.heap.size u (u.alloc (.cells #[.string ⟨J.toArray⟩,.int .i64 0,.int .i64 0,.int .i64 0,.string ⟨#[]⟩] 73)):=(cM _ _).alloc (aC _) _;have ajL:=dI.below QU af;have ai8:=pA BJ QU;have XS:=bG.trans (QU.mono bG.size);have hhz:u.heap.size<(u.alloc (.cells #[.string ⟨J.toArray⟩,.int .i64 0,.int .i64 0,.int .i64 0,.string ⟨#[]⟩] 73)).heap.size:=aj;have Rt:g≠u.heap.size:=af;have hh1:w1.heap.size<=u.heap.size:=af;have hhw:=bG.size;have sQ:u6.ownBlock≠some u.heap.size:=by intro e;have:=(BJ.lt _ e).2;omega
   clear dI QU BJ bG hst eD;generalize u.alloc (.cells #[.string ⟨J.toArray⟩,.int .i64 0,.int .i64 0,.int .i64 0,.string ⟨#[]⟩] 73)=w3a at *;generalize u.heap.size=h at *;refine (C2.aa _ ajL).mono ?_;rintro e w4⟨rfl,ey,Z⟩;have ir:=Z.size;have FF:=KP ai8 Z M;have hb4:=XS.trans (ky Z hg XS.size);have I:=eO.grown Z aeY;clear ai8 ajL Z XS C2 eO;by_cases h8:8<op
   ·have xe:(8:Int)<(op:Int):=af;obtain⟨hC,hL⟩:=F8.aa h8;have HC:=ae hC;have HL:=ae hL;clear hC hL h8;go_wp2;go_ret2;exact⟨_,by rw[HC.aa];rfl,Pu,hb4⟩
   have xe:¬(8:Int)<(op:Int):=af;have G:=I.cell 0;have H:=I.cell 1;have F:=I.cell 2;have E:=I.cell 3;have D:=I.cell 4;have z1:=I.frozen 1;simp at G H F E D;go_upto_region 13 with (fail);have V:w4.grownBy (w4.setCell ⟨h,1,none⟩ (.int .i64 op)) (some h):=Fl (Di w4 _) rfl _;have p7:=V.size;have L:=I.aM 1 (.int .i64 op);have gT:=hb4.trans (ky V hhw hb4.size);have ie:=ey.below (ky V (aC h) af) af;have IG:fH _ _ _ _:=World.ownsRow.kept FF V (.inr sQ);clear V I hb4 ey FF G H F E D z1;generalize w4.setCell ⟨h,1,none⟩ (.int .i64 op)=w5 at *;have G:=L.cell 0;have H:=L.cell 1;have F:=L.cell 2;have E:=L.cell 3;have D:=L.cell 4;simp at G H F E D;by_cases he:op=8
   ·have HF:=ae (FE.aa he);subst he;have aDX:w1.heap.size<=w5.heap.size:=af;go_wp2_with (at_builtin;refine iF rfl _ _ 53 rfl w1.heap.size 73 _ 5 56 TF _ _ _ rfl (pH IG _) (w5.heap.size+1) _ 1 1 (fF ((⟨J.toArray⟩,8,0,0,⟨#[]⟩):dt)) rfl ?c1 ?c2 ?c3 ?c5 ?_)
    case c1=>exact Reads.new w5 (fF ((⟨J.toArray⟩,8,0,0,⟨#[]⟩):dt)) 73 5 1 rfl
    case c2=>first|exact adU _|exact⟨rfl,rfl,rfl,rfl,rfl⟩|exact⟨rfl,rfl,rfl,rfl⟩
    case c3=>omega
    case c5=>first|omega|(simp;omega)
    intro v9 w9 fN bB cQ aZ;have ai9:fH w9 w1.heap.size v9 (cU fS (k+1) l bad).1:=aeZ;have cO:Rd w9 g (cU fS (k+1) l bad).2.1 (cU fS (k+1) l bad).2.2:=by rw[HF.aa];exact (ie.av (Below.alloc (cM _ _) (aC _) _)).below aZ M
    have ajM:=(gT.alloc gT.size _).trans (aZ.mono af);exact ae0
   ·have HF:=ae (FL.aa af);have hne:¬(op:Int)=8:=af;go_wp2_with fail
    refine (C3.aa _ ie).mono ?_;rintro e w6⟨rfl,ng,S⟩;have xg:=S.size;have QI:=KP IG S M;have N:=gT.trans (ky S hg gT.size);have y:=L.grown S aeY;clear IG ie S gT C3 L G H F E D;have G:=y.cell 0;have H:=y.cell 1;have F:=y.cell 2;have E:=y.cell 3;have D:=y.cell 4;have z2:=y.frozen 2;have z3:=y.frozen 3;have z4:=y.frozen 4;simp at G H F E D;go_upto_region 15 with (fail);have U:=Fl (Fl (Fl (Di w6 (some h)) (p:=⟨h,2,none⟩) rfl (.int .i64 R)) (p:=⟨h,3,none⟩) rfl (.int .i64 vn)) (p:=⟨h,4,none⟩) rfl (.string ⟨vt.toArray⟩);have Ru:=U.size;have oA:=((y.aM 2 (.int .i64 R)).aM 3 (.int .i64 vn)).aM 4 (.string ⟨vt.toArray⟩);have iT:=N.trans (ky U hhw N.size);have jy:=ng.below (ky U (aC h) af) af;have ayA:fH _ _ _ _:=World.ownsRow.kept QI U (.inr sQ);clear U y N ng QI G H F E D z2 z3 z4;generalize ((w6.setCell ⟨h,2,none⟩ (.int .i64 R)).setCell ⟨h,3,none⟩ (.int .i64 vn)).setCell ⟨h,4,none⟩ (.string ⟨vt.toArray⟩)=w7 at *;have G:=oA.cell 0;have H:=oA.cell 1;have F:=oA.cell 2;have E:=oA.cell 3;have D:=oA.cell 4;simp at G H F E D;have aDY:w1.heap.size<=w7.heap.size:=af;go_wp2_with (at_builtin;refine iF rfl _ _ 53 rfl w1.heap.size 73 _ 5 56 TF _ _ _ rfl (pH ayA _) (w7.heap.size+1) _ 1 1 (fF ((⟨J.toArray⟩,(op:Int),R,vn,⟨vt.toArray⟩):dt)) rfl ?c1 ?c2 ?c3 ?c5 ?_)
    case c1=>exact Reads.new w7 (fF ((⟨J.toArray⟩,(op:Int),R,vn,⟨vt.toArray⟩):dt)) 73 5 1 rfl
    case c2=>first|exact adU _|exact⟨rfl,rfl,rfl,rfl,rfl⟩|exact⟨rfl,rfl,rfl,rfl⟩
    case c3=>omega
    case c5=>first|omega|(simp;omega)
    intro v9 w9 fN bB cQ aZ;have ai9:fH w9 w1.heap.size v9 (cU fS (k+1) l bad).1:=aeZ;have cO:Rd w9 g (cU fS (k+1) l bad).2.1 (cU fS (k+1) l bad).2.2:=by rw[HF.aa];exact (jy.av (Below.alloc (cM _ _) (aC _) _)).below aZ M
    have ajM:=(iT.alloc iT.size _).trans (aZ.mono af);exact ae0
  ·have fA:¬(k:Int)<m:=af;obtain rfl:k=m:=af;clear hlt hk;have T:=(KR Hs k l bad).2;generalize cU fS k l bad=s at *;obtain⟨C,t,j⟩:=s;simp only at O Y X T;clear T;have Lw:∀x:Bool,x=(!j&&t.isEmpty&&okF C)->Hid (uL b=(if x then 0 else 50))/\Hid (uK b=if x then C else []):=by
    intro x hx
    have h:=X.aa
    rw[show (decide (k<=8))=true by simp;omega]at h
    cases x with
    | true=>rw[Bool.true_and,<- hx]at h;exact⟨ae (by simp[uL,h]),ae (by simp[uK,h])⟩
    | false=>rw[Bool.true_and,<- hx]at h;exact⟨ae (by simp[uL,h]),ae (by simp[uK,h])⟩
   have Rv:=ae Lw;clear Lw;go_wp2_with fail
   refine (Kg g _ _ wr Y).mono ?_;rintro e w'⟨rfl,rfl⟩;cases hd:(!j&&t.isEmpty)
   ·exact ae1
   ·obtain⟨A',c',rfl,hR',_,_⟩:=O.slice;have hrow:=mg (bn hg (Nat.le_of_lt M)) O;go_wp2_with fail
    refine (TJ A' c' C wr wr.heap.size hR' (aC _)).mono ?_;rintro e w6⟨rfl,N⟩;have XT:=hb.trans (N.mono hb.size);have QJ:=pA hrow N;cases hok:okF C
    ·have hne:(mW C != 0)=true:=Pv;exact ae2
    ·have hne:(mW C != 0)=false:=Pv;exact ae3
theorem aq9{b v w}(h:sl b v w)(hn:b.length<=1000000000):Calls prog 274 #[v] w λe w' =>
 ∃v',e=.returned (.tuple #[v',.int .i64 (uL b)])/\fH w' w.heap.size v' (uK b)/\Below w.heap.size w w':=by
 obtain⟨A,c,rfl,j⟩:=h
 exact aoL A _ c b w _ j (aC _) hn
abbrev K(w W:World):Prop:=Below w.heap.size w W
section
variable {a b c w w' w'':World} {B g base lo:Nat} {row:Option Nat}
theorem K.rf w:K w w:=cM _ _
theorem _root_.Go.RowKit.Below.tr(h:Below a.heap.size a b)(k:Below b.heap.size b c):Below a.heap.size a c:=h.trans (k.mono h.size)
theorem _root_.Go.RowKit.Below.al(h:Below a.heap.size a b)(o:Obj):Below a.heap.size a (b.alloc o):=h.alloc h.size o
theorem K.new w o:K w (w.alloc o):=(K.rf w).al o
theorem K.lq w j t:K w ((w.alloc j).alloc t):=(K.new w j).al _
theorem K.QV w j t u:K w (((w.alloc j).alloc t).alloc u):=(K.lq w j t).al _
theorem K.azj w t u j y:K w ((((w.alloc t).alloc u).alloc j).alloc y):=(K.QV w t u j).al _
theorem K.azk w t u j y A:K w (((((w.alloc t).alloc u).alloc j).alloc y).alloc A):=(K.azj w t u j y).al _
theorem ah.aS{w g t cs}(_:ah (w.alloc (.cells cs t)) g t cs):K w (w.alloc (.cells cs t)):=(K.rf w).al _
theorem ah.cells{t cs}(h:ah w g t cs):∀W,K w W->∀i,W.cell? ⟨g,i,none⟩=cs[i]?:=λ_ k i=>(h.av k).cell i
structure aI(lo:Nat)(row:Option Nat)(w w':World):Prop where
 os:w'.os=w.os
 tape:w'.tape=w.tape
 output:w'.output=w.output
 size:w.heap.size<=w'.heap.size
 block:∀k,lo<=k->k<w.heap.size->some k≠row->w'.heap[k]?=w.heap[k]?
theorem aI.rf lo row w:aI lo row w w:=⟨rfl,rfl,rfl,aC _,λ_ _ _ _=>rfl⟩
theorem aI.tr(h:aI lo row a b)(k:aI lo row b c):aI lo row a c :=
 ⟨k.os.trans h.os,k.tape.trans h.tape,k.output.trans h.output,bn h.size k.size,λi j u t=>(k.block i j (bz u h.size) t).trans (h.block i j u t)⟩
theorem aI.aT(h:K w w') lo row:aI lo row w w':=⟨h.os,h.tape,h.output,h.size,λi _ j _=>h.block i j⟩
theorem aI.eM(h:w.grownBy w' row) lo:aI lo row w w':=⟨h.os,h.tape,h.output,h.size,λi _ t j=>h.block i t j⟩
theorem aI.more{j t}(h:aI lo row w w')(C:lo<=j)(u:∀k,j<=k->some k≠t->some k≠row):aI j t w w' :=
 ⟨h.os,h.tape,h.output,h.size,λi y B A=>h.block i af B (u i y A)⟩
theorem aI.k(h:aI 0 row w w')(j:K a w)(t:∀k,row=some k->a.heap.size<=k):K a w' :=
 j.trans ⟨h.os,h.tape,h.output,h.size,λi u=>h.block i (eV _) (bz u j.size) (by rintro rfl;have:=t i rfl;omega)⟩
theorem aI.app(h:w.grownBy w' row){j}(A:j=row∨j=some w.heap.size)(k:aI lo j w' w''):aI lo row w w'':=by
 refine⟨k.os.trans h.os,k.tape.trans h.tape,k.output.trans h.output,bn h.size k.size,λi u t y=>(k.block i u (bz t h.size) ?_).trans (h.block i t y)⟩
 grind
theorem IH{α:Type}(l:List α):((l.length:Int)==0)=l.isEmpty:=by
 cases l with
 | nil=>rfl
 | cons x l=>simp;omega
structure dW(α:Type) where
 size:Nat
 rel:α->List Value->World->Prop
 len:∀ {x cs w},rel x cs w->cs.length=size
 one:∀ {x cs w},rel x cs w->∀u∈cs,u.oneCell'=true
 st:∀ {x cs w w'},rel x cs w->K w w'->rel x cs w'
variable {α:Type} {S:dW α} {l:List α} {v:Value} {A:Option Addr}
def Each(S:dW α)(l:List α)(css:List (List Value))(w:World):Prop:=css.length=l.length/\∀i (h:i<l.length) (h':i<css.length),S.rel l[i] css[i] w
theorem Each.lens{css}(h:Each S l css w):∀cs∈css,cs.length=S.size:=by intro cs j;obtain⟨i,t,rfl⟩:=List.mem_iff_getElem.1 j;exact S.len (h.2 i Ve t)
theorem Each.ones{css}(h:Each S l css w):∀u∈css.flatten,u.oneCell'=true:=by intro u j;obtain⟨cs,t,j⟩:=List.mem_flatten.1 j;obtain⟨i,y,rfl⟩:=List.mem_iff_getElem.1 t;exact S.one (h.2 i Ve y) u j
theorem Each.st{css}(h:Each S l css w)(k:K w w'):Each S l css w':=⟨h.1,λi t j=>S.st (h.2 i t j) k⟩
theorem Each.FQ{css}(h:Each S l css w):css.flatten.length=l.length*S.size:=by rw[Db S.size css h.lens,h.1]
theorem Each.get{css}(h:Each S l css w) i(A:i<l.length):∃cs,css[i]?=some cs/\cs.length=S.size/\S.rel l[i] cs w/\∀j,j<S.size->css.flatten[i*S.size+j]?=cs[j]?:=by have t:i<css.length:=Ve;have u:=h.2 i A t;refine⟨css[i],List.getElem?_eq_getElem t,S.len u,u,λj y=>?_⟩;rw[zm S.size css h.lens i j t y,List.getElem?_eq_getElem t];rfl
theorem Each.nil(S:dW α) w:Each S [] [] w:=⟨rfl,λi hi=>KJ⟩
theorem Each.snoc{css}(h:Each S l css w){x cs}(u:S.rel x cs w):Each S (l++[x]) (css++[cs]) w:=by
 refine⟨KT,λi t A=>?_⟩
 have y:=h.1
 by_cases j:i<l.length
 ·have:=h.2 i j af;grind
 grind
theorem Each.one{x cs}(j:S.rel x cs w):Each S [x] [cs] w:=by simpa using (Each.nil S w).snoc j
theorem Each.take{css}(h:Each S l css w) k:Each S (l.take k) (css.take k) w:=by refine⟨KT,λi t j=>?_⟩;simp only[List.getElem_take];exact h.2 i aG aG
theorem Each.drop{css}(h:Each S l css w) k:Each S (l.drop k) (css.drop k) w:=by refine⟨KT,λi t j=>?_⟩;simp only[List.getElem_drop];exact h.2 (k+i) aG aG
theorem Each.append{t css j}(h:Each S l css w)(k:Each S t j w):Each S (l++t) (css++j) w:=by
 refine⟨by simp[h.1,k.1],λi A B=>?_⟩;have y:=h.1;by_cases u:i<l.length
 ·rw[List.getElem_append_left u,List.getElem_append_left af];exact h.2 i u af
 ·rw[List.getElem_append_right af,List.getElem_append_right af];have:=k.2 (i-l.length) aG aG;simpa [y]using this
def yI(S:dW α)(l:List α)(A:Option Addr)(w:World):Prop:=∃css,Each S l css w/\Reads w w.heap.size S.size A l.length css.flatten
theorem Xx(h:yI S l A w)(k:K w w'):yI S l A w':=by obtain⟨css,j,t⟩:=h;exact⟨css,j.st k,(t.below k (aC _)).more k.size⟩
theorem ae4(S:dW α) A w:yI S [] A w:=⟨[],Each.nil _ _,Reads.nil _ _ _ _⟩
theorem Iy(h:yI S l A w) i(D:i<l.length)(I:0<S.size):∃b t cs,A=some ⟨b,t,none⟩/\b<w.heap.size/\cs.length=S.size/\S.rel l[i] cs w/\∀j,j<S.size->w.cell? ⟨b,t+i*S.size+j,none⟩=cs[j]?:=by
 obtain⟨css,u,B⟩:=h
 obtain⟨cs,G,E,y,F⟩:=u.get i D
 have C:0<css.flatten.length:=aG
 obtain⟨b,t,rfl,hb,H⟩:=B.2 C
 refine⟨b,t,cs,rfl,hb,E,y,λj J=>?_⟩
 grind
def aq(S:dW α)(l:List α)(v:Value)(w:World):Prop:=∃A c,v=.slice A l.length c/\yI S l A w/\l.length<=c
theorem bo(h:aq S l v w)(k:K w w'):aq S l v w':=by obtain⟨A,c,j,u,t⟩:=h;exact⟨A,c,j,Xx u k,t⟩
theorem aja(h:aq S l v w):∀W,K w W->aq S l v W:=λ_ k=>bo h k
theorem gh(S:dW α) w:aq S [] (.slice none 0 0) w:=⟨none,0,rfl,ae4 _ _ _,aC _⟩
def zQ(S:dW α):dW (List α) where
 size:=1
 rel l cs w:=∃v,cs=[v]/\aq S l v w
 len:=by rintro _ _ _⟨v,rfl,_⟩;rfl
 one:=by rintro _ _ _⟨v,rfl,A,c,rfl,_⟩ u j;simp at j;subst j;rfl
 st:=by rintro _ _ _ _⟨v,rfl,h⟩ k;exact⟨v,rfl,bo h k⟩
def aV(base lo:Nat)(e:TypeId)(S:dW α)(l:List α)(v:Value)(w:World):Prop :=
 ∃css,w.ownsRow base e S.size v l.length css.flatten/\css.length=l.length/\∀w',aI lo v.ownBlock w w'->Each S l css w'
theorem aV.nil base lo e(S:dW α) w:aV base lo e S [] (.slice none 0 0) w:=⟨[],jV _ _ _ _,rfl,λ_ _=>Each.nil _ _⟩
theorem aV.st{e}(h:aV base lo e S l v w)(k:K w w'):aV base lo e S l v w':=by obtain⟨css,j,y,t⟩:=h;exact⟨css,pA j k,y,λA u=>t A ((aI.aT k lo _).tr u)⟩
theorem aV.up{e}(h:aV base lo e S l v w)(G:lo<=base)(u:aI lo none w w'):aV base lo e S l v w':=by obtain⟨css,j,A,D⟩:=h;refine⟨css,⟨j.1,j.2.imp id ?_⟩,A,λE y=>D E (aI.tr (u.more (aC _) (λ_ _ _=>aj)) y)⟩;rintro ⟨g,cap,cur,C,F,t,B⟩;exact⟨g,cap,cur,C,F,(u.block g af (Array.getElem?_eq_some_iff.1 t).1 aj).trans t,B⟩
theorem aV.low{e base'}(h:aV base' lo e S l v w)(hb:base<=base'):aV base lo e S l v w:=ae5
theorem aV.slice{e}(h:aV base lo e S l v w):∃A c,v=.slice A l.length c/\yI S l A w/\l.length<=c/\(∀g,v.ownBlock=some g->base<=g/\g<w.heap.size):=by
 obtain⟨css,j,B,y⟩:=h;have t:=j;have u:=y w (aI.rf _ _ _);have hg:=λg hg=>j.lt g hg
 rcases j.2 with ⟨rfl,C⟩|⟨g,cap,cur,rfl,_,_,hn,_⟩
 ·grind [List.eq_nil_of_length_eq_zero,ae4]
 ·exact⟨_,_,rfl,⟨css,u,Reads.uH t⟩,hn,hg⟩
theorem aV.blk{e}(h:aV base lo e S l v w):∀g,v.ownBlock=some g->base<=g/\g<w.heap.size:=by obtain⟨css,j,_,_⟩:=h;exact λg hg=>j.lt g hg
theorem aV.aq{e:TypeId}(h:aV base lo e S l v w):aq S l v w:=by
 obtain⟨A,c,j,u,t,_⟩:=h.slice
 grind [aq]
theorem aV.snoc{e css}(B:css.length=l.length)(y:∀w',aI lo v.ownBlock w w'->Each S l css w')
 {x} {cs} {v'} (D:w'.ownsRow base e S.size v' (l.length+1) (css.flatten++cs)) (hg:w.grownBy w' v.ownBlock) (t:v'.ownBlock=v.ownBlock∨v'.ownBlock=some w.heap.size)
 (A:∀w',aI lo v.ownBlock w w'->S.rel x cs w'):aV base lo e S (l++[x]) v' w':=by
 refine⟨css++[cs],aG,aG,λC u=>?_⟩
 have j:=aI.app hg t u
 exact (y _ j).snoc (A _ j)
end
def jZ(x:cT):List UInt8:=(az x.1.size++dK x.1)++nB x.2.1 x.2.2.1 x.2.2.2
def jw(l:List cT):List UInt8:=az l.length++l.flatMap jZ
def BR(l:List cT):List UInt8:=if fB l then jw l else []
theorem Vf{p l}(h:jk p l=true):∀x∈l,j9 x=true:=by
 induction l generalizing p with
 | nil=>simp
 | cons y l j =>
  grind [jk,j9]
theorem Uj{x}(h:j9 x=true):x.1.size<=16/\x.2.2.2.size<=40:=by simp only[j9,sF,dE,decide_eq_true_eq]at h;exact⟨h.1.1.2,(Hx h.2).2⟩
theorem OW{l}(h:fB l=true):1<=l.length/\l.length<=16/\jk none l=true:=by
 grind [fB,jk]
theorem auF{x}(h:j9 x=true)(t:-9223372036854775808<=x.2.2.1)(j:x.2.2.1<=9223372036854775807):(jZ x).length<=92:=by obtain⟨a,b⟩:=Uj h;have u:=cI x.1.size af;have A:=cI (bf x.2.1) (fW _);have y:=cI (vu x.2.1 x.2.2.1) (KE _ _ t j);have B:=cI x.2.2.2.size af;simp[jZ,nB];omega
theorem auG(l:List cT)(hk:∀x∈l,(jZ x).length<=92):(l.flatMap jZ).length<=92*l.length:=by
 induction l with
 | nil=>simp
 | cons y l j =>
  grind
theorem adV l k(u:fB l=true)(t:∀x∈l,cJ x.2.1/\cJ x.2.2.1):(az l.length++(l.take k).flatMap jZ).length<=2000:=by
 obtain⟨A,B,y⟩:=OW u
 have C:=cI l.length af
 have D:=auG (l.take k) λx j=>auF (Vf y x (lM j)) (t x (lM j)).2.1 (t x (lM j)).2.2
 grind
theorem asG(l:List cT) k(h:k<l.length):az l.length++(l.take (k+1)).flatMap jZ=az l.length++(l.take k).flatMap jZ++(az l[k].1.size++dK l[k].1)++nB l[k].2.1 l[k].2.2.1 l[k].2.2.2:=by
 grind [gj,jZ,dY]
theorem Reads.ajw(w:World) s c x e n(hn:w.heap.size=n):Reads (w.alloc (.cells (bytesRow s c) e x)).drew (n+1) 1 (some ⟨n,0,none⟩) s.size (dP (dK s)):=by
 grind [Reads.drew,Reads.conv]
def mX(x:cT):Prop:=cJ x.2.1/\cJ x.2.2.1
theorem axO l:dK ⟨l.toArray⟩=l:=by rfl
theorem Vg s:(dK s).length=s.size:=by simp
theorem awk x(y:j9 x=true)(j:mX x) rest:sO (jZ x++rest) false=(x,rest,false):=by
 obtain⟨A,B⟩:=Uj y;obtain⟨s,k,n,t⟩:=x;have u:iH k n t=true:=by grind [j9]
 have C:aL 16 (jZ (s,k,n,t)++rest) false=(dK s,nB k n t++rest,false):=by
  have:=Ff 16 (dK s) (by grind [Vg]) (by grind [Vg]) (nB k n t++rest)
  rw[Vg]at this
  simp only[jZ]
  grind
 have D:=adP k n t u j.2.1 j.2.2 rest;unfold sO;simp_all
theorem auH(l:List cT)(h:∀x∈l,j9 x=true/\mX x) rest:∀k,k<=l.length->fQ k (l.flatMap jZ++rest) false=(l.take k,(l.drop k).flatMap jZ++rest,false):=by
 intro k
 induction k with
 | zero=>intro _;simp[fQ]
 | succ k u => intro hk;have j:k<l.length:=af;have y:l.drop k=l[k] :: l.drop (k+1):=aj;have t:=h l[k] (bS j);show ((fQ k (l.flatMap jZ++rest) false).1++[(sO (fQ k (l.flatMap jZ++rest) false).2.1 (fQ k (l.flatMap jZ++rest) false).2.2).1],(sO (fQ k (l.flatMap jZ++rest) false).2.1 (fQ k (l.flatMap jZ++rest) false).2.2).2)=_;rw[u af];simp only;rw[y,rI,dY,awk _ t.1 t.2,gj j]
theorem asH l(u:fB l=true)(y:∀x∈l,mX x) rest:ax (jw l++rest) false=(l.length,l.flatMap jZ++rest,false)/\FP (jw l++rest)=(l,rest,false):=by
 obtain⟨B,C,A⟩:=OW u
 have t:ax (jw l++rest) false=(l.length,l.flatMap jZ++rest,false):=by
  grind [jw,dY,qG]
 refine⟨t,?_⟩
 have D:=auH l (λx j=>⟨Vf A x j,y x j⟩) rest l.length (aC _)
 unfold FP
 grind
theorem auI l(j:fB l=true)(t:∀x∈l,mX x):sJ (jw l)=some l:=by
 have h:=asH l j t []
 rw[List.append_nil]at h
 have u:=(OW j).2.1
 unfold sJ
 grind
theorem auJ{l wr}(h:(sO l wr).2.2=false):l=jZ (sO l wr).1++(sO l wr).2.1/\wr=false:=by obtain⟨A,_,y,_⟩:=UA (l:=(aL 16 l wr).2.1) (wr:=(aL 16 l wr).2.2) h;obtain⟨t,_,u⟩:=Dk y;refine⟨?_,u⟩;unfold sO jZ;simp only;rw[axO];have j:(⟨(aL 16 l wr).1.toArray⟩:ByteArray).size=(aL 16 l wr).1.length:=Vd;rw[j,dY,<- A];exact t
theorem asI{k l wr}(h:(fQ k l wr).2.2=false):l=(fQ k l wr).1.flatMap jZ++(fQ k l wr).2.1/\wr=false:=by
 induction k with
 | zero=>exact⟨fk,h⟩
 | succ k t => obtain⟨e1,j⟩:=auJ (l:=(fQ k l wr).2.1) (wr:=(fQ k l wr).2.2) h;obtain⟨e2,u⟩:=t j;refine⟨?_,u⟩;show l=((fQ k l wr).1++[(sO (fQ k l wr).2.1 (fQ k l wr).2.2).1]).flatMap jZ++(sO (fQ k l wr).2.1 (fQ k l wr).2.2).2.1;exact aeT
theorem ac2{b y}(h:sJ b=some y):b=jw y/\fB y=true/\∀x∈y,mX x:=by
 unfold sJ at h;split at h
 ·rename_i C;injection h with h;simp only[dE,Bool.not_eq_true',List.isEmpty_iff,decide_eq_true_eq]at C;obtain⟨⟨⟨G,u⟩,A⟩,j⟩:=C;unfold FP at u A j h;obtain⟨t,F⟩:=asI u;obtain⟨E,_⟩:=tk F;have B:=(UB (ax b false).1 (ax b false).2.1 (ax b false).2.2).2;have hfit:=auv (ax b false).1 (ax b false).2.1 (ax b false).2.2;rw[h]at t B j hfit;rw[A,List.append_nil]at t;refine⟨?_,j,λx D=>(hfit x D).1⟩;unfold jw;rw[B,<- t];exact E
 ·cases h
theorem UC{l}(h:fB l=true)(j:∀x∈l,mX x):(jw l).length<=2000:=by have:=adV l l.length h j;rwa [lL]at this
