/- Code of functions as the interpreter has it prepared, cut at loops. -/
import Derived.Test.YtaljcpoopmedmaaUi
import Derived.Test.YtaljcpoopmedmaaVd
namespace Go.Proofs.Ytaljcpoopmedmaa.Ev
open Go Go.RowKit
set_option linter.all false
set_option maxRecDepth 100000
def j15:IC:=(.seq (.block 3 (.seq (.region [(qP (.ixs 3 (.g 11) (.g 14))),(qA (.load 3 true (.l 0))),(qB 10 (.new 46 [(.int .i64 0),.nilSlice,.nilSlice])),(qA (.store 3 (.l 0) (.l 1)))]) (.seq (.region [(qP (.fld 1 (.g 10))),(qA (.load 1 false (.l 0))),(qA (.app 48 5 40 (.c (.s .nilSlice)) (.l 0))),(qP (.fld 1 (.g 10))),(qA (.store 1 (.l 0) (.l 1)))]) (.seq (.region [(qP (.fld 2 (.g 10))),(qA (.load 1 false (.l 0))),(qA (.app 118 2 16 (.c (.s .nilSlice)) (.l 0))),(qP (.fld 2 (.g 10))),(qA (.store 1 (.l 0) (.l 1)))]) (.region [(qP (.mv (.g 9))),(qA (.load 3 true (.g 10))),(qA (.bslice 46 3 [(.int .i64 0),.nilSlice,.nilSlice] 1 [(0,(3,(.l 0)))])),(qA (.app 46 3 56 (.l 2) (.l 0))),(qQ 9 (.mv (.l 0)))]))))) (.region [(qP (.bin .add (.g 14) (qC 1))),(qQ 14 (.mv (.l 0)))]))
def jng:IC:=(.seq (.region [(qQ 12 (.bin .lt (.g 14) (.g 13)))]) (.seq (.cond (.g 12) .skip (.exit 2)) j15))
def j16:IC:=(.seq (.block 5 (.seq (.region [(qP (.ixs 2 (.g 5) (.g 8))),(qA (.load 2 true (.l 0))),(qB 4 (.new 51 [(.int .i64 0),.nilSlice])),(qA (.store 2 (.l 0) (.l 1)))]) (.seq (.region [(qP (.fld 1 (.g 4))),(qA (.load 1 false (.l 0))),(qA (.app 3 1 8 (.c (.s .nilSlice)) (.l 0))),(qP (.fld 1 (.g 4))),(qA (.store 1 (.l 0) (.l 1)))]) (.region [(qP (.mv (.g 3))),(qA (.load 2 true (.g 4))),(qA (.bslice 51 2 [(.int .i64 0),.nilSlice] 1 [(0,(2,(.l 0)))])),(qA (.app 51 2 32 (.l 2) (.l 0))),(qQ 3 (.mv (.l 0)))])))) (.region [(qP (.bin .add (.g 8) (qC 1))),(qQ 8 (.mv (.l 0)))]))
def jnh:IC:=(.seq (.region [(qQ 6 (.bin .lt (.g 8) (.g 7)))]) (.seq (.cond (.g 6) .skip (.exit 4)) j16))
def j17:IC:=(.seq (.block 1 (.seq (.region [(qP (.ixs 3 (.g 16) (.g 19))),(qA (.load 3 true (.l 0))),(qB 15 (.new 36 [.nilSlice,.nilSlice,.nilSlice])),(qA (.store 3 (.l 0) (.l 1)))]) (.seq (.region [(qQ 9 (.mv (.c (.s .nilSlice))))]) (.seq (.seq (.region [(qP (.fld 1 (.g 15))),(qB 11 (.load 1 false (.l 0))),(qQ 13 (.len (.l 0))),(qQ 14 (.mv (qC 0)))]) (.block 2 (.loop jng))) (.seq (.region [(qQ 3 (.mv (.c (.s .nilSlice))))]) (.seq (.seq (.region [(qP (.fld 2 (.g 15))),(qB 5 (.load 1 false (.l 0))),(qQ 7 (.len (.l 0))),(qQ 8 (.mv (qC 0)))]) (.block 4 (.loop jnh))) (.region [(qP (.mv (.g 2))),(qP (.fld 0 (.g 15))),(qA (.load 1 false (.l 0))),(qA (.app 3 1 8 (.c (.s .nilSlice)) (.l 0))),(qP (.mv (.g 9))),(qP (.mv (.g 3))),(qP (.build [.nilSlice,.nilSlice,.nilSlice] [(0,(1,(.l 2))),(1,(1,(.l 1))),(2,(1,(.l 0)))])),(qA (.bslice 36 3 [.nilSlice,.nilSlice,.nilSlice] 1 [(0,(3,(.l 0)))])),(qA (.app 36 3 72 (.l 7) (.l 0))),(qQ 2 (.mv (.l 0)))]))))))) (.region [(qP (.bin .add (.g 19) (qC 1))),(qQ 19 (.mv (.l 0)))]))
def jni:IC:=(.seq (.region [(qQ 17 (.bin .lt (.g 19) (.g 18)))]) (.seq (.cond (.g 17) .skip (.exit 0)) j17))
def j8x:IC:=(.seq (.region [(qB 20 (.box 26 (.g 0))),(qB 1 (.new 26 [.nilSlice,.nilSlice]))]) (.seq (.region [(qQ 2 (.mv (.c (.s .nilSlice))))]) (.seq (.seq (.region [(qP (.fld 1 (.g 20))),(qB 16 (.load 1 false (.l 0))),(qQ 18 (.len (.l 0))),(qQ 19 (.mv (qC 0)))]) (.block 0 (.loop jni))) (.seq (.region [(qP (.fld 0 (.g 20))),(qA (.load 1 false (.l 0))),(qA (.app 3 1 8 (.c (.s .nilSlice)) (.l 0))),(qP (.mv (.g 2))),(qP (.build [.nilSlice,.nilSlice] [(0,(1,(.l 1))),(1,(1,(.l 0)))])),(qA (.store 2 (.g 1) (.l 0)))]) .ret))))
theorem qnf:T 20=some (.mk j8x 1 20 [(.cell 1 2 true)]):=by kernel_rfl
open Go Go.RowKit Go.Proofs.Ytaljcpoopmedmaa.Ms
section
variable {α:Type}
def Gs (lo:Nat) (h:Hp) (ty sz:Nat) (E:List SV->α->List Nat->Prop) (x:SV) (l:List α):Prop :=
 ∃ ns,Sl h ty sz false E x l ns/\ns.Nodup/\∀ n∈ns,lo<=n/\n<h.next
variable {lo ty sz:Nat} {E:List SV->α->List Nat->Prop} {h h':Hp} {x:SV} {l:List α}
theorem Gs.nil:Gs lo h ty sz E .nilSlice []:=⟨[],.nil,.nil,by simp⟩
theorem Gs.len (k:Gs lo h ty sz E x l):ju6 (.s x)=some (vi l.length):=by
 obtain ⟨ns,k,_⟩:=k
 exact k.len
theorem jxa:∀ {L:List (List SV)},(∀ r∈L,r.length=sz)->j18 sz L=some L.flatten
 | [],_=>rfl
 | a::L,hr=>by
  have e:j18 sz L=some L.flatten:=jxa (fun r h=>hr r (List.mem_cons_of_mem _ h))
  have ha:=hr a (by simp)
  show oif (Nat.beq (jc2 a) sz) (ob (j18 sz L) (fun r=>some (jhj a r))) none=_
  rw [e,show Nat.beq (jc2 a) sz=true by rw [jbi,ha];exact Nat.beq_refl sz]
  show some (jhj a L.flatten)=_
  rw [jdd];rfl
theorem jkv {enc:α->List SV} {bytes:Nat} (ok:Ok h) (hn:∀ a,(enc a).length=sz) (hE:∀ a,E (enc a) a []) (h1:l.length*bytes<=1000000000) (h2:l.length<=1000000000) :
 ∃ x h1,jo9 h ty sz bytes (.s .nilSlice) (.s (jai enc l))=some (.s x,h1)/\Ok h1/\h.next<=h1.next/\(∀ n,n<h.next->h1.get n=h.get n)/\Gs h.next h1 ty sz E x l:=by
 cases l with
 | nil=>exact ⟨.nilSlice,h,rfl,ok,Nat.le_refl _,fun _ _=>rfl,.nil⟩
 | cons a r =>
  obtain ⟨hA,eA,okA,nA,xA,gA⟩:=je1 ok ((a::r).map enc).flatten ty
  have hrow:∀ q∈(a::r).map enc,q.length=sz:=fun q hq=>by
   obtain ⟨b,_,rfl⟩:=List.mem_map.1 hq
   exact hn b
  have hR:∀ L:List α,Rows sz E (L.map enc) L []:=fun L=>by
   induction L with
   | nil=>exact .nil
   | cons b L ih=>exact .cons (hn b) (hE b) ih
  refine ⟨.slice h.next 0 (a::r).length (a::r).length false sz,hA,?_,okA,by omega,gA,[h.next],.inr ⟨by simp,h.next,(a::r).map enc,[],rfl,xA,hR _,rfl⟩,by simp,by simp;omega⟩
  show ob (j18 sz ((a::r).map enc)) (fun new=>_)=_
  rw [jxa hrow]
  show jnl bytes (jc2 ((a::r).map enc)) (nw h ((a::r).map enc).flatten ty (fun k h=>Ev.ok (.s (.slice k 0 (jc2 ((a::r).map enc)) (jc2 ((a::r).map enc)) false sz)) h))=_
  rw [jbi,List.length_map,js4 h1 h2,jyf ok,eA]
  rfl
theorem Gs.app1 {bytes:Nat} {h1:Hp} {row:List SV} {a:α} {ms:List Nat} {E1:List SV->α->List Nat->Prop} {E2:Hp->List SV->α->List Nat->Prop} (k:Gs lo h ty sz E x l) (hk:∀ row a m,(∀ n∈m,n<h.next)->E row a m->E1 row a m) (ok:Ok h1) (hn:h.next<=h1.next) (g:∀ n,n<h.next->h1.get n=h.get n) (hlo:lo<=h.next) (hl1:1<=lo)
 (hE:E1 row a ms) (hms:ms.Nodup) (hm:∀ n∈ms,h.next<=n/\n<h1.next) (hr:row.length=sz) (h1b:(l.length+1)*bytes<=1000000000) (h2b:l.length+1<=1000000000)
 (hE2:∀ h2,(∀ n∈ms,h2.get n=h1.get n)->∀ row a m,E1 row a m->(∀ n∈m,h2.get n=h1.get n)->E2 h2 row a m) :
 ∃ x' h2,jo9 (h1.push (.arr row ty)) ty sz bytes (.s x) (.s (.slice h1.next 0 1 1 true sz))=some (.s x',h2)/\Ok h2/\h1.next<=h2.next/\(∀ n,n<lo->h2.get n=h.get n)/\Gs lo h2 ty sz (E2 h2) x' (l++[a]):=by
 obtain ⟨ns,s,nd,lt⟩:=k
 have s1:Sl h1 ty sz false E1 x l ns:=s.imp (fun n hn=>g n (lt n hn).2) (fun row a m hmm e=>hk row a m (fun n hn=>(lt n (hmm n hn)).2) e)
 obtain ⟨h2,e2,ok2,n2,kp2,kt2,sl2⟩:=s1.app1 (bytes:=bytes) ok (fun n hn'=>by have:=lt n hn';omega) hr hE h1b h2b
 have kms:∀ n∈ms,h2.get n=h1.get n:=fun n hn'=>kp2 n (hm n hn').2 (fun hc=>by have:=lt n hc;have:=hm n hn';omega)
 refine ⟨_,h2,e2,ok2,by omega,fun n hn'=>(kp2 n (by omega) (fun hc=>by have:=lt n hc;omega)).trans (g n (by omega)),_,sl2 (fun row a m hmm e=>hE2 h2 kms row a m e (fun n hn'=>?_)),?_,?_⟩
 ·rcases hmm n hn' with hc | hc
  ·exact kt2 n hc nd
  ·exact kms n hc
 ·refine jcc nd hms (fun n hn' hc=>?_) (fun hc=>?_) (fun hc=>?_)
  ·have:=lt n hc;have:=hm n hn';omega
  ·have:=lt _ hc;omega
  ·have:=hm _ hc;omega
 ·intro n hn'
  rcases List.mem_cons.1 hn' with rfl | hn'
  ·omega
  ·rcases List.mem_append.1 hn' with hc | hc
   ·have:=lt n (List.mem_of_mem_tail hc);omega
   ·have:=hm n hc;omega
end
def OX (h:Hp) (row:List SV) (x:Ms.Ins) (ns:List Nat):Prop:=∃ a b n1 n2 ex,row=[si x.op,a,b]/\Sl h tt.opd 5 ex EO a x.ops n1/\Sl h tt.reg 2 false ER b x.spoils n2/\ns=n1++n2
def OE (h:Hp) (row:List SV) (e:Ms.Edg) (ns:List Nat):Prop:=∃ a,row=[si e.block,a]/\Sl h tt.int 1 false EI a e.args ns
def OB (h:Hp) (row:List SV) (b:Blk) (ns:List Nat):Prop:=∃ p i e n1 n2 n3 ex,row=[p,i,e]/\Sl h tt.int 1 false EI p b.params n1/\Sl h tt.ins 3 false (OX h) i b.instrs n2/\Sl h tt.edg 2 ex (OE h) e b.edges n3/\ns=n1++(n2++n3)
section
variable {h h':Hp}
theorem OE.keep {row:List SV} {x:Ms.Edg} {ns:List Nat} (k:OE h row x ns) (hk:∀ n∈ns,h'.get n=h.get n):OE h' row x ns:=by
 obtain ⟨a,e,h1⟩:=k
 exact ⟨a,e,h1.keep hk⟩
theorem OX.keep {row:List SV} {x:Ms.Ins} {ns:List Nat} (k:OX h row x ns) (hk:∀ n∈ns,h'.get n=h.get n):OX h' row x ns:=by
 obtain ⟨a,b,n1,n2,ex,e,h1,h2,rfl⟩:=k
 exact ⟨a,b,n1,n2,ex,e,h1.keep (fun n hn=>hk n (by simp [hn])),h2.keep (fun n hn=>hk n (by simp [hn])),rfl⟩
theorem OB.keep {row:List SV} {x:Blk} {ns:List Nat} (k:OB h row x ns) (hk:∀ n∈ns,h'.get n=h.get n):OB h' row x ns:=by
 obtain ⟨p,i,e,n1,n2,n3,ex,e1,h1,h2,h3,rfl⟩:=k
 exact ⟨p,i,e,n1,n2,n3,ex,e1,h1.keep (fun n hn=>hk n (by simp [hn])),h2.imp (fun n hn=>hk n (by simp [hn])) (fun row a ms hm k=>k.keep (fun n hn=>hk n (by simp [hm n hn]))),h3.imp (fun n hn=>hk n (by simp [hn])) (fun row a ms hm k=>k.keep (fun n hn=>hk n (by simp [hm n hn]))),rfl⟩
variable {d:Nat} {k:Bool}
theorem OE.frz {row:List SV} {x:Ms.Edg} {ms:List Nat} (e:OE h row x ms):jhn (jh3 k h (d+2)) row=some (jdl x):=by
 obtain ⟨a,rfl,h1⟩:=e
 exact ja9 rfl (ja9 (h1.frz (fun _ _ _ e=>EI.frz e) (fun _=>rfl)) rfl)
theorem OX.frz {row:List SV} {x:Ms.Ins} {ms:List Nat} (e:OX h row x ms):jhn (jh3 k h (d+2)) row=some (jea x):=by
 obtain ⟨a,b,n1,n2,ex,rfl,h1,h2,rfl⟩:=e
 exact ja9 rfl (ja9 (h1.frz (fun _ _ _ e=>EO.frz e) (fun _=>rfl)) (ja9 (h2.frz (fun _ _ _ e=>ER.frz e) (fun _=>rfl)) rfl))
theorem OB.frz {row:List SV} {x:Ms.Blk} {ms:List Nat} (e:OB h row x ms):jhn (jh3 k h (d+3)) row=some (ja3 x):=by
 obtain ⟨p,i,e,n1,n2,n3,ex,rfl,h1,h2,h3,rfl⟩:=e
 exact ja9 (h1.frz (fun _ _ _ e=>EI.frz e) (fun _=>rfl)) (ja9 (h2.frz (fun _ _ _ e=>OX.frz e) (fun _=>rfl)) (ja9 (h3.frz (fun _ _ _ e=>OE.frz e) (fun _=>rfl)) rfl))
structure OF (h:Hp) (x:AV) (f:Fc) (na nb:List Nat):Prop where
 ex:∃ a b,x=.agg [a,b]/\Sl h tt.int 1 false EI a f.values na/\Sl h tt.blk 3 false (OB h) b f.blocks nb
 nd:(na++nb).Nodup
 lt:∀ n∈na++nb,1<=n/\n<h.next
theorem OF.frz {x:AV} {f:Fc} {na nb:List Nat} (o:OF h x f na nb):jhl k h 4 x=some (.agg (j3p f)):=by
 obtain ⟨⟨a,b,rfl,h1,h2⟩,_,_⟩:=o
 exact jab.2 ⟨_,ja9 (h1.frz (fun _ _ _ e=>EI.frz e) (fun _=>rfl)) (ja9 (h2.frz (fun _ _ _ e=>OB.frz e) (fun _=>rfl)) rfl),rfl⟩
theorem OF.keep {x:AV} {f:Fc} {na nb:List Nat} (o:OF h x f na nb) (hk:∀ n∈na++nb,h'.get n=h.get n) (hn:h.next<=h'.next):OF h' x f na nb:=by
 obtain ⟨⟨a,b,rfl,h1,h2⟩,nd,lt⟩:=o
 exact ⟨⟨a,b,rfl,h1.keep (fun n hn=>hk n (by simp [hn])),h2.imp (fun n hn=>hk n (by simp [hn])) (fun row a ms hm k=>k.keep (fun n hn=>hk n (by simp [hm n hn])))⟩,nd,fun n hm=>by have:=lt n hm;omega⟩
end
attribute [local go_sem] Int.cast_ofNat_Int Int.natCast_zero Int.natCast_one decide_eq_true_eq decide_eq_false_iff_not Bool.false_eq_true and_true true_and List.cons_append List.nil_append reduceCtorEq decide_true decide_false Bool.not_true Bool.not_false Nat.add_zero Nat.zero_add Option.some.injEq Bool.true_eq_false not_true_eq_false not_false_eq_true Hp.next_push Hp.next_put Nat.add_assoc Int.reduceToNat Nat.reduceAdd Nat.reduceMul Nat.reduceEqDiff Int.reduceEq Int.reduceLT Int.reduceLE Int.reduceNeg Int.reduceAdd Int.reduceSub Int.reduceMul Int.reduceNe
attribute [local go_sem ↓] reduceIte
set_option maxHeartbeats 2000000
theorem qju {h:Hp} (ok:Ok h) {b:Nat} (hb:1<=b) (x:Option AB):∃ hA,h.put b x=hA/\Ok hA/\hA.next=h.next/\hA.get b=x/\∀ n,n≠b->hA.get n=h.get n :=
 ⟨_,rfl,jad ok,Hp.next_put ..,by rw [jak ok hb,if_pos rfl],fun n hn=>by rw [jak ok hb,if_neg hn]⟩
section
variable {F:Fns}
theorem qdh {l:List Ms.Ins} (hl:l.length<=10000) (hp:∀ x∈l,x.ops.length<=10000/\x.spoils.length<=10000) {lo:Nat} (hlo:1<=lo) {x0 x1 x2 x3 x4 x5 x6 x7 x8 x15 x16 x17 x18 x19 x20:AV} {Q:Ex->St->Prop} :
 ∀ (rest done:List Ms.Ins) (_:done++rest=l) {hi:Hp} (_:Ok hi) (_:lo<=hi.next) {a:SV} (_:Gs lo hi 46 3 (OX hi) a done) {x10 x12:AV}
  (hQ:∀ hj a x10 x12,Ok hj->hi.next<=hj.next->(∀ n,n<lo->hj.get n=hi.get n)->Gs lo hj 46 3 (OX hj) a l->Q (.exit 2) (.mk [x0,x1,x2,x3,x4,x5,x6,x7,x8,.s a,x10,.s (jai jea l),x12,vi l.length,vi l.length,x15,x16,x17,x18,x19,x20] hj)),
  W F jng.loop (.mk [x0,x1,x2,x3,x4,x5,x6,x7,x8,.s a,x10,.s (jai jea l),x12,vi l.length,vi done.length,x15,x16,x17,x18,x19,x20] hi) Q
 | [],done,hdn,hi,ok,hn,a,k,x10,x12,hQ=>by
  rw [List.append_nil] at hdn
  subst hdn
  rw [jan]
  unfold jng
  simp (disch:=first|omega|rfl|apply_rules[jaa,jac,jad]) only [go_sem,Int.lt_irrefl]
  exact hQ hi a _ _ ok (Nat.le_refl _) (fun _ _=>rfl) k
 | x::rest,done,hdn,hi,ok,hn,a,k,x10,x12,hQ=>by
  have hlt1:done.length<l.length:=by rw [←hdn];simp
  have hlt:(done.length:Int)<l.length:=by omega
  have hget:l[done.length]?=some x:=by rw [←hdn];simp
  obtain ⟨p1,p2⟩:=hp x (List.mem_of_getElem? hget)
  have hix:=jaj (enc:=jea) (size:=3) hget rfl
  have hdn':(done++[x])++rest=l:=by rw [←hdn];simp
  have hs:(done.length:Int)+1=(((done++[x]).length:Nat):Int):=by simp
  have hpos:=ok.pos
  obtain ⟨hA,eA,okA,nA,xA,gA⟩:=jcq ok [.int .i64 0,.nilSlice,.nilSlice] (jea x) 46
  obtain ⟨so,hB,eB,okB,nB,gB,n1,s1,d1,l1⟩:=jkv (ty:=48) (sz:=5) (E:=EO) (bytes:=40) (l:=x.ops) (enc:=jbh) okA (fun _=>rfl) (fun _=>⟨rfl,rfl⟩) (by omega) (by omega)
  have yB:=(gB _ (by omega)).trans xA
  obtain ⟨hC,eC,okC,nC,xC,gC⟩:=qju okB hpos (some (.arr [si x.op,so,jai jdy x.spoils] 46))
  obtain ⟨ss,hD,eD,okD,nD,gD,n2,s2,d2,l2⟩:=jkv (ty:=118) (sz:=2) (E:=ER) (bytes:=16) (l:=x.spoils) (enc:=jdy) okC (fun _=>rfl) (fun _=>⟨rfl,rfl⟩) (by omega) (by omega)
  have yD:=(gD _ (by omega)).trans xC
  obtain ⟨hE,eE,okE,nE,xE,gE⟩:=qju okD hpos (some (.arr [si x.op,so,ss] 46))
  have g1:∀ n∈n1,hE.get n=hB.get n:=fun n hm=>by
   have:=l1 n hm
   rw [gE n (by omega),gD n (by omega),gC n (by omega)]
  have g2:∀ n∈n2,hE.get n=hD.get n:=fun n hm=>by
   have:=l2 n hm
   rw [gE n (by omega)]
  have g0:∀ n,n<hi.next->hE.get n=hi.get n:=fun n hm=>by
   rw [gE n (by omega),gD n (by omega),gC n (by omega),gB n (by omega),gA n hm]
  obtain ⟨a',hF,eF,okF,nF,gF,kF⟩:=k.app1 (bytes:=56) (h1:=hE) (row:=[si x.op,so,ss]) (a:=x) (ms:=n1++n2) (E1:=OX hE) (E2:=fun h=>OX h) (fun row a m hm e=>e.keep (fun n hn=>g0 n (hm n hn))) okE (by omega) g0 hn hlo
   ⟨so,ss,n1,n2,_,rfl,s1.keep g1,s2.keep g2,rfl⟩ (List.nodup_append.2 ⟨d1,d2,fun u hu v hv e=>by have:=l1 u hu;have:=l2 v hv;omega⟩)
   (fun n hm=>by
    rcases List.mem_append.1 hm with hm | hm
    ·have:=l1 n hm;omega
    ·have:=l2 n hm;omega) rfl (by omega) (by omega) (fun h2 _ row a m e hm=>e.keep hm)
  unfold jea at xA eA yB
  rw [jan]
  unfold jng j15
  simp (disch:=first|omega|rfl|apply_rules[jaa,jac,jad]) only [go_sem,jag,eq_true hlt,hix,jea,eA,xA,eB,yB,eC,xC,eD,yD,eE,xE,eF,hs]
  exact qdh hl hp hlo rest (done++[x]) hdn' okF (by omega) kF (fun hj a x10 x12 ok' n' g' k'=>hQ hj a x10 x12 ok' (by omega) (fun n hm=>(g' n hm).trans (gF n hm)) k')
theorem qdi {l:List Ms.Edg} (hl:l.length<=10000) (hp:∀ x∈l,x.args.length<=10000) {lo:Nat} (hlo:1<=lo) {x0 x1 x2 x9 x10 x11 x12 x13 x14 x15 x16 x17 x18 x19 x20:AV} {Q:Ex->St->Prop} :
 ∀ (rest done:List Ms.Edg) (_:done++rest=l) {hi:Hp} (_:Ok hi) (_:lo<=hi.next) {a:SV} (_:Gs lo hi 51 2 (OE hi) a done) {x4 x6:AV}
  (hQ:∀ hj a x4 x6,Ok hj->hi.next<=hj.next->(∀ n,n<lo->hj.get n=hi.get n)->Gs lo hj 51 2 (OE hj) a l->Q (.exit 4) (.mk [x0,x1,x2,.s a,x4,.s (jai jdl l),x6,vi l.length,vi l.length,x9,x10,x11,x12,x13,x14,x15,x16,x17,x18,x19,x20] hj)),
  W F jnh.loop (.mk [x0,x1,x2,.s a,x4,.s (jai jdl l),x6,vi l.length,vi done.length,x9,x10,x11,x12,x13,x14,x15,x16,x17,x18,x19,x20] hi) Q
 | [],done,hdn,hi,ok,hn,a,k,x4,x6,hQ=>by
  rw [List.append_nil] at hdn
  subst hdn
  rw [jan]
  unfold jnh
  simp (disch:=first|omega|rfl|apply_rules[jaa,jac,jad]) only [go_sem,Int.lt_irrefl]
  exact hQ hi a _ _ ok (Nat.le_refl _) (fun _ _=>rfl) k
 | x::rest,done,hdn,hi,ok,hn,a,k,x4,x6,hQ=>by
  have hlt1:done.length<l.length:=by rw [←hdn];simp
  have hlt:(done.length:Int)<l.length:=by omega
  have hget:l[done.length]?=some x:=by rw [←hdn];simp
  have p1:=hp x (List.mem_of_getElem? hget)
  have hix:=jaj (enc:=jdl) (size:=2) hget rfl
  have hdn':(done++[x])++rest=l:=by rw [←hdn];simp
  have hs:(done.length:Int)+1=(((done++[x]).length:Nat):Int):=by simp
  have hpos:=ok.pos
  obtain ⟨hA,eA,okA,nA,xA,gA⟩:=jcq ok [.int .i64 0,.nilSlice] (jdl x) 51
  obtain ⟨so,hB,eB,okB,nB,gB,n1,s1,d1,l1⟩:=jkv (ty:=3) (sz:=1) (E:=EI) (bytes:=8) (l:=x.args) (enc:=ja0) okA (fun _=>rfl) (fun _=>⟨rfl,rfl⟩) (by omega) (by omega)
  have yB:=(gB _ (by omega)).trans xA
  obtain ⟨hE,eE,okE,nE,xE,gE⟩:=qju okB hpos (some (.arr [si x.block,so] 51))
  have g1:∀ n∈n1,hE.get n=hB.get n:=fun n hm=>by
   have:=l1 n hm
   rw [gE n (by omega)]
  have g0:∀ n,n<hi.next->hE.get n=hi.get n:=fun n hm=>by
   rw [gE n (by omega),gB n (by omega),gA n hm]
  obtain ⟨a',hF,eF,okF,nF,gF,kF⟩:=k.app1 (bytes:=32) (h1:=hE) (row:=[si x.block,so]) (a:=x) (ms:=n1) (E1:=OE hE) (E2:=fun h=>OE h) (fun row a m hm e=>e.keep (fun n hn=>g0 n (hm n hn))) okE (by omega) g0 hn hlo
   ⟨so,rfl,s1.keep g1⟩ d1 (fun n hm=>by have:=l1 n hm;omega) rfl (by omega) (by omega) (fun h2 _ row a m e hm=>e.keep hm)
  unfold jdl at xA eA yB
  rw [jan]
  unfold jnh j16
  simp (disch:=first|omega|rfl|apply_rules[jaa,jac,jad]) only [go_sem,jag,eq_true hlt,hix,jdl,eA,xA,eB,yB,eE,xE,eF,hs]
  exact qdi hl hp hlo rest (done++[x]) hdn' okF (by omega) kF (fun hj a x4 x6 ok' n' g' k'=>hQ hj a x4 x6 ok' (by omega) (fun n hm=>(g' n hm).trans (gF n hm)) k')
structure Szs (f:Fc):Prop where
 v:f.values.length<=100000
 b:f.blocks.length<=10000
 bs:∀ b∈f.blocks,b.params.length<=10000/\b.instrs.length<=10000/\b.edges.length<=10000/\(∀ x∈b.instrs,x.ops.length<=10000/\x.spoils.length<=10000)/\∀ x∈b.edges,x.args.length<=10000
theorem qdj {f:Fc} (z:Szs f) {lo:Nat} (hlo:1<=lo) {x0 x1 x20:AV} {Q:Ex->St->Prop} :
 ∀ (rest done:List Ms.Blk) (_:done++rest=f.blocks) {hi:Hp} (_:Ok hi) (_:lo<=hi.next) {a:SV} (_:Gs lo hi 36 3 (OB hi) a done) {x3 x4 x5 x6 x7 x8 x9 x10 x11 x12 x13 x14 x15 x17:AV}
  (hQ:∀ hj a x3 x4 x5 x6 x7 x8 x9 x10 x11 x12 x13 x14 x15 x17,Ok hj->hi.next<=hj.next->(∀ n,n<lo->hj.get n=hi.get n)->Gs lo hj 36 3 (OB hj) a f.blocks->Q (.exit 0) (.mk [x0,x1,.s a,x3,x4,x5,x6,x7,x8,x9,x10,x11,x12,x13,x14,x15,.s (jai ja3 f.blocks),x17,vi f.blocks.length,vi f.blocks.length,x20] hj)),
  W F jni.loop (.mk [x0,x1,.s a,x3,x4,x5,x6,x7,x8,x9,x10,x11,x12,x13,x14,x15,.s (jai ja3 f.blocks),x17,vi f.blocks.length,vi done.length,x20] hi) Q
 | [],done,hdn,hi,ok,hn,a,k,x3,x4,x5,x6,x7,x8,x9,x10,x11,x12,x13,x14,x15,x17,hQ=>by
  rw [List.append_nil] at hdn
  rw [jan,hdn]
  unfold jni
  simp (disch:=first|omega|rfl|apply_rules[jaa,jac,jad]) only [go_sem,Int.lt_irrefl]
  exact hQ hi a _ _ _ _ _ _ _ _ _ _ _ _ _ _ ok (Nat.le_refl _) (fun _ _=>rfl) (hdn▸k)
 | b::rest,done,hdn,hi,ok,hn,a,k,x3,x4,x5,x6,x7,x8,x9,x10,x11,x12,x13,x14,x15,x17,hQ=>by
  have hlb:=z.b
  have hlt1:done.length<f.blocks.length:=by rw [←hdn];simp
  have hlt:(done.length:Int)<f.blocks.length:=by omega
  have hget:f.blocks[done.length]?=some b:=by rw [←hdn];simp
  obtain ⟨p1,p2,p3,p4,p5⟩:=z.bs b (List.mem_of_getElem? hget)
  have hix:=jaj (enc:=ja3) (size:=3) hget rfl
  have hdn':(done++[b])++rest=f.blocks:=by rw [←hdn];simp
  have hs:(done.length:Int)+1=(((done++[b]).length:Nat):Int):=by simp
  have hpos:=ok.pos
  have li:=jal (enc:=jea) (l:=b.instrs)
  have le:=jal (enc:=jdl) (l:=b.edges)
  obtain ⟨hA,eA,okA,nA,xA,gA⟩:=jcq ok [.nilSlice,.nilSlice,.nilSlice] (ja3 b) 36
  unfold ja3 at xA eA
  rw [jan]
  unfold jni j17
  simp (disch:=first|omega|rfl|apply_rules[jaa,jac,jad]) only [go_sem,eq_true hlt,hix,ja3,eA,xA,li]
  refine qdh p2 p4 (lo:=hA.next) (by omega) b.instrs [] rfl okA (Nat.le_refl _) .nil (fun hj si' y10 y12 okj nj gj ⟨ni,s1,d1,l1⟩=>?_)
  have xj:=(gj _ (by omega)).trans xA
  simp (disch:=first|omega|rfl|apply_rules[jaa,jac,jad]) only [go_sem,xj,le]
  refine qdi p3 p5 (lo:=hj.next) (by omega) b.edges [] rfl okj (Nat.le_refl _) .nil (fun hk se y4 y6 okk nk gk ⟨ne,s2,d2,l2⟩=>?_)
  have xk:=(gk _ (by omega)).trans xj
  obtain ⟨sp,hE,eE,okE,nE,gE,np,s3,d3,l3⟩:=jkv (ty:=3) (sz:=1) (E:=EI) (bytes:=8) (l:=b.params) (enc:=ja0) okk (fun _=>rfl) (fun _=>⟨rfl,rfl⟩) (by omega) (by omega)
  have g0:∀ n,n<hi.next->hE.get n=hi.get n:=fun n hm=>by
   rw [gE n (by omega),gk n (by omega),gj n (by omega),gA n hm]
  have g1:∀ n∈ni,hE.get n=hj.get n:=fun n hm=>by
   have:=l1 n hm
   rw [gE n (by omega),gk n (by omega)]
  have g2:∀ n∈ne,hE.get n=hk.get n:=fun n hm=>by
   have:=l2 n hm
   rw [gE n (by omega)]
  obtain ⟨a',hF,eF,okF,nF,gF,kF⟩:=k.app1 (bytes:=72) (h1:=hE) (row:=[sp,si',se]) (a:=b) (ms:=np++(ni++ne)) (E1:=OB hE) (E2:=fun h=>OB h) (fun row a m hm e=>e.keep (fun n hn=>g0 n (hm n hn))) okE (by omega) g0 hn hlo
   ⟨sp,si',se,np,ni,ne,_,rfl,s3,s1.imp g1 (fun row a ms hm e=>e.keep (fun n hn=>g1 n (hm n hn))),s2.imp g2 (fun row a ms hm e=>e.keep (fun n hn=>g2 n (hm n hn))),rfl⟩
   (List.nodup_append.2 ⟨d3,List.nodup_append.2 ⟨d1,d2,fun u hu v hv e=>by have:=l1 u hu;have:=l2 v hv;omega⟩,fun u hu v hv e=>by
    have:=l3 u hu
    rcases List.mem_append.1 hv with hv | hv
    ·have:=l1 v hv;omega
    ·have:=l2 v hv;omega⟩)
   (fun n hm=>by
    rcases List.mem_append.1 hm with hm | hm
    ·have:=l3 n hm;omega
    ·rcases List.mem_append.1 hm with hm | hm
     ·have:=l1 n hm;omega
     ·have:=l2 n hm;omega) rfl (by omega) (by omega) (fun h2 _ row a m e hm=>e.keep hm)
  simp (disch:=first|omega|rfl|apply_rules[jaa,jac,jad]) only [go_sem,jag,xk,eE,eF,hs]
  exact qdj z hlo rest (done++[b]) hdn' okF (by omega) kF (fun hj a x3 x4 x5 x6 x7 x8 x9 x10 x11 x12 x13 x14 x15 x17 ok' n' g' k'=>hQ hj a x3 x4 x5 x6 x7 x8 x9 x10 x11 x12 x13 x14 x15 x17 ok' (by omega) (fun n hm=>(g' n hm).trans (gF n hm)) k')
theorem qjv {h:Hp} (ok:Ok h) {f:Fc} (z:Szs f) (hX:jd9 F 20 [.agg (j3p f)] h=none) (hT:qd4 F 20=T 20) :
 WC F 20 [.agg (j3p f)] h (fun v h'=>∃ na nb,OF h' v f na nb/\Ok h'/\h.next<=h'.next/\(∀ n,n<h.next->h'.get n=h.get n)/\∀ n∈na++nb,h.next<=n):=by
 refine jbe hX (hT.trans qnf) rfl ?_
 unfold j8x
 have hpos:=ok.pos
 have zv:=z.v
 have ll:=jal (enc:=ja3) (l:=f.blocks)
 obtain ⟨hA,eA,okA,nA,xA,gA⟩:=je1 ok (j3p f) 26
 obtain ⟨hB,eB,okB,nB,xB,gB⟩:=je1 okA [.nilSlice,.nilSlice] 26
 have yA:=(gB _ (by omega)).trans xA
 rw [nA] at xB
 unfold j3p at eA xA yA
 simp (disch:=first|omega|rfl|apply_rules[jaa,jac,jad]) only [go_sem,j3p,eA,nA,eB,yA,ll]
 refine qdj z (lo:=hB.next) (by omega) f.blocks [] rfl okB (Nat.le_refl _) .nil (fun hj a x3 x4 x5 x6 x7 x8 x9 x10 x11 x12 x13 x14 x15 x17 okj nj gj ⟨nb,s1,d1,l1⟩=>?_)
 have xj:=(gj _ (by omega)).trans yA
 have yj:=(gj _ (by omega)).trans xB
 obtain ⟨sv,hE,eE,okE,nE,gE,na,s2,d2,l2⟩:=jkv (ty:=3) (sz:=1) (E:=EI) (bytes:=8) (l:=f.values) (enc:=ja0) okj (fun _=>rfl) (fun _=>⟨rfl,rfl⟩) (by omega) (by omega)
 have zE:=(gE _ (by omega)).trans yj
 obtain ⟨hG,eG,okG,nG,xG,gG⟩:=qju okE (b:=h.next+1) (by omega) (some (.arr [sv,a] 26))
 have g1:∀ n∈nb,hG.get n=hj.get n:=fun n hm=>by
  have:=l1 n hm
  rw [gG n (by omega),gE n (by omega)]
 have g2:∀ n∈na,hG.get n=hE.get n:=fun n hm=>by
  have:=l2 n hm
  rw [gG n (by omega)]
 simp (disch:=first|omega|rfl|apply_rules[jaa,jac,jad]) only [go_sem,xj,eE,zE,eG,xG]
 refine ⟨na,nb,⟨⟨sv,a,rfl,s2.keep g2,s1.imp g1 (fun row a ms hm e=>e.keep (fun n hn=>g1 n (hm n hn)))⟩,List.nodup_append.2 ⟨d2,d1,fun u hu v hv e=>by have:=l1 v hv;have:=l2 u hu;omega⟩,fun n hm=>?_⟩,okG,by omega,fun n hm=>by rw [gG n (by omega),gE n (by omega),gj n (by omega),gB n (by omega),gA n hm],fun n hm=>?_⟩
 ·rcases List.mem_append.1 hm with hm | hm
  ·have:=l2 n hm;omega
  ·have:=l1 n hm;omega
 ·rcases List.mem_append.1 hm with hm | hm
  ·have:=l2 n hm;omega
  ·have:=l1 n hm;omega
end
section
variable {F:Fns}
end
end Go.Proofs.Ytaljcpoopmedmaa.Ev
namespace Go.Proofs.Ytaljcpoopmedmaa.Ms
set_option linter.all false
def LD (x:Ins):Prop:=∃ r o,x.ops=r++[o]/\o.kind=2
def AL (l:List Blk):Prop:=∀ b∈l,∀ x∈b.instrs,LD x
theorem jxb (p:Pc) (flags uses i:Nat) (x:Iw×Nat×Ms):∃ o:Opd,(je0 p flags uses i x).1.ops=x.1.ops++[o]/\o.kind=2/\(je0 p flags uses i x).2.2.blocks=x.2.2.blocks:=by
 unfold je0
 simp only
 split
 ·exact ⟨_,rfl,rfl,rfl⟩
 ·exact ⟨_,rfl,rfl,rfl⟩
theorem jr2 (p:Pc) (flags uses:Nat):∀ (k i:Nat) (x:Iw×Nat×Ms),(∃ (r:List Opd) (o:Opd),(jdv p flags uses (k+1) i x).1.ops=r++[o]/\o.kind=2)/\(jdv p flags uses (k+1) i x).2.2.blocks=x.2.2.blocks
 | 0,i,x=>by
  obtain ⟨o,h1,h2,h3⟩:=jxb p flags uses i x
  exact ⟨⟨_,o,h1,h2⟩,h3⟩
 | k+1,i,x=>by
  obtain ⟨o,h1,h2,h3⟩:=jxb p flags uses i x
  have:=jr2 p flags uses k (i+1) (je0 p flags uses i x)
  exact ⟨this.1,this.2.trans h3⟩
theorem j3k (w:Ms) (p:Pc):LD (jaz w p).1/\(jaz w p).2.blocks=w.blocks:=by
 unfold jaz
 simp only
 rw [Nat.add_comm 1]
 obtain ⟨⟨r,o,h1,h2⟩,h3⟩:=jr2 p (pk p.flags (2 ^ 30)) (jeh w p (pk p.flags (2 ^ 30)) (if w.known=[] then 0 else pk p.flags (2 ^ 30) % 4) 0 ⟨[],pk p.limits (2 ^ 40),(0,0),(0,0)⟩).ops.length (pk p.flags (2 ^ 30) / 2 ^ 8 % 2) 0 (jeh w p (pk p.flags (2 ^ 30)) (if w.known=[] then 0 else pk p.flags (2 ^ 30) % 4) 0 ⟨[],pk p.limits (2 ^ 40),(0,0),(0,0)⟩,(jeh w p (pk p.flags (2 ^ 30)) (if w.known=[] then 0 else pk p.flags (2 ^ 30) % 4) 0 ⟨[],pk p.limits (2 ^ 40),(0,0),(0,0)⟩).ops.length,w)
 exact ⟨⟨r,o,h1,h2⟩,h3⟩
theorem AL.modify {l:List Blk} (h:AL l) {k:Nat} {f:Blk->Blk} (hf:∀ b,(∀ x∈b.instrs,LD x)->∀ x∈(f b).instrs,LD x):AL (l.modify k f):=by
 intro b hb
 rcases jbp hb with hb | ⟨c,hc,_,rfl⟩
 ·exact h b hb
 ·exact hf c (h c hc)
theorem AL.lay {w:Ms} (h:AL w.blocks) (p:Pc):AL (jcd w p).blocks:=by
 obtain ⟨h1,h2⟩:=j3k w p
 unfold jcd
 simp only [h2]
 exact h.modify (fun b hb x hx=>by
  rcases List.mem_append.1 hx with hx | hx
  ·exact hb x hx
  ·rw [List.mem_singleton.1 hx];exact h1)
theorem AL.block {w:Ms} (h:AL w.blocks) (cs:List Nat):AL (jah w cs).blocks:=fun b hb x hx=>by
 rcases List.mem_append.1 hb with hb | hb
 ·exact h b hb x hx
 ·rw [List.mem_singleton.1 hb] at hx;simp at hx
theorem AL.edge {w:Ms} (h:AL w.blocks) (k to:Nat) (a:List Nat):AL (jaw w k to a).blocks:=h.modify (fun b hb=>hb)
theorem AL.newest {w:Ms} (h:AL w.blocks) (c:Nat) (p:Pc):AL (jaf w c p).2.blocks:=by
 unfold jaf
 split
 ·exact h
 ·exact h.lay _
theorem AL.loop {w:Ms} (h:AL w.blocks) (p:Pc):AL (jfr w p).blocks:=by
 unfold jfr
 simp only
 refine AL.edge ?_ _ _ _
 refine AL.newest ?_ _ _
 refine AL.newest ?_ _ _
 refine AL.lay ?_ _
 refine AL.edge ?_ _ _ _
 refine AL.edge ?_ _ _ _
 refine AL.block ?_ _
 refine AL.block ?_ _
 refine AL.lay ?_ _
 refine AL.edge ?_ _ _ _
 refine AL.block ?_ _
 refine AL.newest ?_ _ _
 exact AL.newest h _ _
theorem FcOk.value {m:Nat×Nat} {f:Fc} (k:FcOk m f) (h:f.values.length<=159):FcOk m ⟨f.values++[0],f.blocks⟩ :=
 ⟨k.nb,by simp;omega,fun c hc=>by
  rcases List.mem_append.1 hc with hc | hc
  ·exact k.cls c hc
  ·rw [List.mem_singleton.1 hc];omega,k.blk,k.all,fun b hb x hx=>(k.ins b hb x hx).app [0],k.par,fun b hb e he=>by
  obtain ⟨h1,h2,t,h3,h4,h5⟩:=k.edg b hb e he
  refine ⟨h1,fun v hv=>by have:=h2 v hv;simp;omega,t,h3,?_,fun v hv=>by have:=h5 v hv;simp;omega⟩
  rw [List.map_congr_left (fun v hv=>jrw (h5 v hv)),h4]
  exact (List.map_congr_left (fun v hv=>jrw (h2 v hv))).symm,k.ent,fun b hb v hv=>by have:=k.prm b hb v hv;simp;omega⟩
theorem FcOk.instrs {m:Nat×Nat} {f:Fc} (k:FcOk m f) {j:Nat} {g:List Ins->List Ins} (hg:∀ b∈f.blocks,(g b.instrs).length<=40/\(b.instrs≠[]->g b.instrs≠[])/\∀ x∈g b.instrs,InsOk m f.values x) (hs:sm (f.blocks.modify j (fun b=>{ b with instrs:=g b.instrs }))<=160):FcOk m ⟨f.values,f.blocks.modify j (fun b=>{ b with instrs:=g b.instrs })⟩:=by
 refine ⟨by simp only [List.length_modify];exact k.nb,k.nv,k.cls,fun b hb=>?_,hs,fun b hb=>?_,fun b hb=>?_,fun b hb e he=>?_,fun b hb=>?_,fun b hb=>?_⟩
 ·rcases jbp hb with hb | ⟨c,hc,_,rfl⟩
  ·exact k.blk b hb
  ·have:=k.blk c hc;exact ⟨this.1,(hg c hc).1,this.2.2⟩
 ·rcases jbp hb with hb | ⟨c,hc,_,rfl⟩
  ·exact k.ins b hb
  ·exact (hg c hc).2.2
 ·rcases jbp hb with hb | ⟨c,hc,_,rfl⟩
  ·exact k.par b hb
  ·exact fun h=>(hg c hc).2.1 (k.par c hc h)
 ·have:jmx f.values f.blocks e:=by
   rcases jbp hb with hb | ⟨c,hc,_,rfl⟩
   ·exact k.edg b hb e he
   ·exact k.edg c hc e he
  obtain ⟨h1,h2,t,h3,h4,h5⟩:=this
  obtain ⟨t',h6,h7⟩:=jhf (k:=j) (f:=fun b=>{ b with instrs:=g b.instrs }) (fun _=>rfl) h3
  exact ⟨h1,h2,t',h6,by rw [h7];exact h4,by rw [h7];exact h5⟩
 ·obtain ⟨t,ht,e⟩:=jgh (f:=fun b=>{ b with instrs:=g b.instrs }) (fun _=>rfl) hb
  rw [e];exact k.ent t ht
 ·rcases jbp hb with hb | ⟨c,hc,_,rfl⟩
  ·exact k.prm b hb
  ·exact k.prm c hc
end Go.Proofs.Ytaljcpoopmedmaa.Ms
namespace Go.Proofs.Ytaljcpoopmedmaa.Ev
open Go Go.RowKit Go.Proofs.Ytaljcpoopmedmaa.Ms
set_option linter.all false
set_option maxRecDepth 100000
set_option maxHeartbeats 2000000
section
variable {F:Fns} {st fr:List AV} {es:List Ent} {h h2:Hp} {dst:Option Nat} {l:List (IOper×Option (List Nat))} {Q:Ex->St->Prop}
end
theorem qng {k:Bool} {h:Hp} {d:Nat} {v:AV} {n:Int} (e:jhl k h d v=some (vi n)):v=vi n:=by
 cases v with
 | s x =>
  obtain ⟨y,h1,h2⟩:=jab.1 (show ob (jh3 k h d x) (fun y=>some (AV.s y))=some (vi n) from e)
  simp only [Option.some.injEq,AV.s.injEq] at h2
  subst h2
  cases d with
  | zero=>cases h1
  | succ d =>
   cases x with
   | slice b off len mc ex sz =>
    cases len with
    | zero=>cases h1
    | succ len =>
     obtain ⟨cs,_,h1⟩:=jab.1 (show ob (rd h b off (Nat.mul (len+1) sz)) (fun cs=>ob (jhn (jh3 k h d) cs) (fun cs=>ob (joj sz (len+1) cs) (fun rows=>some (SV.lst rows))))=_ from h1)
     obtain ⟨cs,_,h1⟩:=jab.1 h1
     obtain ⟨cs,_,h1⟩:=jab.1 h1
     cases h1
   | lst rows=>cases k<;>cases rows<;>cases h1
   | int k n=>cases h1;rfl
   | _=>cases h1
 | agg l =>
  obtain ⟨y,h1,h2⟩:=jab.1 (show ob (jhn (jh3 k h d) l) (fun y=>some (AV.agg y))=some (vi n) from e)
  cases h2
 | tup l =>
  obtain ⟨y,h1,h2⟩:=jab.1 (show ob (qbu (jh3 k h d) l) (fun y=>some (AV.tup y))=some (vi n) from e)
  cases h2
 | _=>cases e
theorem jjc.scal {F:Fns} {f:FuncId} {us:List AV} {n:Int} (k:jjc true F f us (vi n)):jjc false F f us (vi n) :=
 WC.imp k (fun v h ⟨d,e⟩=>by rw [qng e];exact ⟨1,rfl⟩)
section
variable {h:Hp} {x:AV} {f:Fc} {na nb:List Nat}
theorem OF.nogrd (o:OF h x f na nb) (hne:f.blocks≠[]) (l:List AV):jke (x::l)=false:=by
 obtain ⟨⟨a,b,rfl,h1,h2⟩,_,_⟩:=o
 rcases h2 with ⟨h3,_⟩ | ⟨_,bb,rows,nss,rfl,_⟩
 ·exact absurd h3 hne
 ·show oif (oif (grd a) false false) (jke l) false=false
  cases grd a<;>rfl
theorem OF.frz2 (o:OF h x f na nb) {a b:Nat}:jsp true h 4 [x,.agg [si a,si b]]=some [.agg (j3p f),.agg [si a,si b]]:=by
 show ob (jhl true h 4 x) (fun y=>ob (jsp true h 4 [.agg [si a,si b]]) (fun r=>some (y::r)))=_
 rw [o.frz];rfl
theorem OF.call2 {S:FuncId->Bool} {F:Fns} {g:FuncId} (o:OF h x f na nb) (hne:f.blocks≠[]) (hS:S g=true) {a b:Nat} {n:Int} (k:jjc true F g [.agg (j3p f),.agg [si a,si b]] (vi n)):jd9 (PX S F) g [x,.agg [si a,si b]] h=some (vi n,h) :=
 qem hS (o.nogrd hne _) ⟨_,4,o.frz2,k.scal⟩
end
theorem qdk {h:Hp} {b i sz j:Nat} {row:List SV} {v:SV} (h1:rdB (h.get b) (i*sz) sz=some row) (hl:row.length=sz) (hj:row[j]?=some v):rdB (h.get b) (i*sz+j) 1=some [v]:=by
 cases e:h.get b with
 | none=>rw [e] at h1;cases h1
 | some x =>
  cases x with
  | arr cells ty =>
   rw [e,jfh,jbz] at h1
   obtain ⟨h2,h3⟩:=(ja6 _).1 h1
   apply j6v
   have hjl:j<sz:=by rw [←hl];exact (List.getElem?_eq_some_iff.1 hj).1
   rw [h3,List.getElem?_take,if_pos hjl,List.getElem?_drop] at hj
   exact hj
  | _=>rw [e] at h1;cases h1
section
variable {h:Hp} {a b:SV} {f:Fc} {na nb:List Nat}
theorem OF.at (o:OF h (.agg [a,b]) f na nb) {k:Nat} {B:Ms.Blk} (hk:f.blocks[k]?=some B):∃ bb p i e np ni ne ex M1 M2 cells,jxh 3 (.s b) (vi (k:Int))=some (.s (.ptr bb (k*3)))/\h.get bb=some (.arr cells 36)/\rdB (h.get bb) (k*3) 3=some [p,i,e] /\
 Sl h 3 1 false EI p B.params np/\Sl h 46 3 false (OX h) i B.instrs ni/\Sl h 51 2 ex (OE h) e B.edges ne/\nb=bb::(M1++((np++(ni++ne))++M2)) /\
 (∀ {j:Nat} {v:SV},j<3->∃ cells',jbq (k*3+j) [v] cells=some cells'/\∀ {N:Nat} {h':Hp} {B':Ms.Blk} {ms':List Nat},(∀ n∈na++nb,n<N)->h'.get bb=some (.arr cells' 36)->OB h' ([p,i,e].set j v) B' ms'->(∀ n∈na++(M1++M2),h'.get n=h.get n)->h.next<=h'.next->ms'.Nodup->(∀ n∈ms',(n∈np++(ni++ne)∨N<=n)/\n<h'.next) ->
  OF h' (.agg [a,b]) ⟨f.values,f.blocks.set k B'⟩ na (bb::(M1++(ms'++M2)))):=by
 obtain ⟨⟨a',b',e0,s1,s2⟩,nd,lt⟩:=o
 cases e0
 obtain ⟨bb,row,ms,M1,M2,cells,e1,e2,e3,e4,⟨p,i,e,np,ni,ne,ex,rfl,h1,h2,h3,rfl⟩,rfl,up⟩:=s2.upd hk
 refine ⟨bb,p,i,e,np,ni,ne,ex,M1,M2,cells,e1,e2,e3,h1,h2,h3,rfl,fun {j v} hj=>?_⟩
 obtain ⟨cells',e5,e6⟩:=up (j:=j) (v:=v) hj
 refine ⟨cells',e5,fun {N h' B' ms'} g0 g1 g2 g3 g4 g5 g6=>⟨⟨a,b,rfl,s1.keep (fun n hn=>g3 n (by simp [hn])),e6 g1 g2 (fun row a m hm e=>e.keep (fun n hn=>g3 n (by have:=hm n hn;simp only [List.mem_append] at this ⊢;exact .inr this)))⟩,?_,fun n hn=>?_⟩⟩
 ·have nd':((na++(bb::M1))++((np++(ni++ne))++M2)).Nodup:=by simpa [List.append_assoc] using nd
  have:=je7 (N:=N) nd' (fun n hn=>g0 n (by simpa [List.append_assoc] using hn)) g5 (fun n hn=>(g6 n hn).1)
  simpa [List.append_assoc] using this
 ·by_cases hm:n∈ms'
  ·have:=g6 n hm
   have hp:=lt bb (by simp)
   have hp2:=g0 bb (by simp)
   rcases this.1 with h4 | h4
   ·have:=lt n (by simp only [List.mem_append,List.mem_cons] at h4 ⊢;exact .inr (.inr (.inr (.inl h4))))
    omega
   ·omega
  ·have:=lt n (by
    simp only [List.mem_append,List.mem_cons] at hn ⊢
    rcases hn with h | h | h | h | h
    ·exact .inl h
    ·exact .inr (.inl h)
    ·exact .inr (.inr (.inl h))
    ·exact absurd h hm
    ·exact .inr (.inr (.inr (.inr h))))
   omega
theorem OF.addB (o:OF h (.agg [a,b]) f na nb) (ok:Ok h) (hl0:f.blocks.length<=1000) {bb:Nat} {rows:List (List SV)} {l:List Ms.Blk} {ms:List Nat} (hr:rdB (h.get bb) 0 (l.length*3)=some rows.flatten) (k':Rows 3 (OB h) rows l ms) (hl:l≠[]) (hl2:l.length<=1000) (hm:ms.Nodup) {N:Nat} (hN1:1<=N) (hN:∀ n∈na++nb,n<N) (hNn:N<=h.next) (hf:∀ n∈ms,N<=n/\n<h.next) :
 ∃ b' h2 nb',jo9 h 36 3 72 (.s b) (.s (.slice bb 0 l.length l.length true 3))=some (.s b',h2)/\Ok h2/\h.next<=h2.next/\(∀ n,n<h.next->n∉nb->h2.get n=h.get n)/\OF h2 (.agg [a,b']) ⟨f.values,f.blocks++l⟩ na nb'/\∀ n∈nb',n∈nb∨n∈ms∨h.next<=n:=by
 obtain ⟨⟨a',b',e0,s1,s2⟩,nd,lt⟩:=o
 cases e0
 obtain ⟨d1,d2,d3⟩:=List.nodup_append.1 nd
 have s2':Sl h 36 3 false (OB h) b f.blocks nb:=s2
 obtain ⟨h2,e2,ok2,n2,kp2,sl2⟩:=s2'.app (bytes:=72) (mc':=l.length) (ex':=true) ok (fun n hn=>lt n (by simp [hn])) hr k' hl (by omega) (by omega)
 have kp:∀ n,n<h.next->n∉nb->h2.get n=h.get n:=fun n h1 h3=>kp2 n (by omega) (fun c hc e=>h3 (e▸List.mem_of_mem_head? hc))
 have kt:∀ n∈nb.tail,h2.get n=h.get n:=fun n hn=>kp2 n (by have:=lt n (by simp [List.mem_of_mem_tail hn]);omega) (fun c hc e=>by
  cases nb with
  | nil=>cases hc
  | cons x r =>
   cases hc
   exact (List.nodup_cons.1 d2).1 (e▸hn))
 have km:∀ n∈ms,h2.get n=h.get n:=fun n hn=>kp n (hf n hn).2 (fun hc=>by have:=hN n (by simp [hc]);have:=hf n hn;omega)
 have ka:∀ n∈na,h2.get n=h.get n:=fun n hn=>kp n (lt n (by simp [hn])).2 (fun hc=>d3 n hn n hc rfl)
 refine ⟨_,h2,_,e2,ok2,by omega,kp,⟨⟨a,_,rfl,s1.keep ka,sl2 (fun row a m hmm e=>e.keep (fun n hn=>?_))⟩,?_,fun n hn=>?_⟩,fun n hn=>?_⟩
 ·rcases hmm n hn with hc | hc
  ·exact kt n hc
  ·exact km n hc
 ·refine List.nodup_append.2 ⟨d1,jcc d2 hm (fun n hn hc=>by have:=hN n (by simp [hc]);have:=hf n hn;omega) (fun hc=>by have:=lt _ (List.mem_append_right _ hc);omega) (fun hc=>by have:=hf _ hc;omega),fun u hu v hv e=>?_⟩
  have hu1:=lt u (List.mem_append_left _ hu)
  have hu2:=hN u (List.mem_append_left _ hu)
  rcases List.mem_cons.1 hv with rfl | hv
  ·omega
  ·rcases List.mem_append.1 hv with hv | hv
   ·exact d3 u hu v (List.mem_of_mem_tail hv) e
   ·have:=hf v hv;omega
 ·rcases List.mem_append.1 hn with hn | hn
  ·have:=lt n (by simp [hn]);omega
  ·rcases List.mem_cons.1 hn with rfl | hn
   ·have:=ok.pos;omega
   ·rcases List.mem_append.1 hn with hn | hn
    ·have:=lt n (List.mem_append_right _ (List.mem_of_mem_tail hn));omega
    ·have:=hf n hn;omega
 ·rcases List.mem_cons.1 hn with rfl | hn
  ·exact .inr (.inr (by omega))
  ·rcases List.mem_append.1 hn with hn | hn
   ·exact .inl (List.mem_of_mem_tail hn)
   ·exact .inr (.inl hn)
theorem OF.value (o:OF h (.agg [a,b]) f na nb) (ok:Ok h) (hl:f.values.length<=1000):∃ a' h2 na',jo9 (h.push (.arr [.int .i64 0] 3)) 3 1 8 (.s a) (.s (.slice h.next 0 1 1 true 1))=some (.s a',h2)/\Ok h2/\h.next<=h2.next/\(∀ n,n<h.next->n∉na->h2.get n=h.get n)/\OF h2 (.agg [a',b]) ⟨f.values++[0],f.blocks⟩ na' nb/\∀ n∈na',n∈na∨h.next<=n:=by
 obtain ⟨⟨a',b',e0,s1,s2⟩,nd,lt⟩:=o
 cases e0
 obtain ⟨d1,d2,d3⟩:=List.nodup_append.1 nd
 have s1':Sl h 3 1 false EI a f.values na:=s1
 obtain ⟨h2,e2,ok2,n2,kp2,kt2,sl2⟩:=s1'.app1 (bytes:=8) (row:=[si 0]) (a:=0) (ms:=[]) ok (fun n hn=>lt n (by simp [hn])) rfl ⟨rfl,rfl⟩ (by omega) (by omega)
 have kb:∀ n∈nb,h2.get n=h.get n:=fun n hn=>kp2 n (lt n (by simp [hn])).2 (fun hc=>d3 n hc n hn rfl)
 refine ⟨_,h2,_,e2,ok2,by omega,kp2,⟨⟨_,b,rfl,sl2 (fun _ _ _ _ e=>e),s2.imp kb (fun row a m hm e=>e.keep (fun n hn=>kb n (hm n hn)))⟩,?_,fun n hn=>?_⟩,fun n hn=>?_⟩
 ·have hf:h.next+1∉na:=fun hn=>by have:=lt _ (List.mem_append_left _ hn);omega
  refine List.nodup_append.2 ⟨jcc d1 .nil (by simp) hf (by simp),d2,fun u hu v hv e=>?_⟩
  rcases List.mem_cons.1 hu with rfl | hu
  ·have:=lt v (by simp [hv]);omega
  ·exact d3 u (List.mem_of_mem_tail (by simpa using hu)) v hv e
 ·rcases List.mem_append.1 hn with hn | hn
  ·rcases List.mem_cons.1 hn with rfl | hn
   ·omega
   ·have:=lt n (List.mem_append_left _ (List.mem_of_mem_tail (by simpa using hn)));omega
  ·have:=lt n (by simp [hn]);omega
 ·rcases List.mem_cons.1 hn with rfl | hn
  ·exact .inr (by omega)
  ·exact .inl (List.mem_of_mem_tail (by simpa using hn))
end
theorem qnh {m:Nat×Nat} {f:Fc} (k:FcOk m f):Szs f:=by
 refine ⟨by have:=k.nv;omega,by have:=k.nb;omega,fun b hb=>?_⟩
 have h1:=k.blk b hb
 refine ⟨by omega,by omega,by omega,fun x hx=>?_,fun e he=>?_⟩
 ·have:=k.ins b hb x hx
  have h2:=this.nops
  have h3:=this.nsp
  omega
 ·obtain ⟨_,_,t,h3,h4,_⟩:=k.edg b hb e he
  have:=congrArg List.length h4
  rw [List.length_map,List.length_map] at this
  have:=k.blk t (List.mem_of_getElem? h3)
  omega
end Go.Proofs.Ytaljcpoopmedmaa.Ev
