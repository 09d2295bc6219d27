/- Code of functions as the interpreter has it prepared, cut at loops. -/
import Derived.Test.YtaljcpoopmedmaaUi
import Derived.Test.YtaljcpoopmedmaaVd
namespace Go.Proofs.Ytaljcpoopmedmaa.Ev
open Go Go.RowKit
set_option linter.all false
set_option maxRecDepth 100000
def j1s:IC:=(.seq (.block 3 (.seq (.region [(qP (.ixs 3 (.g 11) (.g 14))),(qA (.load 3 true (.l 0))),(qB 10 (.new 46 [(.int .i64 0),.nilSlice,.nilSlice])),(qA (.store 3 (.l 0) (.l 1)))]) (.seq (.region [(qP (.fld 1 (.g 10))),(qA (.load 1 false (.l 0))),(qA (.app 48 5 40 (.c (.s .nilSlice)) (.l 0))),(qP (.fld 1 (.g 10))),(qA (.store 1 (.l 0) (.l 1)))]) (.seq (.region [(qP (.fld 2 (.g 10))),(qA (.load 1 false (.l 0))),(qA (.app 118 2 16 (.c (.s .nilSlice)) (.l 0))),(qP (.fld 2 (.g 10))),(qA (.store 1 (.l 0) (.l 1)))]) (.region [(qP (.mv (.g 9))),(qA (.load 3 true (.g 10))),(qA (.bslice 46 3 [(.int .i64 0),.nilSlice,.nilSlice] 1 [(0,(3,(.l 0)))])),(qA (.app 46 3 56 (.l 2) (.l 0))),(qQ 9 (.mv (.l 0)))]))))) (.region [(qP (.bin .add (.g 14) (qC 1))),(qQ 14 (.mv (.l 0)))]))
def jm8:IC:=(.seq (.region [(qQ 12 (.bin .lt (.g 14) (.g 13)))]) (.seq (.cond (.g 12) .skip (.exit 2)) j1s))
def j1t:IC:=(.seq (.block 5 (.seq (.region [(qP (.ixs 2 (.g 5) (.g 8))),(qA (.load 2 true (.l 0))),(qB 4 (.new 51 [(.int .i64 0),.nilSlice])),(qA (.store 2 (.l 0) (.l 1)))]) (.seq (.region [(qP (.fld 1 (.g 4))),(qA (.load 1 false (.l 0))),(qA (.app 3 1 8 (.c (.s .nilSlice)) (.l 0))),(qP (.fld 1 (.g 4))),(qA (.store 1 (.l 0) (.l 1)))]) (.region [(qP (.mv (.g 3))),(qA (.load 2 true (.g 4))),(qA (.bslice 51 2 [(.int .i64 0),.nilSlice] 1 [(0,(2,(.l 0)))])),(qA (.app 51 2 32 (.l 2) (.l 0))),(qQ 3 (.mv (.l 0)))])))) (.region [(qP (.bin .add (.g 8) (qC 1))),(qQ 8 (.mv (.l 0)))]))
def jm9:IC:=(.seq (.region [(qQ 6 (.bin .lt (.g 8) (.g 7)))]) (.seq (.cond (.g 6) .skip (.exit 4)) j1t))
def j1u:IC:=(.seq (.block 1 (.seq (.region [(qP (.ixs 3 (.g 16) (.g 19))),(qA (.load 3 true (.l 0))),(qB 15 (.new 36 [.nilSlice,.nilSlice,.nilSlice])),(qA (.store 3 (.l 0) (.l 1)))]) (.seq (.region [(qQ 9 (.mv (.c (.s .nilSlice))))]) (.seq (.seq (.region [(qP (.fld 1 (.g 15))),(qB 11 (.load 1 false (.l 0))),(qQ 13 (.len (.l 0))),(qQ 14 (.mv (qC 0)))]) (.block 2 (.loop jm8))) (.seq (.region [(qQ 3 (.mv (.c (.s .nilSlice))))]) (.seq (.seq (.region [(qP (.fld 2 (.g 15))),(qB 5 (.load 1 false (.l 0))),(qQ 7 (.len (.l 0))),(qQ 8 (.mv (qC 0)))]) (.block 4 (.loop jm9))) (.region [(qP (.mv (.g 2))),(qP (.fld 0 (.g 15))),(qA (.load 1 false (.l 0))),(qA (.app 3 1 8 (.c (.s .nilSlice)) (.l 0))),(qP (.mv (.g 9))),(qP (.mv (.g 3))),(qP (.build [.nilSlice,.nilSlice,.nilSlice] [(0,(1,(.l 2))),(1,(1,(.l 1))),(2,(1,(.l 0)))])),(qA (.bslice 36 3 [.nilSlice,.nilSlice,.nilSlice] 1 [(0,(3,(.l 0)))])),(qA (.app 36 3 72 (.l 7) (.l 0))),(qQ 2 (.mv (.l 0)))]))))))) (.region [(qP (.bin .add (.g 19) (qC 1))),(qQ 19 (.mv (.l 0)))]))
def jna:IC:=(.seq (.region [(qQ 17 (.bin .lt (.g 19) (.g 18)))]) (.seq (.cond (.g 17) .skip (.exit 0)) j1u))
def j8f:IC:=(.seq (.region [(qB 20 (.box 26 (.g 0))),(qB 1 (.new 26 [.nilSlice,.nilSlice]))]) (.seq (.region [(qQ 2 (.mv (.c (.s .nilSlice))))]) (.seq (.seq (.region [(qP (.fld 1 (.g 20))),(qB 16 (.load 1 false (.l 0))),(qQ 18 (.len (.l 0))),(qQ 19 (.mv (qC 0)))]) (.block 0 (.loop jna))) (.seq (.region [(qP (.fld 0 (.g 20))),(qA (.load 1 false (.l 0))),(qA (.app 3 1 8 (.c (.s .nilSlice)) (.l 0))),(qP (.mv (.g 2))),(qP (.build [.nilSlice,.nilSlice] [(0,(1,(.l 1))),(1,(1,(.l 0)))])),(qA (.store 2 (.g 1) (.l 0)))]) .ret))))
theorem qio:T 20=some (.mk j8f 1 20 [(.cell 1 2 true)]):=by kernel_rfl
def jwq:IC:=(.seq (.block 1 (.seq (.region [(qP (.ixs 3 (.g 12) (.g 15))),(qA (.load 3 true (.l 0))),(qB 10 (.new 36 [.nilSlice,.nilSlice,.nilSlice])),(qA (.store 3 (.l 0) (.l 1)))]) (.region [(qP (.mv (.g 11))),(qP (.fld 1 (.g 10))),(qA (.load 1 false (.l 0))),(qP (.len (.l 0))),(qP (.bin .add (.l 3) (.l 0))),(qQ 11 (.mv (.l 0)))]))) (.region [(qP (.bin .add (.g 15) (qC 1))),(qQ 15 (.mv (.l 0)))]))
def jkl:IC:=(.seq (.region [(qQ 13 (.bin .lt (.g 15) (.g 14)))]) (.seq (.cond (.g 13) .skip (.exit 0)) jwq))
def jwr:IC:=(.region [(qP (.mv (.g 6))),(qP (.fld 1 (.g 16))),(qA (.load 1 false (.l 0))),(qP (.mv (.g 5))),(qP (.ixs 3 (.l 1) (.l 0))),(qP (.fld 1 (.l 0))),(qA (.load 1 false (.l 0))),(qP (.len (.l 0))),(qP (.bin .sub (.l 7) (.l 0))),(qQ 6 (.mv (.l 0)))])
def jws:IC:=(.seq (.block 3 (.seq (.region [(qP (.mv (.g 9))),(qQ 5 (.mv (.l 0)))]) (.seq (.seq (.region [(qP (.mv (.g 6))),(qP (.fld 1 (.g 16))),(qA (.load 1 false (.l 0))),(qP (.mv (.g 5))),(qP (.ixs 3 (.l 1) (.l 0))),(qP (.fld 1 (.l 0))),(qA (.load 1 false (.l 0))),(qP (.len (.l 0))),(qQ 4 (.bin .lt (.l 7) (.l 0)))]) (.cond (.g 4) (.seq (.region [(qP (.mv (.g 5))),(qP (.mv (.g 6))),(qQ 3 (.mv (.l 1))),(qQ 2 (.mv (.l 1)))]) .ret) .skip)) jwr))) (.region [(qP (.bin .add (.g 9) (qC 1))),(qQ 9 (.mv (.l 0)))]))
def jkm:IC:=(.seq (.region [(qQ 7 (.bin .lt (.g 9) (.g 8)))]) (.seq (.cond (.g 7) .skip (.exit 2)) jws))
def j1v:IC:=(.seq (.region [(qB 16 (.box 26 (.g 0))),(qQ 3 (.mv (qC 0))),(qQ 2 (.mv (qC 0)))]) (.seq (.region [(qQ 11 (.mv (qC 0)))]) (.seq (.seq (.region [(qP (.fld 1 (.g 16))),(qB 12 (.load 1 false (.l 0))),(qQ 14 (.len (.l 0))),(qQ 15 (.mv (qC 0)))]) (.block 0 (.loop jkl))) (.seq (.region [(qP (.mv (.g 1))),(qP (.mv (.g 11))),(qP (.mm true (.l 0) (qC 1))),(qA (.call 26 [(.l 2),(.l 0)])),(qQ 6 (.mv (.l 0)))]) (.seq (.seq (.region [(qP (.fld 1 (.g 16))),(qA (.load 1 false (.l 0))),(qQ 8 (.len (.l 0))),(qQ 9 (.mv (qC 0)))]) (.block 2 (.loop jkm))) (.seq (.region [(qQ 3 (.mv (qC 0))),(qQ 2 (.mv (qC 0)))]) .ret))))))
theorem qgc:T 21=some (.mk j1v 2 15 [(.tmp 3),(.tmp 2)]):=by kernel_rfl
open Go Go.RowKit Go.Proofs.Ytaljcpoopmedmaa.Ms
section
variable {α:Type}
def Gs (lo:Nat) (h:Hp) (ty sz:Nat) (E:List SV->α->List Nat->Prop) (x:SV) (l:List α):Prop :=
 ∃ ns,Sl h ty sz false E x l ns/\ns.Nodup/\∀ n∈ns,lo<=n/\n<h.next
variable {lo ty sz:Nat} {E:List SV->α->List Nat->Prop} {h h':Hp} {x:SV} {l:List α}
theorem Gs.nil:Gs lo h ty sz E .nilSlice []:=⟨[],.nil,.nil,by simp⟩
theorem Gs.len (k:Gs lo h ty sz E x l):jvo (.s x)=some (vi l.length):=by
 obtain ⟨ns,k,_⟩:=k
 exact k.len
theorem jwt:∀ {L:List (List SV)},(∀ r∈L,r.length=sz)->j1z sz L=some L.flatten
 | [],_=>rfl
 | a::L,hr=>by
  have e:j1z sz L=some L.flatten:=jwt (fun r h=>hr r (List.mem_cons_of_mem _ h))
  have ha:=hr a (by simp)
  show oif (Nat.beq (jc1 a) sz) (ob (j1z sz L) (fun r=>some (jhh a r))) none=_
  rw [e,show Nat.beq (jc1 a) sz=true by rw [jbd,ha];exact Nat.beq_refl sz]
  show some (jhh a L.flatten)=_
  rw [jdm];rfl
theorem jkn {enc:α->List SV} {bytes:Nat} (ok:Ok h) (hn:∀ a,(enc a).length=sz) (hE:∀ a,E (enc a) a []) (h1:l.length*bytes<=1000000000) (h2:l.length<=1000000000) :
 ∃ x h1,jjk h ty sz bytes (.s .nilSlice) (.s (jak enc l))=some (.s x,h1)/\Ok h1/\h.next<=h1.next/\(∀ n,n<h.next->h1.get n=h.get n)/\Gs h.next h1 ty sz E x l:=by
 cases l with
 | nil=>exact ⟨.nilSlice,h,rfl,ok,Nat.le_refl _,fun _ _=>rfl,.nil⟩
 | cons a r =>
  obtain ⟨hA,eA,okA,nA,xA,gA⟩:=je5 ok ((a::r).map enc).flatten ty
  have hrow:∀ q∈(a::r).map enc,q.length=sz:=fun q hq=>by
   obtain ⟨b,_,rfl⟩:=List.mem_map.1 hq
   exact hn b
  have hR:∀ L:List α,Rows sz E (L.map enc) L []:=fun L=>by
   induction L with
   | nil=>exact .nil
   | cons b L ih=>exact .cons (hn b) (hE b) ih
  refine ⟨.slice h.next 0 (a::r).length (a::r).length false sz,hA,?_,okA,by omega,gA,[h.next],.inr ⟨by simp,h.next,(a::r).map enc,[],rfl,xA,hR _,rfl⟩,by simp,by simp;omega⟩
  show ob (j1z sz ((a::r).map enc)) (fun new=>_)=_
  rw [jwt hrow]
  show jjq bytes (jc1 ((a::r).map enc)) (nw h ((a::r).map enc).flatten ty (fun k h=>Ev.ok (.s (.slice k 0 (jc1 ((a::r).map enc)) (jc1 ((a::r).map enc)) false sz)) h))=_
  rw [jbd,List.length_map,jke h1 h2,jvp ok,eA]
  rfl
theorem Gs.app1 {bytes:Nat} {h1:Hp} {row:List SV} {a:α} {ms:List Nat} {E1:List SV->α->List Nat->Prop} {E2:Hp->List SV->α->List Nat->Prop} (k:Gs lo h ty sz E x l) (hk:∀ row a m,(∀ n∈m,n<h.next)->E row a m->E1 row a m) (ok:Ok h1) (hn:h.next<=h1.next) (g:∀ n,n<h.next->h1.get n=h.get n) (hlo:lo<=h.next) (hl1:1<=lo)
 (hE:E1 row a ms) (hms:ms.Nodup) (hm:∀ n∈ms,h.next<=n/\n<h1.next) (hr:row.length=sz) (h1b:(l.length+1)*bytes<=1000000000) (h2b:l.length+1<=1000000000)
 (hE2:∀ h2,(∀ n∈ms,h2.get n=h1.get n)->∀ row a m,E1 row a m->(∀ n∈m,h2.get n=h1.get n)->E2 h2 row a m) :
 ∃ x' h2,jjk (h1.push (.arr row ty)) ty sz bytes (.s x) (.s (.slice h1.next 0 1 1 true sz))=some (.s x',h2)/\Ok h2/\h1.next<=h2.next/\(∀ n,n<lo->h2.get n=h.get n)/\Gs lo h2 ty sz (E2 h2) x' (l++[a]):=by
 obtain ⟨ns,s,nd,lt⟩:=k
 have s1:Sl h1 ty sz false E1 x l ns:=s.imp (fun n hn=>g n (lt n hn).2) (fun row a m hmm e=>hk row a m (fun n hn=>(lt n (hmm n hn)).2) e)
 obtain ⟨h2,e2,ok2,n2,kp2,kt2,sl2⟩:=s1.app1 (bytes:=bytes) ok (fun n hn'=>by have:=lt n hn';omega) hr hE h1b h2b
 have kms:∀ n∈ms,h2.get n=h1.get n:=fun n hn'=>kp2 n (hm n hn').2 (fun hc=>by have:=lt n hc;have:=hm n hn';omega)
 refine ⟨_,h2,e2,ok2,by omega,fun n hn'=>(kp2 n (by omega) (fun hc=>by have:=lt n hc;omega)).trans (g n (by omega)),_,sl2 (fun row a m hmm e=>hE2 h2 kms row a m e (fun n hn'=>?_)),?_,?_⟩
 ·rcases hmm n hn' with hc | hc
  ·exact kt2 n hc nd
  ·exact kms n hc
 ·refine jb2 nd hms (fun n hn' hc=>?_) (fun hc=>?_) (fun hc=>?_)
  ·have:=lt n hc;have:=hm n hn';omega
  ·have:=lt _ hc;omega
  ·have:=hm _ hc;omega
 ·intro n hn'
  rcases List.mem_cons.1 hn' with rfl | hn'
  ·omega
  ·rcases List.mem_append.1 hn' with hc | hc
   ·have:=lt n (List.mem_of_mem_tail hc);omega
   ·have:=hm n hc;omega
end
def OX (h:Hp) (row:List SV) (x:Ms.Ins) (ns:List Nat):Prop:=∃ a b n1 n2 ex,row=[si x.op,a,b]/\Sl h tt.opd 5 ex EO a x.ops n1/\Sl h tt.reg 2 false ER b x.spoils n2/\ns=n1++n2
def OE (h:Hp) (row:List SV) (e:Ms.Edg) (ns:List Nat):Prop:=∃ a,row=[si e.block,a]/\Sl h tt.int 1 false EI a e.args ns
def OB (h:Hp) (row:List SV) (b:Blk) (ns:List Nat):Prop:=∃ p i e n1 n2 n3 ex,row=[p,i,e]/\Sl h tt.int 1 false EI p b.params n1/\Sl h tt.ins 3 false (OX h) i b.instrs n2/\Sl h tt.edg 2 ex (OE h) e b.edges n3/\ns=n1++(n2++n3)
section
variable {h h':Hp}
theorem OE.keep {row:List SV} {x:Ms.Edg} {ns:List Nat} (k:OE h row x ns) (hk:∀ n∈ns,h'.get n=h.get n):OE h' row x ns:=by
 obtain ⟨a,e,h1⟩:=k
 exact ⟨a,e,h1.keep hk⟩
theorem OX.keep {row:List SV} {x:Ms.Ins} {ns:List Nat} (k:OX h row x ns) (hk:∀ n∈ns,h'.get n=h.get n):OX h' row x ns:=by
 obtain ⟨a,b,n1,n2,ex,e,h1,h2,rfl⟩:=k
 exact ⟨a,b,n1,n2,ex,e,h1.keep (fun n hn=>hk n (by simp [hn])),h2.keep (fun n hn=>hk n (by simp [hn])),rfl⟩
theorem OB.keep {row:List SV} {x:Blk} {ns:List Nat} (k:OB h row x ns) (hk:∀ n∈ns,h'.get n=h.get n):OB h' row x ns:=by
 obtain ⟨p,i,e,n1,n2,n3,ex,e1,h1,h2,h3,rfl⟩:=k
 exact ⟨p,i,e,n1,n2,n3,ex,e1,h1.keep (fun n hn=>hk n (by simp [hn])),h2.imp (fun n hn=>hk n (by simp [hn])) (fun row a ms hm k=>k.keep (fun n hn=>hk n (by simp [hm n hn]))),h3.imp (fun n hn=>hk n (by simp [hn])) (fun row a ms hm k=>k.keep (fun n hn=>hk n (by simp [hm n hn]))),rfl⟩
variable {d:Nat} {k:Bool}
theorem OE.frz {row:List SV} {x:Ms.Edg} {ms:List Nat} (e:OE h row x ms):jhk (jh1 k h (d+2)) row=some (jmo x):=by
 obtain ⟨a,rfl,h1⟩:=e
 exact ja6 rfl (ja6 (h1.frz (fun _ _ _ e=>EI.frz e) (fun _=>rfl)) rfl)
theorem OX.frz {row:List SV} {x:Ms.Ins} {ms:List Nat} (e:OX h row x ms):jhk (jh1 k h (d+2)) row=some (jhi x):=by
 obtain ⟨a,b,n1,n2,ex,rfl,h1,h2,rfl⟩:=e
 exact ja6 rfl (ja6 (h1.frz (fun _ _ _ e=>EO.frz e) (fun _=>rfl)) (ja6 (h2.frz (fun _ _ _ e=>ER.frz e) (fun _=>rfl)) rfl))
theorem OB.frz {row:List SV} {x:Ms.Blk} {ms:List Nat} (e:OB h row x ms):jhk (jh1 k h (d+3)) row=some (ja7 x):=by
 obtain ⟨p,i,e,n1,n2,n3,ex,rfl,h1,h2,h3,rfl⟩:=e
 exact ja6 (h1.frz (fun _ _ _ e=>EI.frz e) (fun _=>rfl)) (ja6 (h2.frz (fun _ _ _ e=>OX.frz e) (fun _=>rfl)) (ja6 (h3.frz (fun _ _ _ e=>OE.frz e) (fun _=>rfl)) rfl))
structure OF (h:Hp) (x:AV) (f:Fc) (na nb:List Nat):Prop where
 ex:∃ a b,x=.agg [a,b]/\Sl h tt.int 1 false EI a f.values na/\Sl h tt.blk 3 false (OB h) b f.blocks nb
 nd:(na++nb).Nodup
 lt:∀ n∈na++nb,1<=n/\n<h.next
theorem OF.frz {x:AV} {f:Fc} {na nb:List Nat} (o:OF h x f na nb):jhf k h 4 x=some (.agg (jq8 f)):=by
 obtain ⟨⟨a,b,rfl,h1,h2⟩,_,_⟩:=o
 exact jab.2 ⟨_,ja6 (h1.frz (fun _ _ _ e=>EI.frz e) (fun _=>rfl)) (ja6 (h2.frz (fun _ _ _ e=>OB.frz e) (fun _=>rfl)) rfl),rfl⟩
theorem OF.keep {x:AV} {f:Fc} {na nb:List Nat} (o:OF h x f na nb) (hk:∀ n∈na++nb,h'.get n=h.get n) (hn:h.next<=h'.next):OF h' x f na nb:=by
 obtain ⟨⟨a,b,rfl,h1,h2⟩,nd,lt⟩:=o
 exact ⟨⟨a,b,rfl,h1.keep (fun n hn=>hk n (by simp [hn])),h2.imp (fun n hn=>hk n (by simp [hn])) (fun row a ms hm k=>k.keep (fun n hn=>hk n (by simp [hm n hn])))⟩,nd,fun n hm=>by have:=lt n hm;omega⟩
end
attribute [local go_sem] Int.cast_ofNat_Int Int.natCast_zero Int.natCast_one decide_eq_true_eq decide_eq_false_iff_not Bool.false_eq_true and_true true_and List.cons_append List.nil_append reduceCtorEq decide_true decide_false Bool.not_true Bool.not_false Nat.add_zero Nat.zero_add Option.some.injEq Bool.true_eq_false not_true_eq_false not_false_eq_true Hp.next_push Hp.next_put Nat.add_assoc Int.reduceToNat Nat.reduceAdd Nat.reduceMul Nat.reduceEqDiff Int.reduceEq Int.reduceLT Int.reduceLE Int.reduceNeg Int.reduceAdd Int.reduceSub Int.reduceMul Int.reduceNe
attribute [local go_sem ↓] reduceIte
set_option maxHeartbeats 2000000
theorem qcw {h:Hp} (ok:Ok h) {b:Nat} (hb:1<=b) (x:Option AB):∃ hA,h.put b x=hA/\Ok hA/\hA.next=h.next/\hA.get b=x/\∀ n,n≠b->hA.get n=h.get n :=
 ⟨_,rfl,jad ok,Hp.next_put ..,by rw [jai ok hb,if_pos rfl],fun n hn=>by rw [jai ok hb,if_neg hn]⟩
section
variable {F:Fns}
theorem qcx {l:List Ms.Ins} (hl:l.length<=10000) (hp:∀ x∈l,x.ops.length<=10000/\x.spoils.length<=10000) {lo:Nat} (hlo:1<=lo) {x0 x1 x2 x3 x4 x5 x6 x7 x8 x15 x16 x17 x18 x19 x20:AV} {Q:Ex->St->Prop} :
 ∀ (rest done:List Ms.Ins) (_:done++rest=l) {hi:Hp} (_:Ok hi) (_:lo<=hi.next) {a:SV} (_:Gs lo hi 46 3 (OX hi) a done) {x10 x12:AV}
  (hQ:∀ hj a x10 x12,Ok hj->hi.next<=hj.next->(∀ n,n<lo->hj.get n=hi.get n)->Gs lo hj 46 3 (OX hj) a l->Q (.exit 2) (.mk [x0,x1,x2,x3,x4,x5,x6,x7,x8,.s a,x10,.s (jak jhi l),x12,vi l.length,vi l.length,x15,x16,x17,x18,x19,x20] hj)),
  W F jm8.loop (.mk [x0,x1,x2,x3,x4,x5,x6,x7,x8,.s a,x10,.s (jak jhi l),x12,vi l.length,vi done.length,x15,x16,x17,x18,x19,x20] hi) Q
 | [],done,hdn,hi,ok,hn,a,k,x10,x12,hQ=>by
  rw [List.append_nil] at hdn
  subst hdn
  rw [jao]
  unfold jm8
  simp (disch:=first|omega|simp only[List.length]|apply_rules[jaa,jac,jad]) only [go_sem,Int.lt_irrefl]
  exact hQ hi a _ _ ok (Nat.le_refl _) (fun _ _=>rfl) k
 | x::rest,done,hdn,hi,ok,hn,a,k,x10,x12,hQ=>by
  have hlt1:done.length<l.length:=by rw [←hdn];simp
  have hlt:(done.length:Int)<l.length:=by omega
  have hget:l[done.length]?=some x:=by rw [←hdn];simp
  obtain ⟨p1,p2⟩:=hp x (List.mem_of_getElem? hget)
  have hix:=jap (enc:=jhi) (size:=3) hget rfl
  have hdn':(done++[x])++rest=l:=by rw [←hdn];simp
  have hs:(done.length:Int)+1=(((done++[x]).length:Nat):Int):=by simp
  have hpos:=ok.pos
  obtain ⟨hA,eA,okA,nA,xA,gA⟩:=jda ok [.int .i64 0,.nilSlice,.nilSlice] (jhi x) 46
  obtain ⟨so,hB,eB,okB,nB,gB,n1,s1,d1,l1⟩:=jkn (ty:=48) (sz:=5) (E:=EO) (bytes:=40) (l:=x.ops) (enc:=jbj) okA (fun _=>rfl) (fun _=>⟨rfl,rfl⟩) (by omega) (by omega)
  have yB:=(gB _ (by omega)).trans xA
  obtain ⟨hC,eC,okC,nC,xC,gC⟩:=qcw okB hpos (some (.arr [si x.op,so,jak jdw x.spoils] 46))
  obtain ⟨ss,hD,eD,okD,nD,gD,n2,s2,d2,l2⟩:=jkn (ty:=118) (sz:=2) (E:=ER) (bytes:=16) (l:=x.spoils) (enc:=jdw) okC (fun _=>rfl) (fun _=>⟨rfl,rfl⟩) (by omega) (by omega)
  have yD:=(gD _ (by omega)).trans xC
  obtain ⟨hE,eE,okE,nE,xE,gE⟩:=qcw okD hpos (some (.arr [si x.op,so,ss] 46))
  have g1:∀ n∈n1,hE.get n=hB.get n:=fun n hm=>by
   have:=l1 n hm
   rw [gE n (by omega),gD n (by omega),gC n (by omega)]
  have g2:∀ n∈n2,hE.get n=hD.get n:=fun n hm=>by
   have:=l2 n hm
   rw [gE n (by omega)]
  have g0:∀ n,n<hi.next->hE.get n=hi.get n:=fun n hm=>by
   rw [gE n (by omega),gD n (by omega),gC n (by omega),gB n (by omega),gA n hm]
  obtain ⟨a',hF,eF,okF,nF,gF,kF⟩:=k.app1 (bytes:=56) (h1:=hE) (row:=[si x.op,so,ss]) (a:=x) (ms:=n1++n2) (E1:=OX hE) (E2:=fun h=>OX h) (fun row a m hm e=>e.keep (fun n hn=>g0 n (hm n hn))) okE (by omega) g0 hn hlo
   ⟨so,ss,n1,n2,_,rfl,s1.keep g1,s2.keep g2,rfl⟩ (List.nodup_append.2 ⟨d1,d2,fun u hu v hv e=>by have:=l1 u hu;have:=l2 v hv;omega⟩)
   (fun n hm=>by
    rcases List.mem_append.1 hm with hm | hm
    ·have:=l1 n hm;omega
    ·have:=l2 n hm;omega) rfl (by omega) (by omega) (fun h2 _ row a m e hm=>e.keep hm)
  unfold jhi at xA eA yB
  rw [jao]
  unfold jm8 j1s
  simp (disch:=first|omega|simp only[List.length]|apply_rules[jaa,jac,jad]) only [go_sem,jah,eq_true hlt,hix,jhi,eA,xA,eB,yB,eC,xC,eD,yD,eE,xE,eF,hs]
  exact qcx hl hp hlo rest (done++[x]) hdn' okF (by omega) kF (fun hj a x10 x12 ok' n' g' k'=>hQ hj a x10 x12 ok' (by omega) (fun n hm=>(g' n hm).trans (gF n hm)) k')
theorem qcy {l:List Ms.Edg} (hl:l.length<=10000) (hp:∀ x∈l,x.args.length<=10000) {lo:Nat} (hlo:1<=lo) {x0 x1 x2 x9 x10 x11 x12 x13 x14 x15 x16 x17 x18 x19 x20:AV} {Q:Ex->St->Prop} :
 ∀ (rest done:List Ms.Edg) (_:done++rest=l) {hi:Hp} (_:Ok hi) (_:lo<=hi.next) {a:SV} (_:Gs lo hi 51 2 (OE hi) a done) {x4 x6:AV}
  (hQ:∀ hj a x4 x6,Ok hj->hi.next<=hj.next->(∀ n,n<lo->hj.get n=hi.get n)->Gs lo hj 51 2 (OE hj) a l->Q (.exit 4) (.mk [x0,x1,x2,.s a,x4,.s (jak jmo l),x6,vi l.length,vi l.length,x9,x10,x11,x12,x13,x14,x15,x16,x17,x18,x19,x20] hj)),
  W F jm9.loop (.mk [x0,x1,x2,.s a,x4,.s (jak jmo l),x6,vi l.length,vi done.length,x9,x10,x11,x12,x13,x14,x15,x16,x17,x18,x19,x20] hi) Q
 | [],done,hdn,hi,ok,hn,a,k,x4,x6,hQ=>by
  rw [List.append_nil] at hdn
  subst hdn
  rw [jao]
  unfold jm9
  simp (disch:=first|omega|simp only[List.length]|apply_rules[jaa,jac,jad]) only [go_sem,Int.lt_irrefl]
  exact hQ hi a _ _ ok (Nat.le_refl _) (fun _ _=>rfl) k
 | x::rest,done,hdn,hi,ok,hn,a,k,x4,x6,hQ=>by
  have hlt1:done.length<l.length:=by rw [←hdn];simp
  have hlt:(done.length:Int)<l.length:=by omega
  have hget:l[done.length]?=some x:=by rw [←hdn];simp
  have p1:=hp x (List.mem_of_getElem? hget)
  have hix:=jap (enc:=jmo) (size:=2) hget rfl
  have hdn':(done++[x])++rest=l:=by rw [←hdn];simp
  have hs:(done.length:Int)+1=(((done++[x]).length:Nat):Int):=by simp
  have hpos:=ok.pos
  obtain ⟨hA,eA,okA,nA,xA,gA⟩:=jda ok [.int .i64 0,.nilSlice] (jmo x) 51
  obtain ⟨so,hB,eB,okB,nB,gB,n1,s1,d1,l1⟩:=jkn (ty:=3) (sz:=1) (E:=EI) (bytes:=8) (l:=x.args) (enc:=ja5) okA (fun _=>rfl) (fun _=>⟨rfl,rfl⟩) (by omega) (by omega)
  have yB:=(gB _ (by omega)).trans xA
  obtain ⟨hE,eE,okE,nE,xE,gE⟩:=qcw okB hpos (some (.arr [si x.block,so] 51))
  have g1:∀ n∈n1,hE.get n=hB.get n:=fun n hm=>by
   have:=l1 n hm
   rw [gE n (by omega)]
  have g0:∀ n,n<hi.next->hE.get n=hi.get n:=fun n hm=>by
   rw [gE n (by omega),gB n (by omega),gA n hm]
  obtain ⟨a',hF,eF,okF,nF,gF,kF⟩:=k.app1 (bytes:=32) (h1:=hE) (row:=[si x.block,so]) (a:=x) (ms:=n1) (E1:=OE hE) (E2:=fun h=>OE h) (fun row a m hm e=>e.keep (fun n hn=>g0 n (hm n hn))) okE (by omega) g0 hn hlo
   ⟨so,rfl,s1.keep g1⟩ d1 (fun n hm=>by have:=l1 n hm;omega) rfl (by omega) (by omega) (fun h2 _ row a m e hm=>e.keep hm)
  unfold jmo at xA eA yB
  rw [jao]
  unfold jm9 j1t
  simp (disch:=first|omega|simp only[List.length]|apply_rules[jaa,jac,jad]) only [go_sem,jah,eq_true hlt,hix,jmo,eA,xA,eB,yB,eE,xE,eF,hs]
  exact qcy hl hp hlo rest (done++[x]) hdn' okF (by omega) kF (fun hj a x4 x6 ok' n' g' k'=>hQ hj a x4 x6 ok' (by omega) (fun n hm=>(g' n hm).trans (gF n hm)) k')
structure Szs (f:Fc):Prop where
 v:f.values.length<=100000
 b:f.blocks.length<=10000
 bs:∀ b∈f.blocks,b.params.length<=10000/\b.instrs.length<=10000/\b.edges.length<=10000/\(∀ x∈b.instrs,x.ops.length<=10000/\x.spoils.length<=10000)/\∀ x∈b.edges,x.args.length<=10000
theorem qcz {f:Fc} (z:Szs f) {lo:Nat} (hlo:1<=lo) {x0 x1 x20:AV} {Q:Ex->St->Prop} :
 ∀ (rest done:List Ms.Blk) (_:done++rest=f.blocks) {hi:Hp} (_:Ok hi) (_:lo<=hi.next) {a:SV} (_:Gs lo hi 36 3 (OB hi) a done) {x3 x4 x5 x6 x7 x8 x9 x10 x11 x12 x13 x14 x15 x17:AV}
  (hQ:∀ hj a x3 x4 x5 x6 x7 x8 x9 x10 x11 x12 x13 x14 x15 x17,Ok hj->hi.next<=hj.next->(∀ n,n<lo->hj.get n=hi.get n)->Gs lo hj 36 3 (OB hj) a f.blocks->Q (.exit 0) (.mk [x0,x1,.s a,x3,x4,x5,x6,x7,x8,x9,x10,x11,x12,x13,x14,x15,.s (jak ja7 f.blocks),x17,vi f.blocks.length,vi f.blocks.length,x20] hj)),
  W F jna.loop (.mk [x0,x1,.s a,x3,x4,x5,x6,x7,x8,x9,x10,x11,x12,x13,x14,x15,.s (jak ja7 f.blocks),x17,vi f.blocks.length,vi done.length,x20] hi) Q
 | [],done,hdn,hi,ok,hn,a,k,x3,x4,x5,x6,x7,x8,x9,x10,x11,x12,x13,x14,x15,x17,hQ=>by
  rw [List.append_nil] at hdn
  rw [jao,hdn]
  unfold jna
  simp (disch:=first|omega|simp only[List.length]|apply_rules[jaa,jac,jad]) only [go_sem,Int.lt_irrefl]
  exact hQ hi a _ _ _ _ _ _ _ _ _ _ _ _ _ _ ok (Nat.le_refl _) (fun _ _=>rfl) (hdn▸k)
 | b::rest,done,hdn,hi,ok,hn,a,k,x3,x4,x5,x6,x7,x8,x9,x10,x11,x12,x13,x14,x15,x17,hQ=>by
  have hlb:=z.b
  have hlt1:done.length<f.blocks.length:=by rw [←hdn];simp
  have hlt:(done.length:Int)<f.blocks.length:=by omega
  have hget:f.blocks[done.length]?=some b:=by rw [←hdn];simp
  obtain ⟨p1,p2,p3,p4,p5⟩:=z.bs b (List.mem_of_getElem? hget)
  have hix:=jap (enc:=ja7) (size:=3) hget rfl
  have hdn':(done++[b])++rest=f.blocks:=by rw [←hdn];simp
  have hs:(done.length:Int)+1=(((done++[b]).length:Nat):Int):=by simp
  have hpos:=ok.pos
  have li:=jan (enc:=jhi) (l:=b.instrs)
  have le:=jan (enc:=jmo) (l:=b.edges)
  obtain ⟨hA,eA,okA,nA,xA,gA⟩:=jda ok [.nilSlice,.nilSlice,.nilSlice] (ja7 b) 36
  unfold ja7 at xA eA
  rw [jao]
  unfold jna j1u
  simp (disch:=first|omega|simp only[List.length]|apply_rules[jaa,jac,jad]) only [go_sem,eq_true hlt,hix,ja7,eA,xA,li]
  refine qcx p2 p4 (lo:=hA.next) (by omega) b.instrs [] rfl okA (Nat.le_refl _) .nil (fun hj si' y10 y12 okj nj gj ⟨ni,s1,d1,l1⟩=>?_)
  have xj:=(gj _ (by omega)).trans xA
  simp (disch:=first|omega|simp only[List.length]|apply_rules[jaa,jac,jad]) only [go_sem,xj,le]
  refine qcy p3 p5 (lo:=hj.next) (by omega) b.edges [] rfl okj (Nat.le_refl _) .nil (fun hk se y4 y6 okk nk gk ⟨ne,s2,d2,l2⟩=>?_)
  have xk:=(gk _ (by omega)).trans xj
  obtain ⟨sp,hE,eE,okE,nE,gE,np,s3,d3,l3⟩:=jkn (ty:=3) (sz:=1) (E:=EI) (bytes:=8) (l:=b.params) (enc:=ja5) okk (fun _=>rfl) (fun _=>⟨rfl,rfl⟩) (by omega) (by omega)
  have g0:∀ n,n<hi.next->hE.get n=hi.get n:=fun n hm=>by
   rw [gE n (by omega),gk n (by omega),gj n (by omega),gA n hm]
  have g1:∀ n∈ni,hE.get n=hj.get n:=fun n hm=>by
   have:=l1 n hm
   rw [gE n (by omega),gk n (by omega)]
  have g2:∀ n∈ne,hE.get n=hk.get n:=fun n hm=>by
   have:=l2 n hm
   rw [gE n (by omega)]
  obtain ⟨a',hF,eF,okF,nF,gF,kF⟩:=k.app1 (bytes:=72) (h1:=hE) (row:=[sp,si',se]) (a:=b) (ms:=np++(ni++ne)) (E1:=OB hE) (E2:=fun h=>OB h) (fun row a m hm e=>e.keep (fun n hn=>g0 n (hm n hn))) okE (by omega) g0 hn hlo
   ⟨sp,si',se,np,ni,ne,_,rfl,s3,s1.imp g1 (fun row a ms hm e=>e.keep (fun n hn=>g1 n (hm n hn))),s2.imp g2 (fun row a ms hm e=>e.keep (fun n hn=>g2 n (hm n hn))),rfl⟩
   (List.nodup_append.2 ⟨d3,List.nodup_append.2 ⟨d1,d2,fun u hu v hv e=>by have:=l1 u hu;have:=l2 v hv;omega⟩,fun u hu v hv e=>by
    have:=l3 u hu
    rcases List.mem_append.1 hv with hv | hv
    ·have:=l1 v hv;omega
    ·have:=l2 v hv;omega⟩)
   (fun n hm=>by
    rcases List.mem_append.1 hm with hm | hm
    ·have:=l3 n hm;omega
    ·rcases List.mem_append.1 hm with hm | hm
     ·have:=l1 n hm;omega
     ·have:=l2 n hm;omega) rfl (by omega) (by omega) (fun h2 _ row a m e hm=>e.keep hm)
  simp (disch:=first|omega|simp only[List.length]|apply_rules[jaa,jac,jad]) only [go_sem,jah,xk,eE,eF,hs]
  exact qcz z hlo rest (done++[b]) hdn' okF (by omega) kF (fun hj a x3 x4 x5 x6 x7 x8 x9 x10 x11 x12 x13 x14 x15 x17 ok' n' g' k'=>hQ hj a x3 x4 x5 x6 x7 x8 x9 x10 x11 x12 x13 x14 x15 x17 ok' (by omega) (fun n hm=>(g' n hm).trans (gF n hm)) k')
theorem jzf {h:Hp} (ok:Ok h) {f:Fc} (z:Szs f) (hX:jdy F 20 [.agg (jq8 f)] h=none) (hT:qbf F 20=T 20) :
 WC F 20 [.agg (jq8 f)] h (fun v h'=>∃ na nb,OF h' v f na nb/\Ok h'/\h.next<=h'.next/\(∀ n,n<h.next->h'.get n=h.get n)/\∀ n∈na++nb,h.next<=n):=by
 refine ja9 hX (hT.trans qio) rfl ?_
 unfold j8f
 have hpos:=ok.pos
 have zv:=z.v
 have ll:=jan (enc:=ja7) (l:=f.blocks)
 obtain ⟨hA,eA,okA,nA,xA,gA⟩:=je5 ok (jq8 f) 26
 obtain ⟨hB,eB,okB,nB,xB,gB⟩:=je5 okA [.nilSlice,.nilSlice] 26
 have yA:=(gB _ (by omega)).trans xA
 rw [nA] at xB
 unfold jq8 at eA xA yA
 simp (disch:=first|omega|simp only[List.length]|apply_rules[jaa,jac,jad]) only [go_sem,jq8,eA,nA,eB,yA,ll]
 refine qcz z (lo:=hB.next) (by omega) f.blocks [] rfl okB (Nat.le_refl _) .nil (fun hj a x3 x4 x5 x6 x7 x8 x9 x10 x11 x12 x13 x14 x15 x17 okj nj gj ⟨nb,s1,d1,l1⟩=>?_)
 have xj:=(gj _ (by omega)).trans yA
 have yj:=(gj _ (by omega)).trans xB
 obtain ⟨sv,hE,eE,okE,nE,gE,na,s2,d2,l2⟩:=jkn (ty:=3) (sz:=1) (E:=EI) (bytes:=8) (l:=f.values) (enc:=ja5) okj (fun _=>rfl) (fun _=>⟨rfl,rfl⟩) (by omega) (by omega)
 have zE:=(gE _ (by omega)).trans yj
 obtain ⟨hG,eG,okG,nG,xG,gG⟩:=qcw okE (b:=h.next+1) (by omega) (some (.arr [sv,a] 26))
 have g1:∀ n∈nb,hG.get n=hj.get n:=fun n hm=>by
  have:=l1 n hm
  rw [gG n (by omega),gE n (by omega)]
 have g2:∀ n∈na,hG.get n=hE.get n:=fun n hm=>by
  have:=l2 n hm
  rw [gG n (by omega)]
 simp (disch:=first|omega|simp only[List.length]|apply_rules[jaa,jac,jad]) only [go_sem,xj,eE,zE,eG,xG]
 refine ⟨na,nb,⟨⟨sv,a,rfl,s2.keep g2,s1.imp g1 (fun row a ms hm e=>e.keep (fun n hn=>g1 n (hm n hn)))⟩,List.nodup_append.2 ⟨d2,d1,fun u hu v hv e=>by have:=l1 v hv;have:=l2 u hu;omega⟩,fun n hm=>?_⟩,okG,by omega,fun n hm=>by rw [gG n (by omega),gE n (by omega),gj n (by omega),gB n (by omega),gA n hm],fun n hm=>?_⟩
 ·rcases List.mem_append.1 hm with hm | hm
  ·have:=l2 n hm;omega
  ·have:=l1 n hm;omega
 ·rcases List.mem_append.1 hm with hm | hm
  ·have:=l2 n hm;omega
  ·have:=l1 n hm;omega
end
def jnb (l:List Ms.Blk):Nat:=(l.map (fun b=>b.instrs.length)).sum
def jwu:List Ms.Blk->Nat->Nat->Nat×Nat
 | [],_,_=>(0,0)
 | x::r,b,k=>if k<x.instrs.length then (b,k) else jwu r (b+1) (k - x.instrs.length)
def jp5 (f:Fc) (n:Int):Nat×Nat:=jwu f.blocks 0 (pk n (max (jnb f.blocks) 1))
theorem j8g {l:List Ms.Blk} {b:Ms.Blk}:jnb (l++[b])=jnb l+b.instrs.length:=by unfold jnb;simp
theorem jzg:∀ {l:List Ms.Blk},(∀ b∈l,b.instrs.length<=10000)->jnb l<=l.length*10000
 | [],_=>by simp [jnb]
 | b::l,h=>by
  have h1:=jzg (l:=l) (fun b hb=>h b (List.mem_cons_of_mem _ hb))
  have h2:=h b (by simp)
  have:jnb (b::l)=b.instrs.length+jnb l:=by simp [jnb]
  rw [this,List.length_cons,Nat.succ_mul]
  omega
theorem j1w:∀ (l:List Ms.Blk) (b k:Nat),k<jnb l->∃ d,(jwu l b k).1=b+d/\∃ x,l[d]?=some x/\(jwu l b k).2<x.instrs.length
 | [],b,k,h=>by simp [jnb] at h
 | x::r,b,k,h=>by
  have e:jnb (x::r)=x.instrs.length+jnb r:=by simp [jnb]
  unfold jwu
  split
  ·exact ⟨0,by simp,x,rfl,by assumption⟩
  ·rename_i hk
   obtain ⟨d,h1,y,h2,h3⟩:=j1w r (b+1) (k - x.instrs.length) (by omega)
   exact ⟨d+1,by omega,y,by simpa using h2,h3⟩
section
variable {F:Fns}
theorem j8h {l:List Ms.Blk} (hl:l.length<=10000) (hi':∀ b∈l,b.instrs.length<=10000) {lo:Nat} {x0 x1 x2 x3 x4 x5 x6 x7 x8 x9 x16:AV} {Q:Ex->St->Prop} :
 ∀ (rest done:List Ms.Blk) (_:done++rest=l) {hi:Hp} (_:Ok hi) (_:lo<=hi.next) {x10 x13:AV}
  (hQ:∀ hj x10 x13,Ok hj->lo<=hj.next->(∀ n,n<lo->hj.get n=hi.get n)->Q (.exit 0) (.mk [x0,x1,x2,x3,x4,x5,x6,x7,x8,x9,x10,vi (jnb l),.s (jak ja7 l),x13,vi l.length,vi l.length,x16] hj)),
  W F jkl.loop (.mk [x0,x1,x2,x3,x4,x5,x6,x7,x8,x9,x10,vi (jnb done),.s (jak ja7 l),x13,vi l.length,vi done.length,x16] hi) Q
 | [],done,hdn,hi,ok,hn,x10,x13,hQ=>by
  rw [List.append_nil] at hdn
  subst hdn
  rw [jao]
  unfold jkl
  simp (disch:=first|omega|simp only[List.length]|apply_rules[jaa,jac,jad]) only [go_sem,Int.lt_irrefl]
  exact hQ hi _ _ ok hn (fun _ _=>rfl)
 | b::rest,done,hdn,hi,ok,hn,x10,x13,hQ=>by
  have hlt1:done.length<l.length:=by rw [←hdn];simp
  have hlt:(done.length:Int)<l.length:=by omega
  have hget:l[done.length]?=some b:=by rw [←hdn];simp
  have p1:=hi' b (List.mem_of_getElem? hget)
  have hix:=jap (enc:=ja7) (size:=3) hget rfl
  have hdn':(done++[b])++rest=l:=by rw [←hdn];simp
  have hs:(done.length:Int)+1=(((done++[b]).length:Nat):Int):=by simp
  have hb:=jzg (l:=done) (fun b hb=>hi' b (by rw [←hdn];simp [hb]))
  have hb2:done.length*10000<=100000000:=by omega
  have ha:(jnb done:Int)+(b.instrs.length:Int)=((jnb (done++[b]):Nat):Int):=by rw [j8g];omega
  have hpos:=ok.pos
  have li:=jan (enc:=jhi) (l:=b.instrs)
  obtain ⟨hA,eA,okA,nA,xA,gA⟩:=jda ok [.nilSlice,.nilSlice,.nilSlice] (ja7 b) 36
  unfold ja7 at xA eA
  rw [jao]
  unfold jkl jwq
  simp (disch:=first|omega|simp only[List.length]|apply_rules[jaa,jac,jad]) only [go_sem,jah,eq_true hlt,hix,ja7,eA,xA,li,hs,ha]
  exact j8h hl hi' rest (done++[b]) hdn' okA (by omega) (fun hj x10 x13 ok' n' g'=>hQ hj x10 x13 ok' n' (fun n hm=>(g' n hm).trans (gA n (by omega))))
theorem j8i {l:List Ms.Blk} {vals:SV} {bx:Nat} (hl:l.length<=10000) (hi':∀ b∈l,b.instrs.length<=10000) {h:Hp} (ok:Ok h) (hx:h.get bx=some (.arr [vals,jak ja7 l] 26)) {x0 x1 x10 x11 x12 x13 x14 x15:AV} {r:Nat×Nat} {Q:Ex->St->Prop}
 (hR:∀ x4 x5 x6 x7 x9,Q .ret (.mk [x0,x1,vi r.2,vi r.1,x4,x5,x6,x7,vi l.length,x9,x10,x11,x12,x13,x14,x15,.s (.ptr bx 0)] h)) (hE:r=(0,0)->∀ x2 x3 x4 x5 x6 x7 x9,Q (.exit 2) (.mk [x0,x1,x2,x3,x4,x5,x6,x7,vi l.length,x9,x10,x11,x12,x13,x14,x15,.s (.ptr bx 0)] h)) :
 ∀ (rest done:List Ms.Blk) (_:done++rest=l) (k:Nat) (_:k<=1000000000) (_:jwu rest done.length k=r) {x2 x3 x4 x5 x7:AV},
  W F jkm.loop (.mk [x0,x1,x2,x3,x4,x5,vi k,x7,vi l.length,vi done.length,x10,x11,x12,x13,x14,x15,.s (.ptr bx 0)] h) Q
 | [],done,hdn,k,hk,hr,x2,x3,x4,x5,x7=>by
  rw [List.append_nil] at hdn
  subst hdn
  rw [jao]
  unfold jkm
  simp (disch:=first|omega|simp only[List.length]|apply_rules[jaa,jac,jad]) only [go_sem,Int.lt_irrefl]
  exact hE hr.symm _ _ _ _ _ _ _
 | b::rest,done,hdn,k,hk,hr,x2,x3,x4,x5,x7=>by
  have hlt1:done.length<l.length:=by rw [←hdn];simp
  have hlt:(done.length:Int)<l.length:=by omega
  have hget:l[done.length]?=some b:=by rw [←hdn];simp
  have p1:=hi' b (List.mem_of_getElem? hget)
  have hix:=jap (enc:=ja7) (size:=3) hget rfl
  have hdn':(done++[b])++rest=l:=by rw [←hdn];simp
  have hs:(done.length:Int)+1=(((done++[b]).length:Nat):Int):=by simp
  have hs2:(done++[b]).length=done.length+1:=by simp
  have li:=jan (enc:=jhi) (l:=b.instrs)
  unfold jwu at hr
  rw [jao]
  unfold jkm jws
  by_cases e:k<b.instrs.length
  ·rw [if_pos e] at hr
   have c1:((k:Int)<(b.instrs.length:Int))=True:=eq_true (by omega)
   subst hr
   simp (disch:=first|omega|simp only[List.length]|apply_rules[jaa,jac,jad]) only [go_sem,jah,eq_true hlt,hx,hix,ja7,li,c1]
   exact hR _ _ _ _ _
  ·rw [if_neg e] at hr
   have c1:((k:Int)<(b.instrs.length:Int))=False:=eq_false (by omega)
   have hk2:(k:Int) - (b.instrs.length:Int)=((k - b.instrs.length:Nat):Int):=by omega
   unfold jwr
   simp (disch:=first|omega|simp only[List.length]|apply_rules[jaa,jac,jad]) only [go_sem,jah,eq_true hlt,hx,hix,ja7,li,c1,hs,hk2]
   exact j8i hl hi' ok hx hR hE rest (done++[b]) hdn' _ (by omega) (by rw [hs2];exact hr)
theorem qax {k:Bool} {h:Hp} (ok:Ok h) {f:Fc} (z:Szs f) {n:Int} (hn1:-9223372036854775808<=n) (hn2:n<=9223372036854775807) (hX:jdy F 21 [.agg (jq8 f),vi n] h=none) (hT:qbf F 21=T 21)
 (hp:∀ (m:Int) (h:Hp),0<m->m<=9223372036854775807->jdy F 26 [vi n,vi m] h=some (vi (pick n m),h)) :
 WC F 21 [.agg (jq8 f),vi n] h (fun v h'=>∃ d,jhf k h' d v=some (.tup [(false,[si (jp5 f n).1]),(false,[si (jp5 f n).2])])):=by
 refine ja9 hX (hT.trans qgc) rfl ?_
 unfold j1v
 have hpos:=ok.pos
 have zb:=z.b
 have ll:=jan (enc:=ja7) (l:=f.blocks)
 have hN:=jzg (l:=f.blocks) (fun b hb=>(z.bs b hb).2.1)
 obtain ⟨hA,eA,okA,nA,xA,gA⟩:=je5 ok (jq8 f) 26
 unfold jq8 at eA xA
 simp (disch:=first|omega|simp only[List.length]|apply_rules[jaa,jac,jad]) only [go_sem,jq8,eA,xA,ll]
 refine j8h z.b (fun b hb=>(z.bs b hb).2.1) (lo:=hA.next) f.blocks [] rfl okA (Nat.le_refl _) (fun hj x10 x13 okj nj gj=>?_)
 have xj:=(gj _ (by omega)).trans xA
 have hmm:mmV true (some (vi (jnb f.blocks))) (some (vi 1))=some (vi ((max (jnb f.blocks) 1:Nat):Int)):=by
  rw [jtq]
  congr 3
  split<;>omega
 obtain ⟨m,em⟩:∃ m,max (jnb f.blocks) 1=m:=⟨_,rfl⟩
 have hm:1<=m/\m<=1000000000:=by omega
 have hpm:=hp m hj (by omega) (by omega)
 have hpk:=jfk (n:=n) (m:=m) (by omega)
 rw [jbi (by omega)] at hpm
 rw [em] at hmm
 have es:jp5 f n=jwu f.blocks 0 (pk n m):=by unfold jp5;rw [em]
 simp (disch:=first|omega|simp only[List.length]|apply_rules[jaa,jac,jad]) only [go_sem,hmm,jau hpm,xj,ll]
 refine j8i z.b (fun b hb=>(z.bs b hb).2.1) okj xj (r:=jp5 f n) (fun x4 x5 x6 x7 x9=>?_) (fun e x2 x3 x4 x5 x6 x7 x9=>?_) f.blocks [] rfl (pk n m) (by omega) es.symm
 ·simp (disch:=first|omega|simp only[List.length]|apply_rules[jaa,jac,jad]) only [go_sem]
  exact ⟨1,rfl⟩
 ·simp (disch:=first|omega|simp only[List.length]|apply_rules[jaa,jac,jad]) only [go_sem]
  rw [e]
  exact ⟨1,rfl⟩
end
end Go.Proofs.Ytaljcpoopmedmaa.Ev
namespace Go.Proofs.Ytaljcpoopmedmaa.Ms
set_option linter.all false
def LD (x:Ins):Prop:=∃ r o,x.ops=r++[o]/\o.kind=2
def AL (l:List Blk):Prop:=∀ b∈l,∀ x∈b.instrs,LD x
theorem jwv (p:Pc) (flags uses i:Nat) (x:Iw×Nat×Ms):∃ o:Opd,(jew p flags uses i x).1.ops=x.1.ops++[o]/\o.kind=2/\(jew p flags uses i x).2.2.blocks=x.2.2.blocks:=by
 unfold jew
 simp only
 split
 ·exact ⟨_,rfl,rfl,rfl⟩
 ·exact ⟨_,rfl,rfl,rfl⟩
theorem jrq (p:Pc) (flags uses:Nat):∀ (k i:Nat) (x:Iw×Nat×Ms),(∃ (r:List Opd) (o:Opd),(jdu p flags uses (k+1) i x).1.ops=r++[o]/\o.kind=2)/\(jdu p flags uses (k+1) i x).2.2.blocks=x.2.2.blocks
 | 0,i,x=>by
  obtain ⟨o,h1,h2,h3⟩:=jwv p flags uses i x
  exact ⟨⟨_,o,h1,h2⟩,h3⟩
 | k+1,i,x=>by
  obtain ⟨o,h1,h2,h3⟩:=jwv p flags uses i x
  have:=jrq p flags uses k (i+1) (jew p flags uses i x)
  exact ⟨this.1,this.2.trans h3⟩
theorem j28 (w:Ms) (p:Pc):LD (jay w p).1/\(jay w p).2.blocks=w.blocks:=by
 unfold jay
 simp only
 rw [Nat.add_comm 1]
 obtain ⟨⟨r,o,h1,h2⟩,h3⟩:=jrq p (pk p.flags (2 ^ 30)) (jeh w p (pk p.flags (2 ^ 30)) (if w.known=[] then 0 else pk p.flags (2 ^ 30) % 4) 0 ⟨[],pk p.limits (2 ^ 40),(0,0),(0,0)⟩).ops.length (pk p.flags (2 ^ 30) / 2 ^ 8 % 2) 0 (jeh w p (pk p.flags (2 ^ 30)) (if w.known=[] then 0 else pk p.flags (2 ^ 30) % 4) 0 ⟨[],pk p.limits (2 ^ 40),(0,0),(0,0)⟩,(jeh w p (pk p.flags (2 ^ 30)) (if w.known=[] then 0 else pk p.flags (2 ^ 30) % 4) 0 ⟨[],pk p.limits (2 ^ 40),(0,0),(0,0)⟩).ops.length,w)
 exact ⟨⟨r,o,h1,h2⟩,h3⟩
theorem AL.modify {l:List Blk} (h:AL l) {k:Nat} {f:Blk->Blk} (hf:∀ b,(∀ x∈b.instrs,LD x)->∀ x∈(f b).instrs,LD x):AL (l.modify k f):=by
 intro b hb
 rcases jbh hb with hb | ⟨c,hc,_,rfl⟩
 ·exact h b hb
 ·exact hf c (h c hc)
theorem AL.lay {w:Ms} (h:AL w.blocks) (p:Pc):AL (jch w p).blocks:=by
 obtain ⟨h1,h2⟩:=j28 w p
 unfold jch
 simp only [h2]
 exact h.modify (fun b hb x hx=>by
  rcases List.mem_append.1 hx with hx | hx
  ·exact hb x hx
  ·rw [List.mem_singleton.1 hx];exact h1)
theorem AL.block {w:Ms} (h:AL w.blocks) (cs:List Nat):AL (jag w cs).blocks:=fun b hb x hx=>by
 rcases List.mem_append.1 hb with hb | hb
 ·exact h b hb x hx
 ·rw [List.mem_singleton.1 hb] at hx;simp at hx
theorem AL.edge {w:Ms} (h:AL w.blocks) (k to:Nat) (a:List Nat):AL (jaw w k to a).blocks:=h.modify (fun b hb=>hb)
theorem AL.newest {w:Ms} (h:AL w.blocks) (c:Nat) (p:Pc):AL (jaf w c p).2.blocks:=by
 unfold jaf
 split
 ·exact h
 ·exact h.lay _
theorem AL.way {w:Ms} (h:AL w.blocks) (p:Pc) (c n e k:Nat) (lay:Bool):AL (jhl p c n e k lay w).2.blocks:=by
 unfold jhl
 simp only
 refine AL.edge ?_ _ _ _
 refine AL.newest ?_ _ _
 refine AL.newest ?_ _ _
 split
 ·exact AL.lay (w:={ w with cur:=k }) h _
 ·exact h
theorem AL.fork {w:Ms} (h:AL w.blocks) (p:Pc):AL (jex w p).blocks:=by
 unfold jex
 simp only
 refine AL.way ?_ _ _ _ _ _ _
 refine AL.way ?_ _ _ _ _ _ _
 exact ((((h.lay p).block []).block []).block [pk p.c 2,0]).edge _ _ _ |>.edge _ _ _
theorem AL.loop {w:Ms} (h:AL w.blocks) (p:Pc):AL (jfo w p).blocks:=by
 unfold jfo
 simp only
 refine AL.edge ?_ _ _ _
 refine AL.newest ?_ _ _
 refine AL.newest ?_ _ _
 refine AL.lay ?_ _
 refine AL.edge ?_ _ _ _
 refine AL.edge ?_ _ _ _
 refine AL.block ?_ _
 refine AL.block ?_ _
 refine AL.lay ?_ _
 refine AL.edge ?_ _ _ _
 refine AL.block ?_ _
 refine AL.newest ?_ _ _
 exact AL.newest h _ _
theorem AL.piece {w:Ms} (h:AL w.blocks) (p:Pc):AL (jbe w p).blocks:=by
 unfold jbe
 simp only
 split
 ·exact h.fork p
 ·split
  ·exact h.loop p
  ·split
   ·exact h.lay p
   ·exact h
theorem AL.foldl:∀ {l:List Pc} {w:Ms},AL w.blocks->AL (l.foldl jbe w).blocks
 | [],_,h=>h
 | p::l,w,h=>AL.foldl (l:=l) (h.piece p)
theorem j8j (m:Nat×Nat) (l:List Pc):AL (jdl m l).blocks:=by
 unfold jdl
 simp only
 refine AL.lay (AL.foldl ?_) _
 intro b hb x hx
 rw [List.mem_singleton.1 hb] at hx;simp at hx
theorem j8k {m:Nat×Nat} (m1:2<=m.1/\m.1<=10) (m2:2<=m.2/\m.2<=10) (l:List Pc):(∀ b∈(jdl m l).blocks,b.instrs.length<=23)/\1<=sm (jdl m l).blocks/\sm (jdl m l).blocks<=100:=by
 have k0:=jia m1 m2
 have k1:=k0.pieces (l.take 24)
 obtain ⟨b,_⟩:=k1.bd.lay ⟨0,0,1,0,0,0,3⟩
 obtain ⟨_,_,_,_,_,hs,_⟩:=qak k1.v ⟨0,0,1,0,0,0,3⟩
 obtain ⟨w,ew⟩:∃ w,(l.take 24).foldl jbe (jbk m)=w:=⟨_,rfl⟩
 rw [ew] at b k1 hs
 have lt:(l.take 24).length<=24:=by simp;omega
 have nbk:=k1.nb
 have sk:=k1.sum
 unfold jdl
 simp only [ew]
 refine ⟨fun x hx=>?_,by omega,by omega⟩
 obtain ⟨k,e⟩:=j6p hx
 have hf:=b.i k
 have hi:=k1.i k
 have e2:nI (jch w ⟨0,0,1,0,0,0,3⟩) k=x.instrs.length:=by unfold nI;rw [e]
 rw [e2] at hf
 have e3:up (nI w) w.cur k<=nI w k+1:=by unfold up;split<;>omega
 omega
theorem FcOk.value {m:Nat×Nat} {f:Fc} (k:FcOk m f) (h:f.values.length<=159):FcOk m ⟨f.values++[0],f.blocks⟩ :=
 ⟨k.nb,by simp;omega,fun c hc=>by
  rcases List.mem_append.1 hc with hc | hc
  ·exact k.cls c hc
  ·rw [List.mem_singleton.1 hc];omega,k.blk,k.all,fun b hb x hx=>(k.ins b hb x hx).app [0],k.par,fun b hb e he=>by
  obtain ⟨h1,h2,t,h3,h4,h5⟩:=k.edg b hb e he
  refine ⟨h1,fun v hv=>by have:=h2 v hv;simp;omega,t,h3,?_,fun v hv=>by have:=h5 v hv;simp;omega⟩
  rw [List.map_congr_left (fun v hv=>jrm (h5 v hv)),h4]
  exact (List.map_congr_left (fun v hv=>jrm (h2 v hv))).symm,k.ent,fun b hb v hv=>by have:=k.prm b hb v hv;simp;omega⟩
def jqg (k v:Nat):Ins:=⟨0,[⟨k,v,false,1,0⟩],[]⟩
theorem qgd {m:Nat×Nat} {vs:List Nat} (m1:2<=m.1) (m2:2<=m.2) {k v:Nat} (hk:k=1∨k=2) (hv:v<vs.length):InsOk m vs (jqg k v):=by
 refine ⟨by simp [jqg],by simp [jqg],by simp [jqg],fun o ho=>?_,fun o ho h=>?_,fun r hr=>by simp [jqg] at hr,fun i q r h=>by simp [jqg] at h,fun o ho r h=>by simp [jqg],fun i j o p hij hi hj=>?_,fun c hc=>?_⟩
 ·rw [List.mem_singleton.1 ho]
  exact ⟨hk,by simp,hv,fun h=>by simp at h,fun _=>rfl,fun h=>by simp at h⟩
 ·rw [List.mem_singleton.1 ho] at h;simp at h
 ·cases i with
  | zero=>omega
  | succ i=>simp [jqg] at hi
 ·have:(jqg k v).ops.countP (jcr vs c)=0:=by simp [jqg,jcr]
  rw [this]
  show 0+0<g2 m c
  unfold g2;split<;>omega
theorem FcOk.instrs {m:Nat×Nat} {f:Fc} (k:FcOk m f) {j:Nat} {g:List Ins->List Ins} (hg:∀ b∈f.blocks,(g b.instrs).length<=40/\(b.instrs≠[]->g b.instrs≠[])/\∀ x∈g b.instrs,InsOk m f.values x) (hs:sm (f.blocks.modify j (fun b=>{ b with instrs:=g b.instrs }))<=160):FcOk m ⟨f.values,f.blocks.modify j (fun b=>{ b with instrs:=g b.instrs })⟩:=by
 refine ⟨by simp only [List.length_modify];exact k.nb,k.nv,k.cls,fun b hb=>?_,hs,fun b hb=>?_,fun b hb=>?_,fun b hb e he=>?_,fun b hb=>?_,fun b hb=>?_⟩
 ·rcases jbh hb with hb | ⟨c,hc,_,rfl⟩
  ·exact k.blk b hb
  ·have:=k.blk c hc;exact ⟨this.1,(hg c hc).1,this.2.2⟩
 ·rcases jbh hb with hb | ⟨c,hc,_,rfl⟩
  ·exact k.ins b hb
  ·exact (hg c hc).2.2
 ·rcases jbh hb with hb | ⟨c,hc,_,rfl⟩
  ·exact k.par b hb
  ·exact fun h=>(hg c hc).2.1 (k.par c hc h)
 ·have:jpw f.values f.blocks e:=by
   rcases jbh hb with hb | ⟨c,hc,_,rfl⟩
   ·exact k.edg b hb e he
   ·exact k.edg c hc e he
  obtain ⟨h1,h2,t,h3,h4,h5⟩:=this
  obtain ⟨t',h6,h7⟩:=jhb (k:=j) (f:=fun b=>{ b with instrs:=g b.instrs }) (fun _=>rfl) h3
  exact ⟨h1,h2,t',h6,by rw [h7];exact h4,by rw [h7];exact h5⟩
 ·obtain ⟨t,ht,e⟩:=jgf (f:=fun b=>{ b with instrs:=g b.instrs }) (fun _=>rfl) hb
  rw [e];exact k.ent t ht
 ·rcases jbh hb with hb | ⟨c,hc,_,rfl⟩
  ·exact k.prm b hb
  ·exact k.prm c hc
end Go.Proofs.Ytaljcpoopmedmaa.Ms
namespace Go.Proofs.Ytaljcpoopmedmaa.Ev
open Go Go.RowKit Go.Proofs.Ytaljcpoopmedmaa.Ms
set_option linter.all false
set_option maxRecDepth 100000
set_option maxHeartbeats 2000000
section
variable {F:Fns} {st fr:List AV} {es:List Ent} {h h2:Hp} {dst:Option Nat} {l:List (IOper×Option (List Nat))} {Q:Ex->St->Prop}
theorem jzh {e:TypeId} {size bytes:Nat} {ox oy:Od} {js:List Nat} {b o n mc sz:Nat} {ex:Bool} {w v:AV} (k:Ok h) (k2:Ok h2) (hx:ev st fr ox=some (.s (.slice b o n mc ex sz))) (hw:ev st fr oy=some w) (hs:sel es js []=some []) (hu:jfu es js b=true) {c:AB} (hb:h.get b=some c) (ha:jjk h e size bytes (.s (.slice b o n mc ex sz)) w=some (v,h2)) :
 WD F ((.mk dst (.a (.app e size bytes ox oy)) none,some js)::l) st es fr h Q=WD F l (v::st) (.mk [(b,Nat.succ b),(h.next,h2.next)] none::es) (jcc fr dst v) h2 Q:=by
 rw [jxq (x:=some (DR.mk v h2 (.mk [(b,Nat.succ b),(h.next,h2.next)] none))) (fun cl=>?_)]
 ·exact jb1
 ·cases h with
  | mk n1 t lo hid =>
  cases h2 with
  | mk n2 t2 lo2 hid2 =>
  obtain rfl:hid=[]:=k.hid
  obtain rfl:lo=0:=k.lo
  obtain rfl:hid2=[]:=k2.hid
  obtain rfl:lo2=0:=k2.lo
  have hc:jbl st fr (.a (.app e size bytes ox oy))=.app b:=by
   show jrv (ob (ev st fr ox) (fun v=>jec v none (fun b _ _ _ _ _=>some b))) Cls.app=_
   rw [hx];rfl
  have hi:iop cl st fr (.mk n1 t 0 []) (.a (.app e size bytes ox oy))=some (v,.mk n2 t2 0 []):=by
   show ob (ev st fr ox) (fun v=>ob (ev st fr oy) (fun w=>jjk (.mk n1 t 0 []) e size bytes v w))=_
   rw [hx,hw];exact ha
  show ob (sel es js []) (fun hid'=>Cls.casesOn (motive:=fun _=>Option DR) (jbl st fr (.a (.app e size bytes ox oy))) _ _ (fun b=>oif (jfu es js b) (oif (Nat.ble 0 b) (ob (Hp.get (.mk n1 t 0 hid') b) (fun _=>jko cl st fr n1 t 0 0 [] hid' (.a (.app e size bytes ox oy)) (fun n'=>.mk [(b,Nat.succ b),(n1,n')] none))) none) none) _ _)=_
  rw [hs]
  show Cls.casesOn (motive:=fun _=>Option DR) (jbl st fr (.a (.app e size bytes ox oy))) _ _ (fun b=>oif (jfu es js b) (oif (Nat.ble 0 b) (ob (Hp.get (.mk n1 t 0 []) b) (fun _=>jko cl st fr n1 t 0 0 [] [] (.a (.app e size bytes ox oy)) (fun n'=>.mk [(b,Nat.succ b),(n1,n')] none))) none) none) _ _=_
  rw [hc]
  show oif (jfu es js b) (oif (Nat.ble 0 b) (ob (Hp.get (.mk n1 t 0 []) b) (fun _=>ob (iop cl st fr (.mk n1 t 0 []) (.a (.app e size bytes ox oy))) _)) none) none=_
  rw [hu,hb,hi]
  cases b<;>rfl
theorem jww {e:TypeId} {size bytes:Nat} {ox oy:Od} {js:List Nat} {b n:Nat} {row:List SV} (k:Ok h) (hx:ev st fr ox=some (.s .nilSlice)) (hw:ev st fr oy=some (.s (.slice b 0 1 1 true size))) (hs:sel es js []=some []) (hb:rdB (h.get b) 0 (1*size)=some row) (hsm:1*bytes<=1000000000) :
 WD F ((.mk dst (.a (.app e size bytes ox oy)) none,some js)::l) st es fr h Q=WD F l (.s (.slice h.next 0 1 1 false size)::st) (.mk [(h.next,Nat.succ h.next)] none::es) (jcc fr dst (.s (.slice h.next 0 1 1 false size))) (h.push (.arr row e)) Q:=by
 rw [jxq (x:=some (DR.mk (.s (.slice h.next 0 1 1 false size)) (h.push (.arr row e)) (.mk [(h.next,Nat.succ h.next)] none))) (fun cl=>?_)]
 ·exact jb1
 ·cases h with
  | mk n1 t lo hid =>
  obtain rfl:hid=[]:=k.hid
  obtain rfl:lo=0:=k.lo
  have hc:jbl st fr (.a (.app e size bytes ox oy))=.other:=by
   show jrv (ob (ev st fr ox) (fun v=>jec v none (fun b _ _ _ _ _=>some b))) Cls.app=_
   rw [hx];rfl
  have hi:iop cl st fr (.mk n1 t n1 []) (.a (.app e size bytes ox oy))=some (.s (.slice n1 0 1 1 false size),.mk (Nat.succ n1) (t.put (Nat.succ n1) n1 (some (.arr row e))) n1 []):=by
   show ob (ev st fr ox) (fun v=>ob (ev st fr oy) (fun w=>jjk (.mk n1 t n1 []) e size bytes v w))=_
   rw [hx,hw]
   show ob (rdB ((Hp.mk n1 t n1 []).get b) 0 (1*size)) (fun new=>jjq bytes 1 (nw (.mk n1 t n1 []) new e (fun k h=>Ev.ok (.s (.slice k 0 1 1 false size)) h)))=_
   rw [show rdB ((Hp.mk n1 t n1 []).get b) 0 (1*size)=some row from hb]
   show jjq bytes 1 _=_
   rw [jke hsm (by omega)]
   rfl
  show ob (sel es js []) (fun hid'=>Cls.casesOn (motive:=fun _=>Option DR) (jbl st fr (.a (.app e size bytes ox oy))) _ _ _ _ (jko cl st fr n1 t 0 n1 [] hid' (.a (.app e size bytes ox oy)) (fun n'=>.mk [(n1,n')] none)))=_
  rw [hs]
  show Cls.casesOn (motive:=fun _=>Option DR) (jbl st fr (.a (.app e size bytes ox oy))) _ _ _ _ (jko cl st fr n1 t 0 n1 [] [] (.a (.app e size bytes ox oy)) (fun n'=>.mk [(n1,n')] none))=_
  rw [hc]
  show ob (iop cl st fr (.mk n1 t n1 []) (.a (.app e size bytes ox oy))) _=_
  rw [hi]
  rfl
theorem jwx {e:TypeId} {size bytes:Nat} {ox oy:Od} {js:List Nat} {b:Nat} {row:List SV} {x:SV} {v:AV} (k:Ok h) (k2:Ok h2) (hx:ev st fr ox=some (.s x)) (hw:ev st fr oy=some (.s (.slice b 0 1 1 true size))) (hs:sel es js []=some []) (hb:rdB (h.get b) 0 (1*size)=some row) (hsm:1*bytes<=1000000000)
 (hi:x=.nilSlice∨∃ c n,x=.slice c 0 n n false size/\jfu es js c=true/\(h.get c).isSome=true) (ha:jjk h e size bytes (.s x) (.s (.slice b 0 1 1 true size))=some (v,h2)) :
 ∃ en,WD F ((.mk dst (.a (.app e size bytes ox oy)) none,some js)::l) st es fr h Q=WD F l (v::st) (en::es) (jcc fr dst v) h2 Q:=by
 rcases hi with rfl | ⟨c,n,rfl,h3,h4⟩
 ·have e1:jjk h e size bytes (.s .nilSlice) (.s (.slice b 0 1 1 true size))=some (.s (.slice h.next 0 1 1 false size),h.push (.arr row e)):=by
   rw [jiu,hb]
   show jjq bytes 1 (nw h row e _)=_
   rw [jke hsm (by omega),jvp k]
   rfl
  rw [e1] at ha
  cases ha
  exact ⟨_,jww (n:=0) k hx hw hs hb hsm⟩
 ·obtain ⟨c',h4⟩:=Option.isSome_iff_exists.1 h4
  exact ⟨_,jzh k k2 hx hw hs h3 h4 ha⟩
end
theorem qip {k:Bool} {h:Hp} {d:Nat} {v:AV} {n:Int} (e:jhf k h d v=some (vi n)):v=vi n:=by
 cases v with
 | s x =>
  obtain ⟨y,h1,h2⟩:=jab.1 (show ob (jh1 k h d x) (fun y=>some (AV.s y))=some (vi n) from e)
  simp only [Option.some.injEq,AV.s.injEq] at h2
  subst h2
  cases d with
  | zero=>cases h1
  | succ d =>
   cases x with
   | slice b off len mc ex sz =>
    cases len with
    | zero=>cases h1
    | succ len =>
     obtain ⟨cs,_,h1⟩:=jab.1 (show ob (rd h b off (Nat.mul (len+1) sz)) (fun cs=>ob (jhk (jh1 k h d) cs) (fun cs=>ob (joa sz (len+1) cs) (fun rows=>some (SV.lst rows))))=_ from h1)
     obtain ⟨cs,_,h1⟩:=jab.1 h1
     obtain ⟨cs,_,h1⟩:=jab.1 h1
     cases h1
   | lst rows=>cases k<;>cases rows<;>cases h1
   | int k n=>cases h1;rfl
   | _=>cases h1
 | agg l =>
  obtain ⟨y,h1,h2⟩:=jab.1 (show ob (jhk (jh1 k h d) l) (fun y=>some (AV.agg y))=some (vi n) from e)
  cases h2
 | tup l =>
  obtain ⟨y,h1,h2⟩:=jab.1 (show ob (qbj (jh1 k h d) l) (fun y=>some (AV.tup y))=some (vi n) from e)
  cases h2
 | _=>cases e
theorem ji6.scal {F:Fns} {f:FuncId} {us:List AV} {n:Int} (k:ji6 true F f us (vi n)):ji6 false F f us (vi n) :=
 WC.imp k (fun v h ⟨d,e⟩=>by rw [qip e];exact ⟨1,rfl⟩)
section
variable {h:Hp} {x:AV} {f:Fc} {na nb:List Nat}
theorem OF.nogrd (o:OF h x f na nb) (hne:f.blocks≠[]) (l:List AV):jka (x::l)=false:=by
 obtain ⟨⟨a,b,rfl,h1,h2⟩,_,_⟩:=o
 rcases h2 with ⟨h3,_⟩ | ⟨_,bb,rows,nss,rfl,_⟩
 ·exact absurd h3 hne
 ·show oif (oif (grd a) false false) (jka l) false=false
  cases grd a<;>rfl
theorem OF.frz1 (o:OF h x f na nb) {n:Int}:job true h 4 [x,vi n]=some [.agg (jq8 f),vi n]:=by
 show ob (jhf true h 4 x) (fun y=>ob (job true h 4 [vi n]) (fun r=>some (y::r)))=_
 rw [o.frz];rfl
theorem OF.frz2 (o:OF h x f na nb) {a b:Nat}:job true h 4 [x,.agg [si a,si b]]=some [.agg (jq8 f),.agg [si a,si b]]:=by
 show ob (jhf true h 4 x) (fun y=>ob (job true h 4 [.agg [si a,si b]]) (fun r=>some (y::r)))=_
 rw [o.frz];rfl
theorem OF.call2 {S:FuncId->Bool} {F:Fns} {g:FuncId} (o:OF h x f na nb) (hne:f.blocks≠[]) (hS:S g=true) {a b:Nat} {n:Int} (k:ji6 true F g [.agg (jq8 f),.agg [si a,si b]] (vi n)):jdy (PX S F) g [x,.agg [si a,si b]] h=some (vi n,h) :=
 j4x hS (o.nogrd hne _) ⟨_,4,o.frz2,k.scal⟩
end
theorem qc0 {h:Hp} {b i sz j:Nat} {row:List SV} {v:SV} (h1:rdB (h.get b) (i*sz) sz=some row) (hl:row.length=sz) (hj:row[j]?=some v):rdB (h.get b) (i*sz+j) 1=some [v]:=by
 cases e:h.get b with
 | none=>rw [e] at h1;cases h1
 | some x =>
  cases x with
  | arr cells ty =>
   rw [e,jfe,jby] at h1
   obtain ⟨h2,h3⟩:=(ja1 _).1 h1
   apply j6j
   have hjl:j<sz:=by rw [←hl];exact (List.getElem?_eq_some_iff.1 hj).1
   rw [h3,List.getElem?_take,if_pos hjl,List.getElem?_drop] at hj
   exact hj
  | _=>rw [e] at h1;cases h1
section
variable {h:Hp} {a b:SV} {f:Fc} {na nb:List Nat}
theorem OF.at (o:OF h (.agg [a,b]) f na nb) {k:Nat} {B:Ms.Blk} (hk:f.blocks[k]?=some B):∃ bb p i e np ni ne ex M1 M2 cells,jw3 3 (.s b) (vi (k:Int))=some (.s (.ptr bb (k*3)))/\h.get bb=some (.arr cells 36)/\rdB (h.get bb) (k*3) 3=some [p,i,e] /\
 Sl h 3 1 false EI p B.params np/\Sl h 46 3 false (OX h) i B.instrs ni/\Sl h 51 2 ex (OE h) e B.edges ne/\nb=bb::(M1++((np++(ni++ne))++M2)) /\
 (∀ {j:Nat} {v:SV},j<3->∃ cells',jbu (k*3+j) [v] cells=some cells'/\∀ {N:Nat} {h':Hp} {B':Ms.Blk} {ms':List Nat},(∀ n∈na++nb,n<N)->h'.get bb=some (.arr cells' 36)->OB h' ([p,i,e].set j v) B' ms'->(∀ n∈na++(M1++M2),h'.get n=h.get n)->h.next<=h'.next->ms'.Nodup->(∀ n∈ms',(n∈np++(ni++ne)∨N<=n)/\n<h'.next) ->
  OF h' (.agg [a,b]) ⟨f.values,f.blocks.set k B'⟩ na (bb::(M1++(ms'++M2)))):=by
 obtain ⟨⟨a',b',e0,s1,s2⟩,nd,lt⟩:=o
 cases e0
 obtain ⟨bb,row,ms,M1,M2,cells,e1,e2,e3,e4,⟨p,i,e,np,ni,ne,ex,rfl,h1,h2,h3,rfl⟩,rfl,up⟩:=s2.upd hk
 refine ⟨bb,p,i,e,np,ni,ne,ex,M1,M2,cells,e1,e2,e3,h1,h2,h3,rfl,fun {j v} hj=>?_⟩
 obtain ⟨cells',e5,e6⟩:=up (j:=j) (v:=v) hj
 refine ⟨cells',e5,fun {N h' B' ms'} g0 g1 g2 g3 g4 g5 g6=>⟨⟨a,b,rfl,s1.keep (fun n hn=>g3 n (by simp [hn])),e6 g1 g2 (fun row a m hm e=>e.keep (fun n hn=>g3 n (by have:=hm n hn;simp only [List.mem_append] at this ⊢;exact .inr this)))⟩,?_,fun n hn=>?_⟩⟩
 ·have nd':((na++(bb::M1))++((np++(ni++ne))++M2)).Nodup:=by simpa [List.append_assoc] using nd
  have:=jd9 (N:=N) nd' (fun n hn=>g0 n (by simpa [List.append_assoc] using hn)) g5 (fun n hn=>(g6 n hn).1)
  simpa [List.append_assoc] using this
 ·by_cases hm:n∈ms'
  ·have:=g6 n hm
   have hp:=lt bb (by simp)
   have hp2:=g0 bb (by simp)
   rcases this.1 with h4 | h4
   ·have:=lt n (by simp only [List.mem_append,List.mem_cons] at h4 ⊢;exact .inr (.inr (.inr (.inl h4))))
    omega
   ·omega
  ·have:=lt n (by
    simp only [List.mem_append,List.mem_cons] at hn ⊢
    rcases hn with h | h | h | h | h
    ·exact .inl h
    ·exact .inr (.inl h)
    ·exact .inr (.inr (.inl h))
    ·exact absurd h hm
    ·exact .inr (.inr (.inr (.inr h))))
   omega
theorem OF.addI (o:OF h (.agg [a,b]) f na nb) (ok:Ok h) {k:Nat} {B:Ms.Blk} (hk:f.blocks[k]?=some B) (hl:B.instrs.length<=1000) {row:List SV} {x:Ms.Ins} {ms:List Nat} (hr:row.length=3) (hx:OX h row x ms) (hm:ms.Nodup) {N:Nat} (hN:∀ n∈na++nb,n<N) (hNn:N<=h.next) (hf':∀ n∈ms,N<=n/\n<h.next) :
 ∃ bb i i' hM cells cells' nb',jw3 3 (.s b) (vi (k:Int))=some (.s (.ptr bb (k*3)))/\rdB (h.get bb) (k*3+1) 1=some [i]/\jjk (h.push (.arr row 46)) 46 3 56 (.s i) (.s (.slice h.next 0 1 1 true 3))=some (.s i',hM)/\Ok hM/\h.next<=hM.next/\hM.get bb=some (.arr cells 36)/\jbu (k*3+1) [i'] cells=some cells'/\(∀ n,n<h.next->n∉nb->hM.get n=h.get n)/\bb∈nb/\(i=.nilSlice∨∃ c n,i=.slice c 0 n n false 3/\c∈nb/\(h.get c).isSome=true) /\
  OF (hM.put bb (some (.arr cells' 36))) (.agg [a,b]) ⟨f.values,f.blocks.set k { B with instrs:=B.instrs++[x] }⟩ na nb':=by
 obtain ⟨bb,p,i,e,np,ni,ne,ex,M1,M2,cells,e1,e2,e3,h1,h2,h3,rfl,up⟩:=o.at hk
 have lt:=o.lt
 have nd:=o.nd
 have hbb:=lt bb (by simp)
 have hf:∀ n∈ms,n∉na++(bb::(M1++((np++(ni++ne))++M2)))/\1<=n/\n<h.next:=fun n hn=>by
  have h4:=hf' n hn
  have h5:=hN bb (by simp)
  exact ⟨fun hc=>by have:=hN n hc;omega,by omega,h4.2⟩
 have sub:∀ n,n∈ni->n∈na++(bb::(M1++((np++(ni++ne))++M2))):=fun n hn=>by simp [hn]
 obtain ⟨hM,eM,okM,nM,kpM,ktM,slM⟩:=h2.app1 (bytes:=56) (row:=row) (a:=x) (ms:=ms) ok (fun n hn=>lt n (sub n hn)) hr hx (by omega) (by omega)
 have nd2:=(List.nodup_append.1 nd)
 have nd3:=List.nodup_cons.1 nd2.2.1
 have nd4:=List.nodup_append.1 nd3.2
 have nd5:=List.nodup_append.1 nd4.2.1
 have nd6:=List.nodup_append.1 nd5.1
 have nd7:=List.nodup_append.1 nd6.2.1
 have bni:bb∉ni:=fun hc=>nd3.1 (by simp [hc])
 have kbb:=kpM bb hbb.2 bni
 have kna:∀ n∈na++(M1++M2),hM.get n=h.get n:=fun n hn=>by
  have hni:n∉ni:=fun hc=>by
   rcases List.mem_append.1 hn with h4 | h4
   ·exact nd2.2.2 n h4 n (by simp [hc]) rfl
   ·rcases List.mem_append.1 h4 with h4 | h4
    ·exact nd4.2.2 n h4 n (by simp [hc]) rfl
    ·exact nd5.2.2 n (by simp [hc]) n h4 rfl
  exact kpM n (lt n (by
   rcases List.mem_append.1 hn with h4 | h4
   ·simp [h4]
   ·rcases List.mem_append.1 h4 with h4 | h4<;>simp [h4])).2 hni
 have knp:∀ n∈np,hM.get n=h.get n:=fun n hn=>kpM n (lt n (by simp [hn])).2 (fun hc=>nd6.2.2 n hn n (by simp [hc]) rfl)
 have kne:∀ n∈ne,hM.get n=h.get n:=fun n hn=>kpM n (lt n (by simp [hn])).2 (fun hc=>nd7.2.2 n hc n hn rfl)
 have kms:∀ n∈ms,hM.get n=h.get n:=fun n hn=>kpM n (hf n hn).2.2 (fun hc=>(hf n hn).1 (sub n hc))
 obtain ⟨cells',e5,fin⟩:=up (j:=1) (v:=.slice (h.next+1) 0 (B.instrs.length+1) (B.instrs.length+1) false 3) (by omega)
 obtain ⟨hP,eP,okP,nP,xP,gP⟩:=qcw okM hbb.1 (some (.arr cells' 36))
 have kN:∀ n,n≠bb->hP.get n=hM.get n:=gP
 have bms:bb∉ms:=fun hc=>(hf bb hc).1 (by simp)
 refine ⟨bb,i,_,hM,cells,cells',bb::(M1++((np++(((h.next+1)::(ni.tail++ms))++ne))++M2)),e1,qc0 e3 rfl rfl,eM,okM,by omega,kbb.trans e2,e5,fun n hn hc=>kpM n hn (fun h4=>hc (by simp [h4])),by simp,?_,?_⟩
 ·rcases h2 with ⟨_,h4,_⟩ | ⟨_,c,rows,nss,h4,h5,_,rfl⟩
  ·exact .inl h4
  ·exact .inr ⟨c,_,h4,by simp,by rw [h5];rfl⟩
 rw [eP]
 refine fin (N:=N) (B':={ B with instrs:=B.instrs++[x] }) (ms':=np++(((h.next+1)::(ni.tail++ms))++ne)) hN xP ⟨p,_,e,np,_,ne,ex,rfl,h1.keep (fun n hn=>(kN n (fun e=>nd3.1 (by rw [←e];simp [hn]))).trans (knp n hn)),?_,h3.imp (fun n hn=>(kN n (fun e=>nd3.1 (by rw [←e];simp [hn]))).trans (kne n hn)) (fun row a m hm' e'=>e'.keep (fun n hn=>(kN n (fun e=>nd3.1 (by rw [←e];simp [hm' n hn]))).trans (kne n (hm' n hn)))),rfl⟩ ?_ (by omega) ?_ ?_
 ·refine (slM (E':=OX hP) (fun row a m hmm e'=>e'.keep (fun n hn=>?_))).imp (fun n hn=>kN n (fun e=>?_)) (fun _ _ _ _ e=>e)
  ·rcases hmm n hn with h4 | h4
   ·exact (kN n (fun e=>bni (by rw [←e];exact List.mem_of_mem_tail h4))).trans (ktM n h4 nd7.1)
   ·exact (kN n (fun e=>bms (by rw [←e];exact h4))).trans (kms n h4)
  ·subst e
   rcases List.mem_cons.1 hn with h4 | h4
   ·omega
   ·rcases List.mem_append.1 h4 with h4 | h4
    ·exact bni (List.mem_of_mem_tail h4)
    ·exact bms h4
 ·intro n hn
  refine (kN n (fun e=>?_)).trans (kna n hn)
  subst e
  rcases List.mem_append.1 hn with h4 | h4
  ·exact nd2.2.2 n h4 n (by simp) rfl
  ·rcases List.mem_append.1 h4 with h4 | h4
   ·exact nd3.1 (by simp [h4])
   ·exact nd3.1 (by simp [h4])
 ·refine jd9 (N:=N) nd5.1 (fun n hn=>hN n ?_) (jb2 nd7.1 hm (fun n hn hc=>(hf n hn).1 (sub n hc)) (fun hc=>by have:=lt _ (sub _ hc);omega) (fun hc=>by have:=hf' _ hc;omega)) (fun n hn=>?_)
  ·simp only [List.mem_append,List.mem_cons] at hn ⊢
   exact .inr (.inr (.inr (.inl hn)))
  ·rcases List.mem_cons.1 hn with h4 | h4
   ·exact .inr (by omega)
   ·rcases List.mem_append.1 h4 with h4 | h4
    ·exact .inl (List.mem_of_mem_tail h4)
    ·exact .inr (hf' n h4).1
 ·intro n hn
  rcases List.mem_append.1 hn with h4 | h4
  ·have:=lt n (by simp [h4]);exact ⟨.inl (by simp [h4]),by omega⟩
  ·rcases List.mem_append.1 h4 with h4 | h4
   ·rcases List.mem_cons.1 h4 with h4 | h4
    ·exact ⟨.inr (by omega),by omega⟩
    ·rcases List.mem_append.1 h4 with h4 | h4
     ·have h5:=List.mem_of_mem_tail h4
      have:=lt n (sub n h5)
      exact ⟨.inl (by simp [h5]),by omega⟩
     ·have:=hf' n h4
      exact ⟨.inr this.1,by omega⟩
   ·have:=lt n (by simp [h4]);exact ⟨.inl (by simp [h4]),by omega⟩
theorem OF.addB (o:OF h (.agg [a,b]) f na nb) (ok:Ok h) (hl0:f.blocks.length<=1000) {bb:Nat} {rows:List (List SV)} {l:List Ms.Blk} {ms:List Nat} (hr:rdB (h.get bb) 0 (l.length*3)=some rows.flatten) (k':Rows 3 (OB h) rows l ms) (hl:l≠[]) (hl2:l.length<=1000) (hm:ms.Nodup) {N:Nat} (hN1:1<=N) (hN:∀ n∈na++nb,n<N) (hNn:N<=h.next) (hf:∀ n∈ms,N<=n/\n<h.next) :
 ∃ b' h2 nb',jjk h 36 3 72 (.s b) (.s (.slice bb 0 l.length l.length true 3))=some (.s b',h2)/\Ok h2/\h.next<=h2.next/\(∀ n,n<h.next->n∉nb->h2.get n=h.get n)/\OF h2 (.agg [a,b']) ⟨f.values,f.blocks++l⟩ na nb'/\∀ n∈nb',n∈nb∨n∈ms∨h.next<=n:=by
 obtain ⟨⟨a',b',e0,s1,s2⟩,nd,lt⟩:=o
 cases e0
 obtain ⟨d1,d2,d3⟩:=List.nodup_append.1 nd
 have s2':Sl h 36 3 false (OB h) b f.blocks nb:=s2
 obtain ⟨h2,e2,ok2,n2,kp2,sl2⟩:=s2'.app (bytes:=72) (mc':=l.length) (ex':=true) ok (fun n hn=>lt n (by simp [hn])) hr k' hl (by omega) (by omega)
 have kp:∀ n,n<h.next->n∉nb->h2.get n=h.get n:=fun n h1 h3=>kp2 n (by omega) (fun c hc e=>h3 (e▸List.mem_of_mem_head? hc))
 have kt:∀ n∈nb.tail,h2.get n=h.get n:=fun n hn=>kp2 n (by have:=lt n (by simp [List.mem_of_mem_tail hn]);omega) (fun c hc e=>by
  cases nb with
  | nil=>cases hc
  | cons x r =>
   cases hc
   exact (List.nodup_cons.1 d2).1 (e▸hn))
 have km:∀ n∈ms,h2.get n=h.get n:=fun n hn=>kp n (hf n hn).2 (fun hc=>by have:=hN n (by simp [hc]);have:=hf n hn;omega)
 have ka:∀ n∈na,h2.get n=h.get n:=fun n hn=>kp n (lt n (by simp [hn])).2 (fun hc=>d3 n hn n hc rfl)
 refine ⟨_,h2,_,e2,ok2,by omega,kp,⟨⟨a,_,rfl,s1.keep ka,sl2 (fun row a m hmm e=>e.keep (fun n hn=>?_))⟩,?_,fun n hn=>?_⟩,fun n hn=>?_⟩
 ·rcases hmm n hn with hc | hc
  ·exact kt n hc
  ·exact km n hc
 ·refine List.nodup_append.2 ⟨d1,jb2 d2 hm (fun n hn hc=>by have:=hN n (by simp [hc]);have:=hf n hn;omega) (fun hc=>by have:=lt _ (List.mem_append_right _ hc);omega) (fun hc=>by have:=hf _ hc;omega),fun u hu v hv e=>?_⟩
  have hu1:=lt u (List.mem_append_left _ hu)
  have hu2:=hN u (List.mem_append_left _ hu)
  rcases List.mem_cons.1 hv with rfl | hv
  ·omega
  ·rcases List.mem_append.1 hv with hv | hv
   ·exact d3 u hu v (List.mem_of_mem_tail hv) e
   ·have:=hf v hv;omega
 ·rcases List.mem_append.1 hn with hn | hn
  ·have:=lt n (by simp [hn]);omega
  ·rcases List.mem_cons.1 hn with rfl | hn
   ·have:=ok.pos;omega
   ·rcases List.mem_append.1 hn with hn | hn
    ·have:=lt n (List.mem_append_right _ (List.mem_of_mem_tail hn));omega
    ·have:=hf n hn;omega
 ·rcases List.mem_cons.1 hn with rfl | hn
  ·exact .inr (.inr (by omega))
  ·rcases List.mem_append.1 hn with hn | hn
   ·exact .inl (List.mem_of_mem_tail hn)
   ·exact .inr (.inl hn)
theorem OF.value (o:OF h (.agg [a,b]) f na nb) (ok:Ok h) (hl:f.values.length<=1000):∃ a' h2 na',jjk (h.push (.arr [.int .i64 0] 3)) 3 1 8 (.s a) (.s (.slice h.next 0 1 1 true 1))=some (.s a',h2)/\Ok h2/\h.next<=h2.next/\(∀ n,n<h.next->n∉na->h2.get n=h.get n)/\OF h2 (.agg [a',b]) ⟨f.values++[0],f.blocks⟩ na' nb/\∀ n∈na',n∈na∨h.next<=n:=by
 obtain ⟨⟨a',b',e0,s1,s2⟩,nd,lt⟩:=o
 cases e0
 obtain ⟨d1,d2,d3⟩:=List.nodup_append.1 nd
 have s1':Sl h 3 1 false EI a f.values na:=s1
 obtain ⟨h2,e2,ok2,n2,kp2,kt2,sl2⟩:=s1'.app1 (bytes:=8) (row:=[si 0]) (a:=0) (ms:=[]) ok (fun n hn=>lt n (by simp [hn])) rfl ⟨rfl,rfl⟩ (by omega) (by omega)
 have kb:∀ n∈nb,h2.get n=h.get n:=fun n hn=>kp2 n (lt n (by simp [hn])).2 (fun hc=>d3 n hc n hn rfl)
 refine ⟨_,h2,_,e2,ok2,by omega,kp2,⟨⟨_,b,rfl,sl2 (fun _ _ _ _ e=>e),s2.imp kb (fun row a m hm e=>e.keep (fun n hn=>kb n (hm n hn)))⟩,?_,fun n hn=>?_⟩,fun n hn=>?_⟩
 ·have hf:h.next+1∉na:=fun hn=>by have:=lt _ (List.mem_append_left _ hn);omega
  refine List.nodup_append.2 ⟨jb2 d1 .nil (by simp) hf (by simp),d2,fun u hu v hv e=>?_⟩
  rcases List.mem_cons.1 hu with rfl | hu
  ·have:=lt v (by simp [hv]);omega
  ·exact d3 u (List.mem_of_mem_tail (by simpa using hu)) v hv e
 ·rcases List.mem_append.1 hn with hn | hn
  ·rcases List.mem_cons.1 hn with rfl | hn
   ·omega
   ·have:=lt n (List.mem_append_left _ (List.mem_of_mem_tail (by simpa using hn)));omega
  ·have:=lt n (by simp [hn]);omega
 ·rcases List.mem_cons.1 hn with rfl | hn
  ·exact .inr (by omega)
  ·exact .inl (List.mem_of_mem_tail (by simpa using hn))
end
theorem j1x {m:Nat×Nat} {f:Fc} (k:FcOk m f):Szs f:=by
 refine ⟨by have:=k.nv;omega,by have:=k.nb;omega,fun b hb=>?_⟩
 have h1:=k.blk b hb
 refine ⟨by omega,by omega,by omega,fun x hx=>?_,fun e he=>?_⟩
 ·have:=k.ins b hb x hx
  have h2:=this.nops
  have h3:=this.nsp
  omega
 ·obtain ⟨_,_,t,h3,h4,_⟩:=k.edg b hb e he
  have:=congrArg List.length h4
  rw [List.length_map,List.length_map] at this
  have:=k.blk t (List.mem_of_getElem? h3)
  omega
def jp6 (l:List Ms.Opd):Nat:=l.foldl (fun v o=>if o.kind=2 then o.value else v) 0
theorem jl2 {l:List Ms.Opd} {o:Ms.Opd}:jp6 (l++[o])=if o.kind=2 then o.value else jp6 l:=by unfold jp6;rw [List.foldl_append];rfl
end Go.Proofs.Ytaljcpoopmedmaa.Ev
