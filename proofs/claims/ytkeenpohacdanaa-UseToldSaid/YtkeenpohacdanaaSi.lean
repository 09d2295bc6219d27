/- What functions may be: instructions. -/
import Derived.Test.YtkeenpohacdanaaSf
namespace Go.Proofs.Ytkeenpohacdanaa.Ev
open Go Go.RowKit Go.Proofs.Ytkeenpohacdanaa.Ms
attribute [local go_sem] Int.reduceToNat reduceCtorEq Nat.reduceAdd Nat.reduceMul Nat.reduceEqDiff Int.reduceEq Int.reduceLT Int.reduceLE Int.reduceNeg Int.reduceAdd Int.reduceSub Int.reduceMul Int.reduceNe
attribute [local go_sem ↓] reduceIte
set_option linter.all false
set_option maxRecDepth 100000
set_option maxHeartbeats 2000000
variable {x0 x1 x2 x3 x4 x5 x6 x7 x8 x9 x10 x11 x12 x13 x14 x15 x16 x17 x18 x20 x21 x22 x23 x24 x25 x26 x27 x28:AV} {lt:Bool} {a:List Nat} {n v bX kd lm op vl:Nat}
def S5 (f:FuncId):Bool:=Nat.beq f 66||(Nat.beq f 51||Nat.beq f 69)
noncomputable def F5:Fns:=PX S5 F4
theorem qqp {A:Nat->Int}:Env Try.prog A tys F5:=jg1 qqo
theorem no5 {f:FuncId} (h1:S1 f=false) (h2:Nat.beq f jfk.f=false) (h3:S3 f=false) (h4:S4 f=false) (h5:S5 f=false) {vs:List AV} {h:Hp}:jdg F5 f vs h=none:=(jbg h5).trans (no4 h1 h2 h3 h4)
section
variable {h:Hp} {f:Fc} {m:Nat×Nat} {Q:AV->Hp->Prop}
theorem qev (hc:∀ v,cl f.values v<2) (k:OpdOk m f.values ⟨kd,vl,lt,lm,n⟩):WC F5 66 [.agg [jaf jay f.values,jaf ja1 f.blocks],.agg [si m.1,si m.2],.agg [si kd,si vl,.bool lt,si lm,si n]] h Q=Q (vi 0) h :=
 jap (jbh rfl (by simp only[jav,ja3,jbc,jcv,ja4,jbd,ja8,jbt,jbe,jbi,if_true]) (qeo jec hc k))
theorem qew {ops:List Ms.Opd} {sp:List (Nat×Nat)} {u:Ms.Opd} (h1:ops[n]?=some u) (h2:u.kind=1) (h3:u.late=false) (h4:cl f.values u.value=cl f.values vl) (h5:u.value<f.values.length) (h6:vl<f.values.length) :
 WC F5 67 [.agg [jaf jay f.values,jaf ja1 f.blocks],.agg [si op,jaf jbb ops,jaf jdu sp],.agg [si kd,si vl,.bool lt,si lm,si n]] h Q=Q (vi 0) h :=
 jap ((jbg rfl).trans (jbh rfl (by simp only[jav,ja3,jbc,jcv,ja4,jbd,ja8,jbt,jbe,jbi,if_true]) (qej (x:=⟨op,ops,sp⟩) (o:=⟨kd,vl,lt,lm,n⟩) jec h1 h2 h3 h4 h5 h6)))
theorem qex {l:List (Nat×Nat)} (hl:l.length<=10000) (hr:∀ r∈l,r.1<2/\r.2<g2 m r.1) (hord:∀ (i:Nat) (q r:Nat×Nat),l[i]?=some q->l[i+1]?=some r->q.1<r.1∨(q.1=r.1/\q.2<r.2)) :
 WC F5 68 [.agg [si m.1,si m.2],.s (jaf jdu l)] h Q=Q (vi 0) h :=
 jap ((jbg rfl).trans (jbh rfl (by simp only[jav,ja3,jbc,jcv,ja4,jbd,ja8,jbt,jbe,jbi,if_true]) (qek jec hl hr hord)))
theorem qey {ops:List Ms.Opd} {sp:List (Nat×Nat)} (k:InsOk m f.values ⟨op,ops,sp⟩):WC F5 69 [.agg [jaf jay f.values,jaf ja1 f.blocks],.agg [si op,jaf jbb ops,jaf jdu sp]] h Q=Q (vb false) h :=
 jap (jbh rfl (by simp only[jav,ja3,jbc,jcv,ja4,jbd,ja8,jbt,jbe,jbi,if_true]) (qeu jec k))
theorem qbe {c:Nat} {ops:List Ms.Opd} {sp:List (Nat×Nat)} (hc:c<2) (k:InsOk m f.values ⟨op,ops,sp⟩):WC F5 70 [.agg [jaf jay f.values,jaf ja1 f.blocks],.agg [si m.1,si m.2],.agg [si op,jaf jbb ops,jaf jdu sp],vi c] h Q=Q (vb true) h :=
 jap ((jbg rfl).trans (jbh rfl (by simp only[jav,ja3,jbc,jcv,ja4,jbd,ja8,jbt,jbe,jbi,if_true]) (qkn jec hc k)))
end
theorem qbf {f:Fc} {m:Nat×Nat} {l:List Ms.Opd} (hl:l.length<=10000) (hc:∀ v,cl f.values v<2) (hp:∀ o∈l,OpdOk m f.values o) {bF bM:Nat} {Q:Ex->St->Prop} :
 ∀ (d i:Nat) (_:i+d=l.length) {hi:Hp} (_:Ok hi) (_:bF<hi.next/\bM<hi.next) (_:hi.get bF=some (.arr [jaf jay f.values,jaf ja1 f.blocks] 26)) (_:hi.get bM=some (.arr [si m.1,si m.2] 30)) {x19 x20 x21 x25:AV}
  (hQ:∀ hj x19 x20 x21 x25,Ok hj->hi.next<=hj.next->(∀ k,k<hi.next->hj.get k=hi.get k)->Q (.exit 0) (.mk [x0,x1,x2,x3,x4,x5,x6,x7,x8,x9,x10,x11,x12,x13,x14,x15,x16,x17,x18,x19,x20,x21,.s (.ptr bM 0),.s (.ptr bF 0),.s (jaf jbb l),x25,vi l.length,vi l.length,x28,.s (.ptr bX 0)] hj)),
  W F5 jtg.loop (.mk [x0,x1,x2,x3,x4,x5,x6,x7,x8,x9,x10,x11,x12,x13,x14,x15,x16,x17,x18,x19,x20,x21,.s (.ptr bM 0),.s (.ptr bF 0),.s (jaf jbb l),x25,vi l.length,vi i,x28,.s (.ptr bX 0)] hi) Q
 | 0,i,hd,hi,ok,hb,xF,xM,x19,x20,x21,x25,hQ=>by
  obtain rfl:i=l.length:=by omega
  rw[jak]
  unfold jtg
  simp(disch:=first|omega|rfl) only[go_sem,f0v]
  exact hQ hi _ _ _ _ ok (f0e _) (fun _ _=>rfl)
 | d+1,i,hd,hi,ok,hb,xF,xM,x19,x20,x21,x25,hQ=>by
  have hlt:(i:Int)<(l.length:Int):=by omega
  obtain⟨o,hio⟩:∃ y,l[i]?=some y:=⟨_,f0c (by omega)⟩
  have ho:=hp o (f0b hio)
  have hix:=jag (enc:=jbb) (size:=5) hio rfl
  have hs:(i:Int)+1=((i+1:Nat):Int):=by omega
  obtain⟨hA,eA,okA,nA,xA,gA⟩:=jcm ok [.int .i64 0,.int .i64 0,.bool false,.int .i64 0,.int .i64 0] (jbb o) 46
  have yF:=(gA _ hb.1).trans xF
  have yM:=(gA _ hb.2).trans xM
  unfold jbb at xA eA
  rw[jak]
  unfold jtg j5s
  simp(disch:=first|omega|rfl) only[go_sem,jad,eq_true hlt,hix,jbb,eA,xA,yF,yM,qev hc ho,hs]
  exact qbf hl hc hp d (i+1) (by omega) okA ⟨by omega,by omega⟩ yF yM (fun hj x19 x20 x21 x25 o n g=>hQ hj x19 x20 x21 x25 o (by omega) (fun k hk=>(g k (by omega)).trans (gA k hk)))
theorem qbg {f:Fc} {m:Nat×Nat} {x:Ms.Ins} (k:InsOk m f.values x) {bF:Nat} {x19:AV} {Q:Ex->St->Prop} :
 ∀ (d i:Nat) (_:i+d=x.ops.length) {hi:Hp} (_:Ok hi) (_:bF<hi.next/\bX<hi.next) (_:hi.get bF=some (.arr [jaf jay f.values,jaf ja1 f.blocks] 26)) (_:hi.get bX=some (.arr [si x.op,jaf jbb x.ops,jaf jdu x.spoils] 44)) {x11 x12 x13 x14 x16:AV}
  (hQ:∀ hj x11 x12 x13 x14 x16,Ok hj->hi.next<=hj.next->(∀ k,k<hi.next->hj.get k=hi.get k)->Q (.exit 2) (.mk [x0,x1,x2,x3,x4,x5,x6,x7,x8,x9,x10,x11,x12,x13,x14,.s (jaf jbb x.ops),x16,vi x.ops.length,vi x.ops.length,x19,x20,x21,x22,.s (.ptr bF 0),x24,x25,x26,x27,x28,.s (.ptr bX 0)] hj)),
  W F5 jpa.loop (.mk [x0,x1,x2,x3,x4,x5,x6,x7,x8,x9,x10,x11,x12,x13,x14,.s (jaf jbb x.ops),x16,vi x.ops.length,vi i,x19,x20,x21,x22,.s (.ptr bF 0),x24,x25,x26,x27,x28,.s (.ptr bX 0)] hi) Q
 | 0,i,hd,hi,ok,hb,xF,xX,x11,x12,x13,x14,x16,hQ=>by
  obtain rfl:i=x.ops.length:=by omega
  rw[jak]
  unfold jpa
  simp(disch:=first|omega|rfl) only[go_sem,f0v]
  exact hQ hi _ _ _ _ _ ok (f0e _) (fun _ _=>rfl)
 | d+1,i,hd,hi,ok,hb,xF,xX,x11,x12,x13,x14,x16,hQ=>by
  have hlt:(i:Int)<(x.ops.length:Int):=by omega
  have hno:=k.nops
  obtain⟨o,hio⟩:∃ y,x.ops[i]?=some y:=⟨_,f0c (by omega)⟩
  have hom:=f0b hio
  have ho:=k.opd o hom
  have hix:=jag (enc:=jbb) (size:=5) hio rfl
  have hs:(i:Int)+1=((i+1:Nat):Int):=by omega
  obtain⟨hA,eA,okA,nA,xA,gA⟩:=jcm ok [.int .i64 0,.int .i64 0,.bool false,.int .i64 0,.int .i64 0] (jbb o) 46
  have yF:=(gA _ hb.1).trans xF
  have yX:=(gA _ hb.2).trans xX
  have fin:∀ (x11 x12 x13 x14:AV),W F5 jpa.loop (.mk [x0,x1,x2,x3,x4,x5,x6,x7,x8,x9,x10,x11,x12,x13,x14,.s (jaf jbb x.ops),vb true,vi x.ops.length,vi (i+1:Nat),x19,x20,x21,x22,.s (.ptr bF 0),x24,x25,x26,x27,x28,.s (.ptr bX 0)] hA) Q:=fun x11 x12 x13 x14 =>
   qbg k d (i+1) (by omega) okA ⟨by omega,by omega⟩ yF yX (fun hj x11 x12 x13 x14 x16 o n g=>hQ hj x11 x12 x13 x14 x16 o (by omega) (fun k hk=>(g k (by omega)).trans (gA k hk)))
  unfold jbb at xA eA
  rw[jak]
  unfold jpa j5u
  by_cases e:o.limit=5
  .have c1:((o.limit:Int)≠5)=False:=by simp;omega
   obtain⟨u,h1,h2,h3,h4⟩:=k.reu o hom e
   have h5:=(k.opd u (f0b h1)).val
   simp(disch:=first|omega|rfl) only[go_sem,jad,eq_true hlt,hix,jbb,eA,xA,c1]
   unfold j5t
   simp(disch:=first|omega|rfl) only[go_sem,jad,xA,yF,yX,qew h1 h2 h3 h4 h5 ho.val,hs]
   exact fin _ _ _ _
  .have c1:((o.limit:Int)≠5)=True:=by simp;omega
   simp(disch:=first|omega|rfl) only[go_sem,jad,eq_true hlt,hix,jbb,eA,xA,c1,hs]
   exact fin _ _ _ _
theorem qez {h:Hp} (ok:Ok h) {f:Fc} {m:Nat×Nat} {x:Ms.Ins} (hc:∀ v,cl f.values v<2) (k:InsOk m f.values x):WC F5 50 [.agg [jaf jay f.values,jaf ja1 f.blocks],.agg [si m.1,si m.2],.agg [si x.op,jaf jbb x.ops,jaf jdu x.spoils]] h (fun v h'=>∃ d,jfq true h' d v=some (vi 0)):=by
 refine ja9 (no5 rfl rfl rfl rfl rfl) qn6 rfl ?_
 unfold qa4
 have hno:=k.nops
 have hns:=k.nsp
 have hop:=k.op
 obtain⟨hA,eA,okA,nA,xA,gA⟩:=jed ok [jaf jay f.values,jaf ja1 f.blocks] 26
 obtain⟨hB,eB,okB,nB,xB,gB⟩:=jed okA [si m.1,si m.2] 30
 obtain⟨hC,eC,okC,nC,xC,gC⟩:=jed okB [si x.op,jaf jbb x.ops,jaf jdu x.spoils] 44
 have yA:=(gC _ (by omega)).trans ((gB _ (by omega)).trans xA)
 have yB:=(gC _ (by omega)).trans xB
 have nb:hB.next=h.next+2:=by omega
 rw[nA] at yB
 rw[nb] at xC
 have c1:((x.op:Int)<0)=False:=by simp
 have c2:(255<(x.op:Int))=False:=by simp;omega
 have l1:=jaj (enc:=jbb) (l:=x.ops)
 have k0:InsOk m f.values ⟨x.op,x.ops,x.spoils⟩:=k
 simp(disch:=first|omega|rfl) only[go_sem,eA,eB,eC,nA,nb,xC,c1,c2]
 unfold j5z
 simp(disch:=first|omega|rfl) only[go_sem,xC,l1]
 refine qbf (by omega) hc k.opd x.ops.length 0 (by omega) okC ⟨by omega,by omega⟩ yA yB (fun hj x19 x20 x21 x25 o n g=>?_)
 have zA:=(g _ (by omega)).trans yA
 have zB:=(g _ (by omega)).trans yB
 have zC:=(g _ (by omega)).trans xC
 simp(disch:=first|omega|rfl) only[go_sem,zC,l1]
 refine qbg k x.ops.length 0 (by omega) o ⟨by omega,by omega⟩ zA zC (fun hj x11 x12 x13 x14 x16 o n g=>?_)
 have vA:=(g _ (by omega)).trans zA
 have vB:=(g _ (by omega)).trans zB
 have vC:=(g _ (by omega)).trans zC
 simp(disch:=first|omega|rfl) only[go_sem,vB,vC,qex (m:=m) (l:=x.spoils) (by omega) k.spo k.ord]
 unfold j5y
 simp(disch:=first|omega|rfl) only[go_sem,vA,vC,qey k0]
 unfold j5x
 simp(disch:=first|omega|rfl) only[go_sem]
 rw[jak]
 unfold j5w j5v
 have w0:=fun {h:Hp} {Q:AV->Hp->Prop}=>qbe (h:=h) (Q:=Q) (c:=0) (by omega) k0
 have w1:=fun {h:Hp} {Q:AV->Hp->Prop}=>qbe (h:=h) (Q:=Q) (c:=1) (by omega) k0
 simp only[f2a,f2g] at w0 w1
 simp(disch:=first|omega|rfl) only[go_sem,jad,vA,vB,vC,w0]
 rw[jak]
 simp(disch:=first|omega|rfl) only[go_sem,jad,vA,vB,vC,w1]
 rw[jak]
 simp(disch:=first|omega|rfl) only[go_sem]
 exact⟨1,rfl⟩
theorem qbh (x:SV):∀ n,rep [x] n=List.replicate n x
 | 0=>rfl
 | n+1=>by
  have h:rep [x] (n+1)=jgg [x] (rep [x] n):=rfl
  rw[h,jc4,qbh x n];rfl
theorem jpc {α:Type} {c:α}:∀ {l:List α} {i:Nat},i<l.length->jbm i [c] l=some (l.set i c)
 | [],i,h=>by simp at h
 | a::l,0,h=>by
  cases l<;>rfl
 | a::l,i+1,h=>by
  rw[jde,jpc (by simpa using h)];rfl
def bls (s:List Bool):List SV:=s.map SV.bool
theorem qe0 {h:Hp} {f:Fc} {Q:AV->Hp->Prop} (hv:v<f.values.length):WC F5 71 [.agg [jaf jay f.values,jaf ja1 f.blocks],vi v] h Q=Q (vb true) h:=jap ((jbg rfl).trans (qbc hv))
theorem qe1 {hi:Hp} (ok:Ok hi) {f:Fc} {bF bM bA:Nat} {s:List Bool} (hv:v<f.values.length) (hs:s.length=f.values.length) (hp:1<=bA) (xF:hi.get bF=some (.arr [jaf jay f.values,jaf ja1 f.blocks] 26)) (xM:hi.get bM=some (.arr [.slice bA 0 f.values.length f.values.length true 1] 105)) (xA:hi.get bA=some (.arr (bls s) 4)) :
 WC F5 72 [vi v,.s (.ptr bF 0),.s (.ptr bM 0)] hi (fun u h'=>(s[v]?=some true->u=vi 7/\h'=hi)/\(s[v]?=some false->u=vi 0/\Ok h'/\h'.next=hi.next/\h'.get bA=some (.arr (bls (s.set v true)) 4)/\∀ k,k≠bA->h'.get k=hi.get k)):=by
 refine ja9 (no5 rfl rfl rfl rfl rfl) qn8 rfl ?_
 unfold qa6
 have hvs:v<s.length:=by omega
 obtain⟨b,hb⟩:∃ b,s[v]?=some b:=⟨_,f0c hvs⟩
 have hcell:(bls s)[v]?=some (.bool b):=by unfold bls;rw[f08,hb];rfl
 have hrd:rdB (hi.get bA) v 1=some [.bool b]:=by rw[xA];exact j5d hcell
 have hix:=jbf (size:=1) (b:=bA) (off:=0) (len:=f.values.length) (mc:=f.values.length) (sz:=1) (ex:=true) (m:=v) hv
 rw[f0w,f3k] at hix
 simp(disch:=first|omega|rfl) only[go_sem,xF,qe0 hv]
 unfold j58
 cases b with
 | true =>
  simp(disch:=first|omega|rfl) only[go_sem,xM,hix,hrd,hb]
  exact⟨fun _=>trivial,fun h=>by cases h⟩
 | false =>
  have hset:wrB hi bA (hi.get bA) v [.bool true]=some (hi.put bA (some (.arr (bls (s.set v true)) 4))):=by
   rw[xA,joi,jpc (by unfold bls;rw[f1a];exact hvs)]
   show some (hi.put bA (some (.arr ((bls s).set v (.bool true)) 4)))=_
   unfold bls
   rw[List.map_set]
  simp(disch:=first|omega|rfl) only[go_sem,xM,hix,hrd]
  unfold j57
  simp(disch:=first|omega|rfl) only[go_sem,xM,hix,hset]
  exact⟨fun h=>(by rw[hb] at h;cases h),fun _=>⟨jao ok,fun k hk=>by rw[if_neg hk]⟩⟩
def jka:List Bool->List Nat->Option (List Bool)
 | s,[]=>some s
 | s,v::l=>if s[v]?=some true then none else jka (s.set v true) l
theorem jtp:∀ (a b:List Nat) (s:List Bool),jka s (a++b)=(jka s a).bind (fun t=>jka t b)
 | [],b,s=>rfl
 | v::a,b,s=>by
  show(if s[v]?=some true then none else jka (s.set v true) (a++b))=(if s[v]?=some true then none else jka (s.set v true) a).bind _
  split
  .rfl
  .exact jtp a b _
structure OnI (hi:Hp) (f:Fc) (bF bM bA:Nat) (s:List Bool):Prop where
 ok:Ok hi
 hs:s.length=f.values.length
 lt:bF<hi.next/\bM<hi.next/\bA<hi.next
 pos:1<=bA/\bF≠bA/\bM≠bA
 xF:hi.get bF=some (.arr [jaf jay f.values,jaf ja1 f.blocks] 26)
 xM:hi.get bM=some (.arr [.slice bA 0 f.values.length f.values.length true 1] 105)
 xA:hi.get bA=some (.arr (bls s) 4)
section
variable {hi hj:Hp} {f:Fc} {bF bM bA:Nat} {s:List Bool}
theorem OnI.keep (k:OnI hi f bF bM bA s) (ok:Ok hj) (hn:hi.next<=hj.next) (g:∀ n,n<hi.next->hj.get n=hi.get n):OnI hj f bF bM bA s :=
 ⟨ok,k.hs,⟨f0n k.lt.1 hn,f0n k.lt.2.1 hn,f0n k.lt.2.2 hn⟩,k.pos,(g _ k.lt.1).trans k.xF,(g _ k.lt.2.1).trans k.xM,(g _ k.lt.2.2).trans k.xA⟩
theorem OnI.tell (k:OnI hi f bF bM bA s) (hv:v<f.values.length):WC F5 72 [vi v,.s (.ptr bF 0),.s (.ptr bM 0)] hi (fun u h'=>(s[v]?=some true/\u=vi 7)∨(s[v]?≠some true/\u=vi 0/\OnI h' f bF bM bA (s.set v true)/\h'.next=hi.next/\∀ n,n≠bA->h'.get n=hi.get n)) :=
 WC.imp (qe1 k.ok hv k.hs k.pos.1 k.xF k.xM k.xA) (fun u h' ⟨h1,h2⟩=>by
  obtain⟨b,hb⟩:∃ b,s[v]?=some b:=⟨_,f0c (by rw[k.hs];exact hv)⟩
  cases b with
  | true=>exact .inl ⟨hb,(h1 hb).1⟩
  | false =>
   obtain⟨e,o,n,g,kp⟩:=h2 hb
   exact .inr ⟨by rw[hb];simp,e,⟨o,by rw[f3i];exact k.hs,by rw[n];exact k.lt,k.pos,(kp _ k.pos.2.1).trans k.xF,(kp _ k.pos.2.2).trans k.xM,g⟩,n,kp⟩)
end
def clo (bF bM:Nat):AV:=.s (.func 72 [(bF,0),(bM,0)])
theorem qbi {f:Fc} {ps:List Nat} {bF bM bA:Nat} (hl:ps.length<=10000) (hp:∀ v∈ps,v<f.values.length) {Q:Ex->St->Prop} :
 ∀ (rest done:List Nat) (_:done++rest=ps) {s:List Bool} {hi:Hp} (_:OnI hi f bF bM bA s) {x16 x17 x18 x21:AV}
  (hQ:∀ t,jka s rest=some t->∀ hj x16 x17 x18 x21,OnI hj f bF bM bA t->hi.next<=hj.next->(∀ n,n<hi.next->n≠bA->hj.get n=hi.get n)->Q (.exit 2) (.mk [x0,x1,x2,x3,x4,x5,x6,x7,x8,x9,x10,x11,x12,x13,x14,x15,x16,x17,x18,clo bF bM,.s (jaf jay ps),x21,vi ps.length,vi ps.length,x24,x25,x26,x27,x28,.s (.ptr bM 0),.s (.ptr bF 0)] hj))
  (hN:jka s rest=none->∀ hj x2 x3 x4 x5 x6 x7 x8 x9 x10 x11 x12 x13 x14 x15 x16 x17 x18 x19 x20 x21 x22 x23 x24 x25 x26 x27 x28 x29 x30,Q .ret (.mk [x0,vi 7,x2,x3,x4,x5,x6,x7,x8,x9,x10,x11,x12,x13,x14,x15,x16,x17,x18,x19,x20,x21,x22,x23,x24,x25,x26,x27,x28,x29,x30] hj)),
  W F5 jth.loop (.mk [x0,x1,x2,x3,x4,x5,x6,x7,x8,x9,x10,x11,x12,x13,x14,x15,x16,x17,x18,clo bF bM,.s (jaf jay ps),x21,vi ps.length,vi done.length,x24,x25,x26,x27,x28,.s (.ptr bM 0),.s (.ptr bF 0)] hi) Q
 | [],done,hdn,s,hi,I,x16,x17,x18,x21,hQ,hN=>by
  rw[f07] at hdn
  subst hdn
  rw[jak]
  unfold jth
  simp(disch:=first|omega|rfl) only[go_sem,f0v]
  exact hQ s rfl hi _ _ _ _ I (f0e _) (fun _ _ _=>rfl)
 | v::rest,done,hdn,s,hi,I,x16,x17,x18,x21,hQ,hN=>by
  have hlt1:done.length<ps.length:=by rw[←hdn];simp
  have hlt:(done.length:Int)<ps.length:=by omega
  have hget:ps[done.length]?=some v:=by rw[←hdn];simp
  have hv:=hp v (f0b hget)
  have hix:=jag (enc:=jay) (size:=1) hget rfl
  have hdn':(done++[v])++rest=ps:=by rw[←hdn];simp
  have hs:(done.length:Int)+1=(((done++[v]).length:Nat):Int):=by simp
  rw[jak]
  unfold jth j51 clo
  simp(disch:=first|omega|rfl) only[go_sem,jad,eq_true hlt,hix,jay]
  rw[jzi rfl]
  simp(disch:=first|omega|rfl) only[go_sem]
  refine WC.imp (I.tell hv) ?_
  rintro u h' (⟨h1,rfl⟩ | ⟨h1,rfl,I',n',k'⟩)
  .simp (disch:=first|omega|rfl) only[go_sem]
   exact hN (by unfold jka;rw[if_pos h1]) ..
  .simp (disch:=first|omega|rfl) only[go_sem,jad,hs]
   exact qbi hl hp rest (done++[v]) hdn' I' (fun t ht hj x16 x17 x18 x21 J n g=>hQ t (by unfold jka;rw[if_neg h1];exact ht) hj x16 x17 x18 x21 J (by omega) (fun m hm hne=>(g m (by omega) hne).trans (k' m hne))) (fun ht=>hN (by unfold jka;rw[if_neg h1];exact ht))
def dfO (l:List Ms.Opd):List Nat:=(l.filter (fun o=>o.kind=2)).map (·.value)
theorem jil {b:List Nat} {s t:List Bool} (h:jka s a=some t):jka s (a++b)=jka t b:=by rw[jtp,h];rfl
theorem jyc {b:List Nat} {s:List Bool} (h:jka s a=none):jka s (a++b)=none:=by rw[jtp,h];rfl
theorem j6o {f:Fc} {l:List Ms.Opd} {bF bM bA:Nat} (hl:l.length<=10000) (hp:∀ o∈l,o.value<f.values.length) {Q:Ex->St->Prop} :
 ∀ (rest done:List Ms.Opd) (_:done++rest=l) {s:List Bool} {hi:Hp} (_:OnI hi f bF bM bA s) {x3 x4 x5 x6 x8:AV}
  (hQ:∀ t,jka s (dfO rest)=some t->∀ hj x3 x4 x5 x6 x8,OnI hj f bF bM bA t->hi.next<=hj.next->(∀ n,n<hi.next->n≠bA->hj.get n=hi.get n)->Q (.exit 6) (.mk [x0,x1,x2,x3,x4,x5,x6,.s (jaf jbb l),x8,vi l.length,vi l.length,x11,x12,x13,x14,x15,x16,x17,x18,clo bF bM,x20,x21,x22,x23,x24,x25,x26,x27,x28,.s (.ptr bM 0),.s (.ptr bF 0)] hj))
  (hN:jka s (dfO rest)=none->∀ hj x2 x3 x4 x5 x6 x7 x8 x9 x10 x11 x12 x13 x14 x15 x16 x17 x18 x19 x20 x21 x22 x23 x24 x25 x26 x27 x28 x29 x30,Q .ret (.mk [x0,vi 7,x2,x3,x4,x5,x6,x7,x8,x9,x10,x11,x12,x13,x14,x15,x16,x17,x18,x19,x20,x21,x22,x23,x24,x25,x26,x27,x28,x29,x30] hj)),
  W F5 jti.loop (.mk [x0,x1,x2,x3,x4,x5,x6,.s (jaf jbb l),x8,vi l.length,vi done.length,x11,x12,x13,x14,x15,x16,x17,x18,clo bF bM,x20,x21,x22,x23,x24,x25,x26,x27,x28,.s (.ptr bM 0),.s (.ptr bF 0)] hi) Q
 | [],done,hdn,s,hi,I,x3,x4,x5,x6,x8,hQ,hN=>by
  rw[f07] at hdn
  subst hdn
  rw[jak]
  unfold jti
  simp(disch:=first|omega|rfl) only[go_sem,f0v]
  exact hQ s rfl hi _ _ _ _ _ I (f0e _) (fun _ _ _=>rfl)
 | o::rest,done,hdn,s,hi,I,x3,x4,x5,x6,x8,hQ,hN=>by
  have hlt1:done.length<l.length:=by rw[←hdn];simp
  have hlt:(done.length:Int)<l.length:=by omega
  have hget:l[done.length]?=some o:=by rw[←hdn];simp
  have hv:=hp o (f0b hget)
  have hix:=jag (enc:=jbb) (size:=5) hget rfl
  have hdn':(done++[o])++rest=l:=by rw[←hdn];simp
  have hs:(done.length:Int)+1=(((done++[o]).length:Nat):Int):=by simp
  have ok:=I.ok
  obtain⟨hA,eA,okA,nA,xA,gA⟩:=jcm ok [.int .i64 0,.int .i64 0,.bool false,.int .i64 0,.int .i64 0] (jbb o) 46
  have IA:=I.keep okA (by omega) gA
  unfold jbb at xA eA
  rw[jak]
  unfold jti j53 clo
  by_cases e:o.kind=2
  .have c1:((o.kind:Int)≠2)=False:=by simp;omega
   have ed:dfO (o::rest)=o.value::dfO rest:=by unfold dfO;rw[List.filter_cons_of_pos (by simpa using e)];rfl
   simp(disch:=first|omega|rfl) only[go_sem,jad,eq_true hlt,hix,jbb,eA,xA,c1]
   unfold j52
   simp(disch:=first|omega|rfl) only[go_sem,xA]
   rw[jzi rfl]
   simp(disch:=first|omega|rfl) only[go_sem]
   refine WC.imp (IA.tell hv) ?_
   rintro u h' (⟨h1,rfl⟩ | ⟨h1,rfl,I',n',k'⟩)
   .simp (disch:=first|omega|rfl) only[go_sem]
    exact hN (by rw[ed];unfold jka;rw[if_pos h1]) ..
   .simp (disch:=first|omega|rfl) only[go_sem,jad,hs]
    exact j6o hl hp rest (done++[o]) hdn' I' (fun t ht hj x3 x4 x5 x6 x8 J n g=>hQ t (by rw[ed];unfold jka;rw[if_neg h1];exact ht) hj x3 x4 x5 x6 x8 J (by omega) (fun m hm hne=>(g m (by omega) hne).trans ((k' m hne).trans (gA m hm)))) (fun ht=>hN (by rw[ed];unfold jka;rw[if_neg h1];exact ht))
  .have c1:((o.kind:Int)≠2)=True:=by simp;omega
   have ed:dfO (o::rest)=dfO rest:=by unfold dfO;rw[List.filter_cons_of_neg (by simpa using e)]
   simp(disch:=first|omega|rfl) only[go_sem,jad,eq_true hlt,hix,jbb,eA,xA,c1,hs]
   exact j6o hl hp rest (done++[o]) hdn' IA (fun t ht hj x3 x4 x5 x6 x8 J n g=>hQ t (by rw[ed];exact ht) hj x3 x4 x5 x6 x8 J (by omega) (fun m hm hne=>(g m (by omega) hne).trans (gA m hm))) (fun ht=>hN (by rw[ed];exact ht))
theorem qbj {f:Fc} {l:List Ms.Ins} {bF bM bA:Nat} (hl:l.length<=10000) (hp:∀ x∈l,x.ops.length<=6/\∀ o∈x.ops,o.value<f.values.length) {Q:Ex->St->Prop} :
 ∀ (rest done:List Ms.Ins) (_:done++rest=l) {s:List Bool} {hi:Hp} (_:OnI hi f bF bM bA s) {x3 x4 x5 x6 x7 x8 x9 x10 x11 x13:AV}
  (hQ:∀ t,jka s (rest.map jb3).flatten=some t->∀ hj x3 x4 x5 x6 x7 x8 x9 x10 x11 x13,OnI hj f bF bM bA t->hi.next<=hj.next->(∀ n,n<hi.next->n≠bA->hj.get n=hi.get n)->Q (.exit 4) (.mk [x0,x1,x2,x3,x4,x5,x6,x7,x8,x9,x10,x11,.s (jaf jdz l),x13,vi l.length,vi l.length,x16,x17,x18,clo bF bM,x20,x21,x22,x23,x24,x25,x26,x27,x28,.s (.ptr bM 0),.s (.ptr bF 0)] hj))
  (hN:jka s (rest.map jb3).flatten=none->∀ hj x2 x3 x4 x5 x6 x7 x8 x9 x10 x11 x12 x13 x14 x15 x16 x17 x18 x19 x20 x21 x22 x23 x24 x25 x26 x27 x28 x29 x30,Q .ret (.mk [x0,vi 7,x2,x3,x4,x5,x6,x7,x8,x9,x10,x11,x12,x13,x14,x15,x16,x17,x18,x19,x20,x21,x22,x23,x24,x25,x26,x27,x28,x29,x30] hj)),
  W F5 jtj.loop (.mk [x0,x1,x2,x3,x4,x5,x6,x7,x8,x9,x10,x11,.s (jaf jdz l),x13,vi l.length,vi done.length,x16,x17,x18,clo bF bM,x20,x21,x22,x23,x24,x25,x26,x27,x28,.s (.ptr bM 0),.s (.ptr bF 0)] hi) Q
 | [],done,hdn,s,hi,I,x3,x4,x5,x6,x7,x8,x9,x10,x11,x13,hQ,hN=>by
  rw[f07] at hdn
  subst hdn
  rw[jak]
  unfold jtj
  simp(disch:=first|omega|rfl) only[go_sem,f0v]
  exact hQ s rfl hi _ _ _ _ _ _ _ _ _ _ I (f0e _) (fun _ _ _=>rfl)
 | x::rest,done,hdn,s,hi,I,x3,x4,x5,x6,x7,x8,x9,x10,x11,x13,hQ,hN=>by
  have hlt1:done.length<l.length:=by rw[←hdn];simp
  have hlt:(done.length:Int)<l.length:=by omega
  have hget:l[done.length]?=some x:=by rw[←hdn];simp
  have hv:=hp x (f0b hget)
  have hix:=jag (enc:=jdz) (size:=3) hget rfl
  have hdn':(done++[x])++rest=l:=by rw[←hdn];simp
  have hs:(done.length:Int)+1=(((done++[x]).length:Nat):Int):=by simp
  have ok:=I.ok
  obtain⟨hA,eA,okA,nA,xA,gA⟩:=jcm ok [.int .i64 0,.nilSlice,.nilSlice] (jdz x) 44
  have IA:=I.keep okA (by omega) gA
  have l1:=jaj (enc:=jbb) (l:=x.ops)
  have ed:((x::rest).map jb3).flatten=dfO x.ops++(rest.map jb3).flatten:=rfl
  unfold jdz at xA eA
  rw[jak]
  unfold jtj j54
  simp(disch:=first|omega|rfl) only[go_sem,jad,eq_true hlt,hix,jdz,eA,xA,l1]
  refine j6o (by omega) hv.2 x.ops [] rfl IA (fun t ht hj x3 x4 x5 x6 x8 J n g=>?_) (fun ht=>?_)
  .simp (disch:=first|omega|rfl) only[go_sem,jad,hs]
   exact qbj hl hp rest (done++[x]) hdn' J (fun t' ht' hk x3 x4 x5 x6 x7 x8 x9 x10 x11 x13 J' n' g'=>hQ t' (by rw[ed,jil ht];exact ht') hk x3 x4 x5 x6 x7 x8 x9 x10 x11 x13 J' (by omega) (fun m hm hne=>(g' m (by omega) hne).trans ((g m (by omega) hne).trans (gA m hm)))) (fun ht'=>hN (by rw[ed,jil ht];exact ht'))
  .intro hj x2 x3 x4 x5 x6 x7 x8 x9 x10 x11 x12 x13 x14 x15 x16 x17 x18 x19 x20 x21 x22 x23 x24 x25 x26 x27 x28 x29 x30
   simp(disch:=first|omega|rfl) only[go_sem]
   exact hN (by rw[ed,jyc ht]) ..
theorem qbk {f:Fc} {bF bM bA:Nat} (hl:f.blocks.length<=10000) (hp:∀ b∈f.blocks,b.params.length<=10000/\b.instrs.length<=10000/\(∀ v∈b.params,v<f.values.length)/\∀ x∈b.instrs,x.ops.length<=6/\∀ o∈x.ops,o.value<f.values.length) {Q:Ex->St->Prop} :
 ∀ (rest done:List Blk) (_:done++rest=f.blocks) {s:List Bool} {hi:Hp} (_:OnI hi f bF bM bA s) {x3 x4 x5 x6 x7 x8 x9 x10 x11 x12 x13 x14 x15 x16 x17 x18 x20 x21 x22 x23 x24 x26:AV}
  (hQ:∀ t,jka s (jb4 rest)=some t->∀ hj x3 x4 x5 x6 x7 x8 x9 x10 x11 x12 x13 x14 x15 x16 x17 x18 x20 x21 x22 x23 x24 x26,OnI hj f bF bM bA t->Q (.exit 0) (.mk [x0,x1,x2,x3,x4,x5,x6,x7,x8,x9,x10,x11,x12,x13,x14,x15,x16,x17,x18,clo bF bM,x20,x21,x22,x23,x24,.s (jaf ja1 f.blocks),x26,vi f.blocks.length,vi f.blocks.length,.s (.ptr bM 0),.s (.ptr bF 0)] hj))
  (hN:jka s (jb4 rest)=none->∀ hj x2 x3 x4 x5 x6 x7 x8 x9 x10 x11 x12 x13 x14 x15 x16 x17 x18 x19 x20 x21 x22 x23 x24 x25 x26 x27 x28 x29 x30,Q .ret (.mk [x0,vi 7,x2,x3,x4,x5,x6,x7,x8,x9,x10,x11,x12,x13,x14,x15,x16,x17,x18,x19,x20,x21,x22,x23,x24,x25,x26,x27,x28,x29,x30] hj)),
  W F5 jtk.loop (.mk [x0,x1,x2,x3,x4,x5,x6,x7,x8,x9,x10,x11,x12,x13,x14,x15,x16,x17,x18,clo bF bM,x20,x21,x22,x23,x24,.s (jaf ja1 f.blocks),x26,vi f.blocks.length,vi done.length,.s (.ptr bM 0),.s (.ptr bF 0)] hi) Q
 | [],done,hdn,s,hi,I,x3,x4,x5,x6,x7,x8,x9,x10,x11,x12,x13,x14,x15,x16,x17,x18,x20,x21,x22,x23,x24,x26,hQ,hN=>by
  rw[f07] at hdn
  rw[jak,hdn]
  unfold jtk
  simp(disch:=first|omega|rfl) only[go_sem,f0v]
  exact hQ s rfl hi _ _ _ _ _ _ _ _ _ _ _ _ _ _ _ _ _ _ _ _ _ _ I
 | b::rest,done,hdn,s,hi,I,x3,x4,x5,x6,x7,x8,x9,x10,x11,x12,x13,x14,x15,x16,x17,x18,x20,x21,x22,x23,x24,x26,hQ,hN=>by
  have hlt1:done.length<f.blocks.length:=by rw[←hdn];simp
  have hlt:(done.length:Int)<f.blocks.length:=by omega
  have hget:f.blocks[done.length]?=some b:=by rw[←hdn];simp
  obtain⟨p1,p2,p3,p4⟩:=hp b (f0b hget)
  have hix:=jag (enc:=ja1) (size:=3) hget rfl
  have hdn':(done++[b])++rest=f.blocks:=by rw[←hdn];simp
  have hs:(done.length:Int)+1=(((done++[b]).length:Nat):Int):=by simp
  have ok:=I.ok
  obtain⟨hA,eA,okA,nA,xA,gA⟩:=jcm ok [.nilSlice,.nilSlice,.nilSlice] (ja1 b) 36
  have IA:=I.keep okA (by omega) gA
  have l1:=jaj (enc:=jay) (l:=b.params)
  have l2:=jaj (enc:=jdz) (l:=b.instrs)
  have ed:jb4 (b::rest)=b.params++((b.instrs.map jb3).flatten++jb4 rest):=by simp[jb4,jjt]
  have hneA:hi.next≠bA:=by have:=I.lt;omega
  unfold ja1 at xA eA
  rw[jak]
  unfold jtk j55
  simp(disch:=first|omega|rfl) only[go_sem,jad,eq_true hlt,hix,ja1,eA,xA,l1]
  refine qbi p1 p3 b.params [] rfl IA (fun t ht hj x16 x17 x18 x21 J n g=>?_) (fun ht=>?_)
  .have xJ:=(g _ (by omega) hneA).trans xA
   simp(disch:=first|omega|rfl) only[go_sem,xJ,l2]
   refine qbj p2 p4 b.instrs [] rfl J (fun t' ht' hk x3 x4 x5 x6 x7 x8 x9 x10 x11 x13 J' n' g'=>?_) (fun ht'=>?_)
   .simp (disch:=first|omega|rfl) only[go_sem,jad,hs]
    exact qbk hl hp rest (done++[b]) hdn' J' (fun t2 ht2=>hQ t2 (by rw[ed,jil ht,jil ht'];exact ht2)) (fun ht2=>hN (by rw[ed,jil ht,jil ht'];exact ht2))
   .intro hj x2 x3 x4 x5 x6 x7 x8 x9 x10 x11 x12 x13 x14 x15 x16 x17 x18 x19 x20 x21 x22 x23 x24 x25 x26 x27 x28 x29 x30
    simp(disch:=first|omega|rfl) only[go_sem]
    exact hN (by rw[ed,jil ht,jyc ht']) ..
  .intro hj x2 x3 x4 x5 x6 x7 x8 x9 x10 x11 x12 x13 x14 x15 x16 x17 x18 x19 x20 x21 x22 x23 x24 x25 x26 x27 x28 x29 x30
   simp(disch:=first|omega|rfl) only[go_sem]
   exact hN (by rw[ed,jyc ht]) ..
end Go.Proofs.Ytkeenpohacdanaa.Ev
