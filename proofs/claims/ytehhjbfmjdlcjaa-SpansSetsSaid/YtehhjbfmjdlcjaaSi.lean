/- What functions may be: instructions. -/
import Derived.Test.YtehhjbfmjdlcjaaSf
namespace Go.Proofs.Ytehhjbfmjdlcjaa.Ev
open Go Go.RowKit Go.Proofs.Ytehhjbfmjdlcjaa.Ms
attribute [local go_sem] Int.reduceToNat reduceCtorEq Nat.reduceAdd Nat.reduceMul Nat.reduceEqDiff Int.reduceEq Int.reduceLT Int.reduceLE Int.reduceNeg Int.reduceAdd Int.reduceSub Int.reduceMul Int.reduceNe
attribute [local go_sem ↓] reduceIte
set_option linter.all false
set_option maxRecDepth 100000
set_option maxHeartbeats 2000000
variable {x0 x1 x2 x3 x4 x5 x6 x7 x8 x9 x10 x11 x12 x13 x14 x15 x16 x17 x18 x20 x21 x22 x23 x24 x25 x26 x27 x28:AV} {lt:Bool} {a:List Nat} {n v bX kd lm op vl:Nat}
def S5 (f:FuncId):Bool:=Nat.beq f 67||(Nat.beq f 49||Nat.beq f 70)
noncomputable def F5:Fns:=PX S5 F4
theorem qz3 {A:Nat->Int}:Env Try.prog A tys F5:=jfw qz2
theorem no5 {f:FuncId} (h1:S1 f=false) (h2:Nat.beq f jfa.f=false) (h3:S3 f=false) (h4:S4 f=false) (h5:S5 f=false) {vs:List AV} {h:Hp}:jcj F5 f vs h=none:=(jbb h5).trans (no4 h1 h2 h3 h4)
section
variable {h:Hp} {f:Fc} {m:Nat×Nat} {Q:AV->Hp->Prop}
theorem qky (hc:∀ v,cl f.values v<2) (k:OpdOk m f.values ⟨kd,vl,lt,lm,n⟩):WC F5 67 [.agg [jae jal f.values,jae jaw f.blocks],.agg [si m.1,si m.2],.agg [si kd,si vl,.bool lt,si lm,si n]] h Q=Q (vi 0) h :=
 jaq (jbf rfl (by simp only[jat,ja0,ja7,jb0,ja1,ja8,ja5,jbj,ja9,jbg,if_true]) (qkr jdo hc k))
theorem qkz {ops:List Ms.Opd} {sp:List (Nat×Nat)} {u:Ms.Opd} (h1:ops[n]?=some u) (h2:u.kind=1) (h3:u.late=false) (h4:cl f.values u.value=cl f.values vl) (h5:u.value<f.values.length) (h6:vl<f.values.length) :
 WC F5 68 [.agg [jae jal f.values,jae jaw f.blocks],.agg [si op,jae ja6 ops,jae jd8 sp],.agg [si kd,si vl,.bool lt,si lm,si n]] h Q=Q (vi 0) h :=
 jaq ((jbb rfl).trans (jbf rfl (by simp only[jat,ja0,ja7,jb0,ja1,ja8,ja5,jbj,ja9,jbg,if_true]) (qkm (x:=⟨op,ops,sp⟩) (o:=⟨kd,vl,lt,lm,n⟩) jdo h1 h2 h3 h4 h5 h6)))
theorem qk0 {l:List (Nat×Nat)} (hl:l.length<=10000) (hr:∀ r∈l,r.1<2/\r.2<g2 m r.1) (hord:∀ (i:Nat) (q r:Nat×Nat),l[i]?=some q->l[i+1]?=some r->q.1<r.1∨(q.1=r.1/\q.2<r.2)) :
 WC F5 69 [.agg [si m.1,si m.2],.s (jae jd8 l)] h Q=Q (vi 0) h :=
 jaq ((jbb rfl).trans (jbf rfl (by simp only[jat,ja0,ja7,jb0,ja1,ja8,ja5,jbj,ja9,jbg,if_true]) (qkn jdo hl hr hord)))
theorem qk1 {ops:List Ms.Opd} {sp:List (Nat×Nat)} (k:InsOk m f.values ⟨op,ops,sp⟩):WC F5 70 [.agg [jae jal f.values,jae jaw f.blocks],.agg [si op,jae ja6 ops,jae jd8 sp]] h Q=Q (vb false) h :=
 jaq (jbf rfl (by simp only[jat,ja0,ja7,jb0,ja1,ja8,ja5,jbj,ja9,jbg,if_true]) (qkx jdo k))
theorem qgx {c:Nat} {ops:List Ms.Opd} {sp:List (Nat×Nat)} (hc:c<2) (k:InsOk m f.values ⟨op,ops,sp⟩):WC F5 71 [.agg [jae jal f.values,jae jaw f.blocks],.agg [si m.1,si m.2],.agg [si op,jae ja6 ops,jae jd8 sp],vi c] h Q=Q (vb true) h :=
 jaq ((jbb rfl).trans (jbf rfl (by simp only[jat,ja0,ja7,jb0,ja1,ja8,ja5,jbj,ja9,jbg,if_true]) (qr2 jdo hc k)))
end
theorem qgy {f:Fc} {m:Nat×Nat} {l:List Ms.Opd} (hl:l.length<=10000) (hc:∀ v,cl f.values v<2) (hp:∀ o∈l,OpdOk m f.values o) {bF bM:Nat} {Q:Ex->St->Prop} :
 ∀ (d i:Nat) (_:i+d=l.length) {hi:Hp} (_:Ok hi) (_:bF<hi.next/\bM<hi.next) (_:hi.get bF=some (.arr [jae jal f.values,jae jaw f.blocks] 30)) (_:hi.get bM=some (.arr [si m.1,si m.2] 25)) {x19 x20 x21 x25:AV}
  (hQ:∀ hj x19 x20 x21 x25,Ok hj->hi.next<=hj.next->(∀ k,k<hi.next->hj.get k=hi.get k)->Q (.exit 0) (.mk [x0,x1,x2,x3,x4,x5,x6,x7,x8,x9,x10,x11,x12,x13,x14,x15,x16,x17,x18,x19,x20,x21,.s (.ptr bM 0),.s (.ptr bF 0),.s (jae ja6 l),x25,vi l.length,vi l.length,x28,.s (.ptr bX 0)] hj)),
  W F5 juv.loop (.mk [x0,x1,x2,x3,x4,x5,x6,x7,x8,x9,x10,x11,x12,x13,x14,x15,x16,x17,x18,x19,x20,x21,.s (.ptr bM 0),.s (.ptr bF 0),.s (jae ja6 l),x25,vi l.length,vi i,x28,.s (.ptr bX 0)] hi) Q
 | 0,i,hd,hi,ok,hb,xF,xM,x19,x20,x21,x25,hQ=>by
  obtain rfl:i=l.length:=by omega
  rw[jah]
  unfold juv
  simp(disch:=first|omega|rfl) only[go_sem,f0n]
  exact hQ hi _ _ _ _ ok (f0f _) (fun _ _=>rfl)
 | d+1,i,hd,hi,ok,hb,xF,xM,x19,x20,x21,x25,hQ=>by
  have hlt:(i:Int)<(l.length:Int):=by omega
  obtain⟨o,hio⟩:∃ y,l[i]?=some y:=⟨_,f0a (by omega)⟩
  have ho:=hp o (f0b hio)
  have hix:=jag (enc:=ja6) (size:=5) hio rfl
  have hs:(i:Int)+1=((i+1:Nat):Int):=by omega
  obtain⟨hA,eA,okA,nA,xA,gA⟩:=jbn ok [.int .i64 0,.int .i64 0,.bool false,.int .i64 0,.int .i64 0] (ja6 o) 48
  have yF:=(gA _ hb.1).trans xF
  have yM:=(gA _ hb.2).trans xM
  unfold ja6 at xA eA
  rw[jah]
  unfold juv j9e
  simp(disch:=first|omega|rfl) only[go_sem,jab,eq_true hlt,hix,ja6,eA,xA,yF,yM,qky hc ho,hs]
  exact qgy hl hc hp d (i+1) (by omega) okA ⟨by omega,by omega⟩ yF yM (fun hj x19 x20 x21 x25 o n g=>hQ hj x19 x20 x21 x25 o (by omega) (fun k hk=>(g k (by omega)).trans (gA k hk)))
theorem qgz {f:Fc} {m:Nat×Nat} {x:Ms.Ins} (k:InsOk m f.values x) {bF:Nat} {x19:AV} {Q:Ex->St->Prop} :
 ∀ (d i:Nat) (_:i+d=x.ops.length) {hi:Hp} (_:Ok hi) (_:bF<hi.next/\bX<hi.next) (_:hi.get bF=some (.arr [jae jal f.values,jae jaw f.blocks] 30)) (_:hi.get bX=some (.arr [si x.op,jae ja6 x.ops,jae jd8 x.spoils] 46)) {x11 x12 x13 x14 x16:AV}
  (hQ:∀ hj x11 x12 x13 x14 x16,Ok hj->hi.next<=hj.next->(∀ k,k<hi.next->hj.get k=hi.get k)->Q (.exit 2) (.mk [x0,x1,x2,x3,x4,x5,x6,x7,x8,x9,x10,x11,x12,x13,x14,.s (jae ja6 x.ops),x16,vi x.ops.length,vi x.ops.length,x19,x20,x21,x22,.s (.ptr bF 0),x24,x25,x26,x27,x28,.s (.ptr bX 0)] hj)),
  W F5 jp3.loop (.mk [x0,x1,x2,x3,x4,x5,x6,x7,x8,x9,x10,x11,x12,x13,x14,.s (jae ja6 x.ops),x16,vi x.ops.length,vi i,x19,x20,x21,x22,.s (.ptr bF 0),x24,x25,x26,x27,x28,.s (.ptr bX 0)] hi) Q
 | 0,i,hd,hi,ok,hb,xF,xX,x11,x12,x13,x14,x16,hQ=>by
  obtain rfl:i=x.ops.length:=by omega
  rw[jah]
  unfold jp3
  simp(disch:=first|omega|rfl) only[go_sem,f0n]
  exact hQ hi _ _ _ _ _ ok (f0f _) (fun _ _=>rfl)
 | d+1,i,hd,hi,ok,hb,xF,xX,x11,x12,x13,x14,x16,hQ=>by
  have hlt:(i:Int)<(x.ops.length:Int):=by omega
  have hno:=k.nops
  obtain⟨o,hio⟩:∃ y,x.ops[i]?=some y:=⟨_,f0a (by omega)⟩
  have hom:=f0b hio
  have ho:=k.opd o hom
  have hix:=jag (enc:=ja6) (size:=5) hio rfl
  have hs:(i:Int)+1=((i+1:Nat):Int):=by omega
  obtain⟨hA,eA,okA,nA,xA,gA⟩:=jbn ok [.int .i64 0,.int .i64 0,.bool false,.int .i64 0,.int .i64 0] (ja6 o) 48
  have yF:=(gA _ hb.1).trans xF
  have yX:=(gA _ hb.2).trans xX
  have fin:∀ (x11 x12 x13 x14:AV),W F5 jp3.loop (.mk [x0,x1,x2,x3,x4,x5,x6,x7,x8,x9,x10,x11,x12,x13,x14,.s (jae ja6 x.ops),vb true,vi x.ops.length,vi (i+1:Nat),x19,x20,x21,x22,.s (.ptr bF 0),x24,x25,x26,x27,x28,.s (.ptr bX 0)] hA) Q:=fun x11 x12 x13 x14 =>
   qgz k d (i+1) (by omega) okA ⟨by omega,by omega⟩ yF yX (fun hj x11 x12 x13 x14 x16 o n g=>hQ hj x11 x12 x13 x14 x16 o (by omega) (fun k hk=>(g k (by omega)).trans (gA k hk)))
  unfold ja6 at xA eA
  rw[jah]
  unfold jp3 j9g
  by_cases e:o.limit=5
  .have c1:((o.limit:Int)≠5)=False:=by simp;omega
   obtain⟨u,h1,h2,h3,h4⟩:=k.reu o hom e
   have h5:=(k.opd u (f0b h1)).val
   simp(disch:=first|omega|rfl) only[go_sem,jab,eq_true hlt,hix,ja6,eA,xA,c1]
   unfold j9f
   simp(disch:=first|omega|rfl) only[go_sem,jab,xA,yF,yX,qkz h1 h2 h3 h4 h5 ho.val,hs]
   exact fin _ _ _ _
  .have c1:((o.limit:Int)≠5)=True:=by simp;omega
   simp(disch:=first|omega|rfl) only[go_sem,jab,eq_true hlt,hix,ja6,eA,xA,c1,hs]
   exact fin _ _ _ _
theorem qk2 {h:Hp} (ok:Ok h) {f:Fc} {m:Nat×Nat} {x:Ms.Ins} (hc:∀ v,cl f.values v<2) (k:InsOk m f.values x):WC F5 48 [.agg [jae jal f.values,jae jaw f.blocks],.agg [si m.1,si m.2],.agg [si x.op,jae ja6 x.ops,jae jd8 x.spoils]] h (fun v h'=>∃ d,jgd true h' d v=some (vi 0)):=by
 refine ja2 (no5 rfl rfl rfl rfl rfl) qwn rfl ?_
 unfold qgn
 have hno:=k.nops
 have hns:=k.nsp
 have hop:=k.op
 obtain⟨hA,eA,okA,nA,xA,gA⟩:=jdy ok [jae jal f.values,jae jaw f.blocks] 30
 obtain⟨hB,eB,okB,nB,xB,gB⟩:=jdy okA [si m.1,si m.2] 25
 obtain⟨hC,eC,okC,nC,xC,gC⟩:=jdy okB [si x.op,jae ja6 x.ops,jae jd8 x.spoils] 46
 have yA:=(gC _ (by omega)).trans ((gB _ (by omega)).trans xA)
 have yB:=(gC _ (by omega)).trans xB
 have nb:hB.next=h.next+2:=by omega
 rw[nA] at yB
 rw[nb] at xC
 have c1:((x.op:Int)<0)=False:=by simp
 have c2:(255<(x.op:Int))=False:=by simp;omega
 have l1:=jaf (enc:=ja6) (l:=x.ops)
 have k0:InsOk m f.values ⟨x.op,x.ops,x.spoils⟩:=k
 simp(disch:=first|omega|rfl) only[go_sem,eA,eB,eC,nA,nb,xC,c1,c2]
 unfold j9l
 simp(disch:=first|omega|rfl) only[go_sem,xC,l1]
 refine qgy (by omega) hc k.opd x.ops.length 0 (by omega) okC ⟨by omega,by omega⟩ yA yB (fun hj x19 x20 x21 x25 o n g=>?_)
 have zA:=(g _ (by omega)).trans yA
 have zB:=(g _ (by omega)).trans yB
 have zC:=(g _ (by omega)).trans xC
 simp(disch:=first|omega|rfl) only[go_sem,zC,l1]
 refine qgz k x.ops.length 0 (by omega) o ⟨by omega,by omega⟩ zA zC (fun hj x11 x12 x13 x14 x16 o n g=>?_)
 have vA:=(g _ (by omega)).trans zA
 have vB:=(g _ (by omega)).trans zB
 have vC:=(g _ (by omega)).trans zC
 simp(disch:=first|omega|rfl) only[go_sem,vB,vC,qk0 (m:=m) (l:=x.spoils) (by omega) k.spo k.ord]
 unfold j9k
 simp(disch:=first|omega|rfl) only[go_sem,vA,vC,qk1 k0]
 unfold j9j
 simp(disch:=first|omega|rfl) only[go_sem]
 rw[jah]
 unfold j9i j9h
 have w0:=fun {h:Hp} {Q:AV->Hp->Prop}=>qgx (h:=h) (Q:=Q) (c:=0) (by omega) k0
 have w1:=fun {h:Hp} {Q:AV->Hp->Prop}=>qgx (h:=h) (Q:=Q) (c:=1) (by omega) k0
 simp only[f2m,f2v] at w0 w1
 simp(disch:=first|omega|rfl) only[go_sem,jab,vA,vB,vC,w0]
 rw[jah]
 simp(disch:=first|omega|rfl) only[go_sem,jab,vA,vB,vC,w1]
 rw[jah]
 simp(disch:=first|omega|rfl) only[go_sem]
 exact⟨1,rfl⟩
theorem qg0 (x:SV):∀ n,rep [x] n=List.replicate n x
 | 0=>rfl
 | n+1=>by
  have h:rep [x] (n+1)=jgp [x] (rep [x] n):=rfl
  rw[h,jc8,qg0 x n];rfl
theorem jp5 {α:Type} {c:α}:∀ {l:List α} {i:Nat},i<l.length->jbk i [c] l=some (l.set i c)
 | [],i,h=>by simp at h
 | a::l,0,h=>by
  cases l<;>rfl
 | a::l,i+1,h=>by
  rw[jdm,jp5 (by simpa using h)];rfl
def bls (s:List Bool):List SV:=s.map SV.bool
theorem qk3 {h:Hp} {f:Fc} {Q:AV->Hp->Prop} (hv:v<f.values.length):WC F5 72 [.agg [jae jal f.values,jae jaw f.blocks],vi v] h Q=Q (vb true) h:=jaq ((jbb rfl).trans (qgv hv))
theorem qk4 {hi:Hp} (ok:Ok hi) {f:Fc} {bF bM bA:Nat} {s:List Bool} (hv:v<f.values.length) (hs:s.length=f.values.length) (hp:1<=bA) (xF:hi.get bF=some (.arr [jae jal f.values,jae jaw f.blocks] 30)) (xM:hi.get bM=some (.arr [.slice bA 0 f.values.length f.values.length true 1] 110)) (xA:hi.get bA=some (.arr (bls s) 4)) :
 WC F5 73 [vi v,.s (.ptr bF 0),.s (.ptr bM 0)] hi (fun u h'=>(s[v]?=some true->u=vi 7/\h'=hi)/\(s[v]?=some false->u=vi 0/\Ok h'/\h'.next=hi.next/\h'.get bA=some (.arr (bls (s.set v true)) 4)/\∀ k,k≠bA->h'.get k=hi.get k)):=by
 refine ja2 (no5 rfl rfl rfl rfl rfl) qwp rfl ?_
 unfold qgp
 have hvs:v<s.length:=by omega
 obtain⟨b,hb⟩:∃ b,s[v]?=some b:=⟨_,f0a hvs⟩
 have hcell:(bls s)[v]?=some (.bool b):=by unfold bls;rw[f0s,hb];rfl
 have hrd:rdB (hi.get bA) v 1=some [.bool b]:=by rw[xA];exact jr2 hcell
 have hix:=jbd (size:=1) (b:=bA) (off:=0) (len:=f.values.length) (mc:=f.values.length) (sz:=1) (ex:=true) (m:=v) hv
 rw[f0y,f3q] at hix
 simp(disch:=first|omega|rfl) only[go_sem,xF,qk3 hv]
 unfold j9u
 cases b with
 | true =>
  simp(disch:=first|omega|rfl) only[go_sem,xM,hix,hrd,hb]
  exact⟨fun _=>trivial,fun h=>by cases h⟩
 | false =>
  have hset:wrB hi bA (hi.get bA) v [.bool true]=some (hi.put bA (some (.arr (bls (s.set v true)) 4))):=by
   rw[xA,jo9,jp5 (by unfold bls;rw[f1b];exact hvs)]
   show some (hi.put bA (some (.arr ((bls s).set v (.bool true)) 4)))=_
   unfold bls
   rw[List.map_set]
  simp(disch:=first|omega|rfl) only[go_sem,xM,hix,hrd]
  unfold j9t
  simp(disch:=first|omega|rfl) only[go_sem,xM,hix,hset]
  exact⟨fun h=>(by rw[hb] at h;cases h),fun _=>⟨jap ok,fun k hk=>by rw[if_neg hk]⟩⟩
def jk0:List Bool->List Nat->Option (List Bool)
 | s,[]=>some s
 | s,v::l=>if s[v]?=some true then none else jk0 (s.set v true) l
theorem ju4:∀ (a b:List Nat) (s:List Bool),jk0 s (a++b)=(jk0 s a).bind (fun t=>jk0 t b)
 | [],b,s=>rfl
 | v::a,b,s=>by
  show(if s[v]?=some true then none else jk0 (s.set v true) (a++b))=(if s[v]?=some true then none else jk0 (s.set v true) a).bind _
  split
  .rfl
  .exact ju4 a b _
structure OnI (hi:Hp) (f:Fc) (bF bM bA:Nat) (s:List Bool):Prop where
 ok:Ok hi
 hs:s.length=f.values.length
 lt:bF<hi.next/\bM<hi.next/\bA<hi.next
 pos:1<=bA/\bF≠bA/\bM≠bA
 xF:hi.get bF=some (.arr [jae jal f.values,jae jaw f.blocks] 30)
 xM:hi.get bM=some (.arr [.slice bA 0 f.values.length f.values.length true 1] 110)
 xA:hi.get bA=some (.arr (bls s) 4)
section
variable {hi hj:Hp} {f:Fc} {bF bM bA:Nat} {s:List Bool}
theorem OnI.keep (k:OnI hi f bF bM bA s) (ok:Ok hj) (hn:hi.next<=hj.next) (g:∀ n,n<hi.next->hj.get n=hi.get n):OnI hj f bF bM bA s :=
 ⟨ok,k.hs,⟨f0o k.lt.1 hn,f0o k.lt.2.1 hn,f0o k.lt.2.2 hn⟩,k.pos,(g _ k.lt.1).trans k.xF,(g _ k.lt.2.1).trans k.xM,(g _ k.lt.2.2).trans k.xA⟩
theorem OnI.tell (k:OnI hi f bF bM bA s) (hv:v<f.values.length):WC F5 73 [vi v,.s (.ptr bF 0),.s (.ptr bM 0)] hi (fun u h'=>(s[v]?=some true/\u=vi 7)∨(s[v]?≠some true/\u=vi 0/\OnI h' f bF bM bA (s.set v true)/\h'.next=hi.next/\∀ n,n≠bA->h'.get n=hi.get n)) :=
 WC.imp (qk4 k.ok hv k.hs k.pos.1 k.xF k.xM k.xA) (fun u h' ⟨h1,h2⟩=>by
  obtain⟨b,hb⟩:∃ b,s[v]?=some b:=⟨_,f0a (by rw[k.hs];exact hv)⟩
  cases b with
  | true=>exact .inl ⟨hb,(h1 hb).1⟩
  | false =>
   obtain⟨e,o,n,g,kp⟩:=h2 hb
   exact .inr ⟨by rw[hb];simp,e,⟨o,by rw[f1t];exact k.hs,by rw[n];exact k.lt,k.pos,(kp _ k.pos.2.1).trans k.xF,(kp _ k.pos.2.2).trans k.xM,g⟩,n,kp⟩)
end
def clo (bF bM:Nat):AV:=.s (.func 73 [(bF,0),(bM,0)])
theorem qg1 {f:Fc} {ps:List Nat} {bF bM bA:Nat} (hl:ps.length<=10000) (hp:∀ v∈ps,v<f.values.length) {Q:Ex->St->Prop} :
 ∀ (rest done:List Nat) (_:done++rest=ps) {s:List Bool} {hi:Hp} (_:OnI hi f bF bM bA s) {x16 x17 x18 x21:AV}
  (hQ:∀ t,jk0 s rest=some t->∀ hj x16 x17 x18 x21,OnI hj f bF bM bA t->hi.next<=hj.next->(∀ n,n<hi.next->n≠bA->hj.get n=hi.get n)->Q (.exit 2) (.mk [x0,x1,x2,x3,x4,x5,x6,x7,x8,x9,x10,x11,x12,x13,x14,x15,x16,x17,x18,clo bF bM,.s (jae jal ps),x21,vi ps.length,vi ps.length,x24,x25,x26,x27,x28,.s (.ptr bM 0),.s (.ptr bF 0)] hj))
  (hN:jk0 s rest=none->∀ hj x2 x3 x4 x5 x6 x7 x8 x9 x10 x11 x12 x13 x14 x15 x16 x17 x18 x19 x20 x21 x22 x23 x24 x25 x26 x27 x28 x29 x30,Q .ret (.mk [x0,vi 7,x2,x3,x4,x5,x6,x7,x8,x9,x10,x11,x12,x13,x14,x15,x16,x17,x18,x19,x20,x21,x22,x23,x24,x25,x26,x27,x28,x29,x30] hj)),
  W F5 juw.loop (.mk [x0,x1,x2,x3,x4,x5,x6,x7,x8,x9,x10,x11,x12,x13,x14,x15,x16,x17,x18,clo bF bM,.s (jae jal ps),x21,vi ps.length,vi done.length,x24,x25,x26,x27,x28,.s (.ptr bM 0),.s (.ptr bF 0)] hi) Q
 | [],done,hdn,s,hi,I,x16,x17,x18,x21,hQ,hN=>by
  rw[f1d] at hdn
  subst hdn
  rw[jah]
  unfold juw
  simp(disch:=first|omega|rfl) only[go_sem,f0n]
  exact hQ s rfl hi _ _ _ _ I (f0f _) (fun _ _ _=>rfl)
 | v::rest,done,hdn,s,hi,I,x16,x17,x18,x21,hQ,hN=>by
  have hlt1:done.length<ps.length:=by rw[←hdn];simp
  have hlt:(done.length:Int)<ps.length:=by omega
  have hget:ps[done.length]?=some v:=by rw[←hdn];simp
  have hv:=hp v (f0b hget)
  have hix:=jag (enc:=jal) (size:=1) hget rfl
  have hdn':(done++[v])++rest=ps:=by rw[←hdn];simp
  have hs:(done.length:Int)+1=(((done++[v]).length:Nat):Int):=by simp
  rw[jah]
  unfold juw j9n clo
  simp(disch:=first|omega|rfl) only[go_sem,jab,eq_true hlt,hix,jal]
  rw[j2g rfl]
  simp(disch:=first|omega|rfl) only[go_sem]
  refine WC.imp (I.tell hv) ?_
  rintro u h' (⟨h1,rfl⟩ | ⟨h1,rfl,I',n',k'⟩)
  .simp (disch:=first|omega|rfl) only[go_sem]
   exact hN (by unfold jk0;rw[if_pos h1]) ..
  .simp (disch:=first|omega|rfl) only[go_sem,jab,hs]
   exact qg1 hl hp rest (done++[v]) hdn' I' (fun t ht hj x16 x17 x18 x21 J n g=>hQ t (by unfold jk0;rw[if_neg h1];exact ht) hj x16 x17 x18 x21 J (by omega) (fun m hm hne=>(g m (by omega) hne).trans (k' m hne))) (fun ht=>hN (by unfold jk0;rw[if_neg h1];exact ht))
def dfO (l:List Ms.Opd):List Nat:=(l.filter (fun o=>o.kind=2)).map (·.value)
theorem ji7 {b:List Nat} {s t:List Bool} (h:jk0 s a=some t):jk0 s (a++b)=jk0 t b:=by rw[ju4,h];rfl
theorem j0u {b:List Nat} {s:List Bool} (h:jk0 s a=none):jk0 s (a++b)=none:=by rw[ju4,h];rfl
theorem qaa {f:Fc} {l:List Ms.Opd} {bF bM bA:Nat} (hl:l.length<=10000) (hp:∀ o∈l,o.value<f.values.length) {Q:Ex->St->Prop} :
 ∀ (rest done:List Ms.Opd) (_:done++rest=l) {s:List Bool} {hi:Hp} (_:OnI hi f bF bM bA s) {x3 x4 x5 x6 x8:AV}
  (hQ:∀ t,jk0 s (dfO rest)=some t->∀ hj x3 x4 x5 x6 x8,OnI hj f bF bM bA t->hi.next<=hj.next->(∀ n,n<hi.next->n≠bA->hj.get n=hi.get n)->Q (.exit 6) (.mk [x0,x1,x2,x3,x4,x5,x6,.s (jae ja6 l),x8,vi l.length,vi l.length,x11,x12,x13,x14,x15,x16,x17,x18,clo bF bM,x20,x21,x22,x23,x24,x25,x26,x27,x28,.s (.ptr bM 0),.s (.ptr bF 0)] hj))
  (hN:jk0 s (dfO rest)=none->∀ hj x2 x3 x4 x5 x6 x7 x8 x9 x10 x11 x12 x13 x14 x15 x16 x17 x18 x19 x20 x21 x22 x23 x24 x25 x26 x27 x28 x29 x30,Q .ret (.mk [x0,vi 7,x2,x3,x4,x5,x6,x7,x8,x9,x10,x11,x12,x13,x14,x15,x16,x17,x18,x19,x20,x21,x22,x23,x24,x25,x26,x27,x28,x29,x30] hj)),
  W F5 jux.loop (.mk [x0,x1,x2,x3,x4,x5,x6,.s (jae ja6 l),x8,vi l.length,vi done.length,x11,x12,x13,x14,x15,x16,x17,x18,clo bF bM,x20,x21,x22,x23,x24,x25,x26,x27,x28,.s (.ptr bM 0),.s (.ptr bF 0)] hi) Q
 | [],done,hdn,s,hi,I,x3,x4,x5,x6,x8,hQ,hN=>by
  rw[f1d] at hdn
  subst hdn
  rw[jah]
  unfold jux
  simp(disch:=first|omega|rfl) only[go_sem,f0n]
  exact hQ s rfl hi _ _ _ _ _ I (f0f _) (fun _ _ _=>rfl)
 | o::rest,done,hdn,s,hi,I,x3,x4,x5,x6,x8,hQ,hN=>by
  have hlt1:done.length<l.length:=by rw[←hdn];simp
  have hlt:(done.length:Int)<l.length:=by omega
  have hget:l[done.length]?=some o:=by rw[←hdn];simp
  have hv:=hp o (f0b hget)
  have hix:=jag (enc:=ja6) (size:=5) hget rfl
  have hdn':(done++[o])++rest=l:=by rw[←hdn];simp
  have hs:(done.length:Int)+1=(((done++[o]).length:Nat):Int):=by simp
  have ok:=I.ok
  obtain⟨hA,eA,okA,nA,xA,gA⟩:=jbn ok [.int .i64 0,.int .i64 0,.bool false,.int .i64 0,.int .i64 0] (ja6 o) 48
  have IA:=I.keep okA (by omega) gA
  unfold ja6 at xA eA
  rw[jah]
  unfold jux j9p clo
  by_cases e:o.kind=2
  .have c1:((o.kind:Int)≠2)=False:=by simp;omega
   have ed:dfO (o::rest)=o.value::dfO rest:=by unfold dfO;rw[List.filter_cons_of_pos (by simpa using e)];rfl
   simp(disch:=first|omega|rfl) only[go_sem,jab,eq_true hlt,hix,ja6,eA,xA,c1]
   unfold j9o
   simp(disch:=first|omega|rfl) only[go_sem,xA]
   rw[j2g rfl]
   simp(disch:=first|omega|rfl) only[go_sem]
   refine WC.imp (IA.tell hv) ?_
   rintro u h' (⟨h1,rfl⟩ | ⟨h1,rfl,I',n',k'⟩)
   .simp (disch:=first|omega|rfl) only[go_sem]
    exact hN (by rw[ed];unfold jk0;rw[if_pos h1]) ..
   .simp (disch:=first|omega|rfl) only[go_sem,jab,hs]
    exact qaa hl hp rest (done++[o]) hdn' I' (fun t ht hj x3 x4 x5 x6 x8 J n g=>hQ t (by rw[ed];unfold jk0;rw[if_neg h1];exact ht) hj x3 x4 x5 x6 x8 J (by omega) (fun m hm hne=>(g m (by omega) hne).trans ((k' m hne).trans (gA m hm)))) (fun ht=>hN (by rw[ed];unfold jk0;rw[if_neg h1];exact ht))
  .have c1:((o.kind:Int)≠2)=True:=by simp;omega
   have ed:dfO (o::rest)=dfO rest:=by unfold dfO;rw[List.filter_cons_of_neg (by simpa using e)]
   simp(disch:=first|omega|rfl) only[go_sem,jab,eq_true hlt,hix,ja6,eA,xA,c1,hs]
   exact qaa hl hp rest (done++[o]) hdn' IA (fun t ht hj x3 x4 x5 x6 x8 J n g=>hQ t (by rw[ed];exact ht) hj x3 x4 x5 x6 x8 J (by omega) (fun m hm hne=>(g m (by omega) hne).trans (gA m hm))) (fun ht=>hN (by rw[ed];exact ht))
theorem qg2 {f:Fc} {l:List Ms.Ins} {bF bM bA:Nat} (hl:l.length<=10000) (hp:∀ x∈l,x.ops.length<=6/\∀ o∈x.ops,o.value<f.values.length) {Q:Ex->St->Prop} :
 ∀ (rest done:List Ms.Ins) (_:done++rest=l) {s:List Bool} {hi:Hp} (_:OnI hi f bF bM bA s) {x3 x4 x5 x6 x7 x8 x9 x10 x11 x13:AV}
  (hQ:∀ t,jk0 s (rest.map jbm).flatten=some t->∀ hj x3 x4 x5 x6 x7 x8 x9 x10 x11 x13,OnI hj f bF bM bA t->hi.next<=hj.next->(∀ n,n<hi.next->n≠bA->hj.get n=hi.get n)->Q (.exit 4) (.mk [x0,x1,x2,x3,x4,x5,x6,x7,x8,x9,x10,x11,.s (jae jco l),x13,vi l.length,vi l.length,x16,x17,x18,clo bF bM,x20,x21,x22,x23,x24,x25,x26,x27,x28,.s (.ptr bM 0),.s (.ptr bF 0)] hj))
  (hN:jk0 s (rest.map jbm).flatten=none->∀ hj x2 x3 x4 x5 x6 x7 x8 x9 x10 x11 x12 x13 x14 x15 x16 x17 x18 x19 x20 x21 x22 x23 x24 x25 x26 x27 x28 x29 x30,Q .ret (.mk [x0,vi 7,x2,x3,x4,x5,x6,x7,x8,x9,x10,x11,x12,x13,x14,x15,x16,x17,x18,x19,x20,x21,x22,x23,x24,x25,x26,x27,x28,x29,x30] hj)),
  W F5 juy.loop (.mk [x0,x1,x2,x3,x4,x5,x6,x7,x8,x9,x10,x11,.s (jae jco l),x13,vi l.length,vi done.length,x16,x17,x18,clo bF bM,x20,x21,x22,x23,x24,x25,x26,x27,x28,.s (.ptr bM 0),.s (.ptr bF 0)] hi) Q
 | [],done,hdn,s,hi,I,x3,x4,x5,x6,x7,x8,x9,x10,x11,x13,hQ,hN=>by
  rw[f1d] at hdn
  subst hdn
  rw[jah]
  unfold juy
  simp(disch:=first|omega|rfl) only[go_sem,f0n]
  exact hQ s rfl hi _ _ _ _ _ _ _ _ _ _ I (f0f _) (fun _ _ _=>rfl)
 | x::rest,done,hdn,s,hi,I,x3,x4,x5,x6,x7,x8,x9,x10,x11,x13,hQ,hN=>by
  have hlt1:done.length<l.length:=by rw[←hdn];simp
  have hlt:(done.length:Int)<l.length:=by omega
  have hget:l[done.length]?=some x:=by rw[←hdn];simp
  have hv:=hp x (f0b hget)
  have hix:=jag (enc:=jco) (size:=3) hget rfl
  have hdn':(done++[x])++rest=l:=by rw[←hdn];simp
  have hs:(done.length:Int)+1=(((done++[x]).length:Nat):Int):=by simp
  have ok:=I.ok
  obtain⟨hA,eA,okA,nA,xA,gA⟩:=jbn ok [.int .i64 0,.nilSlice,.nilSlice] (jco x) 46
  have IA:=I.keep okA (by omega) gA
  have l1:=jaf (enc:=ja6) (l:=x.ops)
  have ed:((x::rest).map jbm).flatten=dfO x.ops++(rest.map jbm).flatten:=rfl
  unfold jco at xA eA
  rw[jah]
  unfold juy j9q
  simp(disch:=first|omega|rfl) only[go_sem,jab,eq_true hlt,hix,jco,eA,xA,l1]
  refine qaa (by omega) hv.2 x.ops [] rfl IA (fun t ht hj x3 x4 x5 x6 x8 J n g=>?_) (fun ht=>?_)
  .simp (disch:=first|omega|rfl) only[go_sem,jab,hs]
   exact qg2 hl hp rest (done++[x]) hdn' J (fun t' ht' hk x3 x4 x5 x6 x7 x8 x9 x10 x11 x13 J' n' g'=>hQ t' (by rw[ed,ji7 ht];exact ht') hk x3 x4 x5 x6 x7 x8 x9 x10 x11 x13 J' (by omega) (fun m hm hne=>(g' m (by omega) hne).trans ((g m (by omega) hne).trans (gA m hm)))) (fun ht'=>hN (by rw[ed,ji7 ht];exact ht'))
  .intro hj x2 x3 x4 x5 x6 x7 x8 x9 x10 x11 x12 x13 x14 x15 x16 x17 x18 x19 x20 x21 x22 x23 x24 x25 x26 x27 x28 x29 x30
   simp(disch:=first|omega|rfl) only[go_sem]
   exact hN (by rw[ed,j0u ht]) ..
theorem qg3 {f:Fc} {bF bM bA:Nat} (hl:f.blocks.length<=10000) (hp:∀ b∈f.blocks,b.params.length<=10000/\b.instrs.length<=10000/\(∀ v∈b.params,v<f.values.length)/\∀ x∈b.instrs,x.ops.length<=6/\∀ o∈x.ops,o.value<f.values.length) {Q:Ex->St->Prop} :
 ∀ (rest done:List Blk) (_:done++rest=f.blocks) {s:List Bool} {hi:Hp} (_:OnI hi f bF bM bA s) {x3 x4 x5 x6 x7 x8 x9 x10 x11 x12 x13 x14 x15 x16 x17 x18 x20 x21 x22 x23 x24 x26:AV}
  (hQ:∀ t,jk0 s (jcs rest)=some t->∀ hj x3 x4 x5 x6 x7 x8 x9 x10 x11 x12 x13 x14 x15 x16 x17 x18 x20 x21 x22 x23 x24 x26,OnI hj f bF bM bA t->Q (.exit 0) (.mk [x0,x1,x2,x3,x4,x5,x6,x7,x8,x9,x10,x11,x12,x13,x14,x15,x16,x17,x18,clo bF bM,x20,x21,x22,x23,x24,.s (jae jaw f.blocks),x26,vi f.blocks.length,vi f.blocks.length,.s (.ptr bM 0),.s (.ptr bF 0)] hj))
  (hN:jk0 s (jcs rest)=none->∀ hj x2 x3 x4 x5 x6 x7 x8 x9 x10 x11 x12 x13 x14 x15 x16 x17 x18 x19 x20 x21 x22 x23 x24 x25 x26 x27 x28 x29 x30,Q .ret (.mk [x0,vi 7,x2,x3,x4,x5,x6,x7,x8,x9,x10,x11,x12,x13,x14,x15,x16,x17,x18,x19,x20,x21,x22,x23,x24,x25,x26,x27,x28,x29,x30] hj)),
  W F5 juz.loop (.mk [x0,x1,x2,x3,x4,x5,x6,x7,x8,x9,x10,x11,x12,x13,x14,x15,x16,x17,x18,clo bF bM,x20,x21,x22,x23,x24,.s (jae jaw f.blocks),x26,vi f.blocks.length,vi done.length,.s (.ptr bM 0),.s (.ptr bF 0)] hi) Q
 | [],done,hdn,s,hi,I,x3,x4,x5,x6,x7,x8,x9,x10,x11,x12,x13,x14,x15,x16,x17,x18,x20,x21,x22,x23,x24,x26,hQ,hN=>by
  rw[f1d] at hdn
  rw[jah,hdn]
  unfold juz
  simp(disch:=first|omega|rfl) only[go_sem,f0n]
  exact hQ s rfl hi _ _ _ _ _ _ _ _ _ _ _ _ _ _ _ _ _ _ _ _ _ _ I
 | b::rest,done,hdn,s,hi,I,x3,x4,x5,x6,x7,x8,x9,x10,x11,x12,x13,x14,x15,x16,x17,x18,x20,x21,x22,x23,x24,x26,hQ,hN=>by
  have hlt1:done.length<f.blocks.length:=by rw[←hdn];simp
  have hlt:(done.length:Int)<f.blocks.length:=by omega
  have hget:f.blocks[done.length]?=some b:=by rw[←hdn];simp
  obtain⟨p1,p2,p3,p4⟩:=hp b (f0b hget)
  have hix:=jag (enc:=jaw) (size:=3) hget rfl
  have hdn':(done++[b])++rest=f.blocks:=by rw[←hdn];simp
  have hs:(done.length:Int)+1=(((done++[b]).length:Nat):Int):=by simp
  have ok:=I.ok
  obtain⟨hA,eA,okA,nA,xA,gA⟩:=jbn ok [.nilSlice,.nilSlice,.nilSlice] (jaw b) 42
  have IA:=I.keep okA (by omega) gA
  have l1:=jaf (enc:=jal) (l:=b.params)
  have l2:=jaf (enc:=jco) (l:=b.instrs)
  have ed:jcs (b::rest)=b.params++((b.instrs.map jbm).flatten++jcs rest):=by simp[jcs,jch]
  have hneA:hi.next≠bA:=by have:=I.lt;omega
  unfold jaw at xA eA
  rw[jah]
  unfold juz j9r
  simp(disch:=first|omega|rfl) only[go_sem,jab,eq_true hlt,hix,jaw,eA,xA,l1]
  refine qg1 p1 p3 b.params [] rfl IA (fun t ht hj x16 x17 x18 x21 J n g=>?_) (fun ht=>?_)
  .have xJ:=(g _ (by omega) hneA).trans xA
   simp(disch:=first|omega|rfl) only[go_sem,xJ,l2]
   refine qg2 p2 p4 b.instrs [] rfl J (fun t' ht' hk x3 x4 x5 x6 x7 x8 x9 x10 x11 x13 J' n' g'=>?_) (fun ht'=>?_)
   .simp (disch:=first|omega|rfl) only[go_sem,jab,hs]
    exact qg3 hl hp rest (done++[b]) hdn' J' (fun t2 ht2=>hQ t2 (by rw[ed,ji7 ht,ji7 ht'];exact ht2)) (fun ht2=>hN (by rw[ed,ji7 ht,ji7 ht'];exact ht2))
   .intro hj x2 x3 x4 x5 x6 x7 x8 x9 x10 x11 x12 x13 x14 x15 x16 x17 x18 x19 x20 x21 x22 x23 x24 x25 x26 x27 x28 x29 x30
    simp(disch:=first|omega|rfl) only[go_sem]
    exact hN (by rw[ed,ji7 ht,j0u ht']) ..
  .intro hj x2 x3 x4 x5 x6 x7 x8 x9 x10 x11 x12 x13 x14 x15 x16 x17 x18 x19 x20 x21 x22 x23 x24 x25 x26 x27 x28 x29 x30
   simp(disch:=first|omega|rfl) only[go_sem]
   exact hN (by rw[ed,j0u ht]) ..
end Go.Proofs.Ytehhjbfmjdlcjaa.Ev
