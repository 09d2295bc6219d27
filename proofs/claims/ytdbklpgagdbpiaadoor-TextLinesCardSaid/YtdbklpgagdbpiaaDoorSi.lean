/- What functions may be: instructions. -/
import Derived.Test.YtdbklpgagdbpiaaDoorSf
namespace Go.Proofs.YtdbklpgagdbpiaaDoor.Ev
open Go Go.RowKit Go.Proofs.YtdbklpgagdbpiaaDoor.Ms
attribute [local go_sem] Int.reduceToNat reduceCtorEq Nat.reduceAdd Nat.reduceMul Nat.reduceEqDiff Int.reduceEq Int.reduceLT Int.reduceLE Int.reduceNeg Int.reduceAdd Int.reduceSub Int.reduceMul Int.reduceNe
attribute [local go_sem ↓] reduceIte
set_option linter.all false
set_option maxRecDepth 100000
set_option maxHeartbeats 2000000
variable {x0 x1 x2 x3 x4 x5 x6 x7 x8 x9 x10 x11 x12 x13 x14 x15 x16 x17 x18 x20 x21 x22 x23 x24 x25 x26 x27 x28:AV} {lt:Bool} {a:List Nat} {n v bX kd lm op vl:Nat}
def S5 (f:FuncId):Bool:=Nat.beq f 51||(Nat.beq f 39||Nat.beq f 54)
noncomputable def F5:Fns:=PX S5 F4
theorem qxb {A:Nat->Int}:Env Tryd.prog A tys F5:=jhx qxa
theorem no5 {f:FuncId} (h1:S1 f=false) (h2:Nat.beq f jg9.f=false) (h3:S3 f=false) (h4:S4 f=false) (h5:S5 f=false) {vs:List AV} {h:Hp}:jdx F5 f vs h=none:=(jbk h5).trans (no4 h1 h2 h3 h4)
section
variable {h:Hp} {f:Fc} {m:Nat×Nat} {Q:AV->Hp->Prop}
theorem qkg (hc:∀ v,cl f.values v<2) (k:OpdOk m f.values ⟨kd,vl,lt,lm,n⟩):WC F5 51 [.agg [jae jaz f.values,jae ja3 f.blocks],.agg [si m.1,si m.2],.agg [si kd,si vl,.bool lt,si lm,si n]] h Q=Q (vi 0) h :=
 jaq (jbm rfl (by simp only[jat,ja1,jbd,jcw,ja2,jbe,jbb,jbq,jbf,jbn,if_true]) (qj9 jex hc k))
theorem qkh {ops:List Ms.Opd} {sp:List (Nat×Nat)} {u:Ms.Opd} (h1:ops[n]?=some u) (h2:u.kind=1) (h3:u.late=false) (h4:cl f.values u.value=cl f.values vl) (h5:u.value<f.values.length) (h6:vl<f.values.length) :
 WC F5 52 [.agg [jae jaz f.values,jae ja3 f.blocks],.agg [si op,jae jbi ops,jae jds sp],.agg [si kd,si vl,.bool lt,si lm,si n]] h Q=Q (vi 0) h :=
 jaq ((jbk rfl).trans (jbm rfl (by simp only[jat,ja1,jbd,jcw,ja2,jbe,jbb,jbq,jbf,jbn,if_true]) (qj4 (x:=⟨op,ops,sp⟩) (o:=⟨kd,vl,lt,lm,n⟩) jex h1 h2 h3 h4 h5 h6)))
theorem qki {l:List (Nat×Nat)} (hl:l.length<=10000) (hr:∀ r∈l,r.1<2/\r.2<g2 m r.1) (hord:∀ (i:Nat) (q r:Nat×Nat),l[i]?=some q->l[i+1]?=some r->q.1<r.1∨(q.1=r.1/\q.2<r.2)) :
 WC F5 53 [.agg [si m.1,si m.2],.s (jae jds l)] h Q=Q (vi 0) h :=
 jaq ((jbk rfl).trans (jbm rfl (by simp only[jat,ja1,jbd,jcw,ja2,jbe,jbb,jbq,jbf,jbn,if_true]) (qj5 jex hl hr hord)))
theorem qkj {ops:List Ms.Opd} {sp:List (Nat×Nat)} (k:InsOk m f.values ⟨op,ops,sp⟩):WC F5 54 [.agg [jae jaz f.values,jae ja3 f.blocks],.agg [si op,jae jbi ops,jae jds sp]] h Q=Q (vb false) h :=
 jaq (jbm rfl (by simp only[jat,ja1,jbd,jcw,ja2,jbe,jbb,jbq,jbf,jbn,if_true]) (qkf jex k))
theorem qgb {c:Nat} {ops:List Ms.Opd} {sp:List (Nat×Nat)} (hc:c<2) (k:InsOk m f.values ⟨op,ops,sp⟩):WC F5 55 [.agg [jae jaz f.values,jae ja3 f.blocks],.agg [si m.1,si m.2],.agg [si op,jae jbi ops,jae jds sp],vi c] h Q=Q (vb true) h :=
 jaq ((jbk rfl).trans (jbm rfl (by simp only[jat,ja1,jbd,jcw,ja2,jbe,jbb,jbq,jbf,jbn,if_true]) (qqo jex hc k)))
end
theorem qgc {f:Fc} {m:Nat×Nat} {l:List Ms.Opd} (hl:l.length<=10000) (hc:∀ v,cl f.values v<2) (hp:∀ o∈l,OpdOk m f.values o) {bF bM:Nat} {Q:Ex->St->Prop} :
 ∀ (d i:Nat) (_:i+d=l.length) {hi:Hp} (_:Ok hi) (_:bF<hi.next/\bM<hi.next) (_:hi.get bF=some (.arr [jae jaz f.values,jae ja3 f.blocks] 29)) (_:hi.get bM=some (.arr [si m.1,si m.2] 25)) {x19 x20 x21 x25:AV}
  (hQ:∀ hj x19 x20 x21 x25,Ok hj->hi.next<=hj.next->(∀ k,k<hi.next->hj.get k=hi.get k)->Q (.exit 0) (.mk [x0,x1,x2,x3,x4,x5,x6,x7,x8,x9,x10,x11,x12,x13,x14,x15,x16,x17,x18,x19,x20,x21,.s (.ptr bM 0),.s (.ptr bF 0),.s (jae jbi l),x25,vi l.length,vi l.length,x28,.s (.ptr bX 0)] hj)),
  W F5 jv1.loop (.mk [x0,x1,x2,x3,x4,x5,x6,x7,x8,x9,x10,x11,x12,x13,x14,x15,x16,x17,x18,x19,x20,x21,.s (.ptr bM 0),.s (.ptr bF 0),.s (jae jbi l),x25,vi l.length,vi i,x28,.s (.ptr bX 0)] hi) Q
 | 0,i,hd,hi,ok,hb,xF,xM,x19,x20,x21,x25,hQ=>by
  obtain rfl:i=l.length:=by omega
  rw[jaj]
  unfold jv1
  simp(disch:=first|omega|rfl) only[go_sem,f0s]
  exact hQ hi _ _ _ _ ok (f0d _) (fun _ _=>rfl)
 | d+1,i,hd,hi,ok,hb,xF,xM,x19,x20,x21,x25,hQ=>by
  have hlt:(i:Int)<(l.length:Int):=by omega
  obtain⟨o,hio⟩:∃ y,l[i]?=some y:=⟨_,f0b (by omega)⟩
  have ho:=hp o (f0c hio)
  have hix:=jah (enc:=jbi) (size:=5) hio rfl
  have hs:(i:Int)+1=((i+1:Nat):Int):=by omega
  obtain⟨hA,eA,okA,nA,xA,gA⟩:=jc2 ok [.int .i64 0,.int .i64 0,.bool false,.int .i64 0,.int .i64 0] (jbi o) 73
  have yF:=(gA _ hb.1).trans xF
  have yM:=(gA _ hb.2).trans xM
  unfold jbi at xA eA
  rw[jaj]
  unfold jv1 j90
  simp(disch:=first|omega|rfl) only[go_sem,jad,eq_true hlt,hix,jbi,eA,xA,yF,yM,qkg hc ho,hs]
  exact qgc hl hc hp d (i+1) (by omega) okA ⟨by omega,by omega⟩ yF yM (fun hj x19 x20 x21 x25 o n g=>hQ hj x19 x20 x21 x25 o (by omega) (fun k hk=>(g k (by omega)).trans (gA k hk)))
theorem qgd {f:Fc} {m:Nat×Nat} {x:Ms.Ins} (k:InsOk m f.values x) {bF:Nat} {x19:AV} {Q:Ex->St->Prop} :
 ∀ (d i:Nat) (_:i+d=x.ops.length) {hi:Hp} (_:Ok hi) (_:bF<hi.next/\bX<hi.next) (_:hi.get bF=some (.arr [jae jaz f.values,jae ja3 f.blocks] 29)) (_:hi.get bX=some (.arr [si x.op,jae jbi x.ops,jae jds x.spoils] 59)) {x11 x12 x13 x14 x16:AV}
  (hQ:∀ hj x11 x12 x13 x14 x16,Ok hj->hi.next<=hj.next->(∀ k,k<hi.next->hj.get k=hi.get k)->Q (.exit 2) (.mk [x0,x1,x2,x3,x4,x5,x6,x7,x8,x9,x10,x11,x12,x13,x14,.s (jae jbi x.ops),x16,vi x.ops.length,vi x.ops.length,x19,x20,x21,x22,.s (.ptr bF 0),x24,x25,x26,x27,x28,.s (.ptr bX 0)] hj)),
  W F5 jrg.loop (.mk [x0,x1,x2,x3,x4,x5,x6,x7,x8,x9,x10,x11,x12,x13,x14,.s (jae jbi x.ops),x16,vi x.ops.length,vi i,x19,x20,x21,x22,.s (.ptr bF 0),x24,x25,x26,x27,x28,.s (.ptr bX 0)] hi) Q
 | 0,i,hd,hi,ok,hb,xF,xX,x11,x12,x13,x14,x16,hQ=>by
  obtain rfl:i=x.ops.length:=by omega
  rw[jaj]
  unfold jrg
  simp(disch:=first|omega|rfl) only[go_sem,f0s]
  exact hQ hi _ _ _ _ _ ok (f0d _) (fun _ _=>rfl)
 | d+1,i,hd,hi,ok,hb,xF,xX,x11,x12,x13,x14,x16,hQ=>by
  have hlt:(i:Int)<(x.ops.length:Int):=by omega
  have hno:=k.nops
  obtain⟨o,hio⟩:∃ y,x.ops[i]?=some y:=⟨_,f0b (by omega)⟩
  have hom:=f0c hio
  have ho:=k.opd o hom
  have hix:=jah (enc:=jbi) (size:=5) hio rfl
  have hs:(i:Int)+1=((i+1:Nat):Int):=by omega
  obtain⟨hA,eA,okA,nA,xA,gA⟩:=jc2 ok [.int .i64 0,.int .i64 0,.bool false,.int .i64 0,.int .i64 0] (jbi o) 73
  have yF:=(gA _ hb.1).trans xF
  have yX:=(gA _ hb.2).trans xX
  have fin:∀ (x11 x12 x13 x14:AV),W F5 jrg.loop (.mk [x0,x1,x2,x3,x4,x5,x6,x7,x8,x9,x10,x11,x12,x13,x14,.s (jae jbi x.ops),vb true,vi x.ops.length,vi (i+1:Nat),x19,x20,x21,x22,.s (.ptr bF 0),x24,x25,x26,x27,x28,.s (.ptr bX 0)] hA) Q:=fun x11 x12 x13 x14 =>
   qgd k d (i+1) (by omega) okA ⟨by omega,by omega⟩ yF yX (fun hj x11 x12 x13 x14 x16 o n g=>hQ hj x11 x12 x13 x14 x16 o (by omega) (fun k hk=>(g k (by omega)).trans (gA k hk)))
  unfold jbi at xA eA
  rw[jaj]
  unfold jrg j92
  by_cases e:o.limit=5
  .have c1:((o.limit:Int)≠5)=False:=by simp;omega
   obtain⟨u,h1,h2,h3,h4⟩:=k.reu o hom e
   have h5:=(k.opd u (f0c h1)).val
   simp(disch:=first|omega|rfl) only[go_sem,jad,eq_true hlt,hix,jbi,eA,xA,c1]
   unfold j91
   simp(disch:=first|omega|rfl) only[go_sem,jad,xA,yF,yX,qkh h1 h2 h3 h4 h5 ho.val,hs]
   exact fin _ _ _ _
  .have c1:((o.limit:Int)≠5)=True:=by simp;omega
   simp(disch:=first|omega|rfl) only[go_sem,jad,eq_true hlt,hix,jbi,eA,xA,c1,hs]
   exact fin _ _ _ _
theorem qkk {h:Hp} (ok:Ok h) {f:Fc} {m:Nat×Nat} {x:Ms.Ins} (hc:∀ v,cl f.values v<2) (k:InsOk m f.values x):WC F5 38 [.agg [jae jaz f.values,jae ja3 f.blocks],.agg [si m.1,si m.2],.agg [si x.op,jae jbi x.ops,jae jds x.spoils]] h (fun v h'=>∃ d,jhz true h' d v=some (vi 0)):=by
 refine ja9 (no5 rfl rfl rfl rfl rfl) qug rfl ?_
 unfold qf1
 have hno:=k.nops
 have hns:=k.nsp
 have hop:=k.op
 obtain⟨hA,eA,okA,nA,xA,gA⟩:=je0 ok [jae jaz f.values,jae ja3 f.blocks] 29
 obtain⟨hB,eB,okB,nB,xB,gB⟩:=je0 okA [si m.1,si m.2] 25
 obtain⟨hC,eC,okC,nC,xC,gC⟩:=je0 okB [si x.op,jae jbi x.ops,jae jds x.spoils] 59
 have yA:=(gC _ (by omega)).trans ((gB _ (by omega)).trans xA)
 have yB:=(gC _ (by omega)).trans xB
 have nb:hB.next=h.next+2:=by omega
 rw[nA] at yB
 rw[nb] at xC
 have c1:((x.op:Int)<0)=False:=by simp
 have c2:(255<(x.op:Int))=False:=by simp;omega
 have l1:=jag (enc:=jbi) (l:=x.ops)
 have k0:InsOk m f.values ⟨x.op,x.ops,x.spoils⟩:=k
 simp(disch:=first|omega|rfl) only[go_sem,eA,eB,eC,nA,nb,xC,c1,c2]
 unfold j97
 simp(disch:=first|omega|rfl) only[go_sem,xC,l1]
 refine qgc (by omega) hc k.opd x.ops.length 0 (by omega) okC ⟨by omega,by omega⟩ yA yB (fun hj x19 x20 x21 x25 o n g=>?_)
 have zA:=(g _ (by omega)).trans yA
 have zB:=(g _ (by omega)).trans yB
 have zC:=(g _ (by omega)).trans xC
 simp(disch:=first|omega|rfl) only[go_sem,zC,l1]
 refine qgd k x.ops.length 0 (by omega) o ⟨by omega,by omega⟩ zA zC (fun hj x11 x12 x13 x14 x16 o n g=>?_)
 have vA:=(g _ (by omega)).trans zA
 have vB:=(g _ (by omega)).trans zB
 have vC:=(g _ (by omega)).trans zC
 simp(disch:=first|omega|rfl) only[go_sem,vB,vC,qki (m:=m) (l:=x.spoils) (by omega) k.spo k.ord]
 unfold j96
 simp(disch:=first|omega|rfl) only[go_sem,vA,vC,qkj k0]
 unfold j95
 simp(disch:=first|omega|rfl) only[go_sem]
 rw[jaj]
 unfold j94 j93
 have w0:=fun {h:Hp} {Q:AV->Hp->Prop}=>qgb (h:=h) (Q:=Q) (c:=0) (by omega) k0
 have w1:=fun {h:Hp} {Q:AV->Hp->Prop}=>qgb (h:=h) (Q:=Q) (c:=1) (by omega) k0
 simp only[f2f,f2m] at w0 w1
 simp(disch:=first|omega|rfl) only[go_sem,jad,vA,vB,vC,w0]
 rw[jaj]
 simp(disch:=first|omega|rfl) only[go_sem,jad,vA,vB,vC,w1]
 rw[jaj]
 simp(disch:=first|omega|rfl) only[go_sem]
 exact⟨1,rfl⟩
theorem qge (x:SV):∀ n,rep [x] n=List.replicate n x
 | 0=>rfl
 | n+1=>by
  have h:rep [x] (n+1)=jgp [x] (rep [x] n):=rfl
  rw[h,jc8,qge x n];rfl
theorem jri {α:Type} {c:α}:∀ {l:List α} {i:Nat},i<l.length->jbv i [c] l=some (l.set i c)
 | [],i,h=>by simp at h
 | a::l,0,h=>by
  cases l<;>rfl
 | a::l,i+1,h=>by
  rw[jdu,jri (by simpa using h)];rfl
def bls (s:List Bool):List SV:=s.map SV.bool
theorem qkl {h:Hp} {f:Fc} {Q:AV->Hp->Prop} (hv:v<f.values.length):WC F5 56 [.agg [jae jaz f.values,jae ja3 f.blocks],vi v] h Q=Q (vb true) h:=jaq ((jbk rfl).trans (qf9 hv))
theorem qkm {hi:Hp} (ok:Ok hi) {f:Fc} {bF bM bA:Nat} {s:List Bool} (hv:v<f.values.length) (hs:s.length=f.values.length) (hp:1<=bA) (xF:hi.get bF=some (.arr [jae jaz f.values,jae ja3 f.blocks] 29)) (xM:hi.get bM=some (.arr [.slice bA 0 f.values.length f.values.length true 1] 100)) (xA:hi.get bA=some (.arr (bls s) 4)) :
 WC F5 57 [vi v,.s (.ptr bF 0),.s (.ptr bM 0)] hi (fun u h'=>(s[v]?=some true->u=vi 7/\h'=hi)/\(s[v]?=some false->u=vi 0/\Ok h'/\h'.next=hi.next/\h'.get bA=some (.arr (bls (s.set v true)) 4)/\∀ k,k≠bA->h'.get k=hi.get k)):=by
 refine ja9 (no5 rfl rfl rfl rfl rfl) qui rfl ?_
 unfold qf3
 have hvs:v<s.length:=by omega
 obtain⟨b,hb⟩:∃ b,s[v]?=some b:=⟨_,f0b hvs⟩
 have hcell:(bls s)[v]?=some (.bool b):=by unfold bls;rw[f09,hb];rfl
 have hrd:rdB (hi.get bA) v 1=some [.bool b]:=by rw[xA];exact j9s hcell
 have hix:=jbg (size:=1) (b:=bA) (off:=0) (len:=f.values.length) (mc:=f.values.length) (sz:=1) (ex:=true) (m:=v) hv
 rw[f0z,f2h] at hix
 simp(disch:=first|omega|rfl) only[go_sem,xF,qkl hv]
 unfold qag
 cases b with
 | true =>
  simp(disch:=first|omega|rfl) only[go_sem,xM,hix,hrd,hb]
  exact⟨fun _=>trivial,fun h=>by cases h⟩
 | false =>
  have hset:wrB hi bA (hi.get bA) v [.bool true]=some (hi.put bA (some (.arr (bls (s.set v true)) 4))):=by
   rw[xA,jmu,jri (by unfold bls;rw[f1d];exact hvs)]
   show some (hi.put bA (some (.arr ((bls s).set v (.bool true)) 4)))=_
   unfold bls
   rw[List.map_set]
  simp(disch:=first|omega|rfl) only[go_sem,xM,hix,hrd]
  unfold qaf
  simp(disch:=first|omega|rfl) only[go_sem,xM,hix,hset]
  exact⟨fun h=>(by rw[hb] at h;cases h),fun _=>⟨jas ok,fun k hk=>by rw[if_neg hk]⟩⟩
def jlu:List Bool->List Nat->Option (List Bool)
 | s,[]=>some s
 | s,v::l=>if s[v]?=some true then none else jlu (s.set v true) l
theorem jwa:∀ (a b:List Nat) (s:List Bool),jlu s (a++b)=(jlu s a).bind (fun t=>jlu t b)
 | [],b,s=>rfl
 | v::a,b,s=>by
  show(if s[v]?=some true then none else jlu (s.set v true) (a++b))=(if s[v]?=some true then none else jlu (s.set v true) a).bind _
  split
  .rfl
  .exact jwa a b _
structure OnI (hi:Hp) (f:Fc) (bF bM bA:Nat) (s:List Bool):Prop where
 ok:Ok hi
 hs:s.length=f.values.length
 lt:bF<hi.next/\bM<hi.next/\bA<hi.next
 pos:1<=bA/\bF≠bA/\bM≠bA
 xF:hi.get bF=some (.arr [jae jaz f.values,jae ja3 f.blocks] 29)
 xM:hi.get bM=some (.arr [.slice bA 0 f.values.length f.values.length true 1] 100)
 xA:hi.get bA=some (.arr (bls s) 4)
section
variable {hi hj:Hp} {f:Fc} {bF bM bA:Nat} {s:List Bool}
theorem OnI.keep (k:OnI hi f bF bM bA s) (ok:Ok hj) (hn:hi.next<=hj.next) (g:∀ n,n<hi.next->hj.get n=hi.get n):OnI hj f bF bM bA s :=
 ⟨ok,k.hs,⟨f0m k.lt.1 hn,f0m k.lt.2.1 hn,f0m k.lt.2.2 hn⟩,k.pos,(g _ k.lt.1).trans k.xF,(g _ k.lt.2.1).trans k.xM,(g _ k.lt.2.2).trans k.xA⟩
theorem OnI.tell (k:OnI hi f bF bM bA s) (hv:v<f.values.length):WC F5 57 [vi v,.s (.ptr bF 0),.s (.ptr bM 0)] hi (fun u h'=>(s[v]?=some true/\u=vi 7)∨(s[v]?≠some true/\u=vi 0/\OnI h' f bF bM bA (s.set v true)/\h'.next=hi.next/\∀ n,n≠bA->h'.get n=hi.get n)) :=
 WC.imp (qkm k.ok hv k.hs k.pos.1 k.xF k.xM k.xA) (fun u h' ⟨h1,h2⟩=>by
  obtain⟨b,hb⟩:∃ b,s[v]?=some b:=⟨_,f0b (by rw[k.hs];exact hv)⟩
  cases b with
  | true=>exact .inl ⟨hb,(h1 hb).1⟩
  | false =>
   obtain⟨e,o,n,g,kp⟩:=h2 hb
   exact .inr ⟨by rw[hb];simp,e,⟨o,by rw[f3k];exact k.hs,by rw[n];exact k.lt,k.pos,(kp _ k.pos.2.1).trans k.xF,(kp _ k.pos.2.2).trans k.xM,g⟩,n,kp⟩)
end
def clo (bF bM:Nat):AV:=.s (.func 57 [(bF,0),(bM,0)])
theorem qgf {f:Fc} {ps:List Nat} {bF bM bA:Nat} (hl:ps.length<=10000) (hp:∀ v∈ps,v<f.values.length) {Q:Ex->St->Prop} :
 ∀ (rest done:List Nat) (_:done++rest=ps) {s:List Bool} {hi:Hp} (_:OnI hi f bF bM bA s) {x16 x17 x18 x21:AV}
  (hQ:∀ t,jlu s rest=some t->∀ hj x16 x17 x18 x21,OnI hj f bF bM bA t->hi.next<=hj.next->(∀ n,n<hi.next->n≠bA->hj.get n=hi.get n)->Q (.exit 2) (.mk [x0,x1,x2,x3,x4,x5,x6,x7,x8,x9,x10,x11,x12,x13,x14,x15,x16,x17,x18,clo bF bM,.s (jae jaz ps),x21,vi ps.length,vi ps.length,x24,x25,x26,x27,x28,.s (.ptr bM 0),.s (.ptr bF 0)] hj))
  (hN:jlu s rest=none->∀ hj x2 x3 x4 x5 x6 x7 x8 x9 x10 x11 x12 x13 x14 x15 x16 x17 x18 x19 x20 x21 x22 x23 x24 x25 x26 x27 x28 x29 x30,Q .ret (.mk [x0,vi 7,x2,x3,x4,x5,x6,x7,x8,x9,x10,x11,x12,x13,x14,x15,x16,x17,x18,x19,x20,x21,x22,x23,x24,x25,x26,x27,x28,x29,x30] hj)),
  W F5 jv2.loop (.mk [x0,x1,x2,x3,x4,x5,x6,x7,x8,x9,x10,x11,x12,x13,x14,x15,x16,x17,x18,clo bF bM,.s (jae jaz ps),x21,vi ps.length,vi done.length,x24,x25,x26,x27,x28,.s (.ptr bM 0),.s (.ptr bF 0)] hi) Q
 | [],done,hdn,s,hi,I,x16,x17,x18,x21,hQ,hN=>by
  rw[f1c] at hdn
  subst hdn
  rw[jaj]
  unfold jv2
  simp(disch:=first|omega|rfl) only[go_sem,f0s]
  exact hQ s rfl hi _ _ _ _ I (f0d _) (fun _ _ _=>rfl)
 | v::rest,done,hdn,s,hi,I,x16,x17,x18,x21,hQ,hN=>by
  have hlt1:done.length<ps.length:=by rw[←hdn];simp
  have hlt:(done.length:Int)<ps.length:=by omega
  have hget:ps[done.length]?=some v:=by rw[←hdn];simp
  have hv:=hp v (f0c hget)
  have hix:=jah (enc:=jaz) (size:=1) hget rfl
  have hdn':(done++[v])++rest=ps:=by rw[←hdn];simp
  have hs:(done.length:Int)+1=(((done++[v]).length:Nat):Int):=by simp
  rw[jaj]
  unfold jv2 j99 clo
  simp(disch:=first|omega|rfl) only[go_sem,jad,eq_true hlt,hix,jaz]
  rw[j2y rfl]
  simp(disch:=first|omega|rfl) only[go_sem]
  refine WC.imp (I.tell hv) ?_
  rintro u h' (⟨h1,rfl⟩ | ⟨h1,rfl,I',n',k'⟩)
  .simp (disch:=first|omega|rfl) only[go_sem]
   exact hN (by unfold jlu;rw[if_pos h1]) ..
  .simp (disch:=first|omega|rfl) only[go_sem,jad,hs]
   exact qgf hl hp rest (done++[v]) hdn' I' (fun t ht hj x16 x17 x18 x21 J n g=>hQ t (by unfold jlu;rw[if_neg h1];exact ht) hj x16 x17 x18 x21 J (by omega) (fun m hm hne=>(g m (by omega) hne).trans (k' m hne))) (fun ht=>hN (by unfold jlu;rw[if_neg h1];exact ht))
def dfO (l:List Ms.Opd):List Nat:=(l.filter (fun o=>o.kind=2)).map (·.value)
theorem jj2 {b:List Nat} {s t:List Bool} (h:jlu s a=some t):jlu s (a++b)=jlu t b:=by rw[jwa,h];rfl
theorem j1q {b:List Nat} {s:List Bool} (h:jlu s a=none):jlu s (a++b)=none:=by rw[jwa,h];rfl
theorem qaw {f:Fc} {l:List Ms.Opd} {bF bM bA:Nat} (hl:l.length<=10000) (hp:∀ o∈l,o.value<f.values.length) {Q:Ex->St->Prop} :
 ∀ (rest done:List Ms.Opd) (_:done++rest=l) {s:List Bool} {hi:Hp} (_:OnI hi f bF bM bA s) {x3 x4 x5 x6 x8:AV}
  (hQ:∀ t,jlu s (dfO rest)=some t->∀ hj x3 x4 x5 x6 x8,OnI hj f bF bM bA t->hi.next<=hj.next->(∀ n,n<hi.next->n≠bA->hj.get n=hi.get n)->Q (.exit 6) (.mk [x0,x1,x2,x3,x4,x5,x6,.s (jae jbi l),x8,vi l.length,vi l.length,x11,x12,x13,x14,x15,x16,x17,x18,clo bF bM,x20,x21,x22,x23,x24,x25,x26,x27,x28,.s (.ptr bM 0),.s (.ptr bF 0)] hj))
  (hN:jlu s (dfO rest)=none->∀ hj x2 x3 x4 x5 x6 x7 x8 x9 x10 x11 x12 x13 x14 x15 x16 x17 x18 x19 x20 x21 x22 x23 x24 x25 x26 x27 x28 x29 x30,Q .ret (.mk [x0,vi 7,x2,x3,x4,x5,x6,x7,x8,x9,x10,x11,x12,x13,x14,x15,x16,x17,x18,x19,x20,x21,x22,x23,x24,x25,x26,x27,x28,x29,x30] hj)),
  W F5 jv3.loop (.mk [x0,x1,x2,x3,x4,x5,x6,.s (jae jbi l),x8,vi l.length,vi done.length,x11,x12,x13,x14,x15,x16,x17,x18,clo bF bM,x20,x21,x22,x23,x24,x25,x26,x27,x28,.s (.ptr bM 0),.s (.ptr bF 0)] hi) Q
 | [],done,hdn,s,hi,I,x3,x4,x5,x6,x8,hQ,hN=>by
  rw[f1c] at hdn
  subst hdn
  rw[jaj]
  unfold jv3
  simp(disch:=first|omega|rfl) only[go_sem,f0s]
  exact hQ s rfl hi _ _ _ _ _ I (f0d _) (fun _ _ _=>rfl)
 | o::rest,done,hdn,s,hi,I,x3,x4,x5,x6,x8,hQ,hN=>by
  have hlt1:done.length<l.length:=by rw[←hdn];simp
  have hlt:(done.length:Int)<l.length:=by omega
  have hget:l[done.length]?=some o:=by rw[←hdn];simp
  have hv:=hp o (f0c hget)
  have hix:=jah (enc:=jbi) (size:=5) hget rfl
  have hdn':(done++[o])++rest=l:=by rw[←hdn];simp
  have hs:(done.length:Int)+1=(((done++[o]).length:Nat):Int):=by simp
  have ok:=I.ok
  obtain⟨hA,eA,okA,nA,xA,gA⟩:=jc2 ok [.int .i64 0,.int .i64 0,.bool false,.int .i64 0,.int .i64 0] (jbi o) 73
  have IA:=I.keep okA (by omega) gA
  unfold jbi at xA eA
  rw[jaj]
  unfold jv3 qab clo
  by_cases e:o.kind=2
  .have c1:((o.kind:Int)≠2)=False:=by simp;omega
   have ed:dfO (o::rest)=o.value::dfO rest:=by unfold dfO;rw[List.filter_cons_of_pos (by simpa using e)];rfl
   simp(disch:=first|omega|rfl) only[go_sem,jad,eq_true hlt,hix,jbi,eA,xA,c1]
   unfold qaa
   simp(disch:=first|omega|rfl) only[go_sem,xA]
   rw[j2y rfl]
   simp(disch:=first|omega|rfl) only[go_sem]
   refine WC.imp (IA.tell hv) ?_
   rintro u h' (⟨h1,rfl⟩ | ⟨h1,rfl,I',n',k'⟩)
   .simp (disch:=first|omega|rfl) only[go_sem]
    exact hN (by rw[ed];unfold jlu;rw[if_pos h1]) ..
   .simp (disch:=first|omega|rfl) only[go_sem,jad,hs]
    exact qaw hl hp rest (done++[o]) hdn' I' (fun t ht hj x3 x4 x5 x6 x8 J n g=>hQ t (by rw[ed];unfold jlu;rw[if_neg h1];exact ht) hj x3 x4 x5 x6 x8 J (by omega) (fun m hm hne=>(g m (by omega) hne).trans ((k' m hne).trans (gA m hm)))) (fun ht=>hN (by rw[ed];unfold jlu;rw[if_neg h1];exact ht))
  .have c1:((o.kind:Int)≠2)=True:=by simp;omega
   have ed:dfO (o::rest)=dfO rest:=by unfold dfO;rw[List.filter_cons_of_neg (by simpa using e)]
   simp(disch:=first|omega|rfl) only[go_sem,jad,eq_true hlt,hix,jbi,eA,xA,c1,hs]
   exact qaw hl hp rest (done++[o]) hdn' IA (fun t ht hj x3 x4 x5 x6 x8 J n g=>hQ t (by rw[ed];exact ht) hj x3 x4 x5 x6 x8 J (by omega) (fun m hm hne=>(g m (by omega) hne).trans (gA m hm))) (fun ht=>hN (by rw[ed];exact ht))
theorem qgg {f:Fc} {l:List Ms.Ins} {bF bM bA:Nat} (hl:l.length<=10000) (hp:∀ x∈l,x.ops.length<=6/\∀ o∈x.ops,o.value<f.values.length) {Q:Ex->St->Prop} :
 ∀ (rest done:List Ms.Ins) (_:done++rest=l) {s:List Bool} {hi:Hp} (_:OnI hi f bF bM bA s) {x3 x4 x5 x6 x7 x8 x9 x10 x11 x13:AV}
  (hQ:∀ t,jlu s (rest.map jdf).flatten=some t->∀ hj x3 x4 x5 x6 x7 x8 x9 x10 x11 x13,OnI hj f bF bM bA t->hi.next<=hj.next->(∀ n,n<hi.next->n≠bA->hj.get n=hi.get n)->Q (.exit 4) (.mk [x0,x1,x2,x3,x4,x5,x6,x7,x8,x9,x10,x11,.s (jae jel l),x13,vi l.length,vi l.length,x16,x17,x18,clo bF bM,x20,x21,x22,x23,x24,x25,x26,x27,x28,.s (.ptr bM 0),.s (.ptr bF 0)] hj))
  (hN:jlu s (rest.map jdf).flatten=none->∀ hj x2 x3 x4 x5 x6 x7 x8 x9 x10 x11 x12 x13 x14 x15 x16 x17 x18 x19 x20 x21 x22 x23 x24 x25 x26 x27 x28 x29 x30,Q .ret (.mk [x0,vi 7,x2,x3,x4,x5,x6,x7,x8,x9,x10,x11,x12,x13,x14,x15,x16,x17,x18,x19,x20,x21,x22,x23,x24,x25,x26,x27,x28,x29,x30] hj)),
  W F5 jv4.loop (.mk [x0,x1,x2,x3,x4,x5,x6,x7,x8,x9,x10,x11,.s (jae jel l),x13,vi l.length,vi done.length,x16,x17,x18,clo bF bM,x20,x21,x22,x23,x24,x25,x26,x27,x28,.s (.ptr bM 0),.s (.ptr bF 0)] hi) Q
 | [],done,hdn,s,hi,I,x3,x4,x5,x6,x7,x8,x9,x10,x11,x13,hQ,hN=>by
  rw[f1c] at hdn
  subst hdn
  rw[jaj]
  unfold jv4
  simp(disch:=first|omega|rfl) only[go_sem,f0s]
  exact hQ s rfl hi _ _ _ _ _ _ _ _ _ _ I (f0d _) (fun _ _ _=>rfl)
 | x::rest,done,hdn,s,hi,I,x3,x4,x5,x6,x7,x8,x9,x10,x11,x13,hQ,hN=>by
  have hlt1:done.length<l.length:=by rw[←hdn];simp
  have hlt:(done.length:Int)<l.length:=by omega
  have hget:l[done.length]?=some x:=by rw[←hdn];simp
  have hv:=hp x (f0c hget)
  have hix:=jah (enc:=jel) (size:=3) hget rfl
  have hdn':(done++[x])++rest=l:=by rw[←hdn];simp
  have hs:(done.length:Int)+1=(((done++[x]).length:Nat):Int):=by simp
  have ok:=I.ok
  obtain⟨hA,eA,okA,nA,xA,gA⟩:=jc2 ok [.int .i64 0,.nilSlice,.nilSlice] (jel x) 59
  have IA:=I.keep okA (by omega) gA
  have l1:=jag (enc:=jbi) (l:=x.ops)
  have ed:((x::rest).map jdf).flatten=dfO x.ops++(rest.map jdf).flatten:=rfl
  unfold jel at xA eA
  rw[jaj]
  unfold jv4 qac
  simp(disch:=first|omega|rfl) only[go_sem,jad,eq_true hlt,hix,jel,eA,xA,l1]
  refine qaw (by omega) hv.2 x.ops [] rfl IA (fun t ht hj x3 x4 x5 x6 x8 J n g=>?_) (fun ht=>?_)
  .simp (disch:=first|omega|rfl) only[go_sem,jad,hs]
   exact qgg hl hp rest (done++[x]) hdn' J (fun t' ht' hk x3 x4 x5 x6 x7 x8 x9 x10 x11 x13 J' n' g'=>hQ t' (by rw[ed,jj2 ht];exact ht') hk x3 x4 x5 x6 x7 x8 x9 x10 x11 x13 J' (by omega) (fun m hm hne=>(g' m (by omega) hne).trans ((g m (by omega) hne).trans (gA m hm)))) (fun ht'=>hN (by rw[ed,jj2 ht];exact ht'))
  .intro hj x2 x3 x4 x5 x6 x7 x8 x9 x10 x11 x12 x13 x14 x15 x16 x17 x18 x19 x20 x21 x22 x23 x24 x25 x26 x27 x28 x29 x30
   simp(disch:=first|omega|rfl) only[go_sem]
   exact hN (by rw[ed,j1q ht]) ..
theorem qgh {f:Fc} {bF bM bA:Nat} (hl:f.blocks.length<=10000) (hp:∀ b∈f.blocks,b.params.length<=10000/\b.instrs.length<=10000/\(∀ v∈b.params,v<f.values.length)/\∀ x∈b.instrs,x.ops.length<=6/\∀ o∈x.ops,o.value<f.values.length) {Q:Ex->St->Prop} :
 ∀ (rest done:List Blk) (_:done++rest=f.blocks) {s:List Bool} {hi:Hp} (_:OnI hi f bF bM bA s) {x3 x4 x5 x6 x7 x8 x9 x10 x11 x12 x13 x14 x15 x16 x17 x18 x20 x21 x22 x23 x24 x26:AV}
  (hQ:∀ t,jlu s (jdl rest)=some t->∀ hj x3 x4 x5 x6 x7 x8 x9 x10 x11 x12 x13 x14 x15 x16 x17 x18 x20 x21 x22 x23 x24 x26,OnI hj f bF bM bA t->Q (.exit 0) (.mk [x0,x1,x2,x3,x4,x5,x6,x7,x8,x9,x10,x11,x12,x13,x14,x15,x16,x17,x18,clo bF bM,x20,x21,x22,x23,x24,.s (jae ja3 f.blocks),x26,vi f.blocks.length,vi f.blocks.length,.s (.ptr bM 0),.s (.ptr bF 0)] hj))
  (hN:jlu s (jdl rest)=none->∀ hj x2 x3 x4 x5 x6 x7 x8 x9 x10 x11 x12 x13 x14 x15 x16 x17 x18 x19 x20 x21 x22 x23 x24 x25 x26 x27 x28 x29 x30,Q .ret (.mk [x0,vi 7,x2,x3,x4,x5,x6,x7,x8,x9,x10,x11,x12,x13,x14,x15,x16,x17,x18,x19,x20,x21,x22,x23,x24,x25,x26,x27,x28,x29,x30] hj)),
  W F5 jv5.loop (.mk [x0,x1,x2,x3,x4,x5,x6,x7,x8,x9,x10,x11,x12,x13,x14,x15,x16,x17,x18,clo bF bM,x20,x21,x22,x23,x24,.s (jae ja3 f.blocks),x26,vi f.blocks.length,vi done.length,.s (.ptr bM 0),.s (.ptr bF 0)] hi) Q
 | [],done,hdn,s,hi,I,x3,x4,x5,x6,x7,x8,x9,x10,x11,x12,x13,x14,x15,x16,x17,x18,x20,x21,x22,x23,x24,x26,hQ,hN=>by
  rw[f1c] at hdn
  rw[jaj,hdn]
  unfold jv5
  simp(disch:=first|omega|rfl) only[go_sem,f0s]
  exact hQ s rfl hi _ _ _ _ _ _ _ _ _ _ _ _ _ _ _ _ _ _ _ _ _ _ I
 | b::rest,done,hdn,s,hi,I,x3,x4,x5,x6,x7,x8,x9,x10,x11,x12,x13,x14,x15,x16,x17,x18,x20,x21,x22,x23,x24,x26,hQ,hN=>by
  have hlt1:done.length<f.blocks.length:=by rw[←hdn];simp
  have hlt:(done.length:Int)<f.blocks.length:=by omega
  have hget:f.blocks[done.length]?=some b:=by rw[←hdn];simp
  obtain⟨p1,p2,p3,p4⟩:=hp b (f0c hget)
  have hix:=jah (enc:=ja3) (size:=3) hget rfl
  have hdn':(done++[b])++rest=f.blocks:=by rw[←hdn];simp
  have hs:(done.length:Int)+1=(((done++[b]).length:Nat):Int):=by simp
  have ok:=I.ok
  obtain⟨hA,eA,okA,nA,xA,gA⟩:=jc2 ok [.nilSlice,.nilSlice,.nilSlice] (ja3 b) 39
  have IA:=I.keep okA (by omega) gA
  have l1:=jag (enc:=jaz) (l:=b.params)
  have l2:=jag (enc:=jel) (l:=b.instrs)
  have ed:jdl (b::rest)=b.params++((b.instrs.map jdf).flatten++jdl rest):=by simp[jdl,jr2]
  have hneA:hi.next≠bA:=by have:=I.lt;omega
  unfold ja3 at xA eA
  rw[jaj]
  unfold jv5 qad
  simp(disch:=first|omega|rfl) only[go_sem,jad,eq_true hlt,hix,ja3,eA,xA,l1]
  refine qgf p1 p3 b.params [] rfl IA (fun t ht hj x16 x17 x18 x21 J n g=>?_) (fun ht=>?_)
  .have xJ:=(g _ (by omega) hneA).trans xA
   simp(disch:=first|omega|rfl) only[go_sem,xJ,l2]
   refine qgg p2 p4 b.instrs [] rfl J (fun t' ht' hk x3 x4 x5 x6 x7 x8 x9 x10 x11 x13 J' n' g'=>?_) (fun ht'=>?_)
   .simp (disch:=first|omega|rfl) only[go_sem,jad,hs]
    exact qgh hl hp rest (done++[b]) hdn' J' (fun t2 ht2=>hQ t2 (by rw[ed,jj2 ht,jj2 ht'];exact ht2)) (fun ht2=>hN (by rw[ed,jj2 ht,jj2 ht'];exact ht2))
   .intro hj x2 x3 x4 x5 x6 x7 x8 x9 x10 x11 x12 x13 x14 x15 x16 x17 x18 x19 x20 x21 x22 x23 x24 x25 x26 x27 x28 x29 x30
    simp(disch:=first|omega|rfl) only[go_sem]
    exact hN (by rw[ed,jj2 ht,j1q ht']) ..
  .intro hj x2 x3 x4 x5 x6 x7 x8 x9 x10 x11 x12 x13 x14 x15 x16 x17 x18 x19 x20 x21 x22 x23 x24 x25 x26 x27 x28 x29 x30
   simp(disch:=first|omega|rfl) only[go_sem]
   exact hN (by rw[ed,j1q ht]) ..
end Go.Proofs.YtdbklpgagdbpiaaDoor.Ev
