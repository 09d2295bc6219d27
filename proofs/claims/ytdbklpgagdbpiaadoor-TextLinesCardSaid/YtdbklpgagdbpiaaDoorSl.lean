/- What functions may be: each value is made once: the answer. -/
import Derived.Test.YtdbklpgagdbpiaaDoorSi
namespace Go.Proofs.YtdbklpgagdbpiaaDoor.Ev
open Go Go.RowKit Go.Proofs.YtdbklpgagdbpiaaDoor.Ms
attribute [local go_sem] Int.reduceToNat reduceCtorEq Nat.reduceAdd Nat.reduceMul Nat.reduceEqDiff Int.reduceEq Int.reduceLT Int.reduceLE Int.reduceNeg Int.reduceAdd Int.reduceSub Int.reduceMul Int.reduceNe
attribute [local go_sem ↓] reduceIte
set_option linter.all false
set_option maxRecDepth 100000
set_option maxHeartbeats 2000000
variable {x0 x1 x2 x3 x4 x5 x6 x7 x8 x9 x10 x11 x12 x13 x14 x15 x16 x17 x18 x19 x20 x21 x22 x23 x24 x25 x26 x27 x28 x29 x30 x31 x33 x34 x35:AV} {vs:List AV} {bA bF bM:Nat}
theorem j4b {s:List Bool} (hl:s.length<=10000) {Q:Ex->St->Prop} :
 ∀ (rest done:List Bool) (_:done++rest=s) {hi:Hp} (_:Ok hi) (_:hi.get bA=some (.arr (bls s) 4)) {x3 x4 x5:AV}
  (hQ:false∉rest->∀ hj x3 x4 x5,Q (.exit 0) (.mk [.s (.slice bA 0 s.length s.length true 1),vb false,x2,x3,x4,x5,vi s.length,vi s.length] hj))
  (hF:∀ (k:Nat) hj x3 x4 x5 x6 x7,false∈rest->Q .ret (.mk [.s (.slice bA 0 s.length s.length true 1),vb false,vi k,x3,x4,x5,x6,x7] hj)),
  W F5 joh.loop (.mk [.s (.slice bA 0 s.length s.length true 1),vb false,x2,x3,x4,x5,vi s.length,vi done.length] hi) Q
 | [],done,hdn,hi,ok,xA,x3,x4,x5,hQ,hF=>by
  rw[f1c] at hdn
  rw[jaj,hdn]
  unfold joh
  simp(disch:=first|omega|rfl) only[go_sem,f0s]
  exact hQ (by simp) hi ..
 | b::rest,done,hdn,hi,ok,xA,x3,x4,x5,hQ,hF=>by
  have hlt1:done.length<s.length:=by rw[←hdn];simp
  have hlt:(done.length:Int)<s.length:=by omega
  have hget:s[done.length]?=some b:=by rw[←hdn];simp
  have hcell:(bls s)[done.length]?=some (.bool b):=by unfold bls;rw[f09,hget];rfl
  have hrd:rdB (hi.get bA) done.length 1=some [.bool b]:=by rw[xA];exact j9s hcell
  have hix:=jbg (size:=1) (b:=bA) (off:=0) (len:=s.length) (mc:=s.length) (sz:=1) (ex:=true) (m:=done.length) hlt1
  rw[f0z,f2h] at hix
  have hdn':(done++[b])++rest=s:=by rw[←hdn];simp
  have hs:(done.length:Int)+1=(((done++[b]).length:Nat):Int):=by simp
  rw[jaj]
  unfold joh j36
  cases b with
  | true =>
   simp(disch:=first|omega|rfl) only[go_sem,jad,eq_true hlt,hix,hrd,jtc,qv8,hs]
   exact j4b hl rest (done++[true]) hdn' ok xA (fun h=>hQ (by simpa using h)) (fun k hj x3 x4 x5 x6 x7 h=>hF k hj x3 x4 x5 x6 x7 (by simp[h]))
  | false =>
   simp(disch:=first|omega|rfl) only[go_sem,jad,eq_true hlt,hix,hrd,jtc,qv8,hs]
   exact hF _ _ _ _ _ _ _ (by simp)
theorem qkn {hi:Hp} (ok:Ok hi) {s:List Bool} (hl:s.length<=10000) (xA:hi.get bA=some (.arr (bls s) 4)):WC F5 58 [.s (.slice bA 0 s.length s.length true 1),vb false] hi (fun u h'=>u=vb (decide (false∈s))):=by
 refine ja9 (no5 rfl rfl rfl rfl rfl) qul rfl ?_
 unfold qf6
 simp(disch:=first|omega|rfl) only[go_sem]
 refine WC.imp (Q:=fun u h'=>(false∈s/\∃ k:Nat,u=vi k)∨(false∉s/\u=vi (-1))) ?_ ?_
 .refine ja9 (no5 rfl rfl rfl rfl rfl) qqk rfl ?_
  unfold qap
  simp(disch:=first|omega|rfl) only[go_sem]
  refine j4b hl s [] rfl ok xA (fun h hj x3 x4 x5=>?_) (fun k hj x3 x4 x5 x6 x7 h=>?_)
  .simp (disch:=first|omega|rfl) only[go_sem]
   first | exact .inr ⟨h,rfl⟩ | exact .inr h
  .simp (disch:=first|omega|rfl) only[go_sem]
   exact .inl ⟨h,k,rfl⟩
 .rintro u h' (⟨h,k,rfl⟩ | ⟨h,rfl⟩)
  .have c1:(0<=(k:Int))=True:=by simp
   simp(disch:=first|omega|rfl) only[go_sem,c1,h]
  .simp (disch:=first|omega|rfl) only[go_sem,h]
def jna (f:Fc):Nat:=match jlu (List.replicate f.values.length false) (jdl f.blocks) with
 | none=>7
 | some t=>if false∈t then 6 else 0
theorem qko {h:Hp} (ok:Ok h) {f:Fc} (hl:f.blocks.length<=10000) (hv:f.values.length<=10000) (hp:∀ b∈f.blocks,b.params.length<=10000/\b.instrs.length<=10000/\(∀ v∈b.params,v<f.values.length)/\∀ x∈b.instrs,x.ops.length<=6/\∀ o∈x.ops,o.value<f.values.length) :
 WC F5 40 [.agg [jae jaz f.values,jae ja3 f.blocks]] h (fun v h'=>∃ d,jhz true h' d v=some (vi (jna f))):=by
 refine ja9 (no5 rfl rfl rfl rfl rfl) quh rfl ?_
 unfold qf2
 have hpos:=ok.pos
 obtain⟨hA,eA,okA,nA,xA,gA⟩:=je0 ok [jae jaz f.values,jae ja3 f.blocks] 29
 obtain⟨hB,eB,okB,nB,xB,gB⟩:=je0 okA (rep [.bool false] f.values.length) 4
 obtain⟨hC,eC,okC,nC,xC,gC⟩:=jc2 okB [.nilSlice] [.slice hA.next 0 f.values.length f.values.length true 1] 100
 have nb:hB.next=h.next+2:=by omega
 rw[qge] at xB
 have hbl:bls (List.replicate f.values.length false)=List.replicate f.values.length (.bool false):=by unfold bls;rw[List.map_replicate]
 rw[←hbl] at xB
 have I:OnI hC f h.next hB.next hA.next (List.replicate f.values.length false) :=
  ⟨okC,f2k,⟨by omega,by omega,by omega⟩,⟨by omega,by omega,by omega⟩,(gC _ (by omega)).trans ((gB _ (by omega)).trans xA),xC,(gC _ (by omega)).trans xB⟩
 have l1:=jag (enc:=jaz) (l:=f.values)
 have l2:=jag (enc:=ja3) (l:=f.blocks)
 have hmk:=j0h (e:=4) (size:=1) (bytes:=1) (z:=[.bool false]) (m:=f.values.length) okA (by omega) (by omega)
 rw[eB] at hmk
 have xF:=I.xF
 rw[nA,nb] at I
 rw[nA] at hmk eC
 rw[nb] at eC
 simp(disch:=first|omega|rfl) only[go_sem,eA,xA,l1,hmk,nb,eC,nA,xF,l2,jkx]
 refine qgh hl hp f.blocks [] rfl I (fun t ht hj x3 x4 x5 x6 x7 x8 x9 x10 x11 x12 x13 x14 x15 x16 x17 x18 x20 x21 x22 x23 x24 x26 J=>?_) (fun ht=>?_)
 .have xM:=J.xM
  have eo:jna f=if false∈t then 6 else 0:=by unfold jna;rw[ht]
  rw[eo]
  simp(disch:=first|omega|rfl) only[go_sem,xM]
  have hts:t.length=f.values.length:=J.hs
  have hct:=qkn J.ok (s:=t) (by omega) J.xA
  rw[hts] at hct
  refine WC.imp hct ?_
  rintro u h' rfl
  by_cases e:false∈t
  .simp (disch:=first|omega|rfl) only[go_sem,e]
   exact⟨1,rfl⟩
  .simp (disch:=first|omega|rfl) only[go_sem,e]
   unfold qae
   simp(disch:=first|omega|rfl) only[go_sem]
   exact⟨1,rfl⟩
 .intro hj x2 x3 x4 x5 x6 x7 x8 x9 x10 x11 x12 x13 x14 x15 x16 x17 x18 x19 x20 x21 x22 x23 x24 x25 x26 x27 x28 x29 x30
  have eo:jna f=7:=by unfold jna;rw[ht]
  rw[eo]
  simp(disch:=first|omega|rfl) only[go_sem]
  exact⟨1,rfl⟩
def S6 (f:FuncId):Bool:=Nat.beq f 38||Nat.beq f 40
noncomputable def F6:Fns:=PX S6 F5
theorem qxc {A:Nat->Int}:Env Tryd.prog A tys F6:=jhx qxb
theorem no6 {f:FuncId} (h1:S1 f=false) (h2:Nat.beq f jg9.f=false) (h3:S3 f=false) (h4:S4 f=false) (h5:S5 f=false) (h6:S6 f=false) {h:Hp}:jdx F6 f vs h=none:=(jbk h6).trans (no5 h1 h2 h3 h4 h5)
theorem qax {m:Nat×Nat} {f:Fc} (k:FcOk m f):∀ b∈f.blocks,b.params.length<=10000/\b.instrs.length<=10000/\(∀ v∈b.params,v<f.values.length)/\∀ x∈b.instrs,x.ops.length<=6/\∀ o∈x.ops,o.value<f.values.length:=fun b hb=>by
 have h1:=k.blk b hb
 exact⟨by omega,by omega,k.prm b hb,fun x hx=>⟨(k.ins b hb x hx).nops,fun o ho=>((k.ins b hb x hx).opd o ho).val⟩⟩
section
variable {h:Hp} {f:Fc} {m:Nat×Nat} {Q:AV->Hp->Prop}
theorem qqp (m1:2<=m.1/\m.1<=10) (m2:2<=m.2/\m.2<=10):WC F6 36 [.agg [si m.1,si m.2]] h Q=Q (vi 0) h :=
 jaq ((jbk rfl).trans ((jbk rfl).trans (jbm rfl (by simp only[jat,ja1,jbd,jcw,ja2,jbe,jbb,jbq,jbf,jbn,if_true]) (qql jex m1 m2))))
theorem qqq (k:FcOk m f):WC F6 37 [.agg [jae jaz f.values,jae ja3 f.blocks]] h Q=Q (vi 0) h :=
 jaq ((jbk rfl).trans ((jbk rfl).trans (jbm rfl (by simp only[jat,ja1,jbd,jcw,ja2,jbe,jbb,jbq,jbf,jbn,if_true]) (qqn jex k))))
theorem qkp {op:Nat} {ops:List Ms.Opd} {sp:List (Nat×Nat)} (hc:∀ v,cl f.values v<2) (k:InsOk m f.values ⟨op,ops,sp⟩):WC F6 38 [.agg [jae jaz f.values,jae ja3 f.blocks],.agg [si m.1,si m.2],.agg [si op,jae jbi ops,jae jds sp]] h Q=Q (vi 0) h :=
 jaq (jbm rfl (by simp only[jat,ja1,jbd,jcw,ja2,jbe,jbb,jbq,jbf,jbn,if_true]) (qkk jex hc k))
theorem qkq {e:Ms.Edg} (k:jr3 f.values f.blocks e) (hl:e.args.length<=10000):WC F6 39 [.agg [jae jaz f.values,jae ja3 f.blocks],.agg [si e.block,jae jaz e.args]] h Q=Q (vi 0) h :=
 jaq ((jbk rfl).trans (jbm rfl (by simp only[jat,ja1,jbd,jcw,ja2,jbe,jbb,jbq,jbf,jbn,if_true]) (qka jex k hl)))
theorem qkr (k:FcOk m f):WC F6 40 [.agg [jae jaz f.values,jae ja3 f.blocks]] h Q=Q (vi (jna f)) h :=
 jaq (jbm rfl (by simp only[jat,ja1,jbd,jcw,ja2,jbe,jbb,jbq,jbf,jbn,if_true]) (qko jex (by have:=k.nb;omega) (by have:=k.nv;omega) (qax k)))
end
theorem qgi {l:List Nat} (hl:l.length<=10000) (hp:∀ c∈l,c<2) {x32:AV} {Q:Ex->St->Prop} :
 ∀ (d i:Nat) (_:i+d=l.length) {hi:Hp} (_:Ok hi) {x24 x25 x27:AV}
  (hQ:∀ x24 x25 x27,Q (.exit 0) (.mk [x0,x1,x2,x3,x4,x5,x6,x7,x8,x9,x10,x11,x12,x13,x14,x15,x16,x17,x18,x19,x20,x21,x22,x23,x24,x25,.s (jae jaz l),x27,vi l.length,vi l.length,x30,x31,x32,x33,x34,x35] hi)),
  W F6 jv6.loop (.mk [x0,x1,x2,x3,x4,x5,x6,x7,x8,x9,x10,x11,x12,x13,x14,x15,x16,x17,x18,x19,x20,x21,x22,x23,x24,x25,.s (jae jaz l),x27,vi l.length,vi i,x30,x31,x32,x33,x34,x35] hi) Q
 | 0,i,hd,hi,ok,x24,x25,x27,hQ=>by
  obtain rfl:i=l.length:=by omega
  rw[jaj]
  unfold jv6
  simp(disch:=first|omega|rfl) only[go_sem,f0s]
  exact hQ _ _ _
 | d+1,i,hd,hi,ok,x24,x25,x27,hQ=>by
  have hlt:(i:Int)<(l.length:Int):=by omega
  obtain⟨c,hio⟩:∃ y,l[i]?=some y:=⟨_,f0b (by omega)⟩
  have hc:=hp c (f0c hio)
  have hix:=jah (enc:=jaz) (size:=1) hio rfl
  have hs:(i:Int)+1=((i+1:Nat):Int):=by omega
  have c1:((c:Int)<0)=False:=by simp
  have c2:(2<=(c:Int))=False:=by simp;omega
  rw[jaj]
  unfold jv6 qah
  simp(disch:=first|omega|rfl) only[go_sem,jad,eq_true hlt,hix,jaz,c1,c2,hs]
  exact qgi hl hp d (i+1) (by omega) ok hQ
theorem qgj {f:Fc} {m:Nat×Nat} {l:List Ms.Ins} (hl:l.length<=10000) (hc:∀ v,cl f.values v<2) (hp:∀ x∈l,InsOk m f.values x) {Q:Ex->St->Prop} :
 ∀ (d i:Nat) (_:i+d=l.length) {hi:Hp} (_:Ok hi) (_:bF<hi.next/\bM<hi.next) (_:hi.get bF=some (.arr [jae jaz f.values,jae ja3 f.blocks] 29)) (_:hi.get bM=some (.arr [si m.1,si m.2] 25)) {x11 x12 x13 x15:AV}
  (hQ:∀ hj x11 x12 x13 x15,Ok hj->hi.next<=hj.next->(∀ k,k<hi.next->hj.get k=hi.get k)->Q (.exit 4) (.mk [x0,x1,x2,x3,x4,x5,x6,x7,x8,x9,x10,x11,x12,x13,.s (jae jel l),x15,vi l.length,vi l.length,x18,x19,x20,x21,x22,x23,x24,x25,x26,x27,x28,x29,x30,x31,.s (.ptr bF 0),x33,x34,.s (.ptr bM 0)] hj)),
  W F6 jv7.loop (.mk [x0,x1,x2,x3,x4,x5,x6,x7,x8,x9,x10,x11,x12,x13,.s (jae jel l),x15,vi l.length,vi i,x18,x19,x20,x21,x22,x23,x24,x25,x26,x27,x28,x29,x30,x31,.s (.ptr bF 0),x33,x34,.s (.ptr bM 0)] hi) Q
 | 0,i,hd,hi,ok,hb,xF,xM,x11,x12,x13,x15,hQ=>by
  obtain rfl:i=l.length:=by omega
  rw[jaj]
  unfold jv7
  simp(disch:=first|omega|rfl) only[go_sem,f0s]
  exact hQ hi _ _ _ _ ok (f0d _) (fun _ _=>rfl)
 | d+1,i,hd,hi,ok,hb,xF,xM,x11,x12,x13,x15,hQ=>by
  have hlt:(i:Int)<(l.length:Int):=by omega
  obtain⟨x,hio⟩:∃ y,l[i]?=some y:=⟨_,f0b (by omega)⟩
  have hx:InsOk m f.values ⟨x.op,x.ops,x.spoils⟩:=hp x (f0c hio)
  have hix:=jah (enc:=jel) (size:=3) hio rfl
  have hs:(i:Int)+1=((i+1:Nat):Int):=by omega
  obtain⟨hA,eA,okA,nA,xA,gA⟩:=jc2 ok [.int .i64 0,.nilSlice,.nilSlice] (jel x) 59
  have yF:=(gA _ hb.1).trans xF
  have yM:=(gA _ hb.2).trans xM
  unfold jel at xA eA
  rw[jaj]
  unfold jv7 qai
  simp(disch:=first|omega|rfl) only[go_sem,jad,eq_true hlt,hix,jel,eA,xA,yF,yM,qkp hc hx,hs]
  exact qgj hl hc hp d (i+1) (by omega) okA ⟨by omega,by omega⟩ yF yM (fun hj x11 x12 x13 x15 o n g=>hQ hj x11 x12 x13 x15 o (by omega) (fun k hk=>(g k (by omega)).trans (gA k hk)))
theorem qgk {f:Fc} {l:List Ms.Edg} (hl:l.length<=10000) (hp:∀ e∈l,jr3 f.values f.blocks e/\e.args.length<=10000) {Q:Ex->St->Prop} :
 ∀ (d i:Nat) (_:i+d=l.length) {hi:Hp} (_:Ok hi) (_:bF<hi.next) (_:hi.get bF=some (.arr [jae jaz f.values,jae ja3 f.blocks] 29)) {x3 x4 x5 x7:AV}
  (hQ:∀ hj x3 x4 x5 x7,Ok hj->hi.next<=hj.next->(∀ k,k<hi.next->hj.get k=hi.get k)->Q (.exit 6) (.mk [x0,x1,x2,x3,x4,x5,.s (jae jgf l),x7,vi l.length,vi l.length,x10,x11,x12,x13,x14,x15,x16,x17,x18,x19,x20,x21,x22,x23,x24,x25,x26,x27,x28,x29,x30,x31,.s (.ptr bF 0),x33,x34,x35] hj)),
  W F6 jv8.loop (.mk [x0,x1,x2,x3,x4,x5,.s (jae jgf l),x7,vi l.length,vi i,x10,x11,x12,x13,x14,x15,x16,x17,x18,x19,x20,x21,x22,x23,x24,x25,x26,x27,x28,x29,x30,x31,.s (.ptr bF 0),x33,x34,x35] hi) Q
 | 0,i,hd,hi,ok,hb,xF,x3,x4,x5,x7,hQ=>by
  obtain rfl:i=l.length:=by omega
  rw[jaj]
  unfold jv8
  simp(disch:=first|omega|rfl) only[go_sem,f0s]
  exact hQ hi _ _ _ _ ok (f0d _) (fun _ _=>rfl)
 | d+1,i,hd,hi,ok,hb,xF,x3,x4,x5,x7,hQ=>by
  have hlt:(i:Int)<(l.length:Int):=by omega
  obtain⟨e,hio⟩:∃ y,l[i]?=some y:=⟨_,f0b (by omega)⟩
  obtain⟨he,hal⟩:=hp e (f0c hio)
  have hix:=jah (enc:=jgf) (size:=2) hio rfl
  have hs:(i:Int)+1=((i+1:Nat):Int):=by omega
  obtain⟨hA,eA,okA,nA,xA,gA⟩:=jc2 ok [.int .i64 0,.nilSlice] (jgf e) 62
  have yF:=(gA _ hb).trans xF
  unfold jgf at xA eA
  rw[jaj]
  unfold jv8 qaj
  simp(disch:=first|omega|rfl) only[go_sem,jad,eq_true hlt,hix,jgf,eA,xA,yF,qkq he hal,hs]
  exact qgk hl hp d (i+1) (by omega) okA (by omega) yF (fun hj x3 x4 x5 x7 o n g=>hQ hj x3 x4 x5 x7 o (by omega) (fun k hk=>(g k (by omega)).trans (gA k hk)))
theorem qay {f:Fc} {m:Nat×Nat} (k:FcOk m f) {Q:Ex->St->Prop} :
 ∀ (d i:Nat) (_:i+d=f.blocks.length) {hi:Hp} (_:Ok hi) (_:bF<hi.next/\bM<hi.next) (_:hi.get bF=some (.arr [jae jaz f.values,jae ja3 f.blocks] 29)) (_:hi.get bM=some (.arr [si m.1,si m.2] 25))
  {x3 x4 x5 x6 x7 x8 x9 x10 x11 x12 x13 x14 x15 x16 x17 x18 x20:AV}
  (hQ:∀ hj x3 x4 x5 x6 x7 x8 x9 x10 x11 x12 x13 x14 x15 x16 x17 x18 x20,Ok hj->hj.get bF=hi.get bF->Q (.exit 2) (.mk [x0,x1,x2,x3,x4,x5,x6,x7,x8,x9,x10,x11,x12,x13,x14,x15,x16,x17,x18,.s (jae ja3 f.blocks),x20,vi f.blocks.length,vi f.blocks.length,x23,x24,x25,x26,x27,x28,x29,x30,x31,.s (.ptr bF 0),x33,x34,.s (.ptr bM 0)] hj)),
  W F6 jv9.loop (.mk [x0,x1,x2,x3,x4,x5,x6,x7,x8,x9,x10,x11,x12,x13,x14,x15,x16,x17,x18,.s (jae ja3 f.blocks),x20,vi f.blocks.length,vi i,x23,x24,x25,x26,x27,x28,x29,x30,x31,.s (.ptr bF 0),x33,x34,.s (.ptr bM 0)] hi) Q
 | 0,i,hd,hi,ok,hb,xF,xM,x3,x4,x5,x6,x7,x8,x9,x10,x11,x12,x13,x14,x15,x16,x17,x18,x20,hQ=>by
  obtain rfl:i=f.blocks.length:=by omega
  rw[jaj]
  unfold jv9
  simp(disch:=first|omega|rfl) only[go_sem,f0s]
  exact hQ hi _ _ _ _ _ _ _ _ _ _ _ _ _ _ _ _ _ ok rfl
 | d+1,i,hd,hi,ok,hb,xF,xM,x3,x4,x5,x6,x7,x8,x9,x10,x11,x12,x13,x14,x15,x16,x17,x18,x20,hQ=>by
  have nb:=k.nb
  have nv:=k.nv
  have hlt:(i:Int)<(f.blocks.length:Int):=by omega
  obtain⟨b,hio⟩:∃ y,f.blocks[i]?=some y:=⟨_,f0b (by omega)⟩
  have hbm:=f0c hio
  have hbk:=k.blk b hbm
  have hix:=jah (enc:=ja3) (size:=3) hio rfl
  have hs:(i:Int)+1=((i+1:Nat):Int):=by omega
  obtain⟨hA,eA,okA,nA,xA,gA⟩:=jc2 ok [.nilSlice,.nilSlice,.nilSlice] (ja3 b) 39
  have yF:=(gA _ hb.1).trans xF
  have yM:=(gA _ hb.2).trans xM
  have l1:=jag (enc:=jel) (l:=b.instrs)
  have l2:=jag (enc:=jgf) (l:=b.edges)
  have hE:∀ e∈b.edges,jr3 f.values f.blocks e/\e.args.length<=10000:=fun e he=>by
   have h1:=k.edg b hbm e he
   refine⟨h1,?_⟩
   obtain⟨_,_,t,h2,h3,_⟩:=h1
   have h4:=(k.blk t (f0c h2)).1
   have:=congrArg List.length h3
   simp only[f1d] at this
   omega
  have fin:∀ (x3 x4 x5 x7:AV) (x11 x12 x13 x15:AV) (hk:Hp),Ok hk->hA.next<=hk.next->(∀ n,n<hA.next->hk.get n=hA.get n)->∀ (x10:AV) (K:Ex->St->Prop),(∀ hj x3 x4 x5 x7,Ok hj->hk.next<=hj.next->(∀ n,n<hk.next->hj.get n=hk.get n)->K .normal (.mk [x0,x1,x2,x3,x4,x5,.s (jae jgf b.edges),x7,vi b.edges.length,vi b.edges.length,x10,x11,x12,x13,.s (jae jel b.instrs),x15,vi b.instrs.length,vi b.instrs.length,.s (.ptr hi.next 0),.s (jae ja3 f.blocks),vb true,vi f.blocks.length,vi i,x23,x24,x25,x26,x27,x28,x29,x30,x31,.s (.ptr bF 0),x33,x34,.s (.ptr bM 0)] hj)) ->
   ∀ (x6 x8 x9:AV),W F6 j1p (.mk [x0,x1,x2,x3,x4,x5,x6,x7,x8,x9,x10,x11,x12,x13,.s (jae jel b.instrs),x15,vi b.instrs.length,vi b.instrs.length,.s (.ptr hi.next 0),.s (jae ja3 f.blocks),vb true,vi f.blocks.length,vi i,x23,x24,x25,x26,x27,x28,x29,x30,x31,.s (.ptr bF 0),x33,x34,.s (.ptr bM 0)] hk) K:=fun x3 x4 x5 x7 x11 x12 x13 x15 hk o n g x10 K hK x6 x8 x9=>by
   have zA:=(g hi.next (by omega)).trans xA
   have zF:=(g bF (by omega)).trans yF
   unfold ja3 at zA
   unfold j1p
   simp(disch:=first|omega|rfl) only[go_sem,zA,l2]
   refine qgk (by omega) hE b.edges.length 0 (by omega) o (by omega) zF (fun hj x3 x4 x5 x7 o' n' g'=>?_)
   simp(disch:=first|omega|rfl) only[go_sem]
   exact hK hj x3 x4 x5 x7 o' n' g'
  have zz:∀ (hk:Hp),hA.next<=hk.next->(∀ n,n<hA.next->hk.get n=hA.get n)->hk.get hi.next=some (.arr [jae jaz b.params,jae jel b.instrs,jae jgf b.edges] 39):=fun hk n g=>(g _ (by omega)).trans xA
  unfold ja3 at eA xA
  rw[jaj]
  unfold jv9 qak
  simp(disch:=first|omega|rfl) only[go_sem,jad,eq_true hlt,hix,ja3,eA,xA,l1]
  refine qgj (by omega) (j5o k.cls) (k.ins b hbm) b.instrs.length 0 (by omega) okA ⟨by omega,by omega⟩ yF yM (fun hj x11 x12 x13 x15 o n g=>?_)
  have zA:=zz hj n g
  by_cases e:1<b.edges.length
  .have c1:(1<(b.edges.length:Int))=True:=by simp;omega
   have hne:=f1w.2 (k.par b hbm e)
   have c2:((b.instrs.length:Int)=0)=False:=eq_false (by omega)
   simp(disch:=first|omega|rfl) only[go_sem,zA,l1,l2,c1,c2]
   refine fin _ _ _ _ _ _ _ _ hj o n g _ _ (fun hk x3 x4 x5 x7 o' n' g'=>?_) _ _ _
   simp(disch:=first|omega|rfl) only[go_sem,jad,hs]
   exact qay k d (i+1) (by omega) o' ⟨by omega,by omega⟩ ((g' _ (by omega)).trans ((g _ (by omega)).trans yF)) ((g' _ (by omega)).trans ((g _ (by omega)).trans yM)) (fun h2 x3 x4 x5 x6 x7 x8 x9 x10 x11 x12 x13 x14 x15 x16 x17 x18 x20 o2 g2=>hQ h2 x3 x4 x5 x6 x7 x8 x9 x10 x11 x12 x13 x14 x15 x16 x17 x18 x20 o2 (g2.trans ((g' _ (by omega)).trans ((g _ (by omega)).trans (gA _ hb.1)))))
  .have c1:(1<(b.edges.length:Int))=False:=by simp;omega
   simp(disch:=first|omega|rfl) only[go_sem,zA,l1,l2,c1]
   refine fin _ _ _ _ _ _ _ _ hj o n g _ _ (fun hk x3 x4 x5 x7 o' n' g'=>?_) _ _ _
   simp(disch:=first|omega|rfl) only[go_sem,jad,hs]
   exact qay k d (i+1) (by omega) o' ⟨by omega,by omega⟩ ((g' _ (by omega)).trans ((g _ (by omega)).trans yF)) ((g' _ (by omega)).trans ((g _ (by omega)).trans yM)) (fun h2 x3 x4 x5 x6 x7 x8 x9 x10 x11 x12 x13 x14 x15 x16 x17 x18 x20 o2 g2=>hQ h2 x3 x4 x5 x6 x7 x8 x9 x10 x11 x12 x13 x14 x15 x16 x17 x18 x20 o2 (g2.trans ((g' _ (by omega)).trans ((g _ (by omega)).trans (gA _ hb.1)))))
theorem qks {h:Hp} (ok:Ok h) {f:Fc} {m:Nat×Nat} (k:FcOk m f) (m1:2<=m.1/\m.1<=10) (m2:2<=m.2/\m.2<=10):WC F6 28 [.agg [jae jaz f.values,jae ja3 f.blocks],.agg [si m.1,si m.2]] h (fun v h'=>∃ d,jhz true h' d v=some (vi (jna f))):=by
 refine ja9 (no6 rfl rfl rfl rfl rfl rfl) quj rfl ?_
 unfold qf4
 have nb:=k.nb
 have nv:=k.nv
 obtain⟨hA,eA,okA,nA,xA,gA⟩:=je0 ok [jae jaz f.values,jae ja3 f.blocks] 29
 obtain⟨hB,eB,okB,nB,xB,gB⟩:=je0 okA [si m.1,si m.2] 25
 have yA:=(gB _ (by omega)).trans xA
 rw[nA] at xB
 obtain⟨b0,hb0⟩:∃ y,f.blocks[0]?=some y:=⟨_,f0b (by omega)⟩
 have h0:=k.ent b0 hb0
 have ix0:jza 3 (.s (jae ja3 f.blocks)) (vi 0)=some (.s (.cp (ja3 b0))):=jah (enc:=ja3) (size:=3) hb0 rfl
 have l1:=jag (enc:=jaz) (l:=f.values)
 have l2:=jag (enc:=ja3) (l:=f.blocks)
 have l3:=jag (enc:=jaz) (l:=b0.params)
 rw[h0] at l3
 simp(disch:=first|omega|rfl) only[go_sem,eA,eB,nA,xB,qqp m1 m2]
 unfold qan
 simp(disch:=first|omega|rfl) only[go_sem,yA,qqq k]
 unfold qam
 simp(disch:=first|omega|rfl) only[go_sem,yA,l1]
 refine qgi (by omega) k.cls f.values.length 0 (by omega) okB (fun x24 x25 x27=>?_)
 simp(disch:=first|omega|rfl) only[go_sem,yA,ix0,ja3,h0,qdh]
 unfold qal
 simp(disch:=first|omega|rfl) only[go_sem,yA,l2]
 refine qay k f.blocks.length 0 (by omega) okB ⟨by omega,by omega⟩ yA xB (fun hj x3 x4 x5 x6 x7 x8 x9 x10 x11 x12 x13 x14 x15 x16 x17 x18 x20 o g=>?_)
 have zA:=g.trans yA
 simp(disch:=first|omega|rfl) only[go_sem,zA,qkr k]
 exact⟨1,rfl⟩
theorem qaz:∀ (l:List Nat) (s:List Bool),l.Nodup->(∀ v∈l,s[v]?=some false)->∃ t,jlu s l=some t/\t.length=s.length/\∀ i,t[i]?=if i∈l then some true else s[i]?
 | [],s,_,_=>⟨s,rfl,rfl,fun i=>by simp⟩
 | v::l,s,hd,hf=>by
  have hv:=hf v (by simp)
  have hlt:v<s.length:=by
   rcases f0h v s.length with h | h
   .exact h
   .rw [f0p h] at hv;cases hv
  obtain⟨hn,hd'⟩:=f0w.1 hd
  obtain⟨t,h1,h2,h3⟩:=qaz l (s.set v true) hd' (fun u hu=>by
   have hne:v≠u:=fun e=>hn (e▸hu)
   rw[f1s hne];exact hf u (by simp[hu]))
  refine⟨t,by unfold jlu;rw[if_neg (by rw[hv];simp)];exact h1,by rw[h2,f3k],fun i=>?_⟩
  rw[h3]
  by_cases e:i=v
  .subst e
   rw[if_neg hn,if_pos (by simp),List.getElem?_set_self hlt]
  .by_cases h:i∈l
   .rw [if_pos h,if_pos (by simp[h])]
   .rw [if_neg h,if_neg (by simp[e,h]),f1s (fun x=>e x.symm)]
theorem qec {f:Fc} (h:(jdl f.blocks).Perm (List.range f.values.length)):jna f=0:=by
 have hm:∀ v,v∈jdl f.blocks↔v<f.values.length:=fun v=>by rw[h.mem_iff,List.mem_range]
 obtain⟨t,h1,h2,h3⟩:=qaz (jdl f.blocks) (List.replicate f.values.length false) (h.nodup_iff.2 List.nodup_range) (fun v hv=>by rw[List.getElem?_replicate,if_pos ((hm v).1 hv)])
 unfold jna
 rw[h1]
 rw[f2k] at h2
 have:false∉t:=fun hf=>by
  obtain⟨i,hi⟩:=f22 hf
  have hlt:i<t.length:=by
   rcases f0h i t.length with h | h
   .exact h
   .rw [f0p h] at hi;cases hi
  rw[h3,if_pos ((hm i).2 (by omega))] at hi
  cases hi
 simp only[this,if_false]
def S7 (f:FuncId):Bool:=Nat.beq f 28
noncomputable def F7:Fns:=PX S7 F6
theorem qxd {A:Nat->Int}:Env Tryd.prog A tys F7:=jhx qxc
theorem no7 {f:FuncId} (h1:S1 f=false) (h2:Nat.beq f jg9.f=false) (h3:S3 f=false) (h4:S4 f=false) (h5:S5 f=false) (h6:S6 f=false) (h7:S7 f=false) {h:Hp}:jdx F7 f vs h=none:=(jbk h7).trans (no6 h1 h2 h3 h4 h5 h6)
theorem qun {f:FuncId} (h4:S4 f=false) (h5:S5 f=false) (h6:S6 f=false) (h7:S7 f=false) {h:Hp}:jdx F7 f vs h=jdx F3 f vs h:=(jbk h7).trans ((jbk h6).trans ((jbk h5).trans (jbk h4)))
section
variable {h:Hp} {f:Fc} {m:Nat×Nat} {Q:AV->Hp->Prop}
theorem qqr (k:FcOk m f) (m1:2<=m.1/\m.1<=10) (m2:2<=m.2/\m.2<=10):jdx F7 28 [.agg [jae jaz f.values,jae ja3 f.blocks],.agg [si m.1,si m.2]] h=some (vi (jna f),h) :=
 jbm rfl (by simp only[jat,ja1,jbd,jcw,ja2,jbe,jbb,jbq,jbf,jbn,if_true]) (qks jex k m1 m2)
end
end Go.Proofs.YtdbklpgagdbpiaaDoor.Ev
