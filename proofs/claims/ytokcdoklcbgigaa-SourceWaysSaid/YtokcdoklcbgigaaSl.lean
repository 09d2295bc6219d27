/- What functions may be: each value is made once: the answer. -/
import Derived.Test.YtokcdoklcbgigaaSi
namespace Go.Proofs.Ytokcdoklcbgigaa.Ev
open Go Go.RowKit Go.Proofs.Ytokcdoklcbgigaa.Ms
attribute [local go_sem] f0j f0o f0q decide_eq_true_eq decide_eq_false_iff_not f0e and_true true_and f0n f0m reduceCtorEq decide_true decide_false f0z f0u f0s f0i Option.some.injEq f0k not_true_eq_false not_false_eq_true Hp.next_push Hp.next_put f0t Int.reduceToNat Nat.reduceAdd Nat.reduceMul Nat.reduceEqDiff Int.reduceEq Int.reduceLT Int.reduceLE Int.reduceNeg Int.reduceAdd Int.reduceSub Int.reduceMul Int.reduceNe
attribute [local go_sem ↓] reduceIte
set_option linter.all false
set_option maxRecDepth 100000
set_option maxHeartbeats 2000000
variable {x0 x1 x2 x3 x4 x5 x6 x7 x8 x9 x10 x11 x12 x13 x14 x15 x16 x17 x18 x19 x20 x21 x22 x23 x24 x25 x26 x27 x28 x29 x30 x31 x33 x34 x35:AV} {vs:List AV} {bA bF bM:Nat}
theorem j25 {s:List Bool} (hl:s.length<=10000) {Q:Ex->St->Prop} :
 ∀ (rest done:List Bool) (_:done++rest=s) {hi:Hp} (_:Ok hi) (_:hi.get bA=some (.arr (bls s) 4)) {x3 x4 x5:AV}
  (hQ:false∉rest->∀ hj x3 x4 x5,Q (.exit 0) (.mk [.s (.slice bA 0 s.length s.length true 1),vb false,x2,x3,x4,x5,vi s.length,vi s.length] hj))
  (hF:∀ (k:Nat) hj x3 x4 x5 x6 x7,false∈rest->Q .ret (.mk [.s (.slice bA 0 s.length s.length true 1),vb false,vi k,x3,x4,x5,x6,x7] hj)),
  W F5 jne.loop (.mk [.s (.slice bA 0 s.length s.length true 1),vb false,x2,x3,x4,x5,vi s.length,vi done.length] hi) Q
 | [],done,hdn,hi,ok,xA,x3,x4,x5,hQ,hF=>by
  rw [f1o] at hdn
  rw [jam,hdn]
  unfold jne
  simp (disch:=first|omega|rfl|apply_rules[jaa,jab,jad]) only [go_sem,f05]
  exact hQ (by simp) hi ..
 | b::rest,done,hdn,hi,ok,xA,x3,x4,x5,hQ,hF=>by
  have hlt1:done.length<s.length:=by rw [←hdn];simp
  have hlt:(done.length:Int)<s.length:=by omega
  have hget:s[done.length]?=some b:=by rw [←hdn];simp
  have hcell:(bls s)[done.length]?=some (.bool b):=by unfold bls;rw [f1k,hget];rfl
  have hrd:rdB (hi.get bA) done.length 1=some [.bool b]:=by rw [xA];exact jmr hcell
  have hix:=jbi (size:=1) (b:=bA) (off:=0) (len:=s.length) (mc:=s.length) (sz:=1) (ex:=true) (m:=done.length) hlt1
  rw [f0i,f3l] at hix
  have hdn':(done++[b])++rest=s:=by rw [←hdn];simp
  have hs:(done.length:Int)+1=(((done++[b]).length:Nat):Int):=by simp
  rw [jam]
  unfold jne j20
  cases b with
  | true =>
   simp (disch:=first|omega|rfl|apply_rules[jaa,jab,jad]) only [go_sem,jag,eq_true hlt,hix,hrd,jsb,quc,hs]
   exact j25 hl rest (done++[true]) hdn' ok xA (fun h=>hQ (by simpa using h)) (fun k hj x3 x4 x5 x6 x7 h=>hF k hj x3 x4 x5 x6 x7 (by simp [h]))
  | false =>
   simp (disch:=first|omega|rfl|apply_rules[jaa,jab,jad]) only [go_sem,jag,eq_true hlt,hix,hrd,jsb,quc,hs]
   exact hF _ _ _ _ _ _ _ (by simp)
theorem qji {hi:Hp} (ok:Ok hi) {s:List Bool} (hl:s.length<=10000) (xA:hi.get bA=some (.arr (bls s) 4)):WC F5 60 [.s (.slice bA 0 s.length s.length true 1),vb false] hi (fun u h'=>u=vb (decide (false∈s))):=by
 refine jba (no5 rfl rfl rfl rfl rfl) qsq rfl ?_
 unfold qfk
 simp (disch:=first|omega|rfl|apply_rules[jaa,jab,jad]) only [go_sem]
 refine WC.imp (Q:=fun u h'=>(false∈s/\∃ k:Nat,u=vi k)∨(false∉s/\u=vi (-1))) ?_ ?_
 ·refine jba (no5 rfl rfl rfl rfl rfl) qo5 rfl ?_
  unfold j9m
  simp (disch:=first|omega|rfl|apply_rules[jaa,jab,jad]) only [go_sem]
  refine j25 hl s [] rfl ok xA (fun h hj x3 x4 x5=>?_) (fun k hj x3 x4 x5 x6 x7 h=>?_)
  ·simp (disch:=first|omega|rfl|apply_rules[jaa,jab,jad]) only [go_sem]
   first | exact .inr ⟨h,rfl⟩ | exact .inr h
  ·simp (disch:=first|omega|rfl|apply_rules[jaa,jab,jad]) only [go_sem]
   exact .inl ⟨h,k,rfl⟩
 ·rintro u h' (⟨h,k,rfl⟩ | ⟨h,rfl⟩)
  ·have c1:(0<=(k:Int))=True:=by simp
   simp (disch:=first|omega|rfl|apply_rules[jaa,jab,jad]) only [go_sem,c1,h]
  ·simp (disch:=first|omega|rfl|apply_rules[jaa,jab,jad]) only [go_sem,h]
def jqh (f:Fc):Nat:=match jkv (List.replicate f.values.length false) (jdi f.blocks) with
 | none=>7
 | some t=>if false∈t then 6 else 0
theorem qjj {h:Hp} (ok:Ok h) {f:Fc} (hl:f.blocks.length<=10000) (hv:f.values.length<=10000) (hp:∀ b∈f.blocks,b.params.length<=10000/\b.instrs.length<=10000/\(∀ v∈b.params,v<f.values.length)/\∀ x∈b.instrs,x.ops.length<=6/\∀ o∈x.ops,o.value<f.values.length) :
 WC F5 39 [.agg [jah ja1 f.values,jah ja0 f.blocks]] h (fun v h'=>∃ d,jgb true h' d v=some (vi (jqh f))):=by
 refine jba (no5 rfl rfl rfl rfl rfl) qsm rfl ?_
 unfold qfg
 have hpos:=ok.pos
 obtain ⟨hA,eA,okA,nA,xA,gA⟩:=jet ok [jah ja1 f.values,jah ja0 f.blocks] 26
 obtain ⟨hB,eB,okB,nB,xB,gB⟩:=jet okA (rep [.bool false] f.values.length) 4
 obtain ⟨hC,eC,okC,nC,xC,gC⟩:=jcq okB [.nilSlice] [.slice hA.next 0 f.values.length f.values.length true 1] 90
 have nb:hB.next=h.next+2:=by omega
 rw [qfs] at xB
 have hbl:bls (List.replicate f.values.length false)=List.replicate f.values.length (.bool false):=by unfold bls;rw [List.map_replicate]
 rw [←hbl] at xB
 have I:OnI hC f h.next hB.next hA.next (List.replicate f.values.length false) :=
  ⟨okC,f20,⟨by omega,by omega,by omega⟩,⟨by omega,by omega,by omega⟩,(gC _ (by omega)).trans ((gB _ (by omega)).trans xA),xC,(gC _ (by omega)).trans xB⟩
 have l1:=jai (enc:=ja1) (l:=f.values)
 have l2:=jai (enc:=ja0) (l:=f.blocks)
 have hmk:=jze (e:=4) (size:=1) (bytes:=1) (z:=[.bool false]) (m:=f.values.length) okA (by omega) (by omega)
 rw [eB] at hmk
 have xF:=I.xF
 rw [nA,nb] at I
 rw [nA] at hmk eC
 rw [nb] at eC
 simp (disch:=first|omega|rfl|apply_rules[jaa,jab,jad]) only [go_sem,eA,xA,l1,hmk,nb,eC,nA,xF,l2,jke]
 refine qfv hl hp f.blocks [] rfl I (fun t ht hj x3 x4 x5 x6 x7 x8 x9 x10 x11 x12 x13 x14 x15 x16 x17 x18 x20 x21 x22 x23 x24 x26 J=>?_) (fun ht=>?_)
 ·have xM:=J.xM
  have eo:jqh f=if false∈t then 6 else 0:=by unfold jqh;rw [ht]
  rw [eo]
  simp (disch:=first|omega|rfl|apply_rules[jaa,jab,jad]) only [go_sem,xM]
  have hts:t.length=f.values.length:=J.hs
  have hct:=qji J.ok (s:=t) (by omega) J.xA
  rw [hts] at hct
  refine WC.imp hct ?_
  rintro u h' rfl
  by_cases e:false∈t
  ·simp (disch:=first|omega|rfl|apply_rules[jaa,jab,jad]) only [go_sem,e]
   exact ⟨1,rfl⟩
  ·simp (disch:=first|omega|rfl|apply_rules[jaa,jab,jad]) only [go_sem,e]
   unfold j9b
   simp (disch:=first|omega|rfl|apply_rules[jaa,jab,jad]) only [go_sem]
   exact ⟨1,rfl⟩
 ·intro hj x2 x3 x4 x5 x6 x7 x8 x9 x10 x11 x12 x13 x14 x15 x16 x17 x18 x19 x20 x21 x22 x23 x24 x25 x26 x27 x28 x29 x30
  have eo:jqh f=7:=by unfold jqh;rw [ht]
  rw [eo]
  simp (disch:=first|omega|rfl|apply_rules[jaa,jab,jad]) only [go_sem]
  exact ⟨1,rfl⟩
def S6 (f:FuncId):Bool:=Nat.beq f 37||Nat.beq f 39
noncomputable def F6:Fns:=PX S6 F5
theorem qu3 {A:Nat->Int}:Env Try.prog A tys F6:=jfr qu2
theorem no6 {f:FuncId} (h1:S1 f=false) (h2:Nat.beq f jex.f=false) (h3:S3 f=false) (h4:S4 f=false) (h5:S5 f=false) (h6:S6 f=false) {h:Hp}:jc6 F6 f vs h=none:=(ja4 h6).trans (no5 h1 h2 h3 h4 h5)
theorem j9u {m:Nat×Nat} {f:Fc} (k:FcOk m f):∀ b∈f.blocks,b.params.length<=10000/\b.instrs.length<=10000/\(∀ v∈b.params,v<f.values.length)/\∀ x∈b.instrs,x.ops.length<=6/\∀ o∈x.ops,o.value<f.values.length:=fun b hb=>by
 have h1:=k.blk b hb
 exact ⟨by omega,by omega,k.prm b hb,fun x hx=>⟨(k.ins b hb x hx).nops,fun o ho=>((k.ins b hb x hx).opd o ho).val⟩⟩
section
variable {h:Hp} {f:Fc} {m:Nat×Nat} {Q:AV->Hp->Prop}
theorem qpa (m1:2<=m.1/\m.1<=10) (m2:2<=m.2/\m.2<=10):WC F6 35 [.agg [si m.1,si m.2]] h Q=Q (vi 0) h :=
 jaq ((ja4 rfl).trans ((ja4 rfl).trans (jbf rfl (by simp only [jas,jav,ja6,jbx,jaw,ja7,ja5,jbh,ja8,jbc,if_true]) (qo6 jde m1 m2))))
theorem qpb (k:FcOk m f):WC F6 36 [.agg [jah ja1 f.values,jah ja0 f.blocks]] h Q=Q (vi 0) h :=
 jaq ((ja4 rfl).trans ((ja4 rfl).trans (jbf rfl (by simp only [jas,jav,ja6,jbx,jaw,ja7,ja5,jbh,ja8,jbc,if_true]) (qo8 jde k))))
theorem qjk {op:Nat} {ops:List Ms.Opd} {sp:List (Nat×Nat)} (hc:∀ v,cl f.values v<2) (k:InsOk m f.values ⟨op,ops,sp⟩):WC F6 37 [.agg [jah ja1 f.values,jah ja0 f.blocks],.agg [si m.1,si m.2],.agg [si op,jah jbd ops,jah jd5 sp]] h Q=Q (vi 0) h :=
 jaq (jbf rfl (by simp only [jas,jav,ja6,jbx,jaw,ja7,ja5,jbh,ja8,jbc,if_true]) (qjf jde hc k))
theorem qjl {e:Ms.Edg} (k:jqa f.values f.blocks e) (hl:e.args.length<=10000):WC F6 38 [.agg [jah ja1 f.values,jah ja0 f.blocks],.agg [si e.block,jah ja1 e.args]] h Q=Q (vi 0) h :=
 jaq ((ja4 rfl).trans (jbf rfl (by simp only [jas,jav,ja6,jbx,jaw,ja7,ja5,jbh,ja8,jbc,if_true]) (qi5 jde k hl)))
theorem qjm (k:FcOk m f):WC F6 39 [.agg [jah ja1 f.values,jah ja0 f.blocks]] h Q=Q (vi (jqh f)) h :=
 jaq (jbf rfl (by simp only [jas,jav,ja6,jbx,jaw,ja7,ja5,jbh,ja8,jbc,if_true]) (qjj jde (by have:=k.nb;omega) (by have:=k.nv;omega) (j9u k)))
end
theorem qfw {l:List Nat} (hl:l.length<=10000) (hp:∀ c∈l,c<2) {x32:AV} {Q:Ex->St->Prop} :
 ∀ (d i:Nat) (_:i+d=l.length) {hi:Hp} (_:Ok hi) {x24 x25 x27:AV}
  (hQ:∀ x24 x25 x27,Q (.exit 0) (.mk [x0,x1,x2,x3,x4,x5,x6,x7,x8,x9,x10,x11,x12,x13,x14,x15,x16,x17,x18,x19,x20,x21,x22,x23,x24,x25,.s (jah ja1 l),x27,vi l.length,vi l.length,x30,x31,x32,x33,x34,x35] hi)),
  W F6 ju1.loop (.mk [x0,x1,x2,x3,x4,x5,x6,x7,x8,x9,x10,x11,x12,x13,x14,x15,x16,x17,x18,x19,x20,x21,x22,x23,x24,x25,.s (jah ja1 l),x27,vi l.length,vi i,x30,x31,x32,x33,x34,x35] hi) Q
 | 0,i,hd,hi,ok,x24,x25,x27,hQ=>by
  obtain rfl:i=l.length:=by omega
  rw [jam]
  unfold ju1
  simp (disch:=first|omega|rfl|apply_rules[jaa,jab,jad]) only [go_sem,f05]
  exact hQ _ _ _
 | d+1,i,hd,hi,ok,x24,x25,x27,hQ=>by
  have hlt:(i:Int)<(l.length:Int):=by omega
  obtain ⟨c,hio⟩:∃ y,l[i]?=some y:=⟨_,f0b (by omega)⟩
  have hc:=hp c (f0c hio)
  have hix:=jaj (enc:=ja1) (size:=1) hio rfl
  have hs:(i:Int)+1=((i+1:Nat):Int):=by omega
  have c1:((c:Int)<0)=False:=by simp
  have c2:(2<=(c:Int))=False:=by simp;omega
  rw [jam]
  unfold ju1 j9e
  simp (disch:=first|omega|rfl|apply_rules[jaa,jab,jad]) only [go_sem,jag,eq_true hlt,hix,ja1,c1,c2,hs]
  exact qfw hl hp d (i+1) (by omega) ok hQ
theorem qfx {f:Fc} {m:Nat×Nat} {l:List Ms.Ins} (hl:l.length<=10000) (hc:∀ v,cl f.values v<2) (hp:∀ x∈l,InsOk m f.values x) {Q:Ex->St->Prop} :
 ∀ (d i:Nat) (_:i+d=l.length) {hi:Hp} (_:Ok hi) (_:bF<hi.next/\bM<hi.next) (_:hi.get bF=some (.arr [jah ja1 f.values,jah ja0 f.blocks] 26)) (_:hi.get bM=some (.arr [si m.1,si m.2] 30)) {x11 x12 x13 x15:AV}
  (hQ:∀ hj x11 x12 x13 x15,Ok hj->hi.next<=hj.next->(∀ k,k<hi.next->hj.get k=hi.get k)->Q (.exit 4) (.mk [x0,x1,x2,x3,x4,x5,x6,x7,x8,x9,x10,x11,x12,x13,.s (jah jc7 l),x15,vi l.length,vi l.length,x18,x19,x20,x21,x22,x23,x24,x25,x26,x27,x28,x29,x30,x31,.s (.ptr bF 0),x33,x34,.s (.ptr bM 0)] hj)),
  W F6 ju2.loop (.mk [x0,x1,x2,x3,x4,x5,x6,x7,x8,x9,x10,x11,x12,x13,.s (jah jc7 l),x15,vi l.length,vi i,x18,x19,x20,x21,x22,x23,x24,x25,x26,x27,x28,x29,x30,x31,.s (.ptr bF 0),x33,x34,.s (.ptr bM 0)] hi) Q
 | 0,i,hd,hi,ok,hb,xF,xM,x11,x12,x13,x15,hQ=>by
  obtain rfl:i=l.length:=by omega
  rw [jam]
  unfold ju2
  simp (disch:=first|omega|rfl|apply_rules[jaa,jab,jad]) only [go_sem,f05]
  exact hQ hi _ _ _ _ ok (f0f _) (fun _ _=>rfl)
 | d+1,i,hd,hi,ok,hb,xF,xM,x11,x12,x13,x15,hQ=>by
  have hlt:(i:Int)<(l.length:Int):=by omega
  obtain ⟨x,hio⟩:∃ y,l[i]?=some y:=⟨_,f0b (by omega)⟩
  have hx:InsOk m f.values ⟨x.op,x.ops,x.spoils⟩:=hp x (f0c hio)
  have hix:=jaj (enc:=jc7) (size:=3) hio rfl
  have hs:(i:Int)+1=((i+1:Nat):Int):=by omega
  obtain ⟨hA,eA,okA,nA,xA,gA⟩:=jcq ok [.int .i64 0,.nilSlice,.nilSlice] (jc7 x) 57
  have yF:=(gA _ hb.1).trans xF
  have yM:=(gA _ hb.2).trans xM
  unfold jc7 at xA eA
  rw [jam]
  unfold ju2 j9f
  simp (disch:=first|omega|rfl|apply_rules[jaa,jab,jad]) only [go_sem,jag,eq_true hlt,hix,jc7,eA,xA,yF,yM,qjk hc hx,hs]
  exact qfx hl hc hp d (i+1) (by omega) okA ⟨by omega,by omega⟩ yF yM (fun hj x11 x12 x13 x15 o n g=>hQ hj x11 x12 x13 x15 o (by omega) (fun k hk=>(g k (by omega)).trans (gA k hk)))
theorem qfy {f:Fc} {l:List Ms.Edg} (hl:l.length<=10000) (hp:∀ e∈l,jqa f.values f.blocks e/\e.args.length<=10000) {Q:Ex->St->Prop} :
 ∀ (d i:Nat) (_:i+d=l.length) {hi:Hp} (_:Ok hi) (_:bF<hi.next) (_:hi.get bF=some (.arr [jah ja1 f.values,jah ja0 f.blocks] 26)) {x3 x4 x5 x7:AV}
  (hQ:∀ hj x3 x4 x5 x7,Ok hj->hi.next<=hj.next->(∀ k,k<hi.next->hj.get k=hi.get k)->Q (.exit 6) (.mk [x0,x1,x2,x3,x4,x5,.s (jah jfb l),x7,vi l.length,vi l.length,x10,x11,x12,x13,x14,x15,x16,x17,x18,x19,x20,x21,x22,x23,x24,x25,x26,x27,x28,x29,x30,x31,.s (.ptr bF 0),x33,x34,x35] hj)),
  W F6 ju3.loop (.mk [x0,x1,x2,x3,x4,x5,.s (jah jfb l),x7,vi l.length,vi i,x10,x11,x12,x13,x14,x15,x16,x17,x18,x19,x20,x21,x22,x23,x24,x25,x26,x27,x28,x29,x30,x31,.s (.ptr bF 0),x33,x34,x35] hi) Q
 | 0,i,hd,hi,ok,hb,xF,x3,x4,x5,x7,hQ=>by
  obtain rfl:i=l.length:=by omega
  rw [jam]
  unfold ju3
  simp (disch:=first|omega|rfl|apply_rules[jaa,jab,jad]) only [go_sem,f05]
  exact hQ hi _ _ _ _ ok (f0f _) (fun _ _=>rfl)
 | d+1,i,hd,hi,ok,hb,xF,x3,x4,x5,x7,hQ=>by
  have hlt:(i:Int)<(l.length:Int):=by omega
  obtain ⟨e,hio⟩:∃ y,l[i]?=some y:=⟨_,f0b (by omega)⟩
  obtain ⟨he,hal⟩:=hp e (f0c hio)
  have hix:=jaj (enc:=jfb) (size:=2) hio rfl
  have hs:(i:Int)+1=((i+1:Nat):Int):=by omega
  obtain ⟨hA,eA,okA,nA,xA,gA⟩:=jcq ok [.int .i64 0,.nilSlice] (jfb e) 53
  have yF:=(gA _ hb).trans xF
  unfold jfb at xA eA
  rw [jam]
  unfold ju3 j9g
  simp (disch:=first|omega|rfl|apply_rules[jaa,jab,jad]) only [go_sem,jag,eq_true hlt,hix,jfb,eA,xA,yF,qjl he hal,hs]
  exact qfy hl hp d (i+1) (by omega) okA (by omega) yF (fun hj x3 x4 x5 x7 o n g=>hQ hj x3 x4 x5 x7 o (by omega) (fun k hk=>(g k (by omega)).trans (gA k hk)))
theorem j9v {f:Fc} {m:Nat×Nat} (k:FcOk m f) {Q:Ex->St->Prop} :
 ∀ (d i:Nat) (_:i+d=f.blocks.length) {hi:Hp} (_:Ok hi) (_:bF<hi.next/\bM<hi.next) (_:hi.get bF=some (.arr [jah ja1 f.values,jah ja0 f.blocks] 26)) (_:hi.get bM=some (.arr [si m.1,si m.2] 30))
  {x3 x4 x5 x6 x7 x8 x9 x10 x11 x12 x13 x14 x15 x16 x17 x18 x20:AV}
  (hQ:∀ hj x3 x4 x5 x6 x7 x8 x9 x10 x11 x12 x13 x14 x15 x16 x17 x18 x20,Ok hj->hj.get bF=hi.get bF->Q (.exit 2) (.mk [x0,x1,x2,x3,x4,x5,x6,x7,x8,x9,x10,x11,x12,x13,x14,x15,x16,x17,x18,.s (jah ja0 f.blocks),x20,vi f.blocks.length,vi f.blocks.length,x23,x24,x25,x26,x27,x28,x29,x30,x31,.s (.ptr bF 0),x33,x34,.s (.ptr bM 0)] hj)),
  W F6 ju4.loop (.mk [x0,x1,x2,x3,x4,x5,x6,x7,x8,x9,x10,x11,x12,x13,x14,x15,x16,x17,x18,.s (jah ja0 f.blocks),x20,vi f.blocks.length,vi i,x23,x24,x25,x26,x27,x28,x29,x30,x31,.s (.ptr bF 0),x33,x34,.s (.ptr bM 0)] hi) Q
 | 0,i,hd,hi,ok,hb,xF,xM,x3,x4,x5,x6,x7,x8,x9,x10,x11,x12,x13,x14,x15,x16,x17,x18,x20,hQ=>by
  obtain rfl:i=f.blocks.length:=by omega
  rw [jam]
  unfold ju4
  simp (disch:=first|omega|rfl|apply_rules[jaa,jab,jad]) only [go_sem,f05]
  exact hQ hi _ _ _ _ _ _ _ _ _ _ _ _ _ _ _ _ _ ok rfl
 | d+1,i,hd,hi,ok,hb,xF,xM,x3,x4,x5,x6,x7,x8,x9,x10,x11,x12,x13,x14,x15,x16,x17,x18,x20,hQ=>by
  have nb:=k.nb
  have nv:=k.nv
  have hlt:(i:Int)<(f.blocks.length:Int):=by omega
  obtain ⟨b,hio⟩:∃ y,f.blocks[i]?=some y:=⟨_,f0b (by omega)⟩
  have hbm:=f0c hio
  have hbk:=k.blk b hbm
  have hix:=jaj (enc:=ja0) (size:=3) hio rfl
  have hs:(i:Int)+1=((i+1:Nat):Int):=by omega
  obtain ⟨hA,eA,okA,nA,xA,gA⟩:=jcq ok [.nilSlice,.nilSlice,.nilSlice] (ja0 b) 36
  have yF:=(gA _ hb.1).trans xF
  have yM:=(gA _ hb.2).trans xM
  have l1:=jai (enc:=jc7) (l:=b.instrs)
  have l2:=jai (enc:=jfb) (l:=b.edges)
  have hE:∀ e∈b.edges,jqa f.values f.blocks e/\e.args.length<=10000:=fun e he=>by
   have h1:=k.edg b hbm e he
   refine ⟨h1,?_⟩
   obtain ⟨_,_,t,h2,h3,_⟩:=h1
   have h4:=(k.blk t (f0c h2)).1
   have:=congrArg List.length h3
   simp only [f1l] at this
   omega
  have fin:∀ (x3 x4 x5 x7:AV) (x11 x12 x13 x15:AV) (hk:Hp),Ok hk->hA.next<=hk.next->(∀ n,n<hA.next->hk.get n=hA.get n)->∀ (x10:AV) (K:Ex->St->Prop),(∀ hj x3 x4 x5 x7,Ok hj->hk.next<=hj.next->(∀ n,n<hk.next->hj.get n=hk.get n)->K .normal (.mk [x0,x1,x2,x3,x4,x5,.s (jah jfb b.edges),x7,vi b.edges.length,vi b.edges.length,x10,x11,x12,x13,.s (jah jc7 b.instrs),x15,vi b.instrs.length,vi b.instrs.length,.s (.ptr hi.next 0),.s (jah ja0 f.blocks),vb true,vi f.blocks.length,vi i,x23,x24,x25,x26,x27,x28,x29,x30,x31,.s (.ptr bF 0),x33,x34,.s (.ptr bM 0)] hj)) ->
   ∀ (x6 x8 x9:AV),W F6 j0m (.mk [x0,x1,x2,x3,x4,x5,x6,x7,x8,x9,x10,x11,x12,x13,.s (jah jc7 b.instrs),x15,vi b.instrs.length,vi b.instrs.length,.s (.ptr hi.next 0),.s (jah ja0 f.blocks),vb true,vi f.blocks.length,vi i,x23,x24,x25,x26,x27,x28,x29,x30,x31,.s (.ptr bF 0),x33,x34,.s (.ptr bM 0)] hk) K:=fun x3 x4 x5 x7 x11 x12 x13 x15 hk o n g x10 K hK x6 x8 x9=>by
   have zA:=(g hi.next (by omega)).trans xA
   have zF:=(g bF (by omega)).trans yF
   unfold ja0 at zA
   unfold j0m
   simp (disch:=first|omega|rfl|apply_rules[jaa,jab,jad]) only [go_sem,zA,l2]
   refine qfy (by omega) hE b.edges.length 0 (by omega) o (by omega) zF (fun hj x3 x4 x5 x7 o' n' g'=>?_)
   simp (disch:=first|omega|rfl|apply_rules[jaa,jab,jad]) only [go_sem]
   exact hK hj x3 x4 x5 x7 o' n' g'
  have zz:∀ (hk:Hp),hA.next<=hk.next->(∀ n,n<hA.next->hk.get n=hA.get n)->hk.get hi.next=some (.arr [jah ja1 b.params,jah jc7 b.instrs,jah jfb b.edges] 36):=fun hk n g=>(g _ (by omega)).trans xA
  unfold ja0 at eA xA
  rw [jam]
  unfold ju4 j9h
  simp (disch:=first|omega|rfl|apply_rules[jaa,jab,jad]) only [go_sem,jag,eq_true hlt,hix,ja0,eA,xA,l1]
  refine qfx (by omega) (j44 k.cls) (k.ins b hbm) b.instrs.length 0 (by omega) okA ⟨by omega,by omega⟩ yF yM (fun hj x11 x12 x13 x15 o n g=>?_)
  have zA:=zz hj n g
  by_cases e:1<b.edges.length
  ·have c1:(1<(b.edges.length:Int))=True:=by simp;omega
   have hne:=f1g.2 (k.par b hbm e)
   have c2:((b.instrs.length:Int)=0)=False:=eq_false (by omega)
   simp (disch:=first|omega|rfl|apply_rules[jaa,jab,jad]) only [go_sem,zA,l1,l2,c1,c2]
   refine fin _ _ _ _ _ _ _ _ hj o n g _ _ (fun hk x3 x4 x5 x7 o' n' g'=>?_) _ _ _
   simp (disch:=first|omega|rfl|apply_rules[jaa,jab,jad]) only [go_sem,jag,hs]
   exact j9v k d (i+1) (by omega) o' ⟨by omega,by omega⟩ ((g' _ (by omega)).trans ((g _ (by omega)).trans yF)) ((g' _ (by omega)).trans ((g _ (by omega)).trans yM)) (fun h2 x3 x4 x5 x6 x7 x8 x9 x10 x11 x12 x13 x14 x15 x16 x17 x18 x20 o2 g2=>hQ h2 x3 x4 x5 x6 x7 x8 x9 x10 x11 x12 x13 x14 x15 x16 x17 x18 x20 o2 (g2.trans ((g' _ (by omega)).trans ((g _ (by omega)).trans (gA _ hb.1)))))
  ·have c1:(1<(b.edges.length:Int))=False:=by simp;omega
   simp (disch:=first|omega|rfl|apply_rules[jaa,jab,jad]) only [go_sem,zA,l1,l2,c1]
   refine fin _ _ _ _ _ _ _ _ hj o n g _ _ (fun hk x3 x4 x5 x7 o' n' g'=>?_) _ _ _
   simp (disch:=first|omega|rfl|apply_rules[jaa,jab,jad]) only [go_sem,jag,hs]
   exact j9v k d (i+1) (by omega) o' ⟨by omega,by omega⟩ ((g' _ (by omega)).trans ((g _ (by omega)).trans yF)) ((g' _ (by omega)).trans ((g _ (by omega)).trans yM)) (fun h2 x3 x4 x5 x6 x7 x8 x9 x10 x11 x12 x13 x14 x15 x16 x17 x18 x20 o2 g2=>hQ h2 x3 x4 x5 x6 x7 x8 x9 x10 x11 x12 x13 x14 x15 x16 x17 x18 x20 o2 (g2.trans ((g' _ (by omega)).trans ((g _ (by omega)).trans (gA _ hb.1)))))
theorem qjn {h:Hp} (ok:Ok h) {f:Fc} {m:Nat×Nat} (k:FcOk m f) (m1:2<=m.1/\m.1<=10) (m2:2<=m.2/\m.2<=10):WC F6 20 [.agg [jah ja1 f.values,jah ja0 f.blocks],.agg [si m.1,si m.2]] h (fun v h'=>∃ d,jgb true h' d v=some (vi (jqh f))):=by
 refine jba (no6 rfl rfl rfl rfl rfl rfl) qso rfl ?_
 unfold qfi
 have nb:=k.nb
 have nv:=k.nv
 obtain ⟨hA,eA,okA,nA,xA,gA⟩:=jet ok [jah ja1 f.values,jah ja0 f.blocks] 26
 obtain ⟨hB,eB,okB,nB,xB,gB⟩:=jet okA [si m.1,si m.2] 30
 have yA:=(gB _ (by omega)).trans xA
 rw [nA] at xB
 obtain ⟨b0,hb0⟩:∃ y,f.blocks[0]?=some y:=⟨_,f0b (by omega)⟩
 have h0:=k.ent b0 hb0
 have ix0:jye 3 (.s (jah ja0 f.blocks)) (vi 0)=some (.s (.cp (ja0 b0))):=jaj (enc:=ja0) (size:=3) hb0 rfl
 have l1:=jai (enc:=ja1) (l:=f.values)
 have l2:=jai (enc:=ja0) (l:=f.blocks)
 have l3:=jai (enc:=ja1) (l:=b0.params)
 rw [h0] at l3
 simp (disch:=first|omega|rfl|apply_rules[jaa,jab,jad]) only [go_sem,eA,eB,nA,xB,qpa m1 m2]
 unfold j9k
 simp (disch:=first|omega|rfl|apply_rules[jaa,jab,jad]) only [go_sem,yA,qpb k]
 unfold j9j
 simp (disch:=first|omega|rfl|apply_rules[jaa,jab,jad]) only [go_sem,yA,l1]
 refine qfw (by omega) k.cls f.values.length 0 (by omega) okB (fun x24 x25 x27=>?_)
 simp (disch:=first|omega|rfl|apply_rules[jaa,jab,jad]) only [go_sem,yA,ix0,ja0,h0,qcv]
 unfold j9i
 simp (disch:=first|omega|rfl|apply_rules[jaa,jab,jad]) only [go_sem,yA,l2]
 refine j9v k f.blocks.length 0 (by omega) okB ⟨by omega,by omega⟩ yA xB (fun hj x3 x4 x5 x6 x7 x8 x9 x10 x11 x12 x13 x14 x15 x16 x17 x18 x20 o g=>?_)
 have zA:=g.trans yA
 simp (disch:=first|omega|rfl|apply_rules[jaa,jab,jad]) only [go_sem,zA,qjm k]
 exact ⟨1,rfl⟩
theorem j9w:∀ (l:List Nat) (s:List Bool),l.Nodup->(∀ v∈l,s[v]?=some false)->∃ t,jkv s l=some t/\t.length=s.length/\∀ i,t[i]?=if i∈l then some true else s[i]?
 | [],s,_,_=>⟨s,rfl,rfl,fun i=>by simp⟩
 | v::l,s,hd,hf=>by
  have hv:=hf v (by simp)
  have hlt:v<s.length:=by
   rcases f0l v s.length with h | h
   ·exact h
   ·rw [f0x h] at hv;cases hv
  obtain ⟨hn,hd'⟩:=f06.1 hd
  obtain ⟨t,h1,h2,h3⟩:=j9w l (s.set v true) hd' (fun u hu=>by
   have hne:v≠u:=fun e=>hn (e▸hu)
   rw [f1v hne];exact hf u (by simp [hu]))
  refine ⟨t,by unfold jkv;rw [if_neg (by rw [hv];simp)];exact h1,by rw [h2,f2u],fun i=>?_⟩
  rw [h3]
  by_cases e:i=v
  ·subst e
   rw [if_neg hn,if_pos (by simp),List.getElem?_set_self hlt]
  ·by_cases h:i∈l
   ·rw [if_pos h,if_pos (by simp [h])]
   ·rw [if_neg h,if_neg (by simp [e,h]),f1v (fun x=>e x.symm)]
theorem qdl {f:Fc} (h:(jdi f.blocks).Perm (List.range f.values.length)):jqh f=0:=by
 have hm:∀ v,v∈jdi f.blocks↔v<f.values.length:=fun v=>by rw [h.mem_iff,List.mem_range]
 obtain ⟨t,h1,h2,h3⟩:=j9w (jdi f.blocks) (List.replicate f.values.length false) (h.nodup_iff.2 List.nodup_range) (fun v hv=>by rw [List.getElem?_replicate,if_pos ((hm v).1 hv)])
 unfold jqh
 rw [h1]
 rw [f20] at h2
 have:false∉t:=fun hf=>by
  obtain ⟨i,hi⟩:=f21 hf
  have hlt:i<t.length:=by
   rcases f0l i t.length with h | h
   ·exact h
   ·rw [f0x h] at hi;cases hi
  rw [h3,if_pos ((hm i).2 (by omega))] at hi
  cases hi
 simp only [this,if_false]
def S7 (f:FuncId):Bool:=Nat.beq f 20
noncomputable def F7:Fns:=PX S7 F6
theorem qu4 {A:Nat->Int}:Env Try.prog A tys F7:=jfr qu3
theorem no7 {f:FuncId} (h1:S1 f=false) (h2:Nat.beq f jex.f=false) (h3:S3 f=false) (h4:S4 f=false) (h5:S5 f=false) (h6:S6 f=false) (h7:S7 f=false) {h:Hp}:jc6 F7 f vs h=none:=(ja4 h7).trans (no6 h1 h2 h3 h4 h5 h6)
theorem qrb {f:FuncId} (h4:S4 f=false) (h5:S5 f=false) (h6:S6 f=false) (h7:S7 f=false) {h:Hp}:jc6 F7 f vs h=jc6 F3 f vs h:=(ja4 h7).trans ((ja4 h6).trans ((ja4 h5).trans (ja4 h4)))
section
variable {h:Hp} {f:Fc} {m:Nat×Nat} {Q:AV->Hp->Prop}
theorem qpc (k:FcOk m f) (m1:2<=m.1/\m.1<=10) (m2:2<=m.2/\m.2<=10):jc6 F7 20 [.agg [jah ja1 f.values,jah ja0 f.blocks],.agg [si m.1,si m.2]] h=some (vi (jqh f),h) :=
 jbf rfl (by simp only [jas,jav,ja6,jbx,jaw,ja7,ja5,jbh,ja8,jbc,if_true]) (qjn jde k m1 m2)
end
end Go.Proofs.Ytokcdoklcbgigaa.Ev
