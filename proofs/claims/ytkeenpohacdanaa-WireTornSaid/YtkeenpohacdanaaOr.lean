/- What functions may be: each value is made once: the answer. -/
import Derived.Test.YtkeenpohacdanaaSi
namespace Go.Proofs.Ytkeenpohacdanaa.Ev
open Go Go.RowKit Go.Proofs.Ytkeenpohacdanaa.Ms
attribute [local go_sem] Int.reduceToNat reduceCtorEq Nat.reduceAdd Nat.reduceMul Nat.reduceEqDiff Int.reduceEq Int.reduceLT Int.reduceLE Int.reduceNeg Int.reduceAdd Int.reduceSub Int.reduceMul Int.reduceNe
attribute [local go_sem ↓] reduceIte
set_option linter.all false
set_option maxRecDepth 100000
set_option maxHeartbeats 2000000
variable {x0 x1 x2 x3 x4 x5 x6 x7 x8 x9 x10 x11 x12 x13 x14 x15 x16 x17 x18 x19 x20 x21 x22 x23 x24 x25 x26 x27 x28 x29 x30 x31 x33 x34 x35:AV} {vs:List AV} {ns:List Nat} {row:List SV} {bA bF bM:Nat}
theorem j3w {s:List Bool} (hl:s.length<=10000) {Q:Ex->St->Prop} :
 ∀ (rest done:List Bool) (_:done++rest=s) {hi:Hp} (_:Ok hi) (_:hi.get bA=some (.arr (bls s) 4)) {x3 x4 x5:AV}
  (hQ:false∉rest->∀ hj x3 x4 x5,Q (.exit 0) (.mk [.s (.slice bA 0 s.length s.length true 1),vb false,x2,x3,x4,x5,vi s.length,vi s.length] hj))
  (hF:∀ (k:Nat) hj x3 x4 x5 x6 x7,false∈rest->Q .ret (.mk [.s (.slice bA 0 s.length s.length true 1),vb false,vi k,x3,x4,x5,x6,x7] hj)),
  W F5 jnv.loop (.mk [.s (.slice bA 0 s.length s.length true 1),vb false,x2,x3,x4,x5,vi s.length,vi done.length] hi) Q
 | [],done,hdn,hi,ok,xA,x3,x4,x5,hQ,hF=>by
  rw[f06] at hdn
  rw[jag,hdn]
  unfold jnv
  simp(disch:=first|omega|rfl) only[go_sem,f0r]
  exact hQ (by simp) hi ..
 | b::rest,done,hdn,hi,ok,xA,x3,x4,x5,hQ,hF=>by
  have hlt1:done.length<s.length:=by rw[←hdn];simp
  have hlt:(done.length:Int)<s.length:=by omega
  have hget:s[done.length]?=some b:=by rw[←hdn];simp
  have hcell:(bls s)[done.length]?=some (.bool b):=by unfold bls;rw[f1b,hget];rfl
  have hrd:rdB (hi.get bA) done.length 1=some [.bool b]:=by rw[xA];exact j2t hcell
  have hix:=ja8 (size:=1) (b:=bA) (off:=0) (len:=s.length) (mc:=s.length) (sz:=1) (ex:=true) (m:=done.length) hlt1
  rw[f0x,f3k] at hix
  have hdn':(done++[b])++rest=s:=by rw[←hdn];simp
  have hs:(done.length:Int)+1=(((done++[b]).length:Nat):Int):=by simp
  rw[jag]
  unfold jnv j3g
  cases b with
  | true =>
   simp(disch:=first|omega|rfl) only[go_sem,jad,eq_true hlt,hix,hrd,jss,qv4,hs]
   exact j3w hl rest (done++[true]) hdn' ok xA (fun h=>hQ (by simpa using h)) (fun k hj x3 x4 x5 x6 x7 h=>hF k hj x3 x4 x5 x6 x7 (by simp[h]))
  | false =>
   simp(disch:=first|omega|rfl) only[go_sem,jad,eq_true hlt,hix,hrd,jss,qv4,hs]
   exact hF _ _ _ _ _ _ _ (by simp)
theorem qke {hi:Hp} (ok:Ok hi) {s:List Bool} (hl:s.length<=10000) (xA:hi.get bA=some (.arr (bls s) 4)):WC F5 73 [.s (.slice bA 0 s.length s.length true 1),vb false] hi (fun u h'=>u=vb (decide (false∈s))):=by
 refine jax (no5 rfl rfl rfl rfl rfl) qt4 rfl ?_
 unfold qfj
 simp(disch:=first|omega|rfl) only[go_sem]
 refine WC.imp (Q:=fun u h'=>(false∈s/\∃ k:Nat,u=vi k)∨(false∉s/\u=vi (-1))) ?_ ?_
 .refine jax (no5 rfl rfl rfl rfl rfl) qp5 rfl ?_
  unfold j9y
  simp(disch:=first|omega|rfl) only[go_sem]
  refine j3w hl s [] rfl ok xA (fun h hj x3 x4 x5=>?_) (fun k hj x3 x4 x5 x6 x7 h=>?_)
  .simp (disch:=first|omega|rfl) only[go_sem]
   first | exact .inr ⟨h,rfl⟩ | exact .inr h
  .simp (disch:=first|omega|rfl) only[go_sem]
   exact .inl ⟨h,k,rfl⟩
 .rintro u h' (⟨h,k,rfl⟩ | ⟨h,rfl⟩)
  .have c1:(0<=(k:Int))=True:=by simp
   simp(disch:=first|omega|rfl) only[go_sem,c1,h]
  .simp (disch:=first|omega|rfl) only[go_sem,h]
def jmp (f:Fc):Nat:=match jk8 (List.replicate f.values.length false) (jda f.blocks) with
 | none=>7
 | some t=>if false∈t then 6 else 0
theorem qkf {h:Hp} (ok:Ok h) {f:Fc} (hl:f.blocks.length<=10000) (hv:f.values.length<=10000) (hp:∀ b∈f.blocks,b.params.length<=10000/\b.instrs.length<=10000/\(∀ v∈b.params,v<f.values.length)/\∀ x∈b.instrs,x.ops.length<=6/\∀ o∈x.ops,o.value<f.values.length) :
 WC F5 52 [.agg [jae jav f.values,jae ja4 f.blocks]] h (fun v h'=>∃ d,jg1 true h' d v=some (vi (jmp f))):=by
 refine jax (no5 rfl rfl rfl rfl rfl) qt0 rfl ?_
 unfold qff
 have hpos:=ok.pos
 obtain⟨hA,eA,okA,nA,xA,gA⟩:=jd4 ok [jae jav f.values,jae ja4 f.blocks] 26
 obtain⟨hB,eB,okB,nB,xB,gB⟩:=jd4 okA (rep [.bool false] f.values.length) 4
 obtain⟨hC,eC,okC,nC,xC,gC⟩:=jb5 okB [.nilSlice] [.slice hA.next 0 f.values.length f.values.length true 1] 105
 have nb:hB.next=h.next+2:=by omega
 rw[qgh] at xB
 have hbl:bls (List.replicate f.values.length false)=List.replicate f.values.length (.bool false):=by unfold bls;rw[List.map_replicate]
 rw[←hbl] at xB
 have I:OnI hC f h.next hB.next hA.next (List.replicate f.values.length false) :=
  ⟨okC,f22,⟨by omega,by omega,by omega⟩,⟨by omega,by omega,by omega⟩,(gC _ (by omega)).trans ((gB _ (by omega)).trans xA),xC,(gC _ (by omega)).trans xB⟩
 have l1:=jah (enc:=jav) (l:=f.values)
 have l2:=jah (enc:=ja4) (l:=f.blocks)
 have hmk:=jzy (e:=4) (size:=1) (bytes:=1) (z:=[.bool false]) (m:=f.values.length) okA (by omega) (by omega)
 rw[eB] at hmk
 have xF:=I.xF
 rw[nA,nb] at I
 rw[nA] at hmk eC
 rw[nb] at eC
 simp(disch:=first|omega|rfl) only[go_sem,eA,xA,l1,hmk,nb,eC,nA,xF,l2,jkd]
 refine qgk hl hp f.blocks [] rfl I (fun t ht hj x3 x4 x5 x6 x7 x8 x9 x10 x11 x12 x13 x14 x15 x16 x17 x18 x20 x21 x22 x23 x24 x26 J=>?_) (fun ht=>?_)
 .have xM:=J.xM
  have eo:jmp f=if false∈t then 6 else 0:=by unfold jmp;rw[ht]
  rw[eo]
  simp(disch:=first|omega|rfl) only[go_sem,xM]
  have hts:t.length=f.values.length:=J.hs
  have hct:=qke J.ok (s:=t) (by omega) J.xA
  rw[hts] at hct
  refine WC.imp hct ?_
  rintro u h' rfl
  by_cases e:false∈t
  .simp (disch:=first|omega|rfl) only[go_sem,e]
   exact⟨1,rfl⟩
  .simp (disch:=first|omega|rfl) only[go_sem,e]
   unfold j9n
   simp(disch:=first|omega|rfl) only[go_sem]
   exact⟨1,rfl⟩
 .intro hj x2 x3 x4 x5 x6 x7 x8 x9 x10 x11 x12 x13 x14 x15 x16 x17 x18 x19 x20 x21 x22 x23 x24 x25 x26 x27 x28 x29 x30
  have eo:jmp f=7:=by unfold jmp;rw[ht]
  rw[eo]
  simp(disch:=first|omega|rfl) only[go_sem]
  exact⟨1,rfl⟩
def S6 (f:FuncId):Bool:=Nat.beq f 50||Nat.beq f 52
noncomputable def F6:Fns:=PX S6 F5
theorem qw5 {A:Nat->Int}:Env Try.prog A tys F6:=jgt qw4
theorem no6 {f:FuncId} (h1:S1 f=false) (h2:Nat.beq f jgy.f=false) (h3:S3 f=false) (h4:S4 f=false) (h5:S5 f=false) (h6:S6 f=false) {h:Hp}:jdg F6 f vs h=none:=(ja9 h6).trans (no5 h1 h2 h3 h4 h5)
theorem qas {m:Nat×Nat} {f:Fc} (k:FcOk m f):∀ b∈f.blocks,b.params.length<=10000/\b.instrs.length<=10000/\(∀ v∈b.params,v<f.values.length)/\∀ x∈b.instrs,x.ops.length<=6/\∀ o∈x.ops,o.value<f.values.length:=fun b hb=>by
 have h1:=k.blk b hb
 exact⟨by omega,by omega,k.prm b hb,fun x hx=>⟨(k.ins b hb x hx).nops,fun o ho=>((k.ins b hb x hx).opd o ho).val⟩⟩
section
variable {h:Hp} {f:Fc} {m:Nat×Nat} {Q:AV->Hp->Prop}
theorem qqh (m1:2<=m.1/\m.1<=10) (m2:2<=m.2/\m.2<=10):WC F6 48 [.agg [si m.1,si m.2]] h Q=Q (vi 0) h :=
 jaq ((ja9 rfl).trans ((ja9 rfl).trans (jbh rfl (by simp only[jas,jaz,jbb,jcp,ja0,jbc,ja6,jbm,jbd,jbj,if_true]) (qp6 jen m1 m2))))
theorem qqi (k:FcOk m f):WC F6 49 [.agg [jae jav f.values,jae ja4 f.blocks]] h Q=Q (vi 0) h :=
 jaq ((ja9 rfl).trans ((ja9 rfl).trans (jbh rfl (by simp only[jas,jaz,jbb,jcp,ja0,jbc,ja6,jbm,jbd,jbj,if_true]) (qp8 jen k))))
theorem qkg {op:Nat} {ops:List Ms.Opd} {sp:List (Nat×Nat)} (hc:∀ v,cl f.values v<2) (k:InsOk m f.values ⟨op,ops,sp⟩):WC F6 50 [.agg [jae jav f.values,jae ja4 f.blocks],.agg [si m.1,si m.2],.agg [si op,jae jbe ops,jae jdd sp]] h Q=Q (vi 0) h :=
 jaq (jbh rfl (by simp only[jas,jaz,jbb,jcp,ja0,jbc,ja6,jbm,jbd,jbj,if_true]) (qkb jen hc k))
theorem qkh {e:Ms.Edg} (k:jrh f.values f.blocks e) (hl:e.args.length<=10000):WC F6 51 [.agg [jae jav f.values,jae ja4 f.blocks],.agg [si e.block,jae jav e.args]] h Q=Q (vi 0) h :=
 jaq ((ja9 rfl).trans (jbh rfl (by simp only[jas,jaz,jbb,jcp,ja0,jbc,ja6,jbm,jbd,jbj,if_true]) (qj1 jen k hl)))
theorem qki (k:FcOk m f):WC F6 52 [.agg [jae jav f.values,jae ja4 f.blocks]] h Q=Q (vi (jmp f)) h :=
 jaq (jbh rfl (by simp only[jas,jaz,jbb,jcp,ja0,jbc,ja6,jbm,jbd,jbj,if_true]) (qkf jen (by have:=k.nb;omega) (by have:=k.nv;omega) (qas k)))
end
theorem qgl {l:List Nat} (hl:l.length<=10000) (hp:∀ c∈l,c<2) {x32:AV} {Q:Ex->St->Prop} :
 ∀ (d i:Nat) (_:i+d=l.length) {hi:Hp} (_:Ok hi) {x24 x25 x27:AV}
  (hQ:∀ x24 x25 x27,Q (.exit 0) (.mk [x0,x1,x2,x3,x4,x5,x6,x7,x8,x9,x10,x11,x12,x13,x14,x15,x16,x17,x18,x19,x20,x21,x22,x23,x24,x25,.s (jae jav l),x27,vi l.length,vi l.length,x30,x31,x32,x33,x34,x35] hi)),
  W F6 jvl.loop (.mk [x0,x1,x2,x3,x4,x5,x6,x7,x8,x9,x10,x11,x12,x13,x14,x15,x16,x17,x18,x19,x20,x21,x22,x23,x24,x25,.s (jae jav l),x27,vi l.length,vi i,x30,x31,x32,x33,x34,x35] hi) Q
 | 0,i,hd,hi,ok,x24,x25,x27,hQ=>by
  obtain rfl:i=l.length:=by omega
  rw[jag]
  unfold jvl
  simp(disch:=first|omega|rfl) only[go_sem,f0r]
  exact hQ _ _ _
 | d+1,i,hd,hi,ok,x24,x25,x27,hQ=>by
  have hlt:(i:Int)<(l.length:Int):=by omega
  obtain⟨c,hio⟩:∃ y,l[i]?=some y:=⟨_,f0b (by omega)⟩
  have hc:=hp c (f0c hio)
  have hix:=jai (enc:=jav) (size:=1) hio rfl
  have hs:(i:Int)+1=((i+1:Nat):Int):=by omega
  have c1:((c:Int)<0)=False:=by simp
  have c2:(2<=(c:Int))=False:=by simp;omega
  rw[jag]
  unfold jvl j9q
  simp(disch:=first|omega|rfl) only[go_sem,jad,eq_true hlt,hix,jav,c1,c2,hs]
  exact qgl hl hp d (i+1) (by omega) ok hQ
theorem qgm {f:Fc} {m:Nat×Nat} {l:List Ms.Ins} (hl:l.length<=10000) (hc:∀ v,cl f.values v<2) (hp:∀ x∈l,InsOk m f.values x) {Q:Ex->St->Prop} :
 ∀ (d i:Nat) (_:i+d=l.length) {hi:Hp} (_:Ok hi) (_:bF<hi.next/\bM<hi.next) (_:hi.get bF=some (.arr [jae jav f.values,jae ja4 f.blocks] 26)) (_:hi.get bM=some (.arr [si m.1,si m.2] 30)) {x11 x12 x13 x15:AV}
  (hQ:∀ hj x11 x12 x13 x15,Ok hj->hi.next<=hj.next->(∀ k,k<hi.next->hj.get k=hi.get k)->Q (.exit 4) (.mk [x0,x1,x2,x3,x4,x5,x6,x7,x8,x9,x10,x11,x12,x13,.s (jae jd6 l),x15,vi l.length,vi l.length,x18,x19,x20,x21,x22,x23,x24,x25,x26,x27,x28,x29,x30,x31,.s (.ptr bF 0),x33,x34,.s (.ptr bM 0)] hj)),
  W F6 jvm.loop (.mk [x0,x1,x2,x3,x4,x5,x6,x7,x8,x9,x10,x11,x12,x13,.s (jae jd6 l),x15,vi l.length,vi i,x18,x19,x20,x21,x22,x23,x24,x25,x26,x27,x28,x29,x30,x31,.s (.ptr bF 0),x33,x34,.s (.ptr bM 0)] hi) Q
 | 0,i,hd,hi,ok,hb,xF,xM,x11,x12,x13,x15,hQ=>by
  obtain rfl:i=l.length:=by omega
  rw[jag]
  unfold jvm
  simp(disch:=first|omega|rfl) only[go_sem,f0r]
  exact hQ hi _ _ _ _ ok (f0e _) (fun _ _=>rfl)
 | d+1,i,hd,hi,ok,hb,xF,xM,x11,x12,x13,x15,hQ=>by
  have hlt:(i:Int)<(l.length:Int):=by omega
  obtain⟨x,hio⟩:∃ y,l[i]?=some y:=⟨_,f0b (by omega)⟩
  have hx:InsOk m f.values ⟨x.op,x.ops,x.spoils⟩:=hp x (f0c hio)
  have hix:=jai (enc:=jd6) (size:=3) hio rfl
  have hs:(i:Int)+1=((i+1:Nat):Int):=by omega
  obtain⟨hA,eA,okA,nA,xA,gA⟩:=jb5 ok [.int .i64 0,.nilSlice,.nilSlice] (jd6 x) 44
  have yF:=(gA _ hb.1).trans xF
  have yM:=(gA _ hb.2).trans xM
  unfold jd6 at xA eA
  rw[jag]
  unfold jvm j9r
  simp(disch:=first|omega|rfl) only[go_sem,jad,eq_true hlt,hix,jd6,eA,xA,yF,yM,qkg hc hx,hs]
  exact qgm hl hc hp d (i+1) (by omega) okA ⟨by omega,by omega⟩ yF yM (fun hj x11 x12 x13 x15 o n g=>hQ hj x11 x12 x13 x15 o (by omega) (fun k hk=>(g k (by omega)).trans (gA k hk)))
theorem qgn {f:Fc} {l:List Ms.Edg} (hl:l.length<=10000) (hp:∀ e∈l,jrh f.values f.blocks e/\e.args.length<=10000) {Q:Ex->St->Prop} :
 ∀ (d i:Nat) (_:i+d=l.length) {hi:Hp} (_:Ok hi) (_:bF<hi.next) (_:hi.get bF=some (.arr [jae jav f.values,jae ja4 f.blocks] 26)) {x3 x4 x5 x7:AV}
  (hQ:∀ hj x3 x4 x5 x7,Ok hj->hi.next<=hj.next->(∀ k,k<hi.next->hj.get k=hi.get k)->Q (.exit 6) (.mk [x0,x1,x2,x3,x4,x5,.s (jae jgf l),x7,vi l.length,vi l.length,x10,x11,x12,x13,x14,x15,x16,x17,x18,x19,x20,x21,x22,x23,x24,x25,x26,x27,x28,x29,x30,x31,.s (.ptr bF 0),x33,x34,x35] hj)),
  W F6 jvn.loop (.mk [x0,x1,x2,x3,x4,x5,.s (jae jgf l),x7,vi l.length,vi i,x10,x11,x12,x13,x14,x15,x16,x17,x18,x19,x20,x21,x22,x23,x24,x25,x26,x27,x28,x29,x30,x31,.s (.ptr bF 0),x33,x34,x35] hi) Q
 | 0,i,hd,hi,ok,hb,xF,x3,x4,x5,x7,hQ=>by
  obtain rfl:i=l.length:=by omega
  rw[jag]
  unfold jvn
  simp(disch:=first|omega|rfl) only[go_sem,f0r]
  exact hQ hi _ _ _ _ ok (f0e _) (fun _ _=>rfl)
 | d+1,i,hd,hi,ok,hb,xF,x3,x4,x5,x7,hQ=>by
  have hlt:(i:Int)<(l.length:Int):=by omega
  obtain⟨e,hio⟩:∃ y,l[i]?=some y:=⟨_,f0b (by omega)⟩
  obtain⟨he,hal⟩:=hp e (f0c hio)
  have hix:=jai (enc:=jgf) (size:=2) hio rfl
  have hs:(i:Int)+1=((i+1:Nat):Int):=by omega
  obtain⟨hA,eA,okA,nA,xA,gA⟩:=jb5 ok [.int .i64 0,.nilSlice] (jgf e) 73
  have yF:=(gA _ hb).trans xF
  unfold jgf at xA eA
  rw[jag]
  unfold jvn j9s
  simp(disch:=first|omega|rfl) only[go_sem,jad,eq_true hlt,hix,jgf,eA,xA,yF,qkh he hal,hs]
  exact qgn hl hp d (i+1) (by omega) okA (by omega) yF (fun hj x3 x4 x5 x7 o n g=>hQ hj x3 x4 x5 x7 o (by omega) (fun k hk=>(g k (by omega)).trans (gA k hk)))
theorem qat {f:Fc} {m:Nat×Nat} (k:FcOk m f) {Q:Ex->St->Prop} :
 ∀ (d i:Nat) (_:i+d=f.blocks.length) {hi:Hp} (_:Ok hi) (_:bF<hi.next/\bM<hi.next) (_:hi.get bF=some (.arr [jae jav f.values,jae ja4 f.blocks] 26)) (_:hi.get bM=some (.arr [si m.1,si m.2] 30))
  {x3 x4 x5 x6 x7 x8 x9 x10 x11 x12 x13 x14 x15 x16 x17 x18 x20:AV}
  (hQ:∀ hj x3 x4 x5 x6 x7 x8 x9 x10 x11 x12 x13 x14 x15 x16 x17 x18 x20,Ok hj->hj.get bF=hi.get bF->Q (.exit 2) (.mk [x0,x1,x2,x3,x4,x5,x6,x7,x8,x9,x10,x11,x12,x13,x14,x15,x16,x17,x18,.s (jae ja4 f.blocks),x20,vi f.blocks.length,vi f.blocks.length,x23,x24,x25,x26,x27,x28,x29,x30,x31,.s (.ptr bF 0),x33,x34,.s (.ptr bM 0)] hj)),
  W F6 jvo.loop (.mk [x0,x1,x2,x3,x4,x5,x6,x7,x8,x9,x10,x11,x12,x13,x14,x15,x16,x17,x18,.s (jae ja4 f.blocks),x20,vi f.blocks.length,vi i,x23,x24,x25,x26,x27,x28,x29,x30,x31,.s (.ptr bF 0),x33,x34,.s (.ptr bM 0)] hi) Q
 | 0,i,hd,hi,ok,hb,xF,xM,x3,x4,x5,x6,x7,x8,x9,x10,x11,x12,x13,x14,x15,x16,x17,x18,x20,hQ=>by
  obtain rfl:i=f.blocks.length:=by omega
  rw[jag]
  unfold jvo
  simp(disch:=first|omega|rfl) only[go_sem,f0r]
  exact hQ hi _ _ _ _ _ _ _ _ _ _ _ _ _ _ _ _ _ ok rfl
 | d+1,i,hd,hi,ok,hb,xF,xM,x3,x4,x5,x6,x7,x8,x9,x10,x11,x12,x13,x14,x15,x16,x17,x18,x20,hQ=>by
  have nb:=k.nb
  have nv:=k.nv
  have hlt:(i:Int)<(f.blocks.length:Int):=by omega
  obtain⟨b,hio⟩:∃ y,f.blocks[i]?=some y:=⟨_,f0b (by omega)⟩
  have hbm:=f0c hio
  have hbk:=k.blk b hbm
  have hix:=jai (enc:=ja4) (size:=3) hio rfl
  have hs:(i:Int)+1=((i+1:Nat):Int):=by omega
  obtain⟨hA,eA,okA,nA,xA,gA⟩:=jb5 ok [.nilSlice,.nilSlice,.nilSlice] (ja4 b) 36
  have yF:=(gA _ hb.1).trans xF
  have yM:=(gA _ hb.2).trans xM
  have l1:=jah (enc:=jd6) (l:=b.instrs)
  have l2:=jah (enc:=jgf) (l:=b.edges)
  have hE:∀ e∈b.edges,jrh f.values f.blocks e/\e.args.length<=10000:=fun e he=>by
   have h1:=k.edg b hbm e he
   refine⟨h1,?_⟩
   obtain⟨_,_,t,h2,h3,_⟩:=h1
   have h4:=(k.blk t (f0c h2)).1
   have:=congrArg List.length h3
   simp only[f1a] at this
   omega
  have fin:∀ (x3 x4 x5 x7:AV) (x11 x12 x13 x15:AV) (hk:Hp),Ok hk->hA.next<=hk.next->(∀ n,n<hA.next->hk.get n=hA.get n)->∀ (x10:AV) (K:Ex->St->Prop),(∀ hj x3 x4 x5 x7,Ok hj->hk.next<=hj.next->(∀ n,n<hk.next->hj.get n=hk.get n)->K .normal (.mk [x0,x1,x2,x3,x4,x5,.s (jae jgf b.edges),x7,vi b.edges.length,vi b.edges.length,x10,x11,x12,x13,.s (jae jd6 b.instrs),x15,vi b.instrs.length,vi b.instrs.length,.s (.ptr hi.next 0),.s (jae ja4 f.blocks),vb true,vi f.blocks.length,vi i,x23,x24,x25,x26,x27,x28,x29,x30,x31,.s (.ptr bF 0),x33,x34,.s (.ptr bM 0)] hj)) ->
   ∀ (x6 x8 x9:AV),W F6 j0z (.mk [x0,x1,x2,x3,x4,x5,x6,x7,x8,x9,x10,x11,x12,x13,.s (jae jd6 b.instrs),x15,vi b.instrs.length,vi b.instrs.length,.s (.ptr hi.next 0),.s (jae ja4 f.blocks),vb true,vi f.blocks.length,vi i,x23,x24,x25,x26,x27,x28,x29,x30,x31,.s (.ptr bF 0),x33,x34,.s (.ptr bM 0)] hk) K:=fun x3 x4 x5 x7 x11 x12 x13 x15 hk o n g x10 K hK x6 x8 x9=>by
   have zA:=(g hi.next (by omega)).trans xA
   have zF:=(g bF (by omega)).trans yF
   unfold ja4 at zA
   unfold j0z
   simp(disch:=first|omega|rfl) only[go_sem,zA,l2]
   refine qgn (by omega) hE b.edges.length 0 (by omega) o (by omega) zF (fun hj x3 x4 x5 x7 o' n' g'=>?_)
   simp(disch:=first|omega|rfl) only[go_sem]
   exact hK hj x3 x4 x5 x7 o' n' g'
  have zz:∀ (hk:Hp),hA.next<=hk.next->(∀ n,n<hA.next->hk.get n=hA.get n)->hk.get hi.next=some (.arr [jae jav b.params,jae jd6 b.instrs,jae jgf b.edges] 36):=fun hk n g=>(g _ (by omega)).trans xA
  unfold ja4 at eA xA
  rw[jag]
  unfold jvo j9t
  simp(disch:=first|omega|rfl) only[go_sem,jad,eq_true hlt,hix,ja4,eA,xA,l1]
  refine qgm (by omega) (j5b k.cls) (k.ins b hbm) b.instrs.length 0 (by omega) okA ⟨by omega,by omega⟩ yF yM (fun hj x11 x12 x13 x15 o n g=>?_)
  have zA:=zz hj n g
  by_cases e:1<b.edges.length
  .have c1:(1<(b.edges.length:Int))=True:=by simp;omega
   have hne:=f10.2 (k.par b hbm e)
   have c2:((b.instrs.length:Int)=0)=False:=eq_false (by omega)
   simp(disch:=first|omega|rfl) only[go_sem,zA,l1,l2,c1,c2]
   refine fin _ _ _ _ _ _ _ _ hj o n g _ _ (fun hk x3 x4 x5 x7 o' n' g'=>?_) _ _ _
   simp(disch:=first|omega|rfl) only[go_sem,jad,hs]
   exact qat k d (i+1) (by omega) o' ⟨by omega,by omega⟩ ((g' _ (by omega)).trans ((g _ (by omega)).trans yF)) ((g' _ (by omega)).trans ((g _ (by omega)).trans yM)) (fun h2 x3 x4 x5 x6 x7 x8 x9 x10 x11 x12 x13 x14 x15 x16 x17 x18 x20 o2 g2=>hQ h2 x3 x4 x5 x6 x7 x8 x9 x10 x11 x12 x13 x14 x15 x16 x17 x18 x20 o2 (g2.trans ((g' _ (by omega)).trans ((g _ (by omega)).trans (gA _ hb.1)))))
  .have c1:(1<(b.edges.length:Int))=False:=by simp;omega
   simp(disch:=first|omega|rfl) only[go_sem,zA,l1,l2,c1]
   refine fin _ _ _ _ _ _ _ _ hj o n g _ _ (fun hk x3 x4 x5 x7 o' n' g'=>?_) _ _ _
   simp(disch:=first|omega|rfl) only[go_sem,jad,hs]
   exact qat k d (i+1) (by omega) o' ⟨by omega,by omega⟩ ((g' _ (by omega)).trans ((g _ (by omega)).trans yF)) ((g' _ (by omega)).trans ((g _ (by omega)).trans yM)) (fun h2 x3 x4 x5 x6 x7 x8 x9 x10 x11 x12 x13 x14 x15 x16 x17 x18 x20 o2 g2=>hQ h2 x3 x4 x5 x6 x7 x8 x9 x10 x11 x12 x13 x14 x15 x16 x17 x18 x20 o2 (g2.trans ((g' _ (by omega)).trans ((g _ (by omega)).trans (gA _ hb.1)))))
theorem qkj {h:Hp} (ok:Ok h) {f:Fc} {m:Nat×Nat} (k:FcOk m f) (m1:2<=m.1/\m.1<=10) (m2:2<=m.2/\m.2<=10):WC F6 24 [.agg [jae jav f.values,jae ja4 f.blocks],.agg [si m.1,si m.2]] h (fun v h'=>∃ d,jg1 true h' d v=some (vi (jmp f))):=by
 refine jax (no6 rfl rfl rfl rfl rfl rfl) qt2 rfl ?_
 unfold qfh
 have nb:=k.nb
 have nv:=k.nv
 obtain⟨hA,eA,okA,nA,xA,gA⟩:=jd4 ok [jae jav f.values,jae ja4 f.blocks] 26
 obtain⟨hB,eB,okB,nB,xB,gB⟩:=jd4 okA [si m.1,si m.2] 30
 have yA:=(gB _ (by omega)).trans xA
 rw[nA] at xB
 obtain⟨b0,hb0⟩:∃ y,f.blocks[0]?=some y:=⟨_,f0b (by omega)⟩
 have h0:=k.ent b0 hb0
 have ix0:jxd 3 (.s (jae ja4 f.blocks)) (vi 0)=some (.s (.cp (ja4 b0))):=jai (enc:=ja4) (size:=3) hb0 rfl
 have l1:=jah (enc:=jav) (l:=f.values)
 have l2:=jah (enc:=ja4) (l:=f.blocks)
 have l3:=jah (enc:=jav) (l:=b0.params)
 rw[h0] at l3
 simp(disch:=first|omega|rfl) only[go_sem,eA,eB,nA,xB,qqh m1 m2]
 unfold j9w
 simp(disch:=first|omega|rfl) only[go_sem,yA,qqi k]
 unfold j9v
 simp(disch:=first|omega|rfl) only[go_sem,yA,l1]
 refine qgl (by omega) k.cls f.values.length 0 (by omega) okB (fun x24 x25 x27=>?_)
 simp(disch:=first|omega|rfl) only[go_sem,yA,ix0,ja4,h0,qcw]
 unfold j9u
 simp(disch:=first|omega|rfl) only[go_sem,yA,l2]
 refine qat k f.blocks.length 0 (by omega) okB ⟨by omega,by omega⟩ yA xB (fun hj x3 x4 x5 x6 x7 x8 x9 x10 x11 x12 x13 x14 x15 x16 x17 x18 x20 o g=>?_)
 have zA:=g.trans yA
 simp(disch:=first|omega|rfl) only[go_sem,zA,qki k]
 exact⟨1,rfl⟩
theorem qau:∀ (l:List Nat) (s:List Bool),l.Nodup->(∀ v∈l,s[v]?=some false)->∃ t,jk8 s l=some t/\t.length=s.length/\∀ i,t[i]?=if i∈l then some true else s[i]?
 | [],s,_,_=>⟨s,rfl,rfl,fun i=>by simp⟩
 | v::l,s,hd,hf=>by
  have hv:=hf v (by simp)
  have hlt:v<s.length:=by
   rcases f0k v s.length with h | h
   .exact h
   .rw [f0q h] at hv;cases hv
  obtain⟨hn,hd'⟩:=f0t.1 hd
  obtain⟨t,h1,h2,h3⟩:=qau l (s.set v true) hd' (fun u hu=>by
   have hne:v≠u:=fun e=>hn (e▸hu)
   rw[f1r hne];exact hf u (by simp[hu]))
  refine⟨t,by unfold jk8;rw[if_neg (by rw[hv];simp)];exact h1,by rw[h2,f3n],fun i=>?_⟩
  rw[h3]
  by_cases e:i=v
  .subst e
   rw[if_neg hn,if_pos (by simp),List.getElem?_set_self hlt]
  .by_cases h:i∈l
   .rw [if_pos h,if_pos (by simp[h])]
   .rw [if_neg h,if_neg (by simp[e,h]),f1r (fun x=>e x.symm)]
theorem qdu {f:Fc} (h:(jda f.blocks).Perm (List.range f.values.length)):jmp f=0:=by
 have hm:∀ v,v∈jda f.blocks↔v<f.values.length:=fun v=>by rw[h.mem_iff,List.mem_range]
 obtain⟨t,h1,h2,h3⟩:=qau (jda f.blocks) (List.replicate f.values.length false) (h.nodup_iff.2 List.nodup_range) (fun v hv=>by rw[List.getElem?_replicate,if_pos ((hm v).1 hv)])
 unfold jmp
 rw[h1]
 rw[f22] at h2
 have:false∉t:=fun hf=>by
  obtain⟨i,hi⟩:=f2o hf
  have hlt:i<t.length:=by
   rcases f0k i t.length with h | h
   .exact h
   .rw [f0q h] at hi;cases hi
  rw[h3,if_pos ((hm i).2 (by omega))] at hi
  cases hi
 simp only[this,if_false]
def S7 (f:FuncId):Bool:=Nat.beq f 24
noncomputable def F7:Fns:=PX S7 F6
theorem qw6 {A:Nat->Int}:Env Try.prog A tys F7:=jgt qw5
theorem no7 {f:FuncId} (h1:S1 f=false) (h2:Nat.beq f jgy.f=false) (h3:S3 f=false) (h4:S4 f=false) (h5:S5 f=false) (h6:S6 f=false) (h7:S7 f=false) {h:Hp}:jdg F7 f vs h=none:=(ja9 h7).trans (no6 h1 h2 h3 h4 h5 h6)
theorem qun {f:FuncId} (h4:S4 f=false) (h5:S5 f=false) (h6:S6 f=false) (h7:S7 f=false) {h:Hp}:jdg F7 f vs h=jdg F3 f vs h:=(ja9 h7).trans ((ja9 h6).trans ((ja9 h5).trans (ja9 h4)))
section
variable {h:Hp} {f:Fc} {m:Nat×Nat} {Q:AV->Hp->Prop}
theorem qqj (k:FcOk m f) (m1:2<=m.1/\m.1<=10) (m2:2<=m.2/\m.2<=10):jdg F7 24 [.agg [jae jav f.values,jae ja4 f.blocks],.agg [si m.1,si m.2]] h=some (vi (jmp f),h) :=
 jbh rfl (by simp only[jas,jaz,jbb,jcp,ja0,jbc,ja6,jbm,jbd,jbj,if_true]) (qkj jen k m1 m2)
end
section
variable {α:Type}
def Gs (lo:Nat) (h:Hp) (ty sz:Nat) (E:List SV->α->List Nat->Prop) (x:SV) (l:List α):Prop :=
 ∃ ns,Sl h ty sz false E x l ns/\ns.Nodup/\∀ n∈ns,lo<=n/\n<h.next
variable {lo ty sz:Nat} {E:List SV->α->List Nat->Prop} {h h':Hp} {x:SV} {l:List α}
theorem Gs.nil:Gs lo h ty sz E .nilSlice []:=⟨[],.nil,.nil,by simp⟩
theorem Gs.len (k:Gs lo h ty sz E x l):jsg (.s x)=some (vi l.length):=by
 obtain⟨ns,k,_⟩:=k
 exact k.len
theorem jx6:∀ {L:List (List SV)},(∀ r∈L,r.length=sz)->jrm sz L=some L.flatten
 | [],_=>rfl
 | a::L,hr=>by
  have e:jrm sz L=some L.flatten:=jx6 (fun r h=>hr r (f0y _ h))
  have ha:=hr a (by simp)
  show oif (Nat.beq (jcl a) sz) (ob (jrm sz L) (fun r=>some (jg2 a r))) none=_
  rw[e,show Nat.beq (jcl a) sz=true by rw[jbf,ha];exact f1t sz]
  show some (jg2 a L.flatten)=_
  rw[jdf];rfl
end
def OX (h:Hp) (row:List SV) (x:Ms.Ins) (ns:List Nat):Prop:=∃ a b n1 n2 ex,row=[si x.op,a,b]/\Sl h tt.opd 5 ex EO a x.ops n1/\Sl h tt.reg 2 false ER b x.spoils n2/\ns=n1++n2
def OE (h:Hp) (row:List SV) (e:Ms.Edg) (ns:List Nat):Prop:=∃ a,row=[si e.block,a]/\Sl h tt.int 1 false EI a e.args ns
def OB (h:Hp) (row:List SV) (b:Blk) (ns:List Nat):Prop:=∃ p i e n1 n2 n3 ex,row=[p,i,e]/\Sl h tt.int 1 false EI p b.params n1/\Sl h tt.ins 3 false (OX h) i b.instrs n2/\Sl h tt.edg 2 ex (OE h) e b.edges n3/\ns=n1++(n2++n3)
section
variable {h h':Hp}
theorem OE.keep {x:Ms.Edg} (k:OE h row x ns) (hk:∀ n∈ns,h'.get n=h.get n):OE h' row x ns:=by
 obtain⟨a,e,h1⟩:=k
 exact⟨a,e,h1.keep hk⟩
theorem OX.keep {x:Ms.Ins} (k:OX h row x ns) (hk:∀ n∈ns,h'.get n=h.get n):OX h' row x ns:=by
 obtain⟨a,b,n1,n2,ex,e,h1,h2,rfl⟩:=k
 exact⟨a,b,n1,n2,ex,e,h1.keep (fun n hn=>hk n (by simp[hn])),h2.keep (fun n hn=>hk n (by simp[hn])),rfl⟩
theorem OB.keep {x:Blk} (k:OB h row x ns) (hk:∀ n∈ns,h'.get n=h.get n):OB h' row x ns:=by
 obtain⟨p,i,e,n1,n2,n3,ex,e1,h1,h2,h3,rfl⟩:=k
 exact⟨p,i,e,n1,n2,n3,ex,e1,h1.keep (fun n hn=>hk n (by simp[hn])),h2.imp (fun n hn=>hk n (by simp[hn])) (fun row a ms hm k=>k.keep (fun n hn=>hk n (by simp[hm n hn]))),h3.imp (fun n hn=>hk n (by simp[hn])) (fun row a ms hm k=>k.keep (fun n hn=>hk n (by simp[hm n hn]))),rfl⟩
variable {d:Nat} {k:Bool}
structure OF (h:Hp) (x:AV) (f:Fc) (na nb:List Nat):Prop where
 ex:∃ a b,x=.agg [a,b]/\Sl h tt.int 1 false EI a f.values na/\Sl h tt.blk 3 false (OB h) b f.blocks nb
 nd:(na++nb).Nodup
 lt:∀ n∈na++nb,1<=n/\n<h.next
theorem OF.keep {x:AV} {f:Fc} {na nb:List Nat} (o:OF h x f na nb) (hk:∀ n∈na++nb,h'.get n=h.get n) (hn:h.next<=h'.next):OF h' x f na nb:=by
 obtain⟨⟨a,b,rfl,h1,h2⟩,nd,lt⟩:=o
 exact⟨⟨a,b,rfl,h1.keep (fun n hn=>hk n (by simp[hn])),h2.imp (fun n hn=>hk n (by simp[hn])) (fun row a ms hm k=>k.keep (fun n hn=>hk n (by simp[hm n hn])))⟩,nd,fun n hm=>by have:=lt n hm;omega⟩
end
end Go.Proofs.Ytkeenpohacdanaa.Ev
