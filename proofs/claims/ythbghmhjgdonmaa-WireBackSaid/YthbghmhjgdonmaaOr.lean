/- What functions may be: each value is made once: the answer. -/
import Derived.Test.YthbghmhjgdonmaaSi
namespace Go.Proofs.Ythbghmhjgdonmaa.Ev
open Go Go.RowKit Go.Proofs.Ythbghmhjgdonmaa.Ms
attribute [local go_sem] Int.reduceToNat reduceCtorEq Nat.reduceAdd Nat.reduceMul Nat.reduceEqDiff Int.reduceEq Int.reduceLT Int.reduceLE Int.reduceNeg Int.reduceAdd Int.reduceSub Int.reduceMul Int.reduceNe
attribute [local go_sem ↓] reduceIte
set_option linter.all false
set_option maxRecDepth 100000
set_option maxHeartbeats 2000000
variable {x0 x1 x2 x3 x4 x5 x6 x7 x8 x9 x10 x11 x12 x13 x14 x15 x16 x17 x18 x19 x20 x21 x22 x23 x24 x25 x26 x27 x28 x29 x30 x31 x33 x34 x35:AV} {vs:List AV} {ms ns:List Nat} {row:List SV} {bA bF bM:Nat}
theorem j1t {s:List Bool} (hl:s.length<=10000) {Q:Ex->St->Prop} :
 ∀ (rest done:List Bool) (_:done++rest=s) {hi:Hp} (_:Ok hi) (_:hi.get bA=some (.arr (bls s) 4)) {x3 x4 x5:AV}
  (hQ:false∉rest->∀ hj x3 x4 x5,Q (.exit 0) (.mk [.s (.slice bA 0 s.length s.length true 1),vb false,x2,x3,x4,x5,vi s.length,vi s.length] hj))
  (hF:∀ (k:Nat) hj x3 x4 x5 x6 x7,false∈rest->Q .ret (.mk [.s (.slice bA 0 s.length s.length true 1),vb false,vi k,x3,x4,x5,x6,x7] hj)),
  W F5 jnd.loop (.mk [.s (.slice bA 0 s.length s.length true 1),vb false,x2,x3,x4,x5,vi s.length,vi done.length] hi) Q
 | [],done,hdn,hi,ok,xA,x3,x4,x5,hQ,hF=>by
  rw[f01] at hdn
  rw[jag,hdn]
  unfold jnd
  simp(disch:=first|omega|rfl) only[go_sem,f0q]
  exact hQ (by simp) hi ..
 | b::rest,done,hdn,hi,ok,xA,x3,x4,x5,hQ,hF=>by
  have hlt1:done.length<s.length:=by rw[←hdn];simp
  have hlt:(done.length:Int)<s.length:=by omega
  have hget:s[done.length]?=some b:=by rw[←hdn];simp
  have hcell:(bls s)[done.length]?=some (.bool b):=by unfold bls;rw[f1b,hget];rfl
  have hrd:rdB (hi.get bA) done.length 1=some [.bool b]:=by rw[xA];exact jrr hcell
  have hix:=jbc (size:=1) (b:=bA) (off:=0) (len:=s.length) (mc:=s.length) (sz:=1) (ex:=true) (m:=done.length) hlt1
  rw[f0w,f28] at hix
  have hdn':(done++[b])++rest=s:=by rw[←hdn];simp
  have hs:(done.length:Int)+1=(((done++[b]).length:Nat):Int):=by simp
  rw[jag]
  unfold jnd j1o
  cases b with
  | true =>
   simp(disch:=first|omega|rfl) only[go_sem,jad,eq_true hlt,hix,hrd,jp3,quq,hs]
   exact j1t hl rest (done++[true]) hdn' ok xA (fun h=>hQ (by simpa using h)) (fun k hj x3 x4 x5 x6 x7 h=>hF k hj x3 x4 x5 x6 x7 (by simp[h]))
  | false =>
   simp(disch:=first|omega|rfl) only[go_sem,jad,eq_true hlt,hix,hrd,jp3,quq,hs]
   exact hF _ _ _ _ _ _ _ (by simp)
theorem qih {hi:Hp} (ok:Ok hi) {s:List Bool} (hl:s.length<=10000) (xA:hi.get bA=some (.arr (bls s) 4)):WC F5 78 [.s (.slice bA 0 s.length s.length true 1),vb false] hi (fun u h'=>u=vb (decide (false∈s))):=by
 refine jax (no5 rfl rfl rfl rfl rfl) qsm rfl ?_
 unfold qdr
 simp(disch:=first|omega|rfl) only[go_sem]
 refine WC.imp (Q:=fun u h'=>(false∈s/\∃ k:Nat,u=vi k)∨(false∉s/\u=vi (-1))) ?_ ?_
 .refine jax (no5 rfl rfl rfl rfl rfl) qoj rfl ?_
  unfold j75
  simp(disch:=first|omega|rfl) only[go_sem]
  refine j1t hl s [] rfl ok xA (fun h hj x3 x4 x5=>?_) (fun k hj x3 x4 x5 x6 x7 h=>?_)
  .simp (disch:=first|omega|rfl) only[go_sem]
   first | exact .inr ⟨h,rfl⟩ | exact .inr h
  .simp (disch:=first|omega|rfl) only[go_sem]
   exact .inl ⟨h,k,rfl⟩
 .rintro u h' (⟨h,k,rfl⟩ | ⟨h,rfl⟩)
  .have c1:(0<=(k:Int))=True:=by simp
   simp(disch:=first|omega|rfl) only[go_sem,c1,h]
  .simp (disch:=first|omega|rfl) only[go_sem,h]
def jl7 (f:Fc):Nat:=match jkw (List.replicate f.values.length false) (jc4 f.blocks) with
 | none=>7
 | some t=>if false∈t then 6 else 0
theorem qii {h:Hp} (ok:Ok h) {f:Fc} (hl:f.blocks.length<=10000) (hv:f.values.length<=10000) (hp:∀ b∈f.blocks,b.params.length<=10000/\b.instrs.length<=10000/\(∀ v∈b.params,v<f.values.length)/\∀ x∈b.instrs,x.ops.length<=6/\∀ o∈x.ops,o.value<f.values.length) :
 WC F5 55 [.agg [jae jas f.values,jae ja5 f.blocks]] h (fun v h'=>∃ d,jfr true h' d v=some (vi (jl7 f))):=by
 refine jax (no5 rfl rfl rfl rfl rfl) qsi rfl ?_
 unfold qdn
 have hpos:=ok.pos
 obtain⟨hA,eA,okA,nA,xA,gA⟩:=jdn ok [jae jas f.values,jae ja5 f.blocks] 26
 obtain⟨hB,eB,okB,nB,xB,gB⟩:=jdn okA (rep [.bool false] f.values.length) 4
 obtain⟨hC,eC,okC,nC,xC,gC⟩:=jbt okB [.nilSlice] [.slice hA.next 0 f.values.length f.values.length true 1] 107
 have nb:hB.next=h.next+2:=by omega
 rw[qdz] at xB
 have hbl:bls (List.replicate f.values.length false)=List.replicate f.values.length (.bool false):=by unfold bls;rw[List.map_replicate]
 rw[←hbl] at xB
 have I:OnI hC f h.next hB.next hA.next (List.replicate f.values.length false) :=
  ⟨okC,f21,⟨by omega,by omega,by omega⟩,⟨by omega,by omega,by omega⟩,(gC _ (by omega)).trans ((gB _ (by omega)).trans xA),xC,(gC _ (by omega)).trans xB⟩
 have l1:=jah (enc:=jas) (l:=f.values)
 have l2:=jah (enc:=ja5) (l:=f.blocks)
 have hmk:=jyf (e:=4) (size:=1) (bytes:=1) (z:=[.bool false]) (m:=f.values.length) okA (by omega) (by omega)
 rw[eB] at hmk
 have xF:=I.xF
 rw[nA,nb] at I
 rw[nA] at hmk eC
 rw[nb] at eC
 simp(disch:=first|omega|rfl) only[go_sem,eA,xA,l1,hmk,nb,eC,nA,xF,l2,jjz]
 refine qd2 hl hp f.blocks [] rfl I (fun t ht hj x3 x4 x5 x6 x7 x8 x9 x10 x11 x12 x13 x14 x15 x16 x17 x18 x20 x21 x22 x23 x24 x26 J=>?_) (fun ht=>?_)
 .have xM:=J.xM
  have eo:jl7 f=if false∈t then 6 else 0:=by unfold jl7;rw[ht]
  rw[eo]
  simp(disch:=first|omega|rfl) only[go_sem,xM]
  have hts:t.length=f.values.length:=J.hs
  have hct:=qih J.ok (s:=t) (by omega) J.xA
  rw[hts] at hct
  refine WC.imp hct ?_
  rintro u h' rfl
  by_cases e:false∈t
  .simp (disch:=first|omega|rfl) only[go_sem,e]
   exact⟨1,rfl⟩
  .simp (disch:=first|omega|rfl) only[go_sem,e]
   unfold j7u
   simp(disch:=first|omega|rfl) only[go_sem]
   exact⟨1,rfl⟩
 .intro hj x2 x3 x4 x5 x6 x7 x8 x9 x10 x11 x12 x13 x14 x15 x16 x17 x18 x19 x20 x21 x22 x23 x24 x25 x26 x27 x28 x29 x30
  have eo:jl7 f=7:=by unfold jl7;rw[ht]
  rw[eo]
  simp(disch:=first|omega|rfl) only[go_sem]
  exact⟨1,rfl⟩
def S6 (f:FuncId):Bool:=Nat.beq f 53||Nat.beq f 55
noncomputable def F6:Fns:=PX S6 F5
theorem qvq {A:Nat->Int}:Env Try.prog A tys F6:=je1 qvp
theorem no6 {f:FuncId} (h1:S1 f=false) (h2:Nat.beq f jgf.f=false) (h3:S3 f=false) (h4:S4 f=false) (h5:S5 f=false) (h6:S6 f=false) {h:Hp}:jcw F6 f vs h=none:=(jay h6).trans (no5 h1 h2 h3 h4 h5)
theorem j8d {m:Nat×Nat} {f:Fc} (k:FcOk m f):∀ b∈f.blocks,b.params.length<=10000/\b.instrs.length<=10000/\(∀ v∈b.params,v<f.values.length)/\∀ x∈b.instrs,x.ops.length<=6/\∀ o∈x.ops,o.value<f.values.length:=fun b hb=>by
 have h1:=k.blk b hb
 exact⟨by omega,by omega,k.prm b hb,fun x hx=>⟨(k.ins b hb x hx).nops,fun o ho=>((k.ins b hb x hx).opd o ho).val⟩⟩
section
variable {h:Hp} {f:Fc} {m:Nat×Nat} {Q:AV->Hp->Prop}
theorem qop (m1:2<=m.1/\m.1<=10) (m2:2<=m.2/\m.2<=10):WC F6 51 [.agg [si m.1,si m.2]] h Q=Q (vi 0) h :=
 jao ((jay rfl).trans ((jay rfl).trans (jbe rfl (by simp only[jat,ja1,ja9,jb7,ja2,jba,ja7,jbk,jbb,jbi,if_true]) (qol jds m1 m2))))
theorem qoq (k:FcOk m f):WC F6 52 [.agg [jae jas f.values,jae ja5 f.blocks]] h Q=Q (vi 0) h :=
 jao ((jay rfl).trans ((jay rfl).trans (jbe rfl (by simp only[jat,ja1,ja9,jb7,ja2,jba,ja7,jbk,jbb,jbi,if_true]) (qon jds k))))
theorem qij {op:Nat} {ops:List Ms.Opd} {sp:List (Nat×Nat)} (hc:∀ v,cl f.values v<2) (k:InsOk m f.values ⟨op,ops,sp⟩):WC F6 53 [.agg [jae jas f.values,jae ja5 f.blocks],.agg [si m.1,si m.2],.agg [si op,jae jbg ops,jae jc7 sp]] h Q=Q (vi 0) h :=
 jao (jbe rfl (by simp only[jat,ja1,ja9,jb7,ja2,jba,ja7,jbk,jbb,jbi,if_true]) (qie jds hc k))
theorem qik {e:Ms.Edg} (k:jqs f.values f.blocks e) (hl:e.args.length<=10000):WC F6 54 [.agg [jae jas f.values,jae ja5 f.blocks],.agg [si e.block,jae jas e.args]] h Q=Q (vi 0) h :=
 jao ((jay rfl).trans (jbe rfl (by simp only[jat,ja1,ja9,jb7,ja2,jba,ja7,jbk,jbb,jbi,if_true]) (qh4 jds k hl)))
theorem qil (k:FcOk m f):WC F6 55 [.agg [jae jas f.values,jae ja5 f.blocks]] h Q=Q (vi (jl7 f)) h :=
 jao (jbe rfl (by simp only[jat,ja1,ja9,jb7,ja2,jba,ja7,jbk,jbb,jbi,if_true]) (qii jds (by have:=k.nb;omega) (by have:=k.nv;omega) (j8d k)))
end
theorem qd3 {l:List Nat} (hl:l.length<=10000) (hp:∀ c∈l,c<2) {x32:AV} {Q:Ex->St->Prop} :
 ∀ (d i:Nat) (_:i+d=l.length) {hi:Hp} (_:Ok hi) {x24 x25 x27:AV}
  (hQ:∀ x24 x25 x27,Q (.exit 0) (.mk [x0,x1,x2,x3,x4,x5,x6,x7,x8,x9,x10,x11,x12,x13,x14,x15,x16,x17,x18,x19,x20,x21,x22,x23,x24,x25,.s (jae jas l),x27,vi l.length,vi l.length,x30,x31,x32,x33,x34,x35] hi)),
  W F6 juh.loop (.mk [x0,x1,x2,x3,x4,x5,x6,x7,x8,x9,x10,x11,x12,x13,x14,x15,x16,x17,x18,x19,x20,x21,x22,x23,x24,x25,.s (jae jas l),x27,vi l.length,vi i,x30,x31,x32,x33,x34,x35] hi) Q
 | 0,i,hd,hi,ok,x24,x25,x27,hQ=>by
  obtain rfl:i=l.length:=by omega
  rw[jag]
  unfold juh
  simp(disch:=first|omega|rfl) only[go_sem,f0q]
  exact hQ _ _ _
 | d+1,i,hd,hi,ok,x24,x25,x27,hQ=>by
  have hlt:(i:Int)<(l.length:Int):=by omega
  obtain⟨c,hio⟩:∃ y,l[i]?=some y:=⟨_,f0b (by omega)⟩
  have hc:=hp c (f0c hio)
  have hix:=jai (enc:=jas) (size:=1) hio rfl
  have hs:(i:Int)+1=((i+1:Nat):Int):=by omega
  have c1:((c:Int)<0)=False:=by simp
  have c2:(2<=(c:Int))=False:=by simp;omega
  rw[jag]
  unfold juh j7x
  simp(disch:=first|omega|rfl) only[go_sem,jad,eq_true hlt,hix,jas,c1,c2,hs]
  exact qd3 hl hp d (i+1) (by omega) ok hQ
theorem qd4 {f:Fc} {m:Nat×Nat} {l:List Ms.Ins} (hl:l.length<=10000) (hc:∀ v,cl f.values v<2) (hp:∀ x∈l,InsOk m f.values x) {Q:Ex->St->Prop} :
 ∀ (d i:Nat) (_:i+d=l.length) {hi:Hp} (_:Ok hi) (_:bF<hi.next/\bM<hi.next) (_:hi.get bF=some (.arr [jae jas f.values,jae ja5 f.blocks] 26)) (_:hi.get bM=some (.arr [si m.1,si m.2] 30)) {x11 x12 x13 x15:AV}
  (hQ:∀ hj x11 x12 x13 x15,Ok hj->hi.next<=hj.next->(∀ k,k<hi.next->hj.get k=hi.get k)->Q (.exit 4) (.mk [x0,x1,x2,x3,x4,x5,x6,x7,x8,x9,x10,x11,x12,x13,.s (jae jdx l),x15,vi l.length,vi l.length,x18,x19,x20,x21,x22,x23,x24,x25,x26,x27,x28,x29,x30,x31,.s (.ptr bF 0),x33,x34,.s (.ptr bM 0)] hj)),
  W F6 jui.loop (.mk [x0,x1,x2,x3,x4,x5,x6,x7,x8,x9,x10,x11,x12,x13,.s (jae jdx l),x15,vi l.length,vi i,x18,x19,x20,x21,x22,x23,x24,x25,x26,x27,x28,x29,x30,x31,.s (.ptr bF 0),x33,x34,.s (.ptr bM 0)] hi) Q
 | 0,i,hd,hi,ok,hb,xF,xM,x11,x12,x13,x15,hQ=>by
  obtain rfl:i=l.length:=by omega
  rw[jag]
  unfold jui
  simp(disch:=first|omega|rfl) only[go_sem,f0q]
  exact hQ hi _ _ _ _ ok (f0e _) (fun _ _=>rfl)
 | d+1,i,hd,hi,ok,hb,xF,xM,x11,x12,x13,x15,hQ=>by
  have hlt:(i:Int)<(l.length:Int):=by omega
  obtain⟨x,hio⟩:∃ y,l[i]?=some y:=⟨_,f0b (by omega)⟩
  have hx:InsOk m f.values ⟨x.op,x.ops,x.spoils⟩:=hp x (f0c hio)
  have hix:=jai (enc:=jdx) (size:=3) hio rfl
  have hs:(i:Int)+1=((i+1:Nat):Int):=by omega
  obtain⟨hA,eA,okA,nA,xA,gA⟩:=jbt ok [.int .i64 0,.nilSlice,.nilSlice] (jdx x) 81
  have yF:=(gA _ hb.1).trans xF
  have yM:=(gA _ hb.2).trans xM
  unfold jdx at xA eA
  rw[jag]
  unfold jui j7y
  simp(disch:=first|omega|rfl) only[go_sem,jad,eq_true hlt,hix,jdx,eA,xA,yF,yM,qij hc hx,hs]
  exact qd4 hl hc hp d (i+1) (by omega) okA ⟨by omega,by omega⟩ yF yM (fun hj x11 x12 x13 x15 o n g=>hQ hj x11 x12 x13 x15 o (by omega) (fun k hk=>(g k (by omega)).trans (gA k hk)))
theorem qd5 {f:Fc} {l:List Ms.Edg} (hl:l.length<=10000) (hp:∀ e∈l,jqs f.values f.blocks e/\e.args.length<=10000) {Q:Ex->St->Prop} :
 ∀ (d i:Nat) (_:i+d=l.length) {hi:Hp} (_:Ok hi) (_:bF<hi.next) (_:hi.get bF=some (.arr [jae jas f.values,jae ja5 f.blocks] 26)) {x3 x4 x5 x7:AV}
  (hQ:∀ hj x3 x4 x5 x7,Ok hj->hi.next<=hj.next->(∀ k,k<hi.next->hj.get k=hi.get k)->Q (.exit 6) (.mk [x0,x1,x2,x3,x4,x5,.s (jae jfu l),x7,vi l.length,vi l.length,x10,x11,x12,x13,x14,x15,x16,x17,x18,x19,x20,x21,x22,x23,x24,x25,x26,x27,x28,x29,x30,x31,.s (.ptr bF 0),x33,x34,x35] hj)),
  W F6 juj.loop (.mk [x0,x1,x2,x3,x4,x5,.s (jae jfu l),x7,vi l.length,vi i,x10,x11,x12,x13,x14,x15,x16,x17,x18,x19,x20,x21,x22,x23,x24,x25,x26,x27,x28,x29,x30,x31,.s (.ptr bF 0),x33,x34,x35] hi) Q
 | 0,i,hd,hi,ok,hb,xF,x3,x4,x5,x7,hQ=>by
  obtain rfl:i=l.length:=by omega
  rw[jag]
  unfold juj
  simp(disch:=first|omega|rfl) only[go_sem,f0q]
  exact hQ hi _ _ _ _ ok (f0e _) (fun _ _=>rfl)
 | d+1,i,hd,hi,ok,hb,xF,x3,x4,x5,x7,hQ=>by
  have hlt:(i:Int)<(l.length:Int):=by omega
  obtain⟨e,hio⟩:∃ y,l[i]?=some y:=⟨_,f0b (by omega)⟩
  obtain⟨he,hal⟩:=hp e (f0c hio)
  have hix:=jai (enc:=jfu) (size:=2) hio rfl
  have hs:(i:Int)+1=((i+1:Nat):Int):=by omega
  obtain⟨hA,eA,okA,nA,xA,gA⟩:=jbt ok [.int .i64 0,.nilSlice] (jfu e) 68
  have yF:=(gA _ hb).trans xF
  unfold jfu at xA eA
  rw[jag]
  unfold juj j7z
  simp(disch:=first|omega|rfl) only[go_sem,jad,eq_true hlt,hix,jfu,eA,xA,yF,qik he hal,hs]
  exact qd5 hl hp d (i+1) (by omega) okA (by omega) yF (fun hj x3 x4 x5 x7 o n g=>hQ hj x3 x4 x5 x7 o (by omega) (fun k hk=>(g k (by omega)).trans (gA k hk)))
theorem j8e {f:Fc} {m:Nat×Nat} (k:FcOk m f) {Q:Ex->St->Prop} :
 ∀ (d i:Nat) (_:i+d=f.blocks.length) {hi:Hp} (_:Ok hi) (_:bF<hi.next/\bM<hi.next) (_:hi.get bF=some (.arr [jae jas f.values,jae ja5 f.blocks] 26)) (_:hi.get bM=some (.arr [si m.1,si m.2] 30))
  {x3 x4 x5 x6 x7 x8 x9 x10 x11 x12 x13 x14 x15 x16 x17 x18 x20:AV}
  (hQ:∀ hj x3 x4 x5 x6 x7 x8 x9 x10 x11 x12 x13 x14 x15 x16 x17 x18 x20,Ok hj->hj.get bF=hi.get bF->Q (.exit 2) (.mk [x0,x1,x2,x3,x4,x5,x6,x7,x8,x9,x10,x11,x12,x13,x14,x15,x16,x17,x18,.s (jae ja5 f.blocks),x20,vi f.blocks.length,vi f.blocks.length,x23,x24,x25,x26,x27,x28,x29,x30,x31,.s (.ptr bF 0),x33,x34,.s (.ptr bM 0)] hj)),
  W F6 juk.loop (.mk [x0,x1,x2,x3,x4,x5,x6,x7,x8,x9,x10,x11,x12,x13,x14,x15,x16,x17,x18,.s (jae ja5 f.blocks),x20,vi f.blocks.length,vi i,x23,x24,x25,x26,x27,x28,x29,x30,x31,.s (.ptr bF 0),x33,x34,.s (.ptr bM 0)] hi) Q
 | 0,i,hd,hi,ok,hb,xF,xM,x3,x4,x5,x6,x7,x8,x9,x10,x11,x12,x13,x14,x15,x16,x17,x18,x20,hQ=>by
  obtain rfl:i=f.blocks.length:=by omega
  rw[jag]
  unfold juk
  simp(disch:=first|omega|rfl) only[go_sem,f0q]
  exact hQ hi _ _ _ _ _ _ _ _ _ _ _ _ _ _ _ _ _ ok rfl
 | d+1,i,hd,hi,ok,hb,xF,xM,x3,x4,x5,x6,x7,x8,x9,x10,x11,x12,x13,x14,x15,x16,x17,x18,x20,hQ=>by
  have nb:=k.nb
  have nv:=k.nv
  have hlt:(i:Int)<(f.blocks.length:Int):=by omega
  obtain⟨b,hio⟩:∃ y,f.blocks[i]?=some y:=⟨_,f0b (by omega)⟩
  have hbm:=f0c hio
  have hbk:=k.blk b hbm
  have hix:=jai (enc:=ja5) (size:=3) hio rfl
  have hs:(i:Int)+1=((i+1:Nat):Int):=by omega
  obtain⟨hA,eA,okA,nA,xA,gA⟩:=jbt ok [.nilSlice,.nilSlice,.nilSlice] (ja5 b) 36
  have yF:=(gA _ hb.1).trans xF
  have yM:=(gA _ hb.2).trans xM
  have l1:=jah (enc:=jdx) (l:=b.instrs)
  have l2:=jah (enc:=jfu) (l:=b.edges)
  have hE:∀ e∈b.edges,jqs f.values f.blocks e/\e.args.length<=10000:=fun e he=>by
   have h1:=k.edg b hbm e he
   refine⟨h1,?_⟩
   obtain⟨_,_,t,h2,h3,_⟩:=h1
   have h4:=(k.blk t (f0c h2)).1
   have:=congrArg List.length h3
   simp only[f1a] at this
   omega
  have fin:∀ (x3 x4 x5 x7:AV) (x11 x12 x13 x15:AV) (hk:Hp),Ok hk->hA.next<=hk.next->(∀ n,n<hA.next->hk.get n=hA.get n)->∀ (x10:AV) (K:Ex->St->Prop),(∀ hj x3 x4 x5 x7,Ok hj->hk.next<=hj.next->(∀ n,n<hk.next->hj.get n=hk.get n)->K .normal (.mk [x0,x1,x2,x3,x4,x5,.s (jae jfu b.edges),x7,vi b.edges.length,vi b.edges.length,x10,x11,x12,x13,.s (jae jdx b.instrs),x15,vi b.instrs.length,vi b.instrs.length,.s (.ptr hi.next 0),.s (jae ja5 f.blocks),vb true,vi f.blocks.length,vi i,x23,x24,x25,x26,x27,x28,x29,x30,x31,.s (.ptr bF 0),x33,x34,.s (.ptr bM 0)] hj)) ->
   ∀ (x6 x8 x9:AV),W F6 jza (.mk [x0,x1,x2,x3,x4,x5,x6,x7,x8,x9,x10,x11,x12,x13,.s (jae jdx b.instrs),x15,vi b.instrs.length,vi b.instrs.length,.s (.ptr hi.next 0),.s (jae ja5 f.blocks),vb true,vi f.blocks.length,vi i,x23,x24,x25,x26,x27,x28,x29,x30,x31,.s (.ptr bF 0),x33,x34,.s (.ptr bM 0)] hk) K:=fun x3 x4 x5 x7 x11 x12 x13 x15 hk o n g x10 K hK x6 x8 x9=>by
   have zA:=(g hi.next (by omega)).trans xA
   have zF:=(g bF (by omega)).trans yF
   unfold ja5 at zA
   unfold jza
   simp(disch:=first|omega|rfl) only[go_sem,zA,l2]
   refine qd5 (by omega) hE b.edges.length 0 (by omega) o (by omega) zF (fun hj x3 x4 x5 x7 o' n' g'=>?_)
   simp(disch:=first|omega|rfl) only[go_sem]
   exact hK hj x3 x4 x5 x7 o' n' g'
  have zz:∀ (hk:Hp),hA.next<=hk.next->(∀ n,n<hA.next->hk.get n=hA.get n)->hk.get hi.next=some (.arr [jae jas b.params,jae jdx b.instrs,jae jfu b.edges] 36):=fun hk n g=>(g _ (by omega)).trans xA
  unfold ja5 at eA xA
  rw[jag]
  unfold juk j70
  simp(disch:=first|omega|rfl) only[go_sem,jad,eq_true hlt,hix,ja5,eA,xA,l1]
  refine qd4 (by omega) (j3m k.cls) (k.ins b hbm) b.instrs.length 0 (by omega) okA ⟨by omega,by omega⟩ yF yM (fun hj x11 x12 x13 x15 o n g=>?_)
  have zA:=zz hj n g
  by_cases e:1<b.edges.length
  .have c1:(1<(b.edges.length:Int))=True:=by simp;omega
   have hne:=f1t.2 (k.par b hbm e)
   have c2:((b.instrs.length:Int)=0)=False:=eq_false (by omega)
   simp(disch:=first|omega|rfl) only[go_sem,zA,l1,l2,c1,c2]
   refine fin _ _ _ _ _ _ _ _ hj o n g _ _ (fun hk x3 x4 x5 x7 o' n' g'=>?_) _ _ _
   simp(disch:=first|omega|rfl) only[go_sem,jad,hs]
   exact j8e k d (i+1) (by omega) o' ⟨by omega,by omega⟩ ((g' _ (by omega)).trans ((g _ (by omega)).trans yF)) ((g' _ (by omega)).trans ((g _ (by omega)).trans yM)) (fun h2 x3 x4 x5 x6 x7 x8 x9 x10 x11 x12 x13 x14 x15 x16 x17 x18 x20 o2 g2=>hQ h2 x3 x4 x5 x6 x7 x8 x9 x10 x11 x12 x13 x14 x15 x16 x17 x18 x20 o2 (g2.trans ((g' _ (by omega)).trans ((g _ (by omega)).trans (gA _ hb.1)))))
  .have c1:(1<(b.edges.length:Int))=False:=by simp;omega
   simp(disch:=first|omega|rfl) only[go_sem,zA,l1,l2,c1]
   refine fin _ _ _ _ _ _ _ _ hj o n g _ _ (fun hk x3 x4 x5 x7 o' n' g'=>?_) _ _ _
   simp(disch:=first|omega|rfl) only[go_sem,jad,hs]
   exact j8e k d (i+1) (by omega) o' ⟨by omega,by omega⟩ ((g' _ (by omega)).trans ((g _ (by omega)).trans yF)) ((g' _ (by omega)).trans ((g _ (by omega)).trans yM)) (fun h2 x3 x4 x5 x6 x7 x8 x9 x10 x11 x12 x13 x14 x15 x16 x17 x18 x20 o2 g2=>hQ h2 x3 x4 x5 x6 x7 x8 x9 x10 x11 x12 x13 x14 x15 x16 x17 x18 x20 o2 (g2.trans ((g' _ (by omega)).trans ((g _ (by omega)).trans (gA _ hb.1)))))
theorem qim {h:Hp} (ok:Ok h) {f:Fc} {m:Nat×Nat} (k:FcOk m f) (m1:2<=m.1/\m.1<=10) (m2:2<=m.2/\m.2<=10):WC F6 23 [.agg [jae jas f.values,jae ja5 f.blocks],.agg [si m.1,si m.2]] h (fun v h'=>∃ d,jfr true h' d v=some (vi (jl7 f))):=by
 refine jax (no6 rfl rfl rfl rfl rfl rfl) qsk rfl ?_
 unfold qdp
 have nb:=k.nb
 have nv:=k.nv
 obtain⟨hA,eA,okA,nA,xA,gA⟩:=jdn ok [jae jas f.values,jae ja5 f.blocks] 26
 obtain⟨hB,eB,okB,nB,xB,gB⟩:=jdn okA [si m.1,si m.2] 30
 have yA:=(gB _ (by omega)).trans xA
 rw[nA] at xB
 obtain⟨b0,hb0⟩:∃ y,f.blocks[0]?=some y:=⟨_,f0b (by omega)⟩
 have h0:=k.ent b0 hb0
 have ix0:ju7 3 (.s (jae ja5 f.blocks)) (vi 0)=some (.s (.cp (ja5 b0))):=jai (enc:=ja5) (size:=3) hb0 rfl
 have l1:=jah (enc:=jas) (l:=f.values)
 have l2:=jah (enc:=ja5) (l:=f.blocks)
 have l3:=jah (enc:=jas) (l:=b0.params)
 rw[h0] at l3
 simp(disch:=first|omega|rfl) only[go_sem,eA,eB,nA,xB,qop m1 m2]
 unfold j73
 simp(disch:=first|omega|rfl) only[go_sem,yA,qoq k]
 unfold j72
 simp(disch:=first|omega|rfl) only[go_sem,yA,l1]
 refine qd3 (by omega) k.cls f.values.length 0 (by omega) okB (fun x24 x25 x27=>?_)
 simp(disch:=first|omega|rfl) only[go_sem,yA,ix0,ja5,h0,qba]
 unfold j71
 simp(disch:=first|omega|rfl) only[go_sem,yA,l2]
 refine j8e k f.blocks.length 0 (by omega) okB ⟨by omega,by omega⟩ yA xB (fun hj x3 x4 x5 x6 x7 x8 x9 x10 x11 x12 x13 x14 x15 x16 x17 x18 x20 o g=>?_)
 have zA:=g.trans yA
 simp(disch:=first|omega|rfl) only[go_sem,zA,qil k]
 exact⟨1,rfl⟩
theorem j8f:∀ (l:List Nat) (s:List Bool),l.Nodup->(∀ v∈l,s[v]?=some false)->∃ t,jkw s l=some t/\t.length=s.length/\∀ i,t[i]?=if i∈l then some true else s[i]?
 | [],s,_,_=>⟨s,rfl,rfl,fun i=>by simp⟩
 | v::l,s,hd,hf=>by
  have hv:=hf v (by simp)
  have hlt:v<s.length:=by
   rcases f0k v s.length with h | h
   .exact h
   .rw [f0r h] at hv;cases hv
  obtain⟨hn,hd'⟩:=f0s.1 hd
  obtain⟨t,h1,h2,h3⟩:=j8f l (s.set v true) hd' (fun u hu=>by
   have hne:v≠u:=fun e=>hn (e▸hu)
   rw[f1w hne];exact hf u (by simp[hu]))
  refine⟨t,by unfold jkw;rw[if_neg (by rw[hv];simp)];exact h1,by rw[h2,f3j],fun i=>?_⟩
  rw[h3]
  by_cases e:i=v
  .subst e
   rw[if_neg hn,if_pos (by simp),List.getElem?_set_self hlt]
  .by_cases h:i∈l
   .rw [if_pos h,if_pos (by simp[h])]
   .rw [if_neg h,if_neg (by simp[e,h]),f1w (fun x=>e x.symm)]
theorem qbx {f:Fc} (h:(jc4 f.blocks).Perm (List.range f.values.length)):jl7 f=0:=by
 have hm:∀ v,v∈jc4 f.blocks↔v<f.values.length:=fun v=>by rw[h.mem_iff,List.mem_range]
 obtain⟨t,h1,h2,h3⟩:=j8f (jc4 f.blocks) (List.replicate f.values.length false) (h.nodup_iff.2 List.nodup_range) (fun v hv=>by rw[List.getElem?_replicate,if_pos ((hm v).1 hv)])
 unfold jl7
 rw[h1]
 rw[f21] at h2
 have:false∉t:=fun hf=>by
  obtain⟨i,hi⟩:=f2p hf
  have hlt:i<t.length:=by
   rcases f0k i t.length with h | h
   .exact h
   .rw [f0r h] at hi;cases hi
  rw[h3,if_pos ((hm i).2 (by omega))] at hi
  cases hi
 simp only[this,if_false]
def S7 (f:FuncId):Bool:=Nat.beq f 23
noncomputable def F7:Fns:=PX S7 F6
theorem qvr {A:Nat->Int}:Env Try.prog A tys F7:=je1 qvq
theorem no7 {f:FuncId} (h1:S1 f=false) (h2:Nat.beq f jgf.f=false) (h3:S3 f=false) (h4:S4 f=false) (h5:S5 f=false) (h6:S6 f=false) (h7:S7 f=false) {h:Hp}:jcw F7 f vs h=none:=(jay h7).trans (no6 h1 h2 h3 h4 h5 h6)
theorem qso {f:FuncId} (h4:S4 f=false) (h5:S5 f=false) (h6:S6 f=false) (h7:S7 f=false) {h:Hp}:jcw F7 f vs h=jcw F3 f vs h:=(jay h7).trans ((jay h6).trans ((jay h5).trans (jay h4)))
section
variable {h:Hp} {f:Fc} {m:Nat×Nat} {Q:AV->Hp->Prop}
theorem qor (k:FcOk m f) (m1:2<=m.1/\m.1<=10) (m2:2<=m.2/\m.2<=10):jcw F7 23 [.agg [jae jas f.values,jae ja5 f.blocks],.agg [si m.1,si m.2]] h=some (vi (jl7 f),h) :=
 jbe rfl (by simp only[jat,ja1,ja9,jb7,ja2,jba,ja7,jbk,jbb,jbi,if_true]) (qim jds k m1 m2)
end
section
variable {α:Type}
def Gs (lo:Nat) (h:Hp) (ty sz:Nat) (E:List SV->α->List Nat->Prop) (x:SV) (l:List α):Prop :=
 ∃ ns,Sl h ty sz false E x l ns/\ns.Nodup/\∀ n∈ns,lo<=n/\n<h.next
variable {lo ty sz:Nat} {E:List SV->α->List Nat->Prop} {h h':Hp} {x:SV} {l:List α}
theorem Gs.nil:Gs lo h ty sz E .nilSlice []:=⟨[],.nil,.nil,by simp⟩
theorem Gs.len (k:Gs lo h ty sz E x l):jri (.s x)=some (vi l.length):=by
 obtain⟨ns,k,_⟩:=k
 exact k.len
theorem jkh:∀ {L:List (List SV)},(∀ r∈L,r.length=sz)->jmp sz L=some L.flatten
 | [],_=>rfl
 | a::L,hr=>by
  have e:jmp sz L=some L.flatten:=jkh (fun r h=>hr r (f0x _ h))
  have ha:=hr a (by simp)
  show oif (Nat.beq (jdg a) sz) (ob (jmp sz L) (fun r=>some (jgi a r))) none=_
  rw[e,show Nat.beq (jdg a) sz=true by rw[jbm,ha];exact f1z sz]
  show some (jgi a L.flatten)=_
  rw[jc9];rfl
theorem qby {enc:α->List SV} {bytes:Nat} (ok:Ok h) (hn:∀ a,(enc a).length=sz) (hE:∀ a,E (enc a) a []) (h1:l.length*bytes<=1000000000) (h2:l.length<=1000000000) :
 ∃ x h1,ji4 h ty sz bytes (.s .nilSlice) (.s (jae enc l))=some (.s x,h1)/\Ok h1/\h.next<=h1.next/\(∀ n,n<h.next->h1.get n=h.get n)/\Gs h.next h1 ty sz E x l:=by
 cases l with
 | nil=>exact⟨.nilSlice,h,rfl,ok,f0e _,fun _ _=>rfl,.nil⟩
 | cons a r =>
  obtain⟨hA,eA,okA,nA,xA,gA⟩:=jdn ok ((a::r).map enc).flatten ty
  have hrow:∀ q∈(a::r).map enc,q.length=sz:=fun q hq=>by
   obtain⟨b,_,rfl⟩:=f1p.1 hq
   exact hn b
  have hR:∀ L:List α,Rows sz E (L.map enc) L []:=fun L=>by
   induction L with
   | nil=>exact .nil
   | cons b L ih=>exact .cons (hn b) (hE b) ih
  refine⟨.slice h.next 0 (a::r).length (a::r).length false sz,hA,?_,okA,by omega,gA,[h.next],.inr ⟨by simp,h.next,(a::r).map enc,[],rfl,xA,hR _,rfl⟩,by simp,by simp;omega⟩
  show ob (jmp sz ((a::r).map enc)) (fun new=>_)=_
  rw[jkh hrow]
  show jkz bytes (jdg ((a::r).map enc)) (nw h ((a::r).map enc).flatten ty (fun k h=>Ev.ok (.s (.slice k 0 (jdg ((a::r).map enc)) (jdg ((a::r).map enc)) false sz)) h))=_
  rw[jbm,f1a,jm5 h1 h2,jv4 ok,eA]
  rfl
end
def OX (h:Hp) (row:List SV) (x:Ms.Ins) (ns:List Nat):Prop:=∃ a b n1 n2 ex,row=[si x.op,a,b]/\Sl h tt.opd 5 ex EO a x.ops n1/\Sl h tt.reg 2 false ER b x.spoils n2/\ns=n1++n2
def OE (h:Hp) (row:List SV) (e:Ms.Edg) (ns:List Nat):Prop:=∃ a,row=[si e.block,a]/\Sl h tt.int 1 false EI a e.args ns
def OB (h:Hp) (row:List SV) (b:Blk) (ns:List Nat):Prop:=∃ p i e n1 n2 n3 ex,row=[p,i,e]/\Sl h tt.int 1 false EI p b.params n1/\Sl h tt.ins 3 false (OX h) i b.instrs n2/\Sl h tt.edg 2 ex (OE h) e b.edges n3/\ns=n1++(n2++n3)
section
variable {h h':Hp}
theorem OE.keep {x:Ms.Edg} (k:OE h row x ns) (hk:∀ n∈ns,h'.get n=h.get n):OE h' row x ns:=by
 obtain⟨a,e,h1⟩:=k
 exact⟨a,e,h1.keep hk⟩
theorem OX.keep {x:Ms.Ins} (k:OX h row x ns) (hk:∀ n∈ns,h'.get n=h.get n):OX h' row x ns:=by
 obtain⟨a,b,n1,n2,ex,e,h1,h2,rfl⟩:=k
 exact⟨a,b,n1,n2,ex,e,h1.keep (fun n hn=>hk n (by simp[hn])),h2.keep (fun n hn=>hk n (by simp[hn])),rfl⟩
theorem OB.keep {x:Blk} (k:OB h row x ns) (hk:∀ n∈ns,h'.get n=h.get n):OB h' row x ns:=by
 obtain⟨p,i,e,n1,n2,n3,ex,e1,h1,h2,h3,rfl⟩:=k
 exact⟨p,i,e,n1,n2,n3,ex,e1,h1.keep (fun n hn=>hk n (by simp[hn])),h2.imp (fun n hn=>hk n (by simp[hn])) (fun row a ms hm k=>k.keep (fun n hn=>hk n (by simp[hm n hn]))),h3.imp (fun n hn=>hk n (by simp[hn])) (fun row a ms hm k=>k.keep (fun n hn=>hk n (by simp[hm n hn]))),rfl⟩
variable {d:Nat} {k:Bool}
theorem OE.frz {x:Ms.Edg} (e:OE h row x ms):jf7 (jey k h (d+2)) row=some (jfu x):=by
 obtain⟨a,rfl,h1⟩:=e
 exact jaq rfl (jaq (h1.frz (fun _ _ _ e=>EI.frz e) (fun _=>rfl)) rfl)
theorem OX.frz {x:Ms.Ins} (e:OX h row x ms):jf7 (jey k h (d+2)) row=some (jdx x):=by
 obtain⟨a,b,n1,n2,ex,rfl,h1,h2,rfl⟩:=e
 exact jaq rfl (jaq (h1.frz (fun _ _ _ e=>EO.frz e) (fun _=>rfl)) (jaq (h2.frz (fun _ _ _ e=>ER.frz e) (fun _=>rfl)) rfl))
theorem OB.frz {x:Ms.Blk} (e:OB h row x ms):jf7 (jey k h (d+3)) row=some (ja5 x):=by
 obtain⟨p,i,e,n1,n2,n3,ex,rfl,h1,h2,h3,rfl⟩:=e
 exact jaq (h1.frz (fun _ _ _ e=>EI.frz e) (fun _=>rfl)) (jaq (h2.frz (fun _ _ _ e=>OX.frz e) (fun _=>rfl)) (jaq (h3.frz (fun _ _ _ e=>OE.frz e) (fun _=>rfl)) rfl))
structure OF (h:Hp) (x:AV) (f:Fc) (na nb:List Nat):Prop where
 ex:∃ a b,x=.agg [a,b]/\Sl h tt.int 1 false EI a f.values na/\Sl h tt.blk 3 false (OB h) b f.blocks nb
 nd:(na++nb).Nodup
 lt:∀ n∈na++nb,1<=n/\n<h.next
theorem OF.keep {x:AV} {f:Fc} {na nb:List Nat} (o:OF h x f na nb) (hk:∀ n∈na++nb,h'.get n=h.get n) (hn:h.next<=h'.next):OF h' x f na nb:=by
 obtain⟨⟨a,b,rfl,h1,h2⟩,nd,lt⟩:=o
 exact⟨⟨a,b,rfl,h1.keep (fun n hn=>hk n (by simp[hn])),h2.imp (fun n hn=>hk n (by simp[hn])) (fun row a ms hm k=>k.keep (fun n hn=>hk n (by simp[hm n hn])))⟩,nd,fun n hm=>by have:=lt n hm;omega⟩
end
end Go.Proofs.Ythbghmhjgdonmaa.Ev
