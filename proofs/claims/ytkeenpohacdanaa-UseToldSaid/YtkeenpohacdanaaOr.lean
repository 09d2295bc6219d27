/- What functions may be: each value is made once: the answer. -/
import Derived.Test.YtkeenpohacdanaaSi
namespace Go.Proofs.Ytkeenpohacdanaa.Ev
open Go Go.RowKit Go.Proofs.Ytkeenpohacdanaa.Ms
attribute [local go_sem] Int.reduceToNat reduceCtorEq Nat.reduceAdd Nat.reduceMul Nat.reduceEqDiff Int.reduceEq Int.reduceLT Int.reduceLE Int.reduceNeg Int.reduceAdd Int.reduceSub Int.reduceMul Int.reduceNe
attribute [local go_sem ↓] reduceIte
set_option linter.all false
set_option maxRecDepth 100000
set_option maxHeartbeats 2000000
variable {x0 x1 x2 x3 x4 x5 x6 x7 x8 x9 x10 x11 x12 x13 x14 x15 x16 x17 x18 x19 x20 x21 x22 x23 x24 x25 x26 x27 x28 x29 x30 x31 x33 x34 x35:AV} {vs:List AV} {ms na nb ns:List Nat} {row:List SV} {bA bF bM:Nat}
theorem j0o {s:List Bool} (hl:s.length<=10000) {Q:Ex->St->Prop} :
 ∀ (rest done:List Bool) (_:done++rest=s) {hi:Hp} (_:Ok hi) (_:hi.get bA=some (.arr (bls s) 4)) {x3 x4 x5:AV}
  (hQ:false∉rest->∀ hj x3 x4 x5,Q (.exit 0) (.mk [.s (.slice bA 0 s.length s.length true 1),vb false,x2,x3,x4,x5,vi s.length,vi s.length] hj))
  (hF:∀ (k:Nat) hj x3 x4 x5 x6 x7,false∈rest->Q .ret (.mk [.s (.slice bA 0 s.length s.length true 1),vb false,vi k,x3,x4,x5,x6,x7] hj)),
  W F5 jmn.loop (.mk [.s (.slice bA 0 s.length s.length true 1),vb false,x2,x3,x4,x5,vi s.length,vi done.length] hi) Q
 | [],done,hdn,hi,ok,xA,x3,x4,x5,hQ,hF=>by
  rw[f07] at hdn
  rw[jak,hdn]
  unfold jmn
  simp(disch:=first|omega|rfl) only[go_sem,f0v]
  exact hQ (by simp) hi ..
 | b::rest,done,hdn,hi,ok,xA,x3,x4,x5,hQ,hF=>by
  have hlt1:done.length<s.length:=by rw[←hdn];simp
  have hlt:(done.length:Int)<s.length:=by omega
  have hget:s[done.length]?=some b:=by rw[←hdn];simp
  have hcell:(bls s)[done.length]?=some (.bool b):=by unfold bls;rw[f08,hget];rfl
  have hrd:rdB (hi.get bA) done.length 1=some [.bool b]:=by rw[xA];exact j5d hcell
  have hix:=jbf (size:=1) (b:=bA) (off:=0) (len:=s.length) (mc:=s.length) (sz:=1) (ex:=true) (m:=done.length) hlt1
  rw[f0w,f3k] at hix
  have hdn':(done++[b])++rest=s:=by rw[←hdn];simp
  have hs:(done.length:Int)+1=(((done++[b]).length:Nat):Int):=by simp
  rw[jak]
  unfold jmn j0j
  cases b with
  | true =>
   simp(disch:=first|omega|rfl) only[go_sem,jad,eq_true hlt,hix,hrd,jqt,qpn,hs]
   exact j0o hl rest (done++[true]) hdn' ok xA (fun h=>hQ (by simpa using h)) (fun k hj x3 x4 x5 x6 x7 h=>hF k hj x3 x4 x5 x6 x7 (by simp[h]))
  | false =>
   simp(disch:=first|omega|rfl) only[go_sem,jad,eq_true hlt,hix,hrd,jqt,qpn,hs]
   exact hF _ _ _ _ _ _ _ (by simp)
theorem qe2 {hi:Hp} (ok:Ok hi) {s:List Bool} (hl:s.length<=10000) (xA:hi.get bA=some (.arr (bls s) 4)):WC F5 73 [.s (.slice bA 0 s.length s.length true 1),vb false] hi (fun u h'=>u=vb (decide (false∈s))):=by
 refine ja9 (no5 rfl rfl rfl rfl rfl) qob rfl ?_
 unfold qa9
 simp(disch:=first|omega|rfl) only[go_sem]
 refine WC.imp (Q:=fun u h'=>(false∈s/\∃ k:Nat,u=vi k)∨(false∉s/\u=vi (-1))) ?_ ?_
 .refine ja9 (no5 rfl rfl rfl rfl rfl) qkj rfl ?_
  unfold j6h
  simp(disch:=first|omega|rfl) only[go_sem]
  refine j0o hl s [] rfl ok xA (fun h hj x3 x4 x5=>?_) (fun k hj x3 x4 x5 x6 x7 h=>?_)
  .simp (disch:=first|omega|rfl) only[go_sem]
   first | exact .inr ⟨h,rfl⟩ | exact .inr h
  .simp (disch:=first|omega|rfl) only[go_sem]
   exact .inl ⟨h,k,rfl⟩
 .rintro u h' (⟨h,k,rfl⟩ | ⟨h,rfl⟩)
  .have c1:(0<=(k:Int))=True:=by simp
   simp(disch:=first|omega|rfl) only[go_sem,c1,h]
  .simp (disch:=first|omega|rfl) only[go_sem,h]
def jju (f:Fc):Nat:=match jka (List.replicate f.values.length false) (jb4 f.blocks) with
 | none=>7
 | some t=>if false∈t then 6 else 0
theorem qe3 {h:Hp} (ok:Ok h) {f:Fc} (hl:f.blocks.length<=10000) (hv:f.values.length<=10000) (hp:∀ b∈f.blocks,b.params.length<=10000/\b.instrs.length<=10000/\(∀ v∈b.params,v<f.values.length)/\∀ x∈b.instrs,x.ops.length<=6/\∀ o∈x.ops,o.value<f.values.length) :
 WC F5 52 [.agg [jaf jay f.values,jaf ja1 f.blocks]] h (fun v h'=>∃ d,jfq true h' d v=some (vi (jju f))):=by
 refine ja9 (no5 rfl rfl rfl rfl rfl) qn7 rfl ?_
 unfold qa5
 have hpos:=ok.pos
 obtain⟨hA,eA,okA,nA,xA,gA⟩:=jed ok [jaf jay f.values,jaf ja1 f.blocks] 26
 obtain⟨hB,eB,okB,nB,xB,gB⟩:=jed okA (rep [.bool false] f.values.length) 4
 obtain⟨hC,eC,okC,nC,xC,gC⟩:=jcm okB [.nilSlice] [.slice hA.next 0 f.values.length f.values.length true 1] 105
 have nb:hB.next=h.next+2:=by omega
 rw[qbh] at xB
 have hbl:bls (List.replicate f.values.length false)=List.replicate f.values.length (.bool false):=by unfold bls;rw[List.map_replicate]
 rw[←hbl] at xB
 have I:OnI hC f h.next hB.next hA.next (List.replicate f.values.length false) :=
  ⟨okC,f2u,⟨by omega,by omega,by omega⟩,⟨by omega,by omega,by omega⟩,(gC _ (by omega)).trans ((gB _ (by omega)).trans xA),xC,(gC _ (by omega)).trans xB⟩
 have l1:=jaj (enc:=jay) (l:=f.values)
 have l2:=jaj (enc:=ja1) (l:=f.blocks)
 have hmk:=jxh (e:=4) (size:=1) (bytes:=1) (z:=[.bool false]) (m:=f.values.length) okA (by omega) (by omega)
 rw[eB] at hmk
 have xF:=I.xF
 rw[nA,nb] at I
 rw[nA] at hmk eC
 rw[nb] at eC
 simp(disch:=first|omega|rfl) only[go_sem,eA,xA,l1,hmk,nb,eC,nA,xF,l2,jjd]
 refine qbk hl hp f.blocks [] rfl I (fun t ht hj x3 x4 x5 x6 x7 x8 x9 x10 x11 x12 x13 x14 x15 x16 x17 x18 x20 x21 x22 x23 x24 x26 J=>?_) (fun ht=>?_)
 .have xM:=J.xM
  have eo:jju f=if false∈t then 6 else 0:=by unfold jju;rw[ht]
  rw[eo]
  simp(disch:=first|omega|rfl) only[go_sem,xM]
  have hts:t.length=f.values.length:=J.hs
  have hct:=qe2 J.ok (s:=t) (by omega) J.xA
  rw[hts] at hct
  refine WC.imp hct ?_
  rintro u h' rfl
  by_cases e:false∈t
  .simp (disch:=first|omega|rfl) only[go_sem,e]
   exact⟨1,rfl⟩
  .simp (disch:=first|omega|rfl) only[go_sem,e]
   unfold j56
   simp(disch:=first|omega|rfl) only[go_sem]
   exact⟨1,rfl⟩
 .intro hj x2 x3 x4 x5 x6 x7 x8 x9 x10 x11 x12 x13 x14 x15 x16 x17 x18 x19 x20 x21 x22 x23 x24 x25 x26 x27 x28 x29 x30
  have eo:jju f=7:=by unfold jju;rw[ht]
  rw[eo]
  simp(disch:=first|omega|rfl) only[go_sem]
  exact⟨1,rfl⟩
def S6 (f:FuncId):Bool:=Nat.beq f 50||Nat.beq f 52
noncomputable def F6:Fns:=PX S6 F5
theorem qqq {A:Nat->Int}:Env Try.prog A tys F6:=jg1 qqp
theorem no6 {f:FuncId} (h1:S1 f=false) (h2:Nat.beq f jfk.f=false) (h3:S3 f=false) (h4:S4 f=false) (h5:S5 f=false) (h6:S6 f=false) {h:Hp}:jdg F6 f vs h=none:=(jbg h6).trans (no5 h1 h2 h3 h4 h5)
theorem j6p {m:Nat×Nat} {f:Fc} (k:FcOk m f):∀ b∈f.blocks,b.params.length<=10000/\b.instrs.length<=10000/\(∀ v∈b.params,v<f.values.length)/\∀ x∈b.instrs,x.ops.length<=6/\∀ o∈x.ops,o.value<f.values.length:=fun b hb=>by
 have h1:=k.blk b hb
 exact⟨by omega,by omega,k.prm b hb,fun x hx=>⟨(k.ins b hb x hx).nops,fun o ho=>((k.ins b hb x hx).opd o ho).val⟩⟩
section
variable {h:Hp} {f:Fc} {m:Nat×Nat} {Q:AV->Hp->Prop}
theorem qko (m1:2<=m.1/\m.1<=10) (m2:2<=m.2/\m.2<=10):WC F6 48 [.agg [si m.1,si m.2]] h Q=Q (vi 0) h :=
 jap ((jbg rfl).trans ((jbg rfl).trans (jbh rfl (by simp only[jav,ja3,jbc,jcv,ja4,jbd,ja8,jbt,jbe,jbi,if_true]) (qkk jec m1 m2))))
theorem qkp (k:FcOk m f):WC F6 49 [.agg [jaf jay f.values,jaf ja1 f.blocks]] h Q=Q (vi 0) h :=
 jap ((jbg rfl).trans ((jbg rfl).trans (jbh rfl (by simp only[jav,ja3,jbc,jcv,ja4,jbd,ja8,jbt,jbe,jbi,if_true]) (qkm jec k))))
theorem qe4 {op:Nat} {ops:List Ms.Opd} {sp:List (Nat×Nat)} (hc:∀ v,cl f.values v<2) (k:InsOk m f.values ⟨op,ops,sp⟩):WC F6 50 [.agg [jaf jay f.values,jaf ja1 f.blocks],.agg [si m.1,si m.2],.agg [si op,jaf jbb ops,jaf jdu sp]] h Q=Q (vi 0) h :=
 jap (jbh rfl (by simp only[jav,ja3,jbc,jcv,ja4,jbd,ja8,jbt,jbe,jbi,if_true]) (qez jec hc k))
theorem qe5 {e:Ms.Edg} (k:jo6 f.values f.blocks e) (hl:e.args.length<=10000):WC F6 51 [.agg [jaf jay f.values,jaf ja1 f.blocks],.agg [si e.block,jaf jay e.args]] h Q=Q (vi 0) h :=
 jap ((jbg rfl).trans (jbh rfl (by simp only[jav,ja3,jbc,jcv,ja4,jbd,ja8,jbt,jbe,jbi,if_true]) (qep jec k hl)))
theorem qe6 (k:FcOk m f):WC F6 52 [.agg [jaf jay f.values,jaf ja1 f.blocks]] h Q=Q (vi (jju f)) h :=
 jap (jbh rfl (by simp only[jav,ja3,jbc,jcv,ja4,jbd,ja8,jbt,jbe,jbi,if_true]) (qe3 jec (by have:=k.nb;omega) (by have:=k.nv;omega) (j6p k)))
end
theorem qbl {l:List Nat} (hl:l.length<=10000) (hp:∀ c∈l,c<2) {x32:AV} {Q:Ex->St->Prop} :
 ∀ (d i:Nat) (_:i+d=l.length) {hi:Hp} (_:Ok hi) {x24 x25 x27:AV}
  (hQ:∀ x24 x25 x27,Q (.exit 0) (.mk [x0,x1,x2,x3,x4,x5,x6,x7,x8,x9,x10,x11,x12,x13,x14,x15,x16,x17,x18,x19,x20,x21,x22,x23,x24,x25,.s (jaf jay l),x27,vi l.length,vi l.length,x30,x31,x32,x33,x34,x35] hi)),
  W F6 jtl.loop (.mk [x0,x1,x2,x3,x4,x5,x6,x7,x8,x9,x10,x11,x12,x13,x14,x15,x16,x17,x18,x19,x20,x21,x22,x23,x24,x25,.s (jaf jay l),x27,vi l.length,vi i,x30,x31,x32,x33,x34,x35] hi) Q
 | 0,i,hd,hi,ok,x24,x25,x27,hQ=>by
  obtain rfl:i=l.length:=by omega
  rw[jak]
  unfold jtl
  simp(disch:=first|omega|rfl) only[go_sem,f0v]
  exact hQ _ _ _
 | d+1,i,hd,hi,ok,x24,x25,x27,hQ=>by
  have hlt:(i:Int)<(l.length:Int):=by omega
  obtain⟨c,hio⟩:∃ y,l[i]?=some y:=⟨_,f0c (by omega)⟩
  have hc:=hp c (f0b hio)
  have hix:=jag (enc:=jay) (size:=1) hio rfl
  have hs:(i:Int)+1=((i+1:Nat):Int):=by omega
  have c1:((c:Int)<0)=False:=by simp
  have c2:(2<=(c:Int))=False:=by simp;omega
  rw[jak]
  unfold jtl j59
  simp(disch:=first|omega|rfl) only[go_sem,jad,eq_true hlt,hix,jay,c1,c2,hs]
  exact qbl hl hp d (i+1) (by omega) ok hQ
theorem qbm {f:Fc} {m:Nat×Nat} {l:List Ms.Ins} (hl:l.length<=10000) (hc:∀ v,cl f.values v<2) (hp:∀ x∈l,InsOk m f.values x) {Q:Ex->St->Prop} :
 ∀ (d i:Nat) (_:i+d=l.length) {hi:Hp} (_:Ok hi) (_:bF<hi.next/\bM<hi.next) (_:hi.get bF=some (.arr [jaf jay f.values,jaf ja1 f.blocks] 26)) (_:hi.get bM=some (.arr [si m.1,si m.2] 30)) {x11 x12 x13 x15:AV}
  (hQ:∀ hj x11 x12 x13 x15,Ok hj->hi.next<=hj.next->(∀ k,k<hi.next->hj.get k=hi.get k)->Q (.exit 4) (.mk [x0,x1,x2,x3,x4,x5,x6,x7,x8,x9,x10,x11,x12,x13,.s (jaf jdz l),x15,vi l.length,vi l.length,x18,x19,x20,x21,x22,x23,x24,x25,x26,x27,x28,x29,x30,x31,.s (.ptr bF 0),x33,x34,.s (.ptr bM 0)] hj)),
  W F6 jtm.loop (.mk [x0,x1,x2,x3,x4,x5,x6,x7,x8,x9,x10,x11,x12,x13,.s (jaf jdz l),x15,vi l.length,vi i,x18,x19,x20,x21,x22,x23,x24,x25,x26,x27,x28,x29,x30,x31,.s (.ptr bF 0),x33,x34,.s (.ptr bM 0)] hi) Q
 | 0,i,hd,hi,ok,hb,xF,xM,x11,x12,x13,x15,hQ=>by
  obtain rfl:i=l.length:=by omega
  rw[jak]
  unfold jtm
  simp(disch:=first|omega|rfl) only[go_sem,f0v]
  exact hQ hi _ _ _ _ ok (f0e _) (fun _ _=>rfl)
 | d+1,i,hd,hi,ok,hb,xF,xM,x11,x12,x13,x15,hQ=>by
  have hlt:(i:Int)<(l.length:Int):=by omega
  obtain⟨x,hio⟩:∃ y,l[i]?=some y:=⟨_,f0c (by omega)⟩
  have hx:InsOk m f.values ⟨x.op,x.ops,x.spoils⟩:=hp x (f0b hio)
  have hix:=jag (enc:=jdz) (size:=3) hio rfl
  have hs:(i:Int)+1=((i+1:Nat):Int):=by omega
  obtain⟨hA,eA,okA,nA,xA,gA⟩:=jcm ok [.int .i64 0,.nilSlice,.nilSlice] (jdz x) 44
  have yF:=(gA _ hb.1).trans xF
  have yM:=(gA _ hb.2).trans xM
  unfold jdz at xA eA
  rw[jak]
  unfold jtm j6a
  simp(disch:=first|omega|rfl) only[go_sem,jad,eq_true hlt,hix,jdz,eA,xA,yF,yM,qe4 hc hx,hs]
  exact qbm hl hc hp d (i+1) (by omega) okA ⟨by omega,by omega⟩ yF yM (fun hj x11 x12 x13 x15 o n g=>hQ hj x11 x12 x13 x15 o (by omega) (fun k hk=>(g k (by omega)).trans (gA k hk)))
theorem qbn {f:Fc} {l:List Ms.Edg} (hl:l.length<=10000) (hp:∀ e∈l,jo6 f.values f.blocks e/\e.args.length<=10000) {Q:Ex->St->Prop} :
 ∀ (d i:Nat) (_:i+d=l.length) {hi:Hp} (_:Ok hi) (_:bF<hi.next) (_:hi.get bF=some (.arr [jaf jay f.values,jaf ja1 f.blocks] 26)) {x3 x4 x5 x7:AV}
  (hQ:∀ hj x3 x4 x5 x7,Ok hj->hi.next<=hj.next->(∀ k,k<hi.next->hj.get k=hi.get k)->Q (.exit 6) (.mk [x0,x1,x2,x3,x4,x5,.s (jaf jfj l),x7,vi l.length,vi l.length,x10,x11,x12,x13,x14,x15,x16,x17,x18,x19,x20,x21,x22,x23,x24,x25,x26,x27,x28,x29,x30,x31,.s (.ptr bF 0),x33,x34,x35] hj)),
  W F6 jtn.loop (.mk [x0,x1,x2,x3,x4,x5,.s (jaf jfj l),x7,vi l.length,vi i,x10,x11,x12,x13,x14,x15,x16,x17,x18,x19,x20,x21,x22,x23,x24,x25,x26,x27,x28,x29,x30,x31,.s (.ptr bF 0),x33,x34,x35] hi) Q
 | 0,i,hd,hi,ok,hb,xF,x3,x4,x5,x7,hQ=>by
  obtain rfl:i=l.length:=by omega
  rw[jak]
  unfold jtn
  simp(disch:=first|omega|rfl) only[go_sem,f0v]
  exact hQ hi _ _ _ _ ok (f0e _) (fun _ _=>rfl)
 | d+1,i,hd,hi,ok,hb,xF,x3,x4,x5,x7,hQ=>by
  have hlt:(i:Int)<(l.length:Int):=by omega
  obtain⟨e,hio⟩:∃ y,l[i]?=some y:=⟨_,f0c (by omega)⟩
  obtain⟨he,hal⟩:=hp e (f0b hio)
  have hix:=jag (enc:=jfj) (size:=2) hio rfl
  have hs:(i:Int)+1=((i+1:Nat):Int):=by omega
  obtain⟨hA,eA,okA,nA,xA,gA⟩:=jcm ok [.int .i64 0,.nilSlice] (jfj e) 73
  have yF:=(gA _ hb).trans xF
  unfold jfj at xA eA
  rw[jak]
  unfold jtn j6b
  simp(disch:=first|omega|rfl) only[go_sem,jad,eq_true hlt,hix,jfj,eA,xA,yF,qe5 he hal,hs]
  exact qbn hl hp d (i+1) (by omega) okA (by omega) yF (fun hj x3 x4 x5 x7 o n g=>hQ hj x3 x4 x5 x7 o (by omega) (fun k hk=>(g k (by omega)).trans (gA k hk)))
theorem j6q {f:Fc} {m:Nat×Nat} (k:FcOk m f) {Q:Ex->St->Prop} :
 ∀ (d i:Nat) (_:i+d=f.blocks.length) {hi:Hp} (_:Ok hi) (_:bF<hi.next/\bM<hi.next) (_:hi.get bF=some (.arr [jaf jay f.values,jaf ja1 f.blocks] 26)) (_:hi.get bM=some (.arr [si m.1,si m.2] 30))
  {x3 x4 x5 x6 x7 x8 x9 x10 x11 x12 x13 x14 x15 x16 x17 x18 x20:AV}
  (hQ:∀ hj x3 x4 x5 x6 x7 x8 x9 x10 x11 x12 x13 x14 x15 x16 x17 x18 x20,Ok hj->hj.get bF=hi.get bF->Q (.exit 2) (.mk [x0,x1,x2,x3,x4,x5,x6,x7,x8,x9,x10,x11,x12,x13,x14,x15,x16,x17,x18,.s (jaf ja1 f.blocks),x20,vi f.blocks.length,vi f.blocks.length,x23,x24,x25,x26,x27,x28,x29,x30,x31,.s (.ptr bF 0),x33,x34,.s (.ptr bM 0)] hj)),
  W F6 jto.loop (.mk [x0,x1,x2,x3,x4,x5,x6,x7,x8,x9,x10,x11,x12,x13,x14,x15,x16,x17,x18,.s (jaf ja1 f.blocks),x20,vi f.blocks.length,vi i,x23,x24,x25,x26,x27,x28,x29,x30,x31,.s (.ptr bF 0),x33,x34,.s (.ptr bM 0)] hi) Q
 | 0,i,hd,hi,ok,hb,xF,xM,x3,x4,x5,x6,x7,x8,x9,x10,x11,x12,x13,x14,x15,x16,x17,x18,x20,hQ=>by
  obtain rfl:i=f.blocks.length:=by omega
  rw[jak]
  unfold jto
  simp(disch:=first|omega|rfl) only[go_sem,f0v]
  exact hQ hi _ _ _ _ _ _ _ _ _ _ _ _ _ _ _ _ _ ok rfl
 | d+1,i,hd,hi,ok,hb,xF,xM,x3,x4,x5,x6,x7,x8,x9,x10,x11,x12,x13,x14,x15,x16,x17,x18,x20,hQ=>by
  have nb:=k.nb
  have nv:=k.nv
  have hlt:(i:Int)<(f.blocks.length:Int):=by omega
  obtain⟨b,hio⟩:∃ y,f.blocks[i]?=some y:=⟨_,f0c (by omega)⟩
  have hbm:=f0b hio
  have hbk:=k.blk b hbm
  have hix:=jag (enc:=ja1) (size:=3) hio rfl
  have hs:(i:Int)+1=((i+1:Nat):Int):=by omega
  obtain⟨hA,eA,okA,nA,xA,gA⟩:=jcm ok [.nilSlice,.nilSlice,.nilSlice] (ja1 b) 36
  have yF:=(gA _ hb.1).trans xF
  have yM:=(gA _ hb.2).trans xM
  have l1:=jaj (enc:=jdz) (l:=b.instrs)
  have l2:=jaj (enc:=jfj) (l:=b.edges)
  have hE:∀ e∈b.edges,jo6 f.values f.blocks e/\e.args.length<=10000:=fun e he=>by
   have h1:=k.edg b hbm e he
   refine⟨h1,?_⟩
   obtain⟨_,_,t,h2,h3,_⟩:=h1
   have h4:=(k.blk t (f0b h2)).1
   have:=congrArg List.length h3
   simp only[f1a] at this
   omega
  have fin:∀ (x3 x4 x5 x7:AV) (x11 x12 x13 x15:AV) (hk:Hp),Ok hk->hA.next<=hk.next->(∀ n,n<hA.next->hk.get n=hA.get n)->∀ (x10:AV) (K:Ex->St->Prop),(∀ hj x3 x4 x5 x7,Ok hj->hk.next<=hj.next->(∀ n,n<hk.next->hj.get n=hk.get n)->K .normal (.mk [x0,x1,x2,x3,x4,x5,.s (jaf jfj b.edges),x7,vi b.edges.length,vi b.edges.length,x10,x11,x12,x13,.s (jaf jdz b.instrs),x15,vi b.instrs.length,vi b.instrs.length,.s (.ptr hi.next 0),.s (jaf ja1 f.blocks),vb true,vi f.blocks.length,vi i,x23,x24,x25,x26,x27,x28,x29,x30,x31,.s (.ptr bF 0),x33,x34,.s (.ptr bM 0)] hj)) ->
   ∀ (x6 x8 x9:AV),W F6 jyb (.mk [x0,x1,x2,x3,x4,x5,x6,x7,x8,x9,x10,x11,x12,x13,.s (jaf jdz b.instrs),x15,vi b.instrs.length,vi b.instrs.length,.s (.ptr hi.next 0),.s (jaf ja1 f.blocks),vb true,vi f.blocks.length,vi i,x23,x24,x25,x26,x27,x28,x29,x30,x31,.s (.ptr bF 0),x33,x34,.s (.ptr bM 0)] hk) K:=fun x3 x4 x5 x7 x11 x12 x13 x15 hk o n g x10 K hK x6 x8 x9=>by
   have zA:=(g hi.next (by omega)).trans xA
   have zF:=(g bF (by omega)).trans yF
   unfold ja1 at zA
   unfold jyb
   simp(disch:=first|omega|rfl) only[go_sem,zA,l2]
   refine qbn (by omega) hE b.edges.length 0 (by omega) o (by omega) zF (fun hj x3 x4 x5 x7 o' n' g'=>?_)
   simp(disch:=first|omega|rfl) only[go_sem]
   exact hK hj x3 x4 x5 x7 o' n' g'
  have zz:∀ (hk:Hp),hA.next<=hk.next->(∀ n,n<hA.next->hk.get n=hA.get n)->hk.get hi.next=some (.arr [jaf jay b.params,jaf jdz b.instrs,jaf jfj b.edges] 36):=fun hk n g=>(g _ (by omega)).trans xA
  unfold ja1 at eA xA
  rw[jak]
  unfold jto j6c
  simp(disch:=first|omega|rfl) only[go_sem,jad,eq_true hlt,hix,ja1,eA,xA,l1]
  refine qbm (by omega) (j14 k.cls) (k.ins b hbm) b.instrs.length 0 (by omega) okA ⟨by omega,by omega⟩ yF yM (fun hj x11 x12 x13 x15 o n g=>?_)
  have zA:=zz hj n g
  by_cases e:1<b.edges.length
  .have c1:(1<(b.edges.length:Int))=True:=by simp;omega
   have hne:=f1v.2 (k.par b hbm e)
   have c2:((b.instrs.length:Int)=0)=False:=eq_false (by omega)
   simp(disch:=first|omega|rfl) only[go_sem,zA,l1,l2,c1,c2]
   refine fin _ _ _ _ _ _ _ _ hj o n g _ _ (fun hk x3 x4 x5 x7 o' n' g'=>?_) _ _ _
   simp(disch:=first|omega|rfl) only[go_sem,jad,hs]
   exact j6q k d (i+1) (by omega) o' ⟨by omega,by omega⟩ ((g' _ (by omega)).trans ((g _ (by omega)).trans yF)) ((g' _ (by omega)).trans ((g _ (by omega)).trans yM)) (fun h2 x3 x4 x5 x6 x7 x8 x9 x10 x11 x12 x13 x14 x15 x16 x17 x18 x20 o2 g2=>hQ h2 x3 x4 x5 x6 x7 x8 x9 x10 x11 x12 x13 x14 x15 x16 x17 x18 x20 o2 (g2.trans ((g' _ (by omega)).trans ((g _ (by omega)).trans (gA _ hb.1)))))
  .have c1:(1<(b.edges.length:Int))=False:=by simp;omega
   simp(disch:=first|omega|rfl) only[go_sem,zA,l1,l2,c1]
   refine fin _ _ _ _ _ _ _ _ hj o n g _ _ (fun hk x3 x4 x5 x7 o' n' g'=>?_) _ _ _
   simp(disch:=first|omega|rfl) only[go_sem,jad,hs]
   exact j6q k d (i+1) (by omega) o' ⟨by omega,by omega⟩ ((g' _ (by omega)).trans ((g _ (by omega)).trans yF)) ((g' _ (by omega)).trans ((g _ (by omega)).trans yM)) (fun h2 x3 x4 x5 x6 x7 x8 x9 x10 x11 x12 x13 x14 x15 x16 x17 x18 x20 o2 g2=>hQ h2 x3 x4 x5 x6 x7 x8 x9 x10 x11 x12 x13 x14 x15 x16 x17 x18 x20 o2 (g2.trans ((g' _ (by omega)).trans ((g _ (by omega)).trans (gA _ hb.1)))))
theorem qe7 {h:Hp} (ok:Ok h) {f:Fc} {m:Nat×Nat} (k:FcOk m f) (m1:2<=m.1/\m.1<=10) (m2:2<=m.2/\m.2<=10):WC F6 24 [.agg [jaf jay f.values,jaf ja1 f.blocks],.agg [si m.1,si m.2]] h (fun v h'=>∃ d,jfq true h' d v=some (vi (jju f))):=by
 refine ja9 (no6 rfl rfl rfl rfl rfl rfl) qn9 rfl ?_
 unfold qa7
 have nb:=k.nb
 have nv:=k.nv
 obtain⟨hA,eA,okA,nA,xA,gA⟩:=jed ok [jaf jay f.values,jaf ja1 f.blocks] 26
 obtain⟨hB,eB,okB,nB,xB,gB⟩:=jed okA [si m.1,si m.2] 30
 have yA:=(gB _ (by omega)).trans xA
 rw[nA] at xB
 obtain⟨b0,hb0⟩:∃ y,f.blocks[0]?=some y:=⟨_,f0c (by omega)⟩
 have h0:=k.ent b0 hb0
 have ix0:jwg 3 (.s (jaf ja1 f.blocks)) (vi 0)=some (.s (.cp (ja1 b0))):=jag (enc:=ja1) (size:=3) hb0 rfl
 have l1:=jaj (enc:=jay) (l:=f.values)
 have l2:=jaj (enc:=ja1) (l:=f.blocks)
 have l3:=jaj (enc:=jay) (l:=b0.params)
 rw[h0] at l3
 simp(disch:=first|omega|rfl) only[go_sem,eA,eB,nA,xB,qko m1 m2]
 unfold j6f
 simp(disch:=first|omega|rfl) only[go_sem,yA,qkp k]
 unfold j6e
 simp(disch:=first|omega|rfl) only[go_sem,yA,l1]
 refine qbl (by omega) k.cls f.values.length 0 (by omega) okB (fun x24 x25 x27=>?_)
 simp(disch:=first|omega|rfl) only[go_sem,yA,ix0,ja1,h0,j8y]
 unfold j6d
 simp(disch:=first|omega|rfl) only[go_sem,yA,l2]
 refine j6q k f.blocks.length 0 (by omega) okB ⟨by omega,by omega⟩ yA xB (fun hj x3 x4 x5 x6 x7 x8 x9 x10 x11 x12 x13 x14 x15 x16 x17 x18 x20 o g=>?_)
 have zA:=g.trans yA
 simp(disch:=first|omega|rfl) only[go_sem,zA,qe6 k]
 exact⟨1,rfl⟩
theorem j6r:∀ (l:List Nat) (s:List Bool),l.Nodup->(∀ v∈l,s[v]?=some false)->∃ t,jka s l=some t/\t.length=s.length/\∀ i,t[i]?=if i∈l then some true else s[i]?
 | [],s,_,_=>⟨s,rfl,rfl,fun i=>by simp⟩
 | v::l,s,hd,hf=>by
  have hv:=hf v (by simp)
  have hlt:v<s.length:=by
   rcases f0h v s.length with h | h
   .exact h
   .rw [f0m h] at hv;cases hv
  obtain⟨hn,hd'⟩:=f0s.1 hd
  obtain⟨t,h1,h2,h3⟩:=j6r l (s.set v true) hd' (fun u hu=>by
   have hne:v≠u:=fun e=>hn (e▸hu)
   rw[f1p hne];exact hf u (by simp[hu]))
  refine⟨t,by unfold jka;rw[if_neg (by rw[hv];simp)];exact h1,by rw[h2,f3i],fun i=>?_⟩
  rw[h3]
  by_cases e:i=v
  .subst e
   rw[if_neg hn,if_pos (by simp),List.getElem?_set_self hlt]
  .by_cases h:i∈l
   .rw [if_pos h,if_pos (by simp[h])]
   .rw [if_neg h,if_neg (by simp[e,h]),f1p (fun x=>e x.symm)]
theorem jtq {f:Fc} (h:(jb4 f.blocks).Perm (List.range f.values.length)):jju f=0:=by
 have hm:∀ v,v∈jb4 f.blocks↔v<f.values.length:=fun v=>by rw[h.mem_iff,List.mem_range]
 obtain⟨t,h1,h2,h3⟩:=j6r (jb4 f.blocks) (List.replicate f.values.length false) (h.nodup_iff.2 List.nodup_range) (fun v hv=>by rw[List.getElem?_replicate,if_pos ((hm v).1 hv)])
 unfold jju
 rw[h1]
 rw[f2u] at h2
 have:false∉t:=fun hf=>by
  obtain⟨i,hi⟩:=f2w hf
  have hlt:i<t.length:=by
   rcases f0h i t.length with h | h
   .exact h
   .rw [f0m h] at hi;cases hi
  rw[h3,if_pos ((hm i).2 (by omega))] at hi
  cases hi
 simp only[this,if_false]
def S7 (f:FuncId):Bool:=Nat.beq f 24
noncomputable def F7:Fns:=PX S7 F6
theorem qqr {A:Nat->Int}:Env Try.prog A tys F7:=jg1 qqq
theorem no7 {f:FuncId} (h1:S1 f=false) (h2:Nat.beq f jfk.f=false) (h3:S3 f=false) (h4:S4 f=false) (h5:S5 f=false) (h6:S6 f=false) (h7:S7 f=false) {h:Hp}:jdg F7 f vs h=none:=(jbg h7).trans (no6 h1 h2 h3 h4 h5 h6)
theorem qqs {f:FuncId} (h4:S4 f=false) (h5:S5 f=false) (h6:S6 f=false) (h7:S7 f=false) {h:Hp}:jdg F7 f vs h=jdg F3 f vs h:=(jbg h7).trans ((jbg h6).trans ((jbg h5).trans (jbg h4)))
section
variable {h:Hp} {f:Fc} {m:Nat×Nat} {Q:AV->Hp->Prop}
theorem qkq (k:FcOk m f) (m1:2<=m.1/\m.1<=10) (m2:2<=m.2/\m.2<=10):jdg F7 24 [.agg [jaf jay f.values,jaf ja1 f.blocks],.agg [si m.1,si m.2]] h=some (vi (jju f),h) :=
 jbh rfl (by simp only[jav,ja3,jbc,jcv,ja4,jbd,ja8,jbt,jbe,jbi,if_true]) (qe7 jec k m1 m2)
end
section
variable {α:Type}
def Gs (lo:Nat) (h:Hp) (ty sz:Nat) (E:List SV->α->List Nat->Prop) (x:SV) (l:List α):Prop :=
 ∃ ns,Sl h ty sz false E x l ns/\ns.Nodup/\∀ n∈ns,lo<=n/\n<h.next
variable {lo ty sz:Nat} {E:List SV->α->List Nat->Prop} {h h':Hp} {x:SV} {l:List α}
theorem Gs.nil:Gs lo h ty sz E .nilSlice []:=⟨[],.nil,.nil,by simp⟩
theorem Gs.len (k:Gs lo h ty sz E x l):jxb (.s x)=some (vi l.length):=by
 obtain⟨ns,k,_⟩:=k
 exact k.len
theorem jvq:∀ {L:List (List SV)},(∀ r∈L,r.length=sz)->jq0 sz L=some L.flatten
 | [],_=>rfl
 | a::L,hr=>by
  have e:jq0 sz L=some L.flatten:=jvq (fun r h=>hr r (f0y _ h))
  have ha:=hr a (by simp)
  show oif (Nat.beq (jdj a) sz) (ob (jq0 sz L) (fun r=>some (jgg a r))) none=_
  rw[e,show Nat.beq (jdj a) sz=true by rw[jbu,ha];exact f1z sz]
  show some (jgg a L.flatten)=_
  rw[jc4];rfl
theorem jjv {enc:α->List SV} {bytes:Nat} (ok:Ok h) (hn:∀ a,(enc a).length=sz) (hE:∀ a,E (enc a) a []) (h1:l.length*bytes<=1000000000) (h2:l.length<=1000000000) :
 ∃ x h1,jin h ty sz bytes (.s .nilSlice) (.s (jaf enc l))=some (.s x,h1)/\Ok h1/\h.next<=h1.next/\(∀ n,n<h.next->h1.get n=h.get n)/\Gs h.next h1 ty sz E x l:=by
 cases l with
 | nil=>exact⟨.nilSlice,h,rfl,ok,f0e _,fun _ _=>rfl,.nil⟩
 | cons a r =>
  obtain⟨hA,eA,okA,nA,xA,gA⟩:=jed ok ((a::r).map enc).flatten ty
  have hrow:∀ q∈(a::r).map enc,q.length=sz:=fun q hq=>by
   obtain⟨b,_,rfl⟩:=f1q.1 hq
   exact hn b
  have hR:∀ L:List α,Rows sz E (L.map enc) L []:=fun L=>by
   induction L with
   | nil=>exact .nil
   | cons b L ih=>exact .cons (hn b) (hE b) ih
  refine⟨.slice h.next 0 (a::r).length (a::r).length false sz,hA,?_,okA,by omega,gA,[h.next],.inr ⟨by simp,h.next,(a::r).map enc,[],rfl,xA,hR _,rfl⟩,by simp,by simp;omega⟩
  show ob (jq0 sz ((a::r).map enc)) (fun new=>_)=_
  rw[jvq hrow]
  show jh1 bytes (jdj ((a::r).map enc)) (nw h ((a::r).map enc).flatten ty (fun k h=>Ev.ok (.s (.slice k 0 (jdj ((a::r).map enc)) (jdj ((a::r).map enc)) false sz)) h))=_
  rw[jbu,f1a,jhn h1 h2,jr2 ok,eA]
  rfl
theorem Gs.app1 {bytes:Nat} {h1:Hp} {a:α} {E1:List SV->α->List Nat->Prop} {E2:Hp->List SV->α->List Nat->Prop} (k:Gs lo h ty sz E x l) (hk:∀ row a m,(∀ n∈m,n<h.next)->E row a m->E1 row a m) (ok:Ok h1) (hn:h.next<=h1.next) (g:∀ n,n<h.next->h1.get n=h.get n) (hlo:lo<=h.next) (hl1:1<=lo)
 (hE:E1 row a ms) (hms:ms.Nodup) (hm:∀ n∈ms,h.next<=n/\n<h1.next) (hr:row.length=sz) (h1b:(l.length+1)*bytes<=1000000000) (h2b:l.length+1<=1000000000)
 (hE2:∀ h2,(∀ n∈ms,h2.get n=h1.get n)->∀ row a m,E1 row a m->(∀ n∈m,h2.get n=h1.get n)->E2 h2 row a m) :
 ∃ x' h2,jin (h1.push (.arr row ty)) ty sz bytes (.s x) (.s (.slice h1.next 0 1 1 true sz))=some (.s x',h2)/\Ok h2/\h1.next<=h2.next/\(∀ n,n<lo->h2.get n=h.get n)/\Gs lo h2 ty sz (E2 h2) x' (l++[a]):=by
 obtain⟨ns,s,nd,lt⟩:=k
 have s1:Sl h1 ty sz false E1 x l ns:=s.imp (fun n hn=>g n (lt n hn).2) (fun row a m hmm e=>hk row a m (fun n hn=>(lt n (hmm n hn)).2) e)
 obtain⟨h2,e2,ok2,n2,kp2,kt2,sl2⟩:=s1.app1 (bytes:=bytes) ok (fun n hn'=>by have:=lt n hn';omega) hr hE h1b h2b
 have kms:∀ n∈ms,h2.get n=h1.get n:=fun n hn'=>kp2 n (hm n hn').2 (fun hc=>by have:=lt n hc;have:=hm n hn';omega)
 refine⟨_,h2,e2,ok2,by omega,fun n hn'=>(kp2 n (by omega) (fun hc=>by have:=lt n hc;omega)).trans (g n (by omega)),_,sl2 (fun row a m hmm e=>hE2 h2 kms row a m e (fun n hn'=>?_)),?_,?_⟩
 .rcases hmm n hn' with hc | hc
  .exact kt2 n hc nd
  .exact kms n hc
 .refine jch nd hms (fun n hn' hc=>?_) (fun hc=>?_) (fun hc=>?_)
  .have:=lt n hc;have:=hm n hn';omega
  .have:=lt _ hc;omega
  .have:=hm _ hc;omega
 .intro n hn'
  rcases f0g.1 hn' with rfl | hn'
  .omega
  .rcases f0d.1 hn' with hc | hc
   .have:=lt n (f0k hc);omega
   .have:=hm n hc;omega
end
def OX (h:Hp) (row:List SV) (x:Ms.Ins) (ns:List Nat):Prop:=∃ a b n1 n2 ex,row=[si x.op,a,b]/\Sl h tt.opd 5 ex EO a x.ops n1/\Sl h tt.reg 2 false ER b x.spoils n2/\ns=n1++n2
def OE (h:Hp) (row:List SV) (e:Ms.Edg) (ns:List Nat):Prop:=∃ a,row=[si e.block,a]/\Sl h tt.int 1 false EI a e.args ns
def OB (h:Hp) (row:List SV) (b:Blk) (ns:List Nat):Prop:=∃ p i e n1 n2 n3 ex,row=[p,i,e]/\Sl h tt.int 1 false EI p b.params n1/\Sl h tt.ins 3 false (OX h) i b.instrs n2/\Sl h tt.edg 2 ex (OE h) e b.edges n3/\ns=n1++(n2++n3)
section
variable {h h':Hp}
theorem OE.keep {x:Ms.Edg} (k:OE h row x ns) (hk:∀ n∈ns,h'.get n=h.get n):OE h' row x ns:=by
 obtain⟨a,e,h1⟩:=k
 exact⟨a,e,h1.keep hk⟩
theorem OX.keep {x:Ms.Ins} (k:OX h row x ns) (hk:∀ n∈ns,h'.get n=h.get n):OX h' row x ns:=by
 obtain⟨a,b,n1,n2,ex,e,h1,h2,rfl⟩:=k
 exact⟨a,b,n1,n2,ex,e,h1.keep (fun n hn=>hk n (by simp[hn])),h2.keep (fun n hn=>hk n (by simp[hn])),rfl⟩
theorem OB.keep {x:Blk} (k:OB h row x ns) (hk:∀ n∈ns,h'.get n=h.get n):OB h' row x ns:=by
 obtain⟨p,i,e,n1,n2,n3,ex,e1,h1,h2,h3,rfl⟩:=k
 exact⟨p,i,e,n1,n2,n3,ex,e1,h1.keep (fun n hn=>hk n (by simp[hn])),h2.imp (fun n hn=>hk n (by simp[hn])) (fun row a ms hm k=>k.keep (fun n hn=>hk n (by simp[hm n hn]))),h3.imp (fun n hn=>hk n (by simp[hn])) (fun row a ms hm k=>k.keep (fun n hn=>hk n (by simp[hm n hn]))),rfl⟩
variable {d:Nat} {k:Bool}
theorem OE.frz {x:Ms.Edg} (e:OE h row x ms):jgj (jgy k h (d+2)) row=some (jfj x):=by
 obtain⟨a,rfl,h1⟩:=e
 exact ja7 rfl (ja7 (h1.frz (fun _ _ _ e=>EI.frz e) (fun _=>rfl)) rfl)
theorem OX.frz {x:Ms.Ins} (e:OX h row x ms):jgj (jgy k h (d+2)) row=some (jdz x):=by
 obtain⟨a,b,n1,n2,ex,rfl,h1,h2,rfl⟩:=e
 exact ja7 rfl (ja7 (h1.frz (fun _ _ _ e=>EO.frz e) (fun _=>rfl)) (ja7 (h2.frz (fun _ _ _ e=>ER.frz e) (fun _=>rfl)) rfl))
theorem OB.frz {x:Ms.Blk} (e:OB h row x ms):jgj (jgy k h (d+3)) row=some (ja1 x):=by
 obtain⟨p,i,e,n1,n2,n3,ex,rfl,h1,h2,h3,rfl⟩:=e
 exact ja7 (h1.frz (fun _ _ _ e=>EI.frz e) (fun _=>rfl)) (ja7 (h2.frz (fun _ _ _ e=>OX.frz e) (fun _=>rfl)) (ja7 (h3.frz (fun _ _ _ e=>OE.frz e) (fun _=>rfl)) rfl))
structure OF (h:Hp) (x:AV) (f:Fc) (na nb:List Nat):Prop where
 ex:∃ a b,x=.agg [a,b]/\Sl h tt.int 1 false EI a f.values na/\Sl h tt.blk 3 false (OB h) b f.blocks nb
 nd:(na++nb).Nodup
 lt:∀ n∈na++nb,1<=n/\n<h.next
theorem OF.frz {x:AV} {f:Fc} (o:OF h x f na nb):jfq k h 4 x=some (.agg (jt6 f)):=by
 obtain⟨⟨a,b,rfl,h1,h2⟩,_,_⟩:=o
 exact jaa.2 ⟨_,ja7 (h1.frz (fun _ _ _ e=>EI.frz e) (fun _=>rfl)) (ja7 (h2.frz (fun _ _ _ e=>OB.frz e) (fun _=>rfl)) rfl),rfl⟩
theorem OF.keep {x:AV} {f:Fc} (o:OF h x f na nb) (hk:∀ n∈na++nb,h'.get n=h.get n) (hn:h.next<=h'.next):OF h' x f na nb:=by
 obtain⟨⟨a,b,rfl,h1,h2⟩,nd,lt⟩:=o
 exact⟨⟨a,b,rfl,h1.keep (fun n hn=>hk n (by simp[hn])),h2.imp (fun n hn=>hk n (by simp[hn])) (fun row a ms hm k=>k.keep (fun n hn=>hk n (by simp[hm n hn])))⟩,nd,fun n hm=>by have:=lt n hm;omega⟩
end
end Go.Proofs.Ytkeenpohacdanaa.Ev
