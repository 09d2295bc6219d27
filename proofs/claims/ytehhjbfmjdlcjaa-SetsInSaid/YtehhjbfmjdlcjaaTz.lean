/- What functions may be: each value is made once: the answer. -/
import Derived.Test.YtehhjbfmjdlcjaaSi
namespace Go.Proofs.Ytehhjbfmjdlcjaa.Ev
open Go Go.RowKit Go.Proofs.Ytehhjbfmjdlcjaa.Ms
attribute [local go_sem] f0i f0r f0s decide_eq_true_eq decide_eq_false_iff_not f0f and_true true_and f0m f0o reduceCtorEq decide_true decide_false f00 f0v f0u f0l Option.some.injEq f0j not_true_eq_false not_false_eq_true Hp.next_push Hp.next_put f0t Int.reduceToNat Nat.reduceAdd Nat.reduceMul Nat.reduceEqDiff Int.reduceEq Int.reduceLT Int.reduceLE Int.reduceNeg Int.reduceAdd Int.reduceSub Int.reduceMul Int.reduceNe
attribute [local go_sem ↓] reduceIte
set_option linter.all false
set_option maxRecDepth 100000
set_option maxHeartbeats 2000000
variable {x0 x1 x2 x3 x4 x5 x6 x7 x8 x9 x10 x11 x12 x13 x14 x15 x16 x17 x18 x19 x20 x21 x22 x23 x24 x25 x26 x27 x28 x29 x30 x31 x33 x34 x35:AV} {vs:List AV} {bA bF bM:Nat}
theorem j2i {s:List Bool} (hl:s.length<=10000) {Q:Ex->St->Prop} :
 ∀ (rest done:List Bool) (_:done++rest=s) {hi:Hp} (_:Ok hi) (_:hi.get bA=some (.arr (bls s) 4)) {x3 x4 x5:AV}
  (hQ:false∉rest->∀ hj x3 x4 x5,Q (.exit 0) (.mk [.s (.slice bA 0 s.length s.length true 1),vb false,x2,x3,x4,x5,vi s.length,vi s.length] hj))
  (hF:∀ (k:Nat) hj x3 x4 x5 x6 x7,false∈rest->Q .ret (.mk [.s (.slice bA 0 s.length s.length true 1),vb false,vi k,x3,x4,x5,x6,x7] hj)),
  W F5 jmx.loop (.mk [.s (.slice bA 0 s.length s.length true 1),vb false,x2,x3,x4,x5,vi s.length,vi done.length] hi) Q
 | [],done,hdn,hi,ok,xA,x3,x4,x5,hQ,hF=>by
  rw[f1o] at hdn
  rw[jal,hdn]
  unfold jmx
  simp(disch:=first|omega|rfl|apply_rules[jaa,jab,jad]) only[go_sem,f0z]
  exact hQ (by simp) hi ..
 | b::rest,done,hdn,hi,ok,xA,x3,x4,x5,hQ,hF=>by
  have hlt1:done.length<s.length:=by rw[←hdn];simp
  have hlt:(done.length:Int)<s.length:=by omega
  have hget:s[done.length]?=some b:=by rw[←hdn];simp
  have hcell:(bls s)[done.length]?=some (.bool b):=by unfold bls;rw[f09,hget];rfl
  have hrd:rdB (hi.get bA) done.length 1=some [.bool b]:=by rw[xA];exact j1r hcell
  have hix:=jbg (size:=1) (b:=bA) (off:=0) (len:=s.length) (mc:=s.length) (sz:=1) (ex:=true) (m:=done.length) hlt1
  rw[f0l,f3v] at hix
  have hdn':(done++[b])++rest=s:=by rw[←hdn];simp
  have hs:(done.length:Int)+1=(((done++[b]).length:Nat):Int):=by simp
  rw[jal]
  unfold jmx j2d
  cases b with
  | true =>
   simp(disch:=first|omega|rfl|apply_rules[jaa,jab,jad]) only[go_sem,jag,eq_true hlt,hix,hrd,jrk,qwz,hs]
   exact j2i hl rest (done++[true]) hdn' ok xA (fun h=>hQ (by simpa using h)) (fun k hj x3 x4 x5 x6 x7 h=>hF k hj x3 x4 x5 x6 x7 (by simp[h]))
  | false =>
   simp(disch:=first|omega|rfl|apply_rules[jaa,jab,jad]) only[go_sem,jag,eq_true hlt,hix,hrd,jrk,qwz,hs]
   exact hF _ _ _ _ _ _ _ (by simp)
theorem qjo {hi:Hp} (ok:Ok hi) {s:List Bool} (hl:s.length<=10000) (xA:hi.get bA=some (.arr (bls s) 4)):WC F5 74 [.s (.slice bA 0 s.length s.length true 1),vb false] hi (fun u h'=>u=vb (decide (false∈s))):=by
 refine ja5 (no5 rfl rfl rfl rfl rfl) qux rfl ?_
 unfold qfi
 simp(disch:=first|omega|rfl|apply_rules[jaa,jab,jad]) only[go_sem]
 refine WC.imp (Q:=fun u h'=>(false∈s/\∃ k:Nat,u=vi k)∨(false∉s/\u=vi (-1))) ?_ ?_
 ·refine ja5 (no5 rfl rfl rfl rfl rfl) qp9 rfl ?_
  unfold j8t
  simp(disch:=first|omega|rfl|apply_rules[jaa,jab,jad]) only[go_sem]
  refine j2i hl s [] rfl ok xA (fun h hj x3 x4 x5=>?_) (fun k hj x3 x4 x5 x6 x7 h=>?_)
  ·simp(disch:=first|omega|rfl|apply_rules[jaa,jab,jad]) only[go_sem]
   first | exact .inr ⟨h,rfl⟩ | exact .inr h
  ·simp(disch:=first|omega|rfl|apply_rules[jaa,jab,jad]) only[go_sem]
   exact .inl ⟨h,k,rfl⟩
 ·rintro u h' (⟨h,k,rfl⟩ | ⟨h,rfl⟩)
  ·have c1:(0<=(k:Int))=True:=by simp
   simp(disch:=first|omega|rfl|apply_rules[jaa,jab,jad]) only[go_sem,c1,h]
  ·simp(disch:=first|omega|rfl|apply_rules[jaa,jab,jad]) only[go_sem,h]
def jpp (f:Fc):Nat:=match jkh (List.replicate f.values.length false) (jdb f.blocks) with
 | none=>7
 | some t=>if false∈t then 6 else 0
theorem qjp {h:Hp} (ok:Ok h) {f:Fc} (hl:f.blocks.length<=10000) (hv:f.values.length<=10000) (hp:∀ b∈f.blocks,b.params.length<=10000/\b.instrs.length<=10000/\(∀ v∈b.params,v<f.values.length)/\∀ x∈b.instrs,x.ops.length<=6/\∀ o∈x.ops,o.value<f.values.length) :
 WC F5 50 [.agg [jah jaq f.values,jah ja1 f.blocks]] h (fun v h'=>∃ d,jgr true h' d v=some (vi (jpp f))):=by
 refine ja5 (no5 rfl rfl rfl rfl rfl) qut rfl ?_
 unfold qfe
 have hpos:=ok.pos
 obtain⟨hA,eA,okA,nA,xA,gA⟩:=jdr ok [jah jaq f.values,jah ja1 f.blocks] 30
 obtain⟨hB,eB,okB,nB,xB,gB⟩:=jdr okA (rep [.bool false] f.values.length) 4
 obtain⟨hC,eC,okC,nC,xC,gC⟩:=jbo okB [.nilSlice] [.slice hA.next 0 f.values.length f.values.length true 1] 110
 have nb:hB.next=h.next+2:=by omega
 rw[qfq] at xB
 have hbl:bls (List.replicate f.values.length false)=List.replicate f.values.length (.bool false):=by unfold bls;rw[List.map_replicate]
 rw[←hbl] at xB
 have I:OnI hC f h.next hB.next hA.next (List.replicate f.values.length false) :=
  ⟨okC,f3a,⟨by omega,by omega,by omega⟩,⟨by omega,by omega,by omega⟩,(gC _ (by omega)).trans ((gB _ (by omega)).trans xA),xC,(gC _ (by omega)).trans xB⟩
 have l1:=jai (enc:=jaq) (l:=f.values)
 have l2:=jai (enc:=ja1) (l:=f.blocks)
 have hmk:=jsw (e:=4) (size:=1) (bytes:=1) (z:=[.bool false]) (m:=f.values.length) okA (by omega) (by omega)
 rw[eB] at hmk
 have xF:=I.xF
 rw[nA,nb] at I
 rw[nA] at hmk eC
 rw[nb] at eC
 simp(disch:=first|omega|rfl|apply_rules[jaa,jab,jad]) only[go_sem,eA,xA,l1,hmk,nb,eC,nA,xF,l2,jjv]
 refine qft hl hp f.blocks [] rfl I (fun t ht hj x3 x4 x5 x6 x7 x8 x9 x10 x11 x12 x13 x14 x15 x16 x17 x18 x20 x21 x22 x23 x24 x26 J=>?_) (fun ht=>?_)
 ·have xM:=J.xM
  have eo:jpp f=if false∈t then 6 else 0:=by unfold jpp;rw[ht]
  rw[eo]
  simp(disch:=first|omega|rfl|apply_rules[jaa,jab,jad]) only[go_sem,xM]
  have hts:t.length=f.values.length:=J.hs
  have hct:=qjo J.ok (s:=t) (by omega) J.xA
  rw[hts] at hct
  refine WC.imp hct ?_
  rintro u h' rfl
  by_cases e:false∈t
  ·simp(disch:=first|omega|rfl|apply_rules[jaa,jab,jad]) only[go_sem,e]
   exact⟨1,rfl⟩
  ·simp(disch:=first|omega|rfl|apply_rules[jaa,jab,jad]) only[go_sem,e]
   unfold j8i
   simp(disch:=first|omega|rfl|apply_rules[jaa,jab,jad]) only[go_sem]
   exact⟨1,rfl⟩
 ·intro hj x2 x3 x4 x5 x6 x7 x8 x9 x10 x11 x12 x13 x14 x15 x16 x17 x18 x19 x20 x21 x22 x23 x24 x25 x26 x27 x28 x29 x30
  have eo:jpp f=7:=by unfold jpp;rw[ht]
  rw[eo]
  simp(disch:=first|omega|rfl|apply_rules[jaa,jab,jad]) only[go_sem]
  exact⟨1,rfl⟩
def S6 (f:FuncId):Bool:=Nat.beq f 48||Nat.beq f 50
noncomputable def F6:Fns:=PX S6 F5
theorem qxr {A:Nat->Int}:Env Try.prog A tys F6:=jgg qxq
theorem no6 {f:FuncId} (h1:S1 f=false) (h2:Nat.beq f jfg.f=false) (h3:S3 f=false) (h4:S4 f=false) (h5:S5 f=false) (h6:S6 f=false) {h:Hp}:jcm F6 f vs h=none:=(jbi h6).trans (no5 h1 h2 h3 h4 h5)
theorem j81 {m:Nat×Nat} {f:Fc} (k:FcOk m f):∀ b∈f.blocks,b.params.length<=10000/\b.instrs.length<=10000/\(∀ v∈b.params,v<f.values.length)/\∀ x∈b.instrs,x.ops.length<=6/\∀ o∈x.ops,o.value<f.values.length:=fun b hb=>by
 have h1:=k.blk b hb
 exact⟨by omega,by omega,k.prm b hb,fun x hx=>⟨(k.ins b hb x hx).nops,fun o ho=>((k.ins b hb x hx).opd o ho).val⟩⟩
section
variable {h:Hp} {f:Fc} {m:Nat×Nat} {Q:AV->Hp->Prop}
theorem qqe (m1:2<=m.1/\m.1<=10) (m2:2<=m.2/\m.2<=10):WC F6 46 [.agg [si m.1,si m.2]] h Q=Q (vi 0) h :=
 jau ((jbi rfl).trans ((jbi rfl).trans (jbd rfl (by simp only[jat,jaz,ja6,jb0,ja0,ja7,ja4,jbk,ja8,jbe,if_true]) (qqa jdo m1 m2))))
theorem qqf (k:FcOk m f):WC F6 47 [.agg [jah jaq f.values,jah ja1 f.blocks]] h Q=Q (vi 0) h :=
 jau ((jbi rfl).trans ((jbi rfl).trans (jbd rfl (by simp only[jat,jaz,ja6,jb0,ja0,ja7,ja4,jbk,ja8,jbe,if_true]) (qqc jdo k))))
theorem qjq {op:Nat} {ops:List Ms.Opd} {sp:List (Nat×Nat)} (hc:∀ v,cl f.values v<2) (k:InsOk m f.values ⟨op,ops,sp⟩):WC F6 48 [.agg [jah jaq f.values,jah ja1 f.blocks],.agg [si m.1,si m.2],.agg [si op,jah jba ops,jah jec sp]] h Q=Q (vi 0) h :=
 jau (jbd rfl (by simp only[jat,jaz,ja6,jb0,ja0,ja7,ja4,jbk,ja8,jbe,if_true]) (qjl jdo hc k))
theorem qjr {e:Ms.Edg} (k:jqg f.values f.blocks e) (hl:e.args.length<=10000):WC F6 49 [.agg [jah jaq f.values,jah ja1 f.blocks],.agg [si e.block,jah jaq e.args]] h Q=Q (vi 0) h :=
 jau ((jbi rfl).trans (jbd rfl (by simp only[jat,jaz,ja6,jb0,ja0,ja7,ja4,jbk,ja8,jbe,if_true]) (qjb jdo k hl)))
theorem qjs (k:FcOk m f):WC F6 50 [.agg [jah jaq f.values,jah ja1 f.blocks]] h Q=Q (vi (jpp f)) h :=
 jau (jbd rfl (by simp only[jat,jaz,ja6,jb0,ja0,ja7,ja4,jbk,ja8,jbe,if_true]) (qjp jdo (by have:=k.nb;omega) (by have:=k.nv;omega) (j81 k)))
end
theorem qfu {l:List Nat} (hl:l.length<=10000) (hp:∀ c∈l,c<2) {x32:AV} {Q:Ex->St->Prop} :
 ∀ (d i:Nat) (_:i+d=l.length) {hi:Hp} (_:Ok hi) {x24 x25 x27:AV}
  (hQ:∀ x24 x25 x27,Q (.exit 0) (.mk [x0,x1,x2,x3,x4,x5,x6,x7,x8,x9,x10,x11,x12,x13,x14,x15,x16,x17,x18,x19,x20,x21,x22,x23,x24,x25,.s (jah jaq l),x27,vi l.length,vi l.length,x30,x31,x32,x33,x34,x35] hi)),
  W F6 jug.loop (.mk [x0,x1,x2,x3,x4,x5,x6,x7,x8,x9,x10,x11,x12,x13,x14,x15,x16,x17,x18,x19,x20,x21,x22,x23,x24,x25,.s (jah jaq l),x27,vi l.length,vi i,x30,x31,x32,x33,x34,x35] hi) Q
 | 0,i,hd,hi,ok,x24,x25,x27,hQ=>by
  obtain rfl:i=l.length:=by omega
  rw[jal]
  unfold jug
  simp(disch:=first|omega|rfl|apply_rules[jaa,jab,jad]) only[go_sem,f0z]
  exact hQ _ _ _
 | d+1,i,hd,hi,ok,x24,x25,x27,hQ=>by
  have hlt:(i:Int)<(l.length:Int):=by omega
  obtain⟨c,hio⟩:∃ y,l[i]?=some y:=⟨_,f0a (by omega)⟩
  have hc:=hp c (f0b hio)
  have hix:=jaj (enc:=jaq) (size:=1) hio rfl
  have hs:(i:Int)+1=((i+1:Nat):Int):=by omega
  have c1:((c:Int)<0)=False:=by simp
  have c2:(2<=(c:Int))=False:=by simp;omega
  rw[jal]
  unfold jug j8l
  simp(disch:=first|omega|rfl|apply_rules[jaa,jab,jad]) only[go_sem,jag,eq_true hlt,hix,jaq,c1,c2,hs]
  exact qfu hl hp d (i+1) (by omega) ok hQ
theorem qfv {f:Fc} {m:Nat×Nat} {l:List Ms.Ins} (hl:l.length<=10000) (hc:∀ v,cl f.values v<2) (hp:∀ x∈l,InsOk m f.values x) {Q:Ex->St->Prop} :
 ∀ (d i:Nat) (_:i+d=l.length) {hi:Hp} (_:Ok hi) (_:bF<hi.next/\bM<hi.next) (_:hi.get bF=some (.arr [jah jaq f.values,jah ja1 f.blocks] 30)) (_:hi.get bM=some (.arr [si m.1,si m.2] 25)) {x11 x12 x13 x15:AV}
  (hQ:∀ hj x11 x12 x13 x15,Ok hj->hi.next<=hj.next->(∀ k,k<hi.next->hj.get k=hi.get k)->Q (.exit 4) (.mk [x0,x1,x2,x3,x4,x5,x6,x7,x8,x9,x10,x11,x12,x13,.s (jah jc1 l),x15,vi l.length,vi l.length,x18,x19,x20,x21,x22,x23,x24,x25,x26,x27,x28,x29,x30,x31,.s (.ptr bF 0),x33,x34,.s (.ptr bM 0)] hj)),
  W F6 juh.loop (.mk [x0,x1,x2,x3,x4,x5,x6,x7,x8,x9,x10,x11,x12,x13,.s (jah jc1 l),x15,vi l.length,vi i,x18,x19,x20,x21,x22,x23,x24,x25,x26,x27,x28,x29,x30,x31,.s (.ptr bF 0),x33,x34,.s (.ptr bM 0)] hi) Q
 | 0,i,hd,hi,ok,hb,xF,xM,x11,x12,x13,x15,hQ=>by
  obtain rfl:i=l.length:=by omega
  rw[jal]
  unfold juh
  simp(disch:=first|omega|rfl|apply_rules[jaa,jab,jad]) only[go_sem,f0z]
  exact hQ hi _ _ _ _ ok (f0g _) (fun _ _=>rfl)
 | d+1,i,hd,hi,ok,hb,xF,xM,x11,x12,x13,x15,hQ=>by
  have hlt:(i:Int)<(l.length:Int):=by omega
  obtain⟨x,hio⟩:∃ y,l[i]?=some y:=⟨_,f0a (by omega)⟩
  have hx:InsOk m f.values ⟨x.op,x.ops,x.spoils⟩:=hp x (f0b hio)
  have hix:=jaj (enc:=jc1) (size:=3) hio rfl
  have hs:(i:Int)+1=((i+1:Nat):Int):=by omega
  obtain⟨hA,eA,okA,nA,xA,gA⟩:=jbo ok [.int .i64 0,.nilSlice,.nilSlice] (jc1 x) 46
  have yF:=(gA _ hb.1).trans xF
  have yM:=(gA _ hb.2).trans xM
  unfold jc1 at xA eA
  rw[jal]
  unfold juh j8m
  simp(disch:=first|omega|rfl|apply_rules[jaa,jab,jad]) only[go_sem,jag,eq_true hlt,hix,jc1,eA,xA,yF,yM,qjq hc hx,hs]
  exact qfv hl hc hp d (i+1) (by omega) okA ⟨by omega,by omega⟩ yF yM (fun hj x11 x12 x13 x15 o n g=>hQ hj x11 x12 x13 x15 o (by omega) (fun k hk=>(g k (by omega)).trans (gA k hk)))
theorem qfw {f:Fc} {l:List Ms.Edg} (hl:l.length<=10000) (hp:∀ e∈l,jqg f.values f.blocks e/\e.args.length<=10000) {Q:Ex->St->Prop} :
 ∀ (d i:Nat) (_:i+d=l.length) {hi:Hp} (_:Ok hi) (_:bF<hi.next) (_:hi.get bF=some (.arr [jah jaq f.values,jah ja1 f.blocks] 30)) {x3 x4 x5 x7:AV}
  (hQ:∀ hj x3 x4 x5 x7,Ok hj->hi.next<=hj.next->(∀ k,k<hi.next->hj.get k=hi.get k)->Q (.exit 6) (.mk [x0,x1,x2,x3,x4,x5,.s (jah jee l),x7,vi l.length,vi l.length,x10,x11,x12,x13,x14,x15,x16,x17,x18,x19,x20,x21,x22,x23,x24,x25,x26,x27,x28,x29,x30,x31,.s (.ptr bF 0),x33,x34,x35] hj)),
  W F6 jui.loop (.mk [x0,x1,x2,x3,x4,x5,.s (jah jee l),x7,vi l.length,vi i,x10,x11,x12,x13,x14,x15,x16,x17,x18,x19,x20,x21,x22,x23,x24,x25,x26,x27,x28,x29,x30,x31,.s (.ptr bF 0),x33,x34,x35] hi) Q
 | 0,i,hd,hi,ok,hb,xF,x3,x4,x5,x7,hQ=>by
  obtain rfl:i=l.length:=by omega
  rw[jal]
  unfold jui
  simp(disch:=first|omega|rfl|apply_rules[jaa,jab,jad]) only[go_sem,f0z]
  exact hQ hi _ _ _ _ ok (f0g _) (fun _ _=>rfl)
 | d+1,i,hd,hi,ok,hb,xF,x3,x4,x5,x7,hQ=>by
  have hlt:(i:Int)<(l.length:Int):=by omega
  obtain⟨e,hio⟩:∃ y,l[i]?=some y:=⟨_,f0a (by omega)⟩
  obtain⟨he,hal⟩:=hp e (f0b hio)
  have hix:=jaj (enc:=jee) (size:=2) hio rfl
  have hs:(i:Int)+1=((i+1:Nat):Int):=by omega
  obtain⟨hA,eA,okA,nA,xA,gA⟩:=jbo ok [.int .i64 0,.nilSlice] (jee e) 56
  have yF:=(gA _ hb).trans xF
  unfold jee at xA eA
  rw[jal]
  unfold jui j8n
  simp(disch:=first|omega|rfl|apply_rules[jaa,jab,jad]) only[go_sem,jag,eq_true hlt,hix,jee,eA,xA,yF,qjr he hal,hs]
  exact qfw hl hp d (i+1) (by omega) okA (by omega) yF (fun hj x3 x4 x5 x7 o n g=>hQ hj x3 x4 x5 x7 o (by omega) (fun k hk=>(g k (by omega)).trans (gA k hk)))
theorem j82 {f:Fc} {m:Nat×Nat} (k:FcOk m f) {Q:Ex->St->Prop} :
 ∀ (d i:Nat) (_:i+d=f.blocks.length) {hi:Hp} (_:Ok hi) (_:bF<hi.next/\bM<hi.next) (_:hi.get bF=some (.arr [jah jaq f.values,jah ja1 f.blocks] 30)) (_:hi.get bM=some (.arr [si m.1,si m.2] 25))
  {x3 x4 x5 x6 x7 x8 x9 x10 x11 x12 x13 x14 x15 x16 x17 x18 x20:AV}
  (hQ:∀ hj x3 x4 x5 x6 x7 x8 x9 x10 x11 x12 x13 x14 x15 x16 x17 x18 x20,Ok hj->hj.get bF=hi.get bF->Q (.exit 2) (.mk [x0,x1,x2,x3,x4,x5,x6,x7,x8,x9,x10,x11,x12,x13,x14,x15,x16,x17,x18,.s (jah ja1 f.blocks),x20,vi f.blocks.length,vi f.blocks.length,x23,x24,x25,x26,x27,x28,x29,x30,x31,.s (.ptr bF 0),x33,x34,.s (.ptr bM 0)] hj)),
  W F6 juj.loop (.mk [x0,x1,x2,x3,x4,x5,x6,x7,x8,x9,x10,x11,x12,x13,x14,x15,x16,x17,x18,.s (jah ja1 f.blocks),x20,vi f.blocks.length,vi i,x23,x24,x25,x26,x27,x28,x29,x30,x31,.s (.ptr bF 0),x33,x34,.s (.ptr bM 0)] hi) Q
 | 0,i,hd,hi,ok,hb,xF,xM,x3,x4,x5,x6,x7,x8,x9,x10,x11,x12,x13,x14,x15,x16,x17,x18,x20,hQ=>by
  obtain rfl:i=f.blocks.length:=by omega
  rw[jal]
  unfold juj
  simp(disch:=first|omega|rfl|apply_rules[jaa,jab,jad]) only[go_sem,f0z]
  exact hQ hi _ _ _ _ _ _ _ _ _ _ _ _ _ _ _ _ _ ok rfl
 | d+1,i,hd,hi,ok,hb,xF,xM,x3,x4,x5,x6,x7,x8,x9,x10,x11,x12,x13,x14,x15,x16,x17,x18,x20,hQ=>by
  have nb:=k.nb
  have nv:=k.nv
  have hlt:(i:Int)<(f.blocks.length:Int):=by omega
  obtain⟨b,hio⟩:∃ y,f.blocks[i]?=some y:=⟨_,f0a (by omega)⟩
  have hbm:=f0b hio
  have hbk:=k.blk b hbm
  have hix:=jaj (enc:=ja1) (size:=3) hio rfl
  have hs:(i:Int)+1=((i+1:Nat):Int):=by omega
  obtain⟨hA,eA,okA,nA,xA,gA⟩:=jbo ok [.nilSlice,.nilSlice,.nilSlice] (ja1 b) 42
  have yF:=(gA _ hb.1).trans xF
  have yM:=(gA _ hb.2).trans xM
  have l1:=jai (enc:=jc1) (l:=b.instrs)
  have l2:=jai (enc:=jee) (l:=b.edges)
  have hE:∀ e∈b.edges,jqg f.values f.blocks e/\e.args.length<=10000:=fun e he=>by
   have h1:=k.edg b hbm e he
   refine⟨h1,?_⟩
   obtain⟨_,_,t,h2,h3,_⟩:=h1
   have h4:=(k.blk t (f0b h2)).1
   have:=congrArg List.length h3
   simp only[f1d] at this
   omega
  have fin:∀ (x3 x4 x5 x7:AV) (x11 x12 x13 x15:AV) (hk:Hp),Ok hk->hA.next<=hk.next->(∀ n,n<hA.next->hk.get n=hA.get n)->∀ (x10:AV) (K:Ex->St->Prop),(∀ hj x3 x4 x5 x7,Ok hj->hk.next<=hj.next->(∀ n,n<hk.next->hj.get n=hk.get n)->K .normal (.mk [x0,x1,x2,x3,x4,x5,.s (jah jee b.edges),x7,vi b.edges.length,vi b.edges.length,x10,x11,x12,x13,.s (jah jc1 b.instrs),x15,vi b.instrs.length,vi b.instrs.length,.s (.ptr hi.next 0),.s (jah ja1 f.blocks),vb true,vi f.blocks.length,vi i,x23,x24,x25,x26,x27,x28,x29,x30,x31,.s (.ptr bF 0),x33,x34,.s (.ptr bM 0)] hj)) ->
   ∀ (x6 x8 x9:AV),W F6 jzw (.mk [x0,x1,x2,x3,x4,x5,x6,x7,x8,x9,x10,x11,x12,x13,.s (jah jc1 b.instrs),x15,vi b.instrs.length,vi b.instrs.length,.s (.ptr hi.next 0),.s (jah ja1 f.blocks),vb true,vi f.blocks.length,vi i,x23,x24,x25,x26,x27,x28,x29,x30,x31,.s (.ptr bF 0),x33,x34,.s (.ptr bM 0)] hk) K:=fun x3 x4 x5 x7 x11 x12 x13 x15 hk o n g x10 K hK x6 x8 x9=>by
   have zA:=(g hi.next (by omega)).trans xA
   have zF:=(g bF (by omega)).trans yF
   unfold ja1 at zA
   unfold jzw
   simp(disch:=first|omega|rfl|apply_rules[jaa,jab,jad]) only[go_sem,zA,l2]
   refine qfw (by omega) hE b.edges.length 0 (by omega) o (by omega) zF (fun hj x3 x4 x5 x7 o' n' g'=>?_)
   simp(disch:=first|omega|rfl|apply_rules[jaa,jab,jad]) only[go_sem]
   exact hK hj x3 x4 x5 x7 o' n' g'
  have zz:∀ (hk:Hp),hA.next<=hk.next->(∀ n,n<hA.next->hk.get n=hA.get n)->hk.get hi.next=some (.arr [jah jaq b.params,jah jc1 b.instrs,jah jee b.edges] 42):=fun hk n g=>(g _ (by omega)).trans xA
  unfold ja1 at eA xA
  rw[jal]
  unfold juj j8o
  simp(disch:=first|omega|rfl|apply_rules[jaa,jab,jad]) only[go_sem,jag,eq_true hlt,hix,ja1,eA,xA,l1]
  refine qfv (by omega) (j4l k.cls) (k.ins b hbm) b.instrs.length 0 (by omega) okA ⟨by omega,by omega⟩ yF yM (fun hj x11 x12 x13 x15 o n g=>?_)
  have zA:=zz hj n g
  by_cases e:1<b.edges.length
  ·have c1:(1<(b.edges.length:Int))=True:=by simp;omega
   have hne:=f1s.2 (k.par b hbm e)
   have c2:((b.instrs.length:Int)=0)=False:=eq_false (by omega)
   simp(disch:=first|omega|rfl|apply_rules[jaa,jab,jad]) only[go_sem,zA,l1,l2,c1,c2]
   refine fin _ _ _ _ _ _ _ _ hj o n g _ _ (fun hk x3 x4 x5 x7 o' n' g'=>?_) _ _ _
   simp(disch:=first|omega|rfl|apply_rules[jaa,jab,jad]) only[go_sem,jag,hs]
   exact j82 k d (i+1) (by omega) o' ⟨by omega,by omega⟩ ((g' _ (by omega)).trans ((g _ (by omega)).trans yF)) ((g' _ (by omega)).trans ((g _ (by omega)).trans yM)) (fun h2 x3 x4 x5 x6 x7 x8 x9 x10 x11 x12 x13 x14 x15 x16 x17 x18 x20 o2 g2=>hQ h2 x3 x4 x5 x6 x7 x8 x9 x10 x11 x12 x13 x14 x15 x16 x17 x18 x20 o2 (g2.trans ((g' _ (by omega)).trans ((g _ (by omega)).trans (gA _ hb.1)))))
  ·have c1:(1<(b.edges.length:Int))=False:=by simp;omega
   simp(disch:=first|omega|rfl|apply_rules[jaa,jab,jad]) only[go_sem,zA,l1,l2,c1]
   refine fin _ _ _ _ _ _ _ _ hj o n g _ _ (fun hk x3 x4 x5 x7 o' n' g'=>?_) _ _ _
   simp(disch:=first|omega|rfl|apply_rules[jaa,jab,jad]) only[go_sem,jag,hs]
   exact j82 k d (i+1) (by omega) o' ⟨by omega,by omega⟩ ((g' _ (by omega)).trans ((g _ (by omega)).trans yF)) ((g' _ (by omega)).trans ((g _ (by omega)).trans yM)) (fun h2 x3 x4 x5 x6 x7 x8 x9 x10 x11 x12 x13 x14 x15 x16 x17 x18 x20 o2 g2=>hQ h2 x3 x4 x5 x6 x7 x8 x9 x10 x11 x12 x13 x14 x15 x16 x17 x18 x20 o2 (g2.trans ((g' _ (by omega)).trans ((g _ (by omega)).trans (gA _ hb.1)))))
theorem qjt {h:Hp} (ok:Ok h) {f:Fc} {m:Nat×Nat} (k:FcOk m f) (m1:2<=m.1/\m.1<=10) (m2:2<=m.2/\m.2<=10):WC F6 33 [.agg [jah jaq f.values,jah ja1 f.blocks],.agg [si m.1,si m.2]] h (fun v h'=>∃ d,jgr true h' d v=some (vi (jpp f))):=by
 refine ja5 (no6 rfl rfl rfl rfl rfl rfl) quv rfl ?_
 unfold qfg
 have nb:=k.nb
 have nv:=k.nv
 obtain⟨hA,eA,okA,nA,xA,gA⟩:=jdr ok [jah jaq f.values,jah ja1 f.blocks] 30
 obtain⟨hB,eB,okB,nB,xB,gB⟩:=jdr okA [si m.1,si m.2] 25
 have yA:=(gB _ (by omega)).trans xA
 rw[nA] at xB
 obtain⟨b0,hb0⟩:∃ y,f.blocks[0]?=some y:=⟨_,f0a (by omega)⟩
 have h0:=k.ent b0 hb0
 have ix0:jwg 3 (.s (jah ja1 f.blocks)) (vi 0)=some (.s (.cp (ja1 b0))):=jaj (enc:=ja1) (size:=3) hb0 rfl
 have l1:=jai (enc:=jaq) (l:=f.values)
 have l2:=jai (enc:=ja1) (l:=f.blocks)
 have l3:=jai (enc:=jaq) (l:=b0.params)
 rw[h0] at l3
 simp(disch:=first|omega|rfl|apply_rules[jaa,jab,jad]) only[go_sem,eA,eB,nA,xB,qqe m1 m2]
 unfold j8r
 simp(disch:=first|omega|rfl|apply_rules[jaa,jab,jad]) only[go_sem,yA,qqf k]
 unfold j8q
 simp(disch:=first|omega|rfl|apply_rules[jaa,jab,jad]) only[go_sem,yA,l1]
 refine qfu (by omega) k.cls f.values.length 0 (by omega) okB (fun x24 x25 x27=>?_)
 simp(disch:=first|omega|rfl|apply_rules[jaa,jab,jad]) only[go_sem,yA,ix0,ja1,h0,qcq]
 unfold j8p
 simp(disch:=first|omega|rfl|apply_rules[jaa,jab,jad]) only[go_sem,yA,l2]
 refine j82 k f.blocks.length 0 (by omega) okB ⟨by omega,by omega⟩ yA xB (fun hj x3 x4 x5 x6 x7 x8 x9 x10 x11 x12 x13 x14 x15 x16 x17 x18 x20 o g=>?_)
 have zA:=g.trans yA
 simp(disch:=first|omega|rfl|apply_rules[jaa,jab,jad]) only[go_sem,zA,qjs k]
 exact⟨1,rfl⟩
theorem j83:∀ (l:List Nat) (s:List Bool),l.Nodup->(∀ v∈l,s[v]?=some false)->∃ t,jkh s l=some t/\t.length=s.length/\∀ i,t[i]?=if i∈l then some true else s[i]?
 | [],s,_,_=>⟨s,rfl,rfl,fun i=>by simp⟩
 | v::l,s,hd,hf=>by
  have hv:=hf v (by simp)
  have hlt:v<s.length:=by
   rcases f0k v s.length with h | h
   ·exact h
   ·rw[f0p h] at hv;cases hv
  obtain⟨hn,hd'⟩:=f04.1 hd
  obtain⟨t,h1,h2,h3⟩:=j83 l (s.set v true) hd' (fun u hu=>by
   have hne:v≠u:=fun e=>hn (e▸hu)
   rw[f15 hne];exact hf u (by simp[hu]))
  refine⟨t,by unfold jkh;rw[if_neg (by rw[hv];simp)];exact h1,by rw[h2,f2b],fun i=>?_⟩
  rw[h3]
  by_cases e:i=v
  ·subst e
   rw[if_neg hn,if_pos (by simp),List.getElem?_set_self hlt]
  ·by_cases h:i∈l
   ·rw[if_pos h,if_pos (by simp[h])]
   ·rw[if_neg h,if_neg (by simp[e,h]),f15 (fun x=>e x.symm)]
theorem j2j {f:Fc} (h:(jdb f.blocks).Perm (List.range f.values.length)):jpp f=0:=by
 have hm:∀ v,v∈jdb f.blocks↔v<f.values.length:=fun v=>by rw[h.mem_iff,f2g]
 obtain⟨t,h1,h2,h3⟩:=j83 (jdb f.blocks) (List.replicate f.values.length false) (h.nodup_iff.2 List.nodup_range) (fun v hv=>by rw[f3h,if_pos ((hm v).1 hv)])
 unfold jpp
 rw[h1]
 rw[f3a] at h2
 have:false∉t:=fun hf=>by
  obtain⟨i,hi⟩:=f2m hf
  have hlt:i<t.length:=by
   rcases f0k i t.length with h | h
   ·exact h
   ·rw[f0p h] at hi;cases hi
  rw[h3,if_pos ((hm i).2 (by omega))] at hi
  cases hi
 simp only[this,if_false]
def S7 (f:FuncId):Bool:=Nat.beq f 33
noncomputable def F7:Fns:=PX S7 F6
theorem qxs {A:Nat->Int}:Env Try.prog A tys F7:=jgg qxr
theorem no7 {f:FuncId} (h1:S1 f=false) (h2:Nat.beq f jfg.f=false) (h3:S3 f=false) (h4:S4 f=false) (h5:S5 f=false) (h6:S6 f=false) (h7:S7 f=false) {h:Hp}:jcm F7 f vs h=none:=(jbi h7).trans (no6 h1 h2 h3 h4 h5 h6)
theorem qxt {f:FuncId} (h4:S4 f=false) (h5:S5 f=false) (h6:S6 f=false) (h7:S7 f=false) {h:Hp}:jcm F7 f vs h=jcm F3 f vs h:=(jbi h7).trans ((jbi h6).trans ((jbi h5).trans (jbi h4)))
section
variable {h:Hp} {f:Fc} {m:Nat×Nat} {Q:AV->Hp->Prop}
theorem qqg (k:FcOk m f) (m1:2<=m.1/\m.1<=10) (m2:2<=m.2/\m.2<=10):jcm F7 33 [.agg [jah jaq f.values,jah ja1 f.blocks],.agg [si m.1,si m.2]] h=some (vi (jpp f),h) :=
 jbd rfl (by simp only[jat,jaz,ja6,jb0,ja0,ja7,ja4,jbk,ja8,jbe,if_true]) (qjt jdo k m1 m2)
end
theorem qbi {h:Hp} (ok:Ok h) {b:Nat} (hb:1<=b) (x:Option AB):∃ hA,h.put b x=hA/\Ok hA/\hA.next=h.next/\hA.get b=x/\∀ n,n≠b->hA.get n=h.get n :=
 ⟨_,rfl,jad ok,Hp.next_put ..,by rw[jam ok hb,if_pos rfl],fun n hn=>by rw[jam ok hb,if_neg hn]⟩
theorem jl7 {c L i:Nat} {ex:Bool} (hi:i<L):jwg 1 (.s (.slice c 0 L L ex 1)) (vi (i:Int))=some (.s (.ptr c i)):=by
 rw[jbg hi]
 simp
theorem qqh (x:SV):∀ n,rep [x] n=(List.replicate n [x]).flatten
 | 0=>rfl
 | n+1=>by
  have h:rep [x] (n+1)=jgo [x] (rep [x] n):=rfl
  rw[h,jdd,qqh x n];rfl
end Go.Proofs.Ytehhjbfmjdlcjaa.Ev
