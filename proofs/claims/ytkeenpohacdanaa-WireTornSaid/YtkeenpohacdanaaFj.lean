/- A writer of bytes: a whole script. -/
import Derived.Test.YtkeenpohacdanaaFd
import Derived.Test.YtkeenpohacdanaaMc4
namespace Go.Proofs.Ytkeenpohacdanaa.Ev
open Go Go.RowKit Go.Proofs.Ytkeenpohacdanaa.Ms
attribute [local go_sem] Int.reduceToNat reduceCtorEq Nat.reduceAdd Nat.reduceMul Nat.reduceEqDiff Int.reduceEq Int.reduceLT Int.reduceLE Int.reduceNeg Int.reduceAdd Int.reduceSub Int.reduceMul Int.reduceNe
attribute [local go_sem ↓] reduceIte
set_option linter.all false
set_option maxRecDepth 100000
set_option maxHeartbeats 2000000
def jmo (s:Scr):List SV:=[si s.m1,si s.m2,jae jav s.f.values,jae ja4 s.f.blocks,si s.seed,si s.steps,jae jav s.junk]
theorem Wrn.out {h:Hp} {p:Nat} {ns:List Nat} (n:Nat) (h0:n<h.next) (hn:n∉p::ns) {h':Hp} {ns':List Nat} (m:Mv h h' (p::ns) (p::ns')):n<h'.next/\n∉p::ns':=⟨f0o h0 m.nx,fun hc=>by
 rcases m.new n hc with h1 | h1
 .exact hn h1
 .omega⟩
theorem WrS.fresh {h:Hp} {p:Nat} {ws ns:List Nat} (w:WrS h p ws ns):h.next∉p::ns:=fun hc=>by
 rcases f0f.1 hc with h1 | h1
 .have:=w.p1.2;omega
 .have:=w.lt _ h1;omega
section
variable {F:Fns} (f:WrF F) {p:Nat} {Q:Ex->St->Prop}
include f
theorem qft {l:List Nat} (hl:l.length<=10000) {x0 x1 x2 x3 x4 x5 x6 x7 x8 x9 x10 x11 x12 x13 x14 x15 x16 x17 x24 x25 x26:AV} :
 ∀ (d i:Nat) (_:i+d=l.length) {hi:Hp} {ws ns:List Nat} (_:WrS hi p ws ns) (_:ws.length+4*d<=40000) {x18 x20:AV}
  (hQ:∀ hj ns' x18 x20,WrS hj p (ws++((l.drop i).map jct).flatten) ns'->Mv hi hj (p::ns) (p::ns')->Q (.exit 0) (.mk [x0,x1,x2,x3,x4,x5,x6,x7,x8,x9,x10,x11,x12,x13,x14,x15,x16,x17,x18,.s (jae jav l),x20,vi l.length,vi l.length,.s (.ptr p 0),x24,x25,x26] hj)),
  W F jnx.loop (.mk [x0,x1,x2,x3,x4,x5,x6,x7,x8,x9,x10,x11,x12,x13,x14,x15,x16,x17,x18,.s (jae jav l),x20,vi l.length,vi i,.s (.ptr p 0),x24,x25,x26] hi) Q
 | 0,i,hd,hi,ws,ns,w,hw,x18,x20,hQ=>by
  obtain rfl:i=l.length:=by omega
  rw[jag]
  unfold jnx
  have ok:=w.ok
  simp(disch:=first|omega|rfl) only[go_sem,f0r]
  exact hQ hi ns _ _ (by rw[f20];simpa using w) (Mv.refl ok)
 | d+1,i,hd,hi,ws,ns,w,hw,x18,x20,hQ=>by
  have hil:i<l.length:=by omega
  have hlt:(i:Int)<(l.length:Int):=by omega
  have hss:(i:Int)+1=((i+1:Nat):Int):=by omega
  obtain⟨n,hn⟩:∃ n,l[i]?=some n:=⟨_,f0b hil⟩
  have hdr:l.drop i=n::l.drop (i+1):=by rw[f1c hil,(f02.1 hn).2]
  have hix:=jai (enc:=jav) (size:=1) hn rfl
  have ok:=w.ok
  rw[jag]
  unfold jnx j3h
  simp(disch:=first|omega|rfl) only[go_sem,jad,eq_true hlt,hix,jav]
  refine WC.imp (j04 f w (n:=n) (by omega)) ?_
  rintro v hB ⟨n1,w1,m1⟩
  have okB:=w1.ok
  simp(disch:=first|omega|rfl) only[go_sem,jad,hss]
  exact qft hl d (i+1) (by omega) w1 (by rw[f0j];show ws.length+4+4*d<=40000;omega) (fun hj ns' x18 x20 w' m'=>hQ hj ns' x18 x20 (by rw[hdr,f1f,f03,←f0i];exact w') (m1.trans m'))
theorem qfu {l:List Ms.Ins} (hl:l.length<=10000) (hok:∀ x∈l,OkI x) {x0 x1 x2 x3 x4 x5 x6 x7 x13 x14 x15 x16 x17 x18 x19 x20 x21 x22 x24 x25 x26:AV} :
 ∀ (d i:Nat) (_:i+d=l.length) {hi:Hp} {ws ns:List Nat} (_:WrS hi p ws ns) (_:ws.length+(((l.drop i).map jis).flatten).length<=30000) {x8 x10:AV}
  (hQ:∀ hj ns' x8 x10,WrS hj p (ws++byt ((l.drop i).map jis).flatten) ns'->Mv hi hj (p::ns) (p::ns')->Q (.exit 4) (.mk [x0,x1,x2,x3,x4,x5,x6,x7,x8,.s (jae jd6 l),x10,vi l.length,vi l.length,x13,x14,x15,x16,x17,x18,x19,x20,x21,x22,.s (.ptr p 0),x24,x25,x26] hj)),
  W F jny.loop (.mk [x0,x1,x2,x3,x4,x5,x6,x7,x8,.s (jae jd6 l),x10,vi l.length,vi i,x13,x14,x15,x16,x17,x18,x19,x20,x21,x22,.s (.ptr p 0),x24,x25,x26] hi) Q
 | 0,i,hd,hi,ws,ns,w,hw,x8,x10,hQ=>by
  obtain rfl:i=l.length:=by omega
  rw[jag]
  unfold jny
  have ok:=w.ok
  simp(disch:=first|omega|rfl) only[go_sem,f0r]
  exact hQ hi ns _ _ (by rw[f20];simpa[byt] using w) (Mv.refl ok)
 | d+1,i,hd,hi,ws,ns,w,hw,x8,x10,hQ=>by
  have hil:i<l.length:=by omega
  have hlt:(i:Int)<(l.length:Int):=by omega
  have hss:(i:Int)+1=((i+1:Nat):Int):=by omega
  obtain⟨x,hx⟩:∃ n,l[i]?=some n:=⟨_,f0b hil⟩
  have hdr:l.drop i=x::l.drop (i+1):=by rw[f1c hil,(f02.1 hx).2]
  have hix:=jai (enc:=jd6) (size:=3) hx rfl
  have ok:=w.ok
  obtain⟨hA,eA,okA,nA,xA,gA⟩:=jb5 ok [.int .i64 0,.nilSlice,.nilSlice] (jd6 x) 44
  have wA:=w.keep okA gA (by omega)
  rw[hdr,f1f,f03,f0j] at hw
  have eA':=eA
  have xA':=xA
  unfold jd6 at xA eA
  rw[jag]
  unfold jny j3i
  simp(disch:=first|omega|rfl) only[go_sem,jad,eq_true hlt,hix,jd6,eA,xA]
  refine WC.imp (qjr f wA (hok x (f0c hx)) (by omega)) ?_
  rintro v hB ⟨n1,w1,m1⟩
  have okB:=w1.ok
  simp(disch:=first|omega|rfl) only[go_sem,jad,hss]
  exact qfu hl hok d (i+1) (by omega) w1 (by rw[f0j,jfk];omega) (fun hj ns' x8 x10 w' m'=>hQ hj ns' x8 x10 (by rw[hdr,f1f,f03,jfj,←f0i];exact w') ((Mv.low okA (by omega) gA _).trans (m1.trans m')))
theorem qfv {l:List Ms.Edg} (hl:l.length<=10000) {x0 x1 x2 x8 x9 x10 x11 x12 x13 x14 x15 x16 x17 x18 x19 x20 x21 x22 x24 x25 x26:AV} :
 ∀ (d i:Nat) (_:i+d=l.length) {hi:Hp} {ws ns:List Nat} (_:WrS hi p ws ns) (_:ws.length+(((l.drop i).map jnh).flatten).length<=30000) {x3 x5:AV}
  (hQ:∀ hj ns' x3 x5,WrS hj p (ws++byt ((l.drop i).map jnh).flatten) ns'->Mv hi hj (p::ns) (p::ns')->Q (.exit 6) (.mk [x0,x1,x2,x3,.s (jae jgf l),x5,vi l.length,vi l.length,x8,x9,x10,x11,x12,x13,x14,x15,x16,x17,x18,x19,x20,x21,x22,.s (.ptr p 0),x24,x25,x26] hj)),
  W F jnz.loop (.mk [x0,x1,x2,x3,.s (jae jgf l),x5,vi l.length,vi i,x8,x9,x10,x11,x12,x13,x14,x15,x16,x17,x18,x19,x20,x21,x22,.s (.ptr p 0),x24,x25,x26] hi) Q
 | 0,i,hd,hi,ws,ns,w,hw,x3,x5,hQ=>by
  obtain rfl:i=l.length:=by omega
  rw[jag]
  unfold jnz
  have ok:=w.ok
  simp(disch:=first|omega|rfl) only[go_sem,f0r]
  exact hQ hi ns _ _ (by rw[f20];simpa[byt] using w) (Mv.refl ok)
 | d+1,i,hd,hi,ws,ns,w,hw,x3,x5,hQ=>by
  have hil:i<l.length:=by omega
  have hlt:(i:Int)<(l.length:Int):=by omega
  have hss:(i:Int)+1=((i+1:Nat):Int):=by omega
  obtain⟨x,hx⟩:∃ n,l[i]?=some n:=⟨_,f0b hil⟩
  have hdr:l.drop i=x::l.drop (i+1):=by rw[f1c hil,(f02.1 hx).2]
  have hix:=jai (enc:=jgf) (size:=2) hx rfl
  have ok:=w.ok
  obtain⟨hA,eA,okA,nA,xA,gA⟩:=jb5 ok [.int .i64 0,.nilSlice] (jgf x) 73
  have wA:=w.keep okA gA (by omega)
  have fA:=w.fresh
  rw[hdr,f1f,f03,f0j] at hw
  have hxl:(jnh x).length=2+x.args.length:=by show(x.block::x.args.length::x.args).length=_;simp;omega
  unfold jgf at xA eA
  rw[jag]
  unfold jnz j3j
  simp(disch:=first|omega|rfl) only[go_sem,jad,eq_true hlt,hix,jgf,eA,xA]
  refine WC.imp (wsb f wA (l:=[x.block]) (by simp;omega)) ?_
  rintro v hB ⟨n1,w1,m1⟩
  have okB:=w1.ok
  have xB:=(m1.keep hi.next (by omega) fA).trans xA
  simp(disch:=first|omega|rfl) only[go_sem,xB]
  refine WC.imp (j03 f w1 (l:=x.args) (by rw[f0j,jfk];show ws.length+1+_+1<=_;omega)) ?_
  rintro v hC ⟨n2,w2,m2⟩
  have okC:=w2.ok
  simp(disch:=first|omega|rfl) only[go_sem,jad,hss]
  have e2:(ws++byt [x.block])++byt (jri x.args)=ws++byt (jnh x):=by rw[f0i,←jfj];rfl
  rw[e2] at w2
  exact qfv hl d (i+1) (by omega) w2 (by rw[f0j,jfk];omega) (fun hj ns' x3 x5 w' m'=>hQ hj ns' x3 x5 (by rw[hdr,f1f,f03,jfj,←f0i];exact w') ((Mv.low okA (by omega) gA _).trans (m1.trans (m2.trans m'))))
theorem qfw {l:List Ms.Blk} (hl:l.length<=10000) (hok:∀ b∈l,OkB b) {x0 x1 x2 x18 x19 x20 x21 x22 x24 x25 x26:AV} :
 ∀ (d i:Nat) (_:i+d=l.length) {hi:Hp} {ws ns:List Nat} (_:WrS hi p ws ns) (_:ws.length+(((l.drop i).map j5d).flatten).length<=30000) {x3 x4 x5 x6 x7 x8 x9 x10 x11 x12 x13 x15:AV}
  (hQ:∀ hj ns' x3 x4 x5 x6 x7 x8 x9 x10 x11 x12 x13 x15,WrS hj p (ws++byt ((l.drop i).map j5d).flatten) ns'->Mv hi hj (p::ns) (p::ns')->Q (.exit 2) (.mk [x0,x1,x2,x3,x4,x5,x6,x7,x8,x9,x10,x11,x12,x13,.s (jae ja4 l),x15,vi l.length,vi l.length,x18,x19,x20,x21,x22,.s (.ptr p 0),x24,x25,x26] hj)),
  W F jn0.loop (.mk [x0,x1,x2,x3,x4,x5,x6,x7,x8,x9,x10,x11,x12,x13,.s (jae ja4 l),x15,vi l.length,vi i,x18,x19,x20,x21,x22,.s (.ptr p 0),x24,x25,x26] hi) Q
 | 0,i,hd,hi,ws,ns,w,hw,x3,x4,x5,x6,x7,x8,x9,x10,x11,x12,x13,x15,hQ=>by
  obtain rfl:i=l.length:=by omega
  rw[jag]
  unfold jn0
  have ok:=w.ok
  simp(disch:=first|omega|rfl) only[go_sem,f0r]
  exact hQ hi ns _ _ _ _ _ _ _ _ _ _ _ _ (by rw[f20];simpa[byt] using w) (Mv.refl ok)
 | d+1,i,hd,hi,ws,ns,w,hw,x3,x4,x5,x6,x7,x8,x9,x10,x11,x12,x13,x15,hQ=>by
  have hil:i<l.length:=by omega
  have hlt:(i:Int)<(l.length:Int):=by omega
  have hss:(i:Int)+1=((i+1:Nat):Int):=by omega
  obtain⟨x,hx⟩:∃ n,l[i]?=some n:=⟨_,f0b hil⟩
  have hdr:l.drop i=x::l.drop (i+1):=by rw[f1c hil,(f02.1 hx).2]
  have hix:=jai (enc:=ja4) (size:=3) hx rfl
  have kx:=hok x (f0c hx)
  have ok:=w.ok
  obtain⟨hA,eA,okA,nA,xA,gA⟩:=jb5 ok [.nilSlice,.nilSlice,.nilSlice] (ja4 x) 36
  have wA:=w.keep okA gA (by omega)
  have fA:=w.fresh
  rw[hdr,f1f,f03,f0j] at hw
  have hxl:(j5d x).length=1+x.params.length+(1+((x.instrs.map jis).flatten.length+(1+(x.edges.map jnh).flatten.length))):=by
   unfold j5d jri;simp only[f0j,f04];omega
  have l1:=jah (enc:=jd6) (l:=x.instrs)
  have l2:=jah (enc:=jgf) (l:=x.edges)
  have hni:=kx.ni
  have hne:=kx.ne
  unfold ja4 at xA eA
  rw[jag]
  unfold jn0 j3k
  simp(disch:=first|omega|rfl) only[go_sem,jad,eq_true hlt,hix,ja4,eA,xA]
  refine WC.imp (j03 f wA (l:=x.params) (by omega)) ?_
  rintro v hB ⟨n1,w1,m1⟩
  have okB:=w1.ok
  have xB:=(m1.keep hi.next (by omega) fA).trans xA
  obtain⟨bB,fB⟩:=Wrn.out hi.next (by omega) fA m1
  have e1:(ws++byt (jri x.params)).length=ws.length+(1+x.params.length):=by rw[f0j,jfk];show _+(x.params.length+1)=_;omega
  simp(disch:=first|omega|rfl) only[go_sem,xB,l1]
  refine WC.imp (wsb f w1 (l:=[x.instrs.length]) (by simp only[f04,f1l];omega)) ?_
  rintro v hC ⟨n2,w2,m2⟩
  have okC:=w2.ok
  have xC:=(m2.keep hi.next bB fB).trans xB
  obtain⟨bC,fC⟩:=Wrn.out hi.next bB fB m2
  have e2:((ws++byt (jri x.params))++byt [x.instrs.length]).length=ws.length+(1+x.params.length)+1:=by rw[f0j,e1];rfl
  simp(disch:=first|omega|rfl) only[go_sem,xC,l1]
  refine qfu f (l:=x.instrs) (by omega) kx.i x.instrs.length 0 (by omega) w2 (by rw[e2,f1v];omega) (fun hD n3 x8 x10 w3 m3=>?_)
  rw[f1v] at w3
  have okD:=w3.ok
  have xD:=(m3.keep hi.next bC fC).trans xC
  obtain⟨bD,fD⟩:=Wrn.out hi.next bC fC m3
  have e3:(((ws++byt (jri x.params))++byt [x.instrs.length])++byt (x.instrs.map jis).flatten).length=ws.length+(1+x.params.length)+1+(x.instrs.map jis).flatten.length:=by rw[f0j,e2,jfk]
  simp(disch:=first|omega|rfl) only[go_sem,xD,l2]
  refine WC.imp (wsb f w3 (l:=[x.edges.length]) (by simp only[f04,f1l];omega)) ?_
  rintro v hE ⟨n4,w4,m4⟩
  have okE:=w4.ok
  have xE:=(m4.keep hi.next bD fD).trans xD
  have e4:((((ws++byt (jri x.params))++byt [x.instrs.length])++byt (x.instrs.map jis).flatten)++byt [x.edges.length]).length=ws.length+(1+x.params.length)+1+(x.instrs.map jis).flatten.length+1:=by rw[f0j,e3];rfl
  simp(disch:=first|omega|rfl) only[go_sem,xE,l2]
  refine qfv f (l:=x.edges) (by omega) x.edges.length 0 (by omega) w4 (by rw[e4,f1v];omega) (fun hG n5 x3 x5 w5 m5=>?_)
  rw[f1v] at w5
  have okG:=w5.ok
  have e5:((((ws++byt (jri x.params))++byt [x.instrs.length])++byt (x.instrs.map jis).flatten)++byt [x.edges.length])++byt (x.edges.map jnh).flatten=ws++byt (j5d x):=by
   simp only[f0i,←jfj];rfl
  rw[e5] at w5
  simp(disch:=first|omega|rfl) only[go_sem,jad,hss]
  exact qfw hl hok d (i+1) (by omega) w5 (by rw[f0j,jfk];omega) (fun hj ns' x3 x4 x5 x6 x7 x8 x9 x10 x11 x12 x13 x15 w' m'=>hQ hj ns' x3 x4 x5 x6 x7 x8 x9 x10 x11 x12 x13 x15 (by rw[hdr,f1f,f03,jfj,←f0i];exact w') ((Mv.low okA (by omega) gA _).trans (m1.trans (m2.trans (m3.trans (m4.trans (m5.trans m')))))))
end
set_option maxHeartbeats 4000000
noncomputable def qv5 (h:Hp) (n size:Nat) (x:Option AV):R:=ob x (fun v=>jrl v (fun b o=>ob (rd h b o (Nat.mul n size)) (fun _=>ok (.s (.slice b o n n true size)) h)))
theorem qqc {st fr:List AV} {h:Hp} {n size:Nat} {x:Od}:jdy st fr h (.slicea n size x)=qv5 h n size (ev st fr x):=rfl
theorem qjs {h:Hp} {n size b o:Nat} {row:List SV} (hr:rdB (h.get b) o (n*size)=some row):qv5 h n size (some (.s (.ptr b o)))=some (.s (.slice b o n n true size),h):=by
 show ob (rdB (h.get b) o (n*size)) (fun _=>some (AV.s (.slice b o n n true size),h))=_
 rw[hr];rfl
def jni (n:Nat):List SV:=[.int .u8 n]
def qse (l:List Nat):AV:=.tup [(false,[jae jni l]),(false,[si 0])]
theorem qjt {h:Hp} {x:SV} {l ns:List Nat} (k:Sl h 5 1 false EY x l ns):jg1 true h 3 (.tup [(false,[x]),(false,[.int .i64 0])])=some (qse l):=by
 show ob (ob (jio (jjl true h 3) [x]) (fun x=>ob (qep (jjl true h 3) [(false,[.int .i64 0])]) (fun r=>some ((false,x)::r)))) (fun y=>some (AV.tup y))=_
 rw[qcx (k.frz (enc:=jni) (fun _ _ _ e=>by obtain⟨rfl,_⟩:=e;rfl) (fun _=>rfl))]
 rfl
theorem qju {F:Fns} (f:WrF F) {h:Hp} (ok:Ok h) {s:Scr} (k:OkS s) (hb:(jst s).length<=20000) (hC:∀ h Q,WC F 30 [.agg (jmo s)] h Q=Q (vi 0) h):WC F 16 [.agg (jmo s)] h (fun v h'=>∃ d,jg1 true h' d v=some (qse (byt (jst s)))):=by
 refine jax (f.x _ rfl _ _) ((congrFun f.t _).trans qp9) rfl ?_
 unfold j94
 obtain⟨hA,eA,okA,nA,xA,gA⟩:=jd4 ok (jmo s) 55
 have hlen:(jst s).length=2+(4+(4+(1+((s.junk.map jct).flatten.length+(1+s.f.values.length+(1+(s.f.blocks.map j5d).flatten.length)))))):=by
  unfold jst jri jct;simp only[f0j,f04,f1l];omega
 have hjl:(s.junk.map jct).flatten.length=4*s.junk.length:=by
  generalize s.junk=q
  induction q with
  | nil=>rfl
  | cons a q ih=>rw[f1f,f03,f0j,ih];show 4+_=4*(q.length+1);omega
 have hnj:=k.nj
 have hnb:=k.nb
 have hpos:=ok.pos
 obtain⟨hB,eB,okB,nB,xB,gB⟩:=jd4 okA [.nilSlice] 82
 have w0:WrS hB hA.next [] []:=⟨okB,⟨_,xB,.nil⟩,⟨by omega,by omega⟩,by simp,by simp⟩
 have zA:=(gB h.next (by omega)).trans xA
 have a0:h.next∉[hA.next]:=by simp;omega
 have lj:=jah (enc:=jav) (l:=s.junk)
 have lb:=jah (enc:=ja4) (l:=s.f.blocks)
 unfold jmo at eA zA
 rw[nA] at w0 a0 xB
 have hC':=hC
 unfold jmo at hC' ⊢
 simp(disch:=first|omega|rfl) only[go_sem,eA,xA,jmo,hC']
 unfold j3l
 have hrow:rdB (hB.get h.next) 0 (2*1)=some [si s.m1,si s.m2]:=by rw[zA];rfl
 simp(disch:=first|omega|rfl) only[go_sem,nA,eB,qqc,qjs hrow]
 have sc:∀ {hj:Hp} {n1:List Nat},h.next<hj.next/\h.next∉(h.next+1)::n1->∀ {hk:Hp} {n2:List Nat},Mv hj hk ((h.next+1)::n1) ((h.next+1)::n2)->h.next<hk.next/\h.next∉(h.next+1)::n2:=by intro hj n1 g hk n2 m;exact Wrn.out h.next g.1 g.2 m
 refine WC.imp (j02 f w0 (l:=[s.m1,s.m2]) (.inr ⟨h.next,0,2,true,_,_,rfl,zA,by omega,a0,fun i n hi=>by
  match i,hi with
  | 0,hi=>cases hi;rfl
  | 1,hi=>cases hi;rfl⟩) (by simp)) ?_
 rintro v h1 ⟨n1,w1,m1⟩
 have ok1:=w1.ok
 have b1:=sc ⟨by omega,a0⟩ m1
 have z1:=(m1.keep h.next (by omega) a0).trans zA
 simp(disch:=first|omega|rfl) only[go_sem,z1]
 refine WC.imp (j04 f w1 (n:=s.seed) (by simp[byt])) ?_
 rintro v h2 ⟨n2,w2,m2⟩
 have ok2:=w2.ok
 have b2:=sc b1 m2
 have z2:=(m2.keep h.next b1.1 b1.2).trans z1
 simp(disch:=first|omega|rfl) only[go_sem,z2]
 refine WC.imp (j04 f w2 (n:=s.steps) (by simp[byt,jct])) ?_
 rintro v h3 ⟨n3,w3,m3⟩
 have ok3:=w3.ok
 have b3:=sc b2 m3
 have z3:=(m3.keep h.next b2.1 b2.2).trans z2
 simp(disch:=first|omega|rfl) only[go_sem,z3,lj]
 refine WC.imp (wsb f w3 (l:=[s.junk.length]) (by simp[byt,jct])) ?_
 rintro v h4 ⟨n4,w4,m4⟩
 have ok4:=w4.ok
 have b4:=sc b3 m4
 have z4:=(m4.keep h.next b3.1 b3.2).trans z3
 simp(disch:=first|omega|rfl) only[go_sem,z4,lj]
 refine qft f (l:=s.junk) (by omega) s.junk.length 0 (by omega) w4 (by simp[byt,jct];omega) (fun h5 n5 x18 x20 w5 m5=>?_)
 rw[f1v] at w5
 have ok5:=w5.ok
 have b5:=sc b4 m5
 have z5:=(m5.keep h.next b4.1 b4.2).trans z4
 simp(disch:=first|omega|rfl) only[go_sem,z5]
 have q5:([]++byt [s.m1,s.m2]++jct s.seed++jct s.steps++byt [s.junk.length]++(s.junk.map jct).flatten).length=11+(s.junk.map jct).flatten.length:=by simp[byt,jct];omega
 refine WC.imp (j03 f w5 (l:=s.f.values) (by rw[q5];omega)) ?_
 rintro v h6 ⟨n6,w6,m6⟩
 have ok6:=w6.ok
 have b6:=sc b5 m6
 have z6:=(m6.keep h.next b5.1 b5.2).trans z5
 simp(disch:=first|omega|rfl) only[go_sem,z6,lb]
 have q6:([]++byt [s.m1,s.m2]++jct s.seed++jct s.steps++byt [s.junk.length]++(s.junk.map jct).flatten++byt (jri s.f.values)).length=11+(s.junk.map jct).flatten.length+(1+s.f.values.length):=by rw[f0j,q5,jfk];show _+(s.f.values.length+1)=_;omega
 refine WC.imp (wsb f w6 (l:=[s.f.blocks.length]) (by rw[q6];show _+1<=_;omega)) ?_
 rintro v h7 ⟨n7,w7,m7⟩
 have ok7:=w7.ok
 have b7:=sc b6 m7
 have z7:=(m7.keep h.next b6.1 b6.2).trans z6
 simp(disch:=first|omega|rfl) only[go_sem,z7,lb]
 refine qfw f (l:=s.f.blocks) (by omega) k.b s.f.blocks.length 0 (by omega) w7 (by rw[f0j,q6,f1v];show _+1+_<=_;omega) (fun h8 n8 x3 x4 x5 x6 x7 x8 x9 x10 x11 x12 x13 x15 w8 m8=>?_)
 rw[f1v] at w8
 have ok8:=w8.ok
 obtain⟨x,p1,p2⟩:=w8.ex
 simp(disch:=first|omega|rfl) only[go_sem,p1]
 have wd:∀ n,byt (jct n)=jct n:=fun n=>j97 (fun m hm=>by
  unfold jct at hm
  simp only[f0f,f1o,or_false] at hm
  omega)
 have wj:byt (s.junk.map jct).flatten=(s.junk.map jct).flatten:=by
  generalize s.junk=q
  induction q with
  | nil=>rfl
  | cons a q ih=>rw[f1f,f03,jfj,wd,ih]
 have e:[]++byt [s.m1,s.m2]++jct s.seed++jct s.steps++byt [s.junk.length]++(s.junk.map jct).flatten++byt (jri s.f.values)++byt [s.f.blocks.length]++byt (s.f.blocks.map j5d).flatten=byt (jst s):=by
  rw[←wd s.seed,←wd s.steps,←wj]
  simp only[f1g,←jfj,f0i]
  rfl
 rw[e] at p2
 exact⟨3,qjt p2⟩
open Go Go.RowKit
variable {x1:AV} {Q:Ex->St->Prop} {cf:FuncId} {h':Hp} {a b n:Nat}
def j98:IC:=.seq (.block 1 (qr [qP (.ixs 1 (.g 4) (.g 7)),qL,qT 3] (qr [qM 3,qP (.bin .lt qa (qC 0)),qP (.mv qa),qR 0 false (.mv (.g 3)),qR 1 false (.bin .gt qa (qC 1073741824)),qQ 2 (.pick qc (.c (.s (.bool true))) qa)] (.cond (.g 2) (qr [qQ 1 (.mv (qC 2))] .ret) .skip)))) (.region [qI 7,qT 7])
def jvv:IC:=qr [qQ 5 (.bin .lt (.g 7) (.g 6))] (.seq (qX 5 0) j98)
def j99:IC:=.seq (qr [qF 6 12,qB 4 (.load 1 false qa),qQ 6 (.len qa),qQ 7 (.mv (qC 0))] (.block 0 (.loop jvv))) (qr [qQ 1 (.mv (qC 0))] .ret)
def qaa:IC:=.seq (qr [qF 6 12,qL,qP (.len qa),qQ 8 (.bin .gt qa (qC 64))] (.cond (.g 8) (qr [qQ 1 (.mv (qC 1))] .ret) .skip)) j99
def qab:IC:=.seq (qr [qF 4 12,qL,qP (.bin .lt qa (qC 0)),qP (.mv qa),qR 0 false (.fld 4 (.g 12)),qS 1 false (.load 1 false qa),qR 2 false (.bin .gt qa (qC 1073741824)),qP (.pick qd (.c (.s (.bool true))) qa),qP (.mv qa),qR 0 false (.fld 5 (.g 12)),qS 1 false (.load 1 false qa),qR 2 false (.bin .lt qa (qC 0)),qP (.pick qd (.c (.s (.bool true))) qa),qP (.mv qa),qR 0 false (.fld 5 (.g 12)),qS 1 false (.load 1 false qa),qR 2 false (.bin .gt qa (qC 5000)),qQ 9 (.pick qd (.c (.s (.bool true))) qa)] (.cond (.g 9) (qr [qQ 1 (.mv (qC 2))] .ret) .skip)) qaa
def qfx:IC:=qr [qB 12 (.box 55 (.g 0)),qQ 1 (.mv (qC 0))] (.seq (qr [qF 2 12,qK 2,qF 0 12,qK 2,qA (.call 13 [qc,qa]),qT 11] (qr [qM 11,qQ 10 (.bin .ne qa (qC 0))] (.cond (.g 10) (qr [qM 11,qT 1] .ret) .skip))) qab)
theorem qua:T 30=some (.mk qfx 1 12 [(.tmp 1)]):=by kernel_rfl
def qjv:IC:=.seq (.block 1 (.draw [(qF 6 7,.none),(qL,.some []),(qM 5,.none),(qM 9,.none),(qP (.ixs 1 qb qa),.none),(qL,.some [3]),(qA (.call 19 [qa,qC 1073741824]),.some [4]),(qA (.bslice 3 1 [.int .i64 0] 1 [(0,(1,qa))]),.some [5]),(qA (.app 3 1 8 (.l 6) qa),.none),(qF 6 7,.none),(qA (.store 1 qa qb),.none)])) (.region [qM 9,qP (.bin .add qa (qC 1)),qT 9])
def qac:IC:=.seq (qr [qM 9,qM 5,qP (.len qa),qP (.bin .lt qc qa),qP (.mv qa),qR 0 true (.mv (.g 9)),qR 1 true (.bin .lt qa (qC 64)),qQ 8 (.pick qc qa (.c (.s (.bool false))))] (qX 8 0)) qjv
def qfy:IC:=qr [qB 6 (.new 55 [.int .i64 0,.int .i64 0,.nilSlice,.nilSlice,.int .i64 0,.int .i64 0,.nilSlice])] (qr [qM 0,qM 1,qA (.call 9 [qb,qa]),qB 10 (.new 30 [.int .i64 0,.int .i64 0]),qA (.store 2 qa qb)] (.seq (.draw [(qA (.load 2 true (.g 10)),.some []),(qA (.load 2 true (.g 10)),.some [0]),(qM 2,.none),(qA (.call 8 [qb,qa]),.some [2]),(qM 3,.none),(qA (.call 19 [qa,qC 1073741824]),.some [4]),(qM 4,.none),(qA (.call 19 [qa,qC 400]),.some [6]),(qP (.build [.int .i64 0,.int .i64 0,.nilSlice,.nilSlice,.int .i64 0,.int .i64 0,.nilSlice] [(0,(2,.l 7)),(2,(2,.l 4)),(4,(1,qc)),(5,(1,qa))]),.none),(qB 7 (.new 55 [.int .i64 0,.int .i64 0,.nilSlice,.nilSlice,.int .i64 0,.int .i64 0,.nilSlice]),.some [1,3,5,7,8]),(qA (.store 7 qa qb),.none)]) (.seq (qr [qQ 9 (.mv (qC 0))] (.block 0 (.loop qac))) (qr [qA (.load 7 true (.g 7)),qA (.store 7 (.g 6) qa)] .ret))))
theorem qub:T 15=some (.mk qfy 6 5 [(.cell 6 7 true)]):=by kernel_rfl
theorem qfz {F:Fns} {l:List Nat} (hl:l.length<=64) (hj:∀ n∈l,n<=1073741824) {x0 x8 x9 x10 x11 x12:AV} :
 ∀ (d i:Nat) (_:i+d=l.length) {hi:Hp} (_:Ok hi) {x2 x3 x5:AV}
  (hQ:∀ x2 x3 x5,Q (.exit 0) (.mk [x0,x1,x2,x3,.s (jae jav l),x5,vi l.length,vi l.length,x8,x9,x10,x11,x12] hi)),
  W F jvv.loop (.mk [x0,x1,x2,x3,.s (jae jav l),x5,vi l.length,vi i,x8,x9,x10,x11,x12] hi) Q
 | 0,i,hd,hi,ok,x2,x3,x5,hQ=>by
  obtain rfl:i=l.length:=by omega
  rw[jag]
  unfold jvv
  simp(disch:=first|omega|rfl) only[go_sem,f0r]
  exact hQ _ _ _
 | d+1,i,hd,hi,ok,x2,x3,x5,hQ=>by
  have hil:i<l.length:=by omega
  have hlt:(i:Int)<(l.length:Int):=by omega
  have hss:(i:Int)+1=((i+1:Nat):Int):=by omega
  obtain⟨n,hn⟩:∃ n,l[i]?=some n:=⟨_,f0b hil⟩
  have hix:=jai (enc:=jav) (size:=1) hn rfl
  have hn2:=hj n (f0c hn)
  have c1:((n:Int)<0)=False:=eq_false (by omega)
  have c2:(1073741824<(n:Int))=False:=eq_false (by omega)
  rw[jag]
  unfold jvv j98
  simp(disch:=first|omega|rfl) only[go_sem,jad,eq_true hlt,hix,jav,c1,c2,hss]
  exact qfz hl hj d (i+1) (by omega) ok hQ
theorem qjw {F:Fns} (hX:∀ vs h,jdg F 30 vs h=none) (hT:qb6 F=T) {h:Hp} (ok:Ok h) {s:Scr} (hK:∀ h Q,WC F 13 [.agg [jae jav s.f.values,jae ja4 s.f.blocks],.agg [si s.m1,si s.m2]] h Q=Q (vi 0) h) (h1:s.seed<=1073741824) (h2:s.steps<=5000) (h3:s.junk.length<=64) (h4:∀ n∈s.junk,n<=1073741824) :
 WC F 30 [.agg (jmo s)] h (fun v h'=>∃ d,jg1 true h' d v=some (vi 0)):=by
 refine jax (hX _ _) ((congrFun hT _).trans qua) rfl ?_
 unfold qfx jmo
 obtain⟨hA,eA,okA,nA,xA,gA⟩:=jd4 ok [si s.m1,si s.m2,jae jav s.f.values,jae ja4 s.f.blocks,si s.seed,si s.steps,jae jav s.junk] 55
 have lj:=jah (enc:=jav) (l:=s.junk)
 have c1:((s.seed:Int)<0)=False:=eq_false (by omega)
 have c2:(1073741824<(s.seed:Int))=False:=eq_false (by omega)
 have c3:((s.steps:Int)<0)=False:=eq_false (by omega)
 have c4:(5000<(s.steps:Int))=False:=eq_false (by omega)
 have c5:(64<(s.junk.length:Int))=False:=eq_false (by omega)
 simp(disch:=first|omega|rfl) only[go_sem,eA,xA,hK]
 unfold qab
 simp(disch:=first|omega|rfl) only[go_sem,xA,c1,c2,c3,c4]
 unfold qaa
 simp(disch:=first|omega|rfl) only[go_sem,xA,lj,c5]
 unfold j99
 simp(disch:=first|omega|rfl) only[go_sem,xA,lj]
 refine qfz h3 h4 s.junk.length 0 (by omega) okA (fun x2 x3 x5=>?_)
 simp(disch:=first|omega|rfl) only[go_sem]
 exact⟨1,rfl⟩
def qad:IC:=qr [qA (.bslice 5 1 [] 0 []),qM 0,qA (.app 5 1 1 qb qa),qT 1] .ret
def qf0:IC:=qr [qQ 1 (.mv (.c (.s .nilSlice)))] (.seq (qr [qM 0,qQ 2 (.snil false qa (.c (.s .nilSlice)))] (.cond (.g 2) (qr [qQ 1 (.mv (.c (.s .nilSlice)))] .ret) .skip)) qad)
theorem quc:T 35=some (.mk qf0 1 2 [(.tmp 1)]):=by kernel_rfl
def qae:IC:=qr [qM 0,qN,qG 0,qL,qP (.ixs 1 qa (qC 0)),qL,qP (.conv .i64 qa),qT 2] (qr [qM 0,qM 0,qN,qG 0,qL,qP (.slice 1 qa (.some (qC 1)) .none),qP (.nchk (.l 5)),qG 0,qA (.store 1 qa qc)] (qr [qM 2,qT 1] .ret))
def qf1:IC:=qr [qQ 1 (.mv (qC 0))] (.seq (qr [qM 0,qN,qG 0,qL,qP (.len qa),qQ 3 (.bin .eq qa (qC 0))] (.cond (.g 3) (qr [qM 0,qN,qG 1,qA (.store 1 qa (.c (.s (.bool true))))] (qr [qQ 1 (.mv (qC 0))] .ret)) .skip)) qae)
theorem qud:T 36=some (.mk qf1 1 3 [(.tmp 1)]):=by kernel_rfl
def qaf:IC:=.seq (.block 1 (.region [qM 2,qP (.bin .shl qa (.c (.s (.int .u64 8)))),qM 0,qA (.call 36 [qa]),qP (.bin .or qc qa),qT 2])) (.region [qI 4,qT 4])
def jvw:IC:=qr [qQ 3 (.bin .lt (.g 4) (qC 4))] (.seq (qX 3 0) qaf)
def qf2:IC:=qr [qQ 1 (.mv (qC 0))] (qr [qQ 2 (.mv (qC 0))] (.seq (qr [qQ 4 (.mv (qC 0))] (.block 0 (.loop jvw))) (qr [qM 2,qT 1] .ret)))
theorem que:T 37=some (.mk qf2 1 4 [(.tmp 1)]):=by kernel_rfl
def qag:IC:=.seq (.block 1 (.region [qM 1,qA (.callv qa [])])) (.region [qM 3,qP (.bin .sub qa (qC 1)),qT 3])
def jqv:IC:=.seq (qr [qM 3,qP (.bin .gt qa (qC 0)),qP (.mv qa),qR 0 true (.mv (.g 0)),qR 1 true (.nchk qa),qR 2 true (.fld 1 qa),qS 3 true (.load 1 false qa),qR 4 true (.not qa),qQ 2 (.pick (.l 5) qa (.c (.s (.bool false))))] (qX 2 0)) qag
def qah:IC:=qr [qM 0,qA (.call 36 [qa]),qT 3] (.block 0 (.loop jqv))
theorem qqd:T 38=some (.mk qah 2 2 []):=by kernel_rfl
def qf3:IC:=qr [qB 3 (.box 87 (.g 0)),qQ 1 (.mv (.c (.s .nilSlice)))] (qr [qB 2 (.new 23 [.nilSlice])] (qr [qA (.load 1 false (.g 3)),qP (.mkfun 61 [.g 2,.g 3]),qA (.call 38 [qb,qa])] (qr [qA (.load 1 false (.g 2)),qT 1] .ret)))
theorem quf:T 40=some (.mk qf3 1 3 [(.tmp 1)]):=by kernel_rfl
def qai:IC:=.seq (.block 1 (qr [qM 0,qA (.call 36 [qa]),qT 11] (qr [qM 11,qP (.bin .and qa (qC 3)),qM 11,qP (.bin .and qa (qC 4)),qP (.bin .ne qa (qC 0)),qM 11,qP (.bin .shr qa (.c (.s (.int .u64 3)))),qM 0,qA (.call 36 [qa]),qP (.build [.int .i64 0,.int .i64 0,.bool false,.int .i64 0,.int .i64 0] [(0,(1,.l 7)),(2,(1,.l 4)),(3,(1,qc)),(1,(1,qa))]),qB 10 (.new 46 [.int .i64 0,.int .i64 0,.bool false,.int .i64 0,.int .i64 0]),qA (.store 5 qa qb)] (qr [qM 0,qA (.call 36 [qa]),qF 4 10,qA (.store 1 qa qb)] (qr [qF 1 9,qL,qA (.load 5 true (.g 10)),qA (.bslice 46 5 [.int .i64 0,.int .i64 0,.bool false,.int .i64 0,.int .i64 0] 1 [(0,(5,qa))]),qA (.app 46 5 40 qc qa),qF 1 9,qA (.store 1 qa qb)] (qr [qM 0,qN,qG 1,qB 8 (.load 1 false qa)] (.cond (.g 8) (.exit 0) .skip))))))) (.region [qI 14,qT 14])
def jvx:IC:=qr [qQ 12 (.bin .lt (.g 14) (.g 13))] (.seq (qX 12 0) qai)
def qaj:IC:=.seq (.block 3 (qr [qM 0,qA (.call 36 [qa]),qT 3] (qr [qF 2 9,qL,qM 3,qP (.bin .shr qa (.c (.s (.int .u64 4)))),qM 3,qP (.bin .and qa (qC 15)),qP (.build [.int .i64 0,.int .i64 0] [(0,(1,qc)),(1,(1,qa))]),qA (.bslice 116 2 [.int .i64 0,.int .i64 0] 1 [(0,(2,qa))]),qA (.app 116 2 16 (.l 6) qa),qF 2 9,qA (.store 1 qa qb)] (qr [qM 0,qN,qG 1,qB 2 (.load 1 false qa)] (.cond (.g 2) (.exit 2) .skip))))) (.region [qI 6,qT 6])
def jvy:IC:=qr [qQ 4 (.bin .lt (.g 6) (.g 5))] (.seq (qX 4 2) qaj)
def qf4:IC:=qr [qB 1 (.new 44 [.int .i64 0,.nilSlice,.nilSlice])] (qr [qM 0,qA (.call 36 [qa]),qP (.build [.int .i64 0,.nilSlice,.nilSlice] [(0,(1,qa))]),qB 9 (.new 44 [.int .i64 0,.nilSlice,.nilSlice]),qA (.store 3 qa qb)] (qr [qM 0,qA (.call 36 [qa]),qT 15] (qr [qM 0,qA (.call 36 [qa]),qT 7] (.seq (qr [qQ 13 (.mv (.g 15)),qQ 14 (.mv (qC 0))] (.block 0 (.loop jvx))) (.seq (qr [qQ 5 (.mv (.g 7)),qQ 6 (.mv (qC 0))] (.block 2 (.loop jvy))) (qr [qA (.load 3 true (.g 9)),qA (.store 3 (.g 1) qa)] .ret))))))
theorem qug:T 63=some (.mk qf4 1 15 [(.cell 1 3 true)]):=by kernel_rfl
def qf5:IC:=qr [qB 3 (.box 87 (.g 0)),qB 1 (.new 36 [.nilSlice,.nilSlice,.nilSlice])] (qr [qA (.load 1 false (.g 3)),qA (.call 40 [qa]),qP (.build [.nilSlice,.nilSlice,.nilSlice] [(0,(1,qa))]),qB 2 (.new 36 [.nilSlice,.nilSlice,.nilSlice]),qA (.store 3 qa qb)] (qr [qA (.load 1 false (.g 3)),qP (.mkfun 62 [.g 3,.g 2]),qA (.call 38 [qb,qa])] (qr [qA (.load 1 false (.g 3)),qP (.mkfun 64 [.g 3,.g 2]),qA (.call 38 [qb,qa])] (qr [qA (.load 3 true (.g 2)),qA (.store 3 (.g 1) qa)] .ret))))
theorem quh:T 42=some (.mk qf5 1 3 [(.cell 1 3 true)]):=by kernel_rfl
def qf6:IC:=qr [qA (.load 1 false (.g 0)),qA (.call 63 [qa]),qB 2 (.new 44 [.int .i64 0,.nilSlice,.nilSlice]),qA (.store 3 qa qb)] (.region [qF 1 1,qL,qA (.load 3 true (.g 2)),qA (.bslice 44 3 [.int .i64 0,.nilSlice,.nilSlice] 1 [(0,(3,qa))]),qA (.app 44 3 56 qc qa),qF 1 1,qA (.store 1 qa qb)])
theorem qui:T 62=some (.mk qf6 2 1 []):=by kernel_rfl
def qf7:IC:=qr [qA (.load 1 false (.g 0)),qA (.call 36 [qa]),qP (.build [.int .i64 0,.nilSlice] [(0,(1,qa))]),qB 2 (.new 73 [.int .i64 0,.nilSlice]),qA (.store 2 qa qb)] (qr [qA (.load 1 false (.g 0)),qA (.call 40 [qa]),qF 1 2,qA (.store 1 qa qb)] (.region [qF 2 1,qL,qA (.load 2 true (.g 2)),qA (.bslice 73 2 [.int .i64 0,.nilSlice] 1 [(0,(2,qa))]),qA (.app 73 2 32 qc qa),qF 2 1,qA (.store 1 qa qb)]))
theorem quj:T 64=some (.mk qf7 2 1 []):=by kernel_rfl
def qf8:IC:=qr [qA (.load 1 false (.g 0)),qA (.call 42 [qa]),qB 2 (.new 36 [.nilSlice,.nilSlice,.nilSlice]),qA (.store 3 qa qb)] (.region [qF 2 1,qG 1,qL,qA (.load 3 true (.g 2)),qA (.bslice 36 3 [.nilSlice,.nilSlice,.nilSlice] 1 [(0,(3,qa))]),qA (.app 36 3 72 qc qa),qF 2 1,qG 1,qA (.store 1 qa qc)])
theorem quk:T 41=some (.mk qf8 2 1 []):=by kernel_rfl
def j3p:IC:=.seq (.block 1 (qr [qM 10,qT 8] (.region [qM 8,qA (.load 1 false (.g 7)),qA (.call 36 [qa]),qF 0 6,qG 0,qP (.ixa 2 1 qa (.l 4)),qA (.store 1 qa qd)]))) (.region [qI 10,qT 10])
def j3q:IC:=qr [qQ 9 (.bin .lt (.g 10) (qC 2))] (.seq (qX 9 0) j3p)
def qdk:IC:=qr [qA (.load 7 true (.g 6)),qA (.store 7 (.g 11) qa),qQ 1 (.mv (qC 0))] .ret
def j3r:IC:=qr [qM 0,qA (.call 35 [qa]),qP (.build [.nilSlice,.bool false] [(0,(1,qa))]),qA (.box 90 qa),qB 7 (.new 87 [.nilPtr]),qA (.store 1 qa qb)] (qr [qB 6 (.new 55 [.int .i64 0,.int .i64 0,.nilSlice,.nilSlice,.int .i64 0,.int .i64 0,.nilSlice])] (.seq (qr [qQ 10 (.mv (qC 0))] (.block 0 (.loop j3q))) (qr [qA (.load 1 false (.g 7)),qA (.call 37 [qa]),qF 4 6,qA (.store 1 qa qb)] (qr [qA (.load 1 false (.g 7)),qA (.call 37 [qa]),qF 5 6,qA (.store 1 qa qb)] (qr [qA (.load 1 false (.g 7)),qP (.mkfun 39 [.g 6,.g 7]),qA (.call 38 [qb,qa])] (qr [qA (.load 1 false (.g 7)),qA (.call 40 [qa]),qF 2 6,qG 0,qA (.store 1 qa qc)] (qr [qA (.load 1 false (.g 7)),qP (.mkfun 41 [.g 7,.g 6]),qA (.call 38 [qb,qa])] (.seq (.block 2 (qr [qA (.load 1 false (.g 7)),qN,qG 1,qL,qT 5] (.cond (.g 5) (qr [qP (.build [.int .i64 0,.int .i64 0,.nilSlice,.nilSlice,.int .i64 0,.int .i64 0,.nilSlice] []),qA (.store 7 (.g 11) qa),qQ 1 (.mv (qC 5))] .ret) (qr [qA (.load 1 false (.g 7)),qN,qG 0,qL,qP (.len qa),qP (.bin .gt qa (qC 0)),qT 4] (.cond (.g 4) (qr [qP (.build [.int .i64 0,.int .i64 0,.nilSlice,.nilSlice,.int .i64 0,.int .i64 0,.nilSlice] []),qA (.store 7 (.g 11) qa),qQ 1 (.mv (qC 4))] .ret) .skip))))) (.seq (qr [qA (.load 7 true (.g 6)),qA (.call 30 [qa]),qT 3] (qr [qM 3,qQ 2 (.bin .ne qa (qC 0))] (.cond (.g 2) (qr [qP (.build [.int .i64 0,.int .i64 0,.nilSlice,.nilSlice,.int .i64 0,.int .i64 0,.nilSlice] []),qM 3,qA (.store 7 (.g 11) qb),qQ 1 (.mv qb)] .ret) .skip))) qdk)))))))))
def qak:IC:=qr [qB 11 (.new 55 [.int .i64 0,.int .i64 0,.nilSlice,.nilSlice,.int .i64 0,.int .i64 0,.nilSlice]),qQ 1 (.mv (qC 0))] (.seq (qr [qM 0,qP (.len qa),qQ 12 (.bin .gt qa (qC 20000))] (.cond (.g 12) (qr [qP (.build [.int .i64 0,.int .i64 0,.nilSlice,.nilSlice,.int .i64 0,.int .i64 0,.nilSlice] []),qA (.store 7 (.g 11) qa),qQ 1 (.mv (qC 1))] .ret) .skip)) j3r)
theorem qqe:T 17=some (.mk qak 1 12 [(.cell 11 7 true),(.tmp 1)]):=by kernel_rfl
theorem j5p {h:Hp} (ok:Ok h) (hb:1<=b) (x:Option AB):∃ hA,h.put b x=hA/\Ok hA/\hA.next=h.next/\hA.get b=x/\∀ n,n≠b->hA.get n=h.get n :=
 ⟨_,rfl,jao ok,Hp.next_put ..,by rw[jaj ok hb,if_pos rfl],fun n hn=>by rw[jaj ok hb,if_neg hn]⟩
structure RdS (h:Hp) (p bb:Nat) (r:Rd):Prop where
 ok:Ok h
 ex:∃ x,h.get p=some (.arr [x,.bool r.2] 90)/\jsg (.s x)=some (vi r.1.length)/\(r.1=[]∨∃ o mc ex cells ty,x=.slice bb o r.1.length mc ex 1/\r.1.length<=mc/\h.get bb=some (.arr cells ty)/\∀ (i n:Nat),r.1[i]?=some n->cells[o+i]?=some (.int .u8 n)/\n<256)
 p1:1<=p/\p<h.next/\bb<h.next/\p≠bb
theorem RdS.keep {h:Hp} {p bb:Nat} {r:Rd} (k:RdS h p bb r) (ok':Ok h') (hk:∀ n,n<h.next->h'.get n=h.get n) (hn:h.next<=h'.next):RdS h' p bb r:=by
 obtain⟨x,h1,h2,h3⟩:=k.ex
 obtain⟨q1,q2,q3,q4⟩:=k.p1
 refine⟨ok',⟨x,(hk p q2).trans h1,h2,?_⟩,⟨q1,by omega,by omega,q4⟩⟩
 rcases h3 with h3 | ⟨o,mc,ex,cells,ty,e,h4,h5,h6⟩
 .exact .inl h3
 .exact .inr ⟨o,mc,ex,cells,ty,e,h4,(hk bb q3).trans h5,h6⟩
noncomputable def qul (size:Nat) (x y:Option AV):Option AV:=ob x (fun v=>jcr v
 (ob (some 0) (fun hi'=>ob (ob y (fun x=>jk6 x (fun _ n=>Int.casesOn (motive:=fun _=>Option Nat) n (fun m=>some m) (fun _=>none)))) (fun lo'=>oif (Nat.beq (Nat.add hi' lo') 0) (some (AV.s .nilSlice)) none)))
 (fun b off len mc ex sz=>ob (some len) (fun hi'=>ob (ob y (fun x=>jk6 x (fun _ n=>Int.casesOn (motive:=fun _=>Option Nat) n (fun m=>some m) (fun _=>none)))) (fun lo' =>
  oif (Nat.ble hi' mc) (oif (Nat.ble lo' hi') (oif (Nat.beq sz size) (some (AV.s (.slice b (Nat.add off (Nat.mul lo' size)) (Nat.sub hi' lo') (Nat.sub mc lo') ex sz))) none) none) none)))
 (fun rows=>ob (some (jcl rows)) (fun hi'=>ob (ob y (fun x=>jk6 x (fun _ n=>Int.casesOn (motive:=fun _=>Option Nat) n (fun m=>some m) (fun _=>none)))) (fun lo' =>
  oif (Nat.ble hi' (jcl rows)) (oif (Nat.ble lo' hi') (oif (jwc size rows) (ob (jbq (Nat.sub hi' lo') (jbv lo' rows)) (fun r=>some (AV.s (.lst r)))) none) none) none)))
 (ob (some 0) (fun hi'=>ob (ob y (fun x=>jk6 x (fun _ n=>Int.casesOn (motive:=fun _=>Option Nat) n (fun m=>some m) (fun _=>none)))) (fun lo'=>oif (Nat.beq (Nat.add hi' lo') 0) (some (AV.s .emp)) none))))
theorem j05 {st fr:List AV} {size:Nat} {x y:Od}:pop st fr (.slice size x (some y) none)=qul size (ev st fr x) (ev st fr y):=rfl
theorem qdl {off mc:Nat} {ex:Bool} (hn:1<=n) (hm:n<=mc):qul 1 (some (AV.s (.slice b off n mc ex 1))) (some (vi 1))=some (AV.s (.slice b (off+1) (n - 1) (mc - 1) ex 1)):=by
 show oif (Nat.ble n mc) (oif (Nat.ble 1 n) (oif (Nat.beq 1 1) (some (AV.s (SV.slice b (Nat.add off (Nat.mul 1 1)) (Nat.sub n 1) (Nat.sub mc 1) ex 1))) none) none) none=_
 rw[show Nat.ble n mc=true from f11 hm,show Nat.ble 1 n=true from f11 hn]
 rfl
theorem qdm (h:n<256):j34 .i64 (n:Int)=some (vi n):=by
 show oif (Nat.ble n 9223372036854775807) (some (AV.s (.int .i64 (n:Int)))) _=_
 rw[show Nat.ble n 9223372036854775807=true from f11 (by omega)]
 rfl
def Xf (f:FuncId):Bool:=Nat.beq f 35||(Nat.beq f 36||(Nat.beq f 37||(Nat.beq f 38||(Nat.beq f 40||(Nat.beq f 63||(Nat.beq f 42||(Nat.beq f 62||(Nat.beq f 64||(Nat.beq f 41||Nat.beq f 17)))))))))
structure RdF0 (F:Fns):Prop where
 x:∀ f,Xf f=true->∀ vs h,jdg F f vs h=none
 t:qb6 F=T
theorem Mv.at {h:Hp} {p:Nat} (ok:Ok h') (hn:h.next<=h'.next) (g:∀ n,n≠p->n<h.next->h'.get n=h.get n):Mv h h' [p] [p]:=⟨ok,hn,fun n hm=>.inl hm,fun n h1 h2=>g n (fun e=>h2 (by simp[e])) h1⟩
section
variable {F:Fns} {h:Hp} {p bb:Nat} {r:Rd}
def Rdn (h:Hp) (p bb:Nat) (n:Nat) (r:Rd):AV->Hp->Prop:=fun v h'=>v=vi n/\RdS h' p bb r/\Mv h h' [p] [p]
theorem jd2 (f:RdF0 F) (k:RdS h p bb r):WC F 36 [.s (.ptr p 0)] h (Rdn h p bb (smF r).1 (smF r).2):=by
 refine jax (f.x _ rfl _ _) ((congrFun f.t _).trans qud) rfl ?_
 unfold qf1
 obtain⟨l,s⟩:=r
 obtain⟨x,k1,k2,k3⟩:=k.ex
 obtain⟨q1,q2,q3,q4⟩:=k.p1
 have ok:=k.ok
 simp only at k1 k2 k3
 cases l with
 | nil =>
  obtain⟨hA,eA,okA,nA,xA,gA⟩:=j5p ok q1 (some (.arr [x,.bool true] 90))
  have c1:((([]:List Nat).length:Int)=0)=True:=by simp
  simp(disch:=first|omega|rfl) only[go_sem,k1,k2,c1,eA]
  exact⟨rfl,⟨okA,⟨x,xA,k2,.inl rfl⟩,⟨q1,by omega,by omega,q4⟩⟩,Mv.at okA (by omega) (fun n h1 _=>gA n h1)⟩
 | cons a l =>
  rcases k3 with k3 | ⟨o,mc,ex,cells,ty,rfl,k4,k5,k6⟩
  .cases k3
  obtain⟨k7,k8⟩:=k6 0 a rfl
  have k4':l.length+1<=mc:=k4
  obtain⟨hA,eA,okA,nA,xA,gA⟩:=j5p ok q1 (some (.arr [.slice bb (o+1) l.length (mc - 1) ex 1,.bool s] 90))
  have c1:(((a::l).length:Int)=0)=False:=by simp;omega
  have hix:jxd 1 (.s (.slice bb o (a::l).length mc ex 1)) (vi ((0:Nat):Int))=some (.s (.ptr bb (o+0*1))):=ja8 (by simp)
  have hix':jxd 1 (.s (.slice bb o (a::l).length mc ex 1)) (vi 0)=some (.s (.ptr bb o)):=hix
  have hrd:rdB (h.get bb) o 1=some [.int .u8 a]:=by rw[k5];exact j2t k7
  have hsl:qul 1 (some (AV.s (.slice bb o (a::l).length mc ex 1))) (some (vi 1))=some (AV.s (.slice bb (o+1) l.length (mc - 1) ex 1)):=qdl (by simp) k4
  simp(disch:=first|omega|rfl) only[go_sem,k1,k2,c1]
  unfold qae
  simp(disch:=first|omega|rfl) only[go_sem,k1,hix',hrd,qdm k8,j05,hsl,eA]
  refine⟨rfl,⟨okA,⟨_,xA,rfl,?_⟩,⟨q1,by omega,by omega,q4⟩⟩,Mv.at okA (by omega) (fun n h1 _=>gA n h1)⟩
  refine .inr ⟨o+1,mc - 1,ex,cells,ty,rfl,(show l.length<=mc - 1 by omega),(gA bb (fun e=>q4 e.symm)).trans k5,fun i n hn=>?_⟩
  have:=k6 (i+1) n hn
  rw[show o+1+i=o+(i+1) by omega]
  exact this
end
def wdN:Nat->Nat->Rd->Nat×Rd
 | 0,a,r=>(a,r)
 | d+1,a,r=>wdN d (a*256 ||| (smF r).1) (smF r).2
theorem qdn (r:Rd):jc6 r=wdN 4 0 r:=by
 show((((smF r).1*256 ||| _)*256 ||| _)*256 ||| _,_)=((((0*256 ||| (smF r).1)*256 ||| _)*256 ||| _)*256 ||| _,_)
 rw[f15,Nat.zero_or]
def ByR (r:Rd):Prop:=∀ n∈r.1,n<256
theorem ByR.sm {r:Rd} (b:ByR r):(smF r).1<256/\ByR (smF r).2:=by
 obtain⟨l,s⟩:=r
 cases l with
 | nil=>exact⟨show 0<256 by decide,fun n hn=>by cases hn⟩
 | cons a l=>exact⟨b a (by simp),fun n hn=>b n (f0y _ hn)⟩
theorem RdS.by {h:Hp} {p bb:Nat} {r:Rd} (k:RdS h p bb r):ByR r:=by
 obtain⟨x,_,_,h3⟩:=k.ex
 rcases h3 with h3 | ⟨o,mc,ex,cells,ty,_,_,_,h6⟩
 .rw [ByR,h3];intro n hn;cases hn
 .intro n hn
  obtain⟨i,hi⟩:=f2o hn
  exact(h6 i n hi).2
theorem jx5 (h:n<9223372036854775808):inR .i64 (.ofNat n)=true:=f11 (by omega)
theorem qum (h:a<4294967296):jde .shl (.int .i64 (a:Int)) (.int .u64 8)=some (vi ((a*256:Nat):Int)):=by
 show oif (inR .i64 (.ofNat (Nat.mul a (Nat.pow 2 8)))) (some (AV.s (.int .i64 (.ofNat (Nat.mul a (Nat.pow 2 8)))))) none=_
 rw[show Nat.mul a (Nat.pow 2 8)=a*256 from rfl,jx5 (by omega)]
 rfl
theorem qqf (h:a<9223372036854775808) (h2:b<9223372036854775808):jde .or (.int .i64 (a:Int)) (.int .i64 (b:Int))=some (vi ((a ||| b:Nat):Int)):=by
 show oif (inR .i64 (.ofNat a)) (oif (inR .i64 (.ofNat b)) (some (AV.s (.int .i64 (.ofNat (Nat.lor a b))))) none) none=_
 rw[jx5 h,jx5 h2]
 rfl
section
variable {F:Fns} {p bb:Nat}
theorem qf9 (f:RdF0 F):∀ (d i a:Nat) (_:i+d=4) (_:a<256 ^ i) {h:Hp} {r:Rd} (k:RdS h p bb r) {x3:AV}
 (hQ:∀ hj x3,RdS hj p bb (wdN d a r).2->Mv h hj [p] [p]->Q (.exit 0) (.mk [.s (.ptr p 0),x1,vi (wdN d a r).1,x3,vi 4] hj)),
 W F jvw.loop (.mk [.s (.ptr p 0),x1,vi a,x3,vi i] h) Q
 | 0,i,a,hd,ha,h,r,k,x3,hQ=>by
  obtain rfl:i=4:=by omega
  have ok:=k.ok
  rw[jag]
  unfold jvw
  simp(disch:=first|omega|rfl) only[go_sem,f0r]
  exact hQ h _ k (Mv.refl ok)
 | d+1,i,a,hd,ha,h,r,k,x3,hQ=>by
  have ok:=k.ok
  have hlt:((i:Int)<4)=True:=eq_true (by omega)
  have hss:(i:Int)+1=((i+1:Nat):Int):=by omega
  have hi4:256 ^ i<=256 ^ 4:=Nat.pow_le_pow_right (by decide) (by omega)
  have ha1:a<4294967296:=f0o ha hi4
  obtain⟨b1,b2⟩:=k.by.sm
  have e1:a*256 ||| (smF r).1=a*256+(smF r).1:=qdi b1
  have ha2:(a*256 ||| (smF r).1)<256 ^ (i+1):=by
   rw[e1,Nat.pow_succ]
   have h1:(a+1)*256<=256 ^ i*256:=f24 _ ha
   omega
  rw[jag]
  unfold jvw qaf
  simp(disch:=first|omega|rfl) only[go_sem,jad,hlt,qum ha1]
  refine WC.imp (jd2 f k) ?_
  rintro _ hB ⟨rfl,k1,m1⟩
  have okB:=k1.ok
  simp(disch:=first|omega|rfl) only[go_sem,jad,qqf (show a*256<9223372036854775808 by omega) (show(smF r).1<9223372036854775808 by omega),hss]
  exact qf9 f d (i+1) (a*256 ||| (smF r).1) (by omega) ha2 k1 (fun hj x3 k2 m2=>hQ hj x3 k2 (m1.trans m2))
end
section
variable {F:Fns} {p bb:Nat} {h:Hp} {r:Rd}
theorem qal (f:RdF0 F) (k:RdS h p bb r):WC F 37 [.s (.ptr p 0)] h (Rdn h p bb (jc6 r).1 (jc6 r).2):=by
 refine jax (f.x _ rfl _ _) ((congrFun f.t _).trans que) rfl ?_
 unfold qf2
 have ok:=k.ok
 rw[qdn]
 simp(disch:=first|omega|rfl) only[go_sem]
 refine qf9 f 4 0 0 (by omega) (by decide) k (fun hj x3 k2 m2=>?_)
 have okj:=k2.ok
 simp(disch:=first|omega|rfl) only[go_sem]
 exact⟨rfl,k2,m2⟩
theorem qga {α:Type} {P:Rd->α×Rd} {I:List α->Rd->Hp->Prop} {caps:List (Nat×Nat)} (hR:∀ l r h,I l r h->RdS h p bb r)
 (hI:∀ l r h,l.length<256->I l r h->r.2=false->WC F cf (je5 caps) h (fun _ h'=>I (l++[(P r).1]) (P r).2 h')) {Q:Ex->St->Prop} :
 ∀ (n:Nat) {l:List α} {r:Rd} {h:Hp} (_:l.length+n<257) (k:I l r h) {x2:AV}
  (hQ:∀ hj x2 x3,I (l++(eachF P n r).1) (eachF P n r).2 hj->Q (.exit 0) (.mk [.s (.ptr p 0),.s (.func cf caps),x2,x3] hj)),
  W F jqv.loop (.mk [.s (.ptr p 0),.s (.func cf caps),x2,vi n] h) Q
 | 0,l,r,h,hn,k,x2,hQ=>by
  have ok:=(hR _ _ _ k).ok
  rw[jag]
  unfold jqv
  simp(disch:=first|omega|rfl) only[go_sem,f0r,f13]
  exact hQ h _ _ (by show I (l++[]) r h;rw[f06];exact k)
 | n+1,l,r,h,hn,k,x2,hQ=>by
  have kr:=hR _ _ _ k
  have ok:=kr.ok
  obtain⟨x,k1,k2,k3⟩:=kr.ex
  have c1:(0<((n+1:Nat):Int))=True:=eq_true (by omega)
  have c2:((n+1:Nat):Int) - 1=(n:Int):=by omega
  rw[jag]
  unfold jqv qag
  cases hs:r.2 with
  | true =>
   rw[hs] at k1
   simp(disch:=first|omega|rfl) only[go_sem,c1,k1]
   refine hQ h _ _ ?_
   have e:eachF P (n+1) r=([],r):=by unfold eachF;rw[if_pos hs]
   rw[e,f06]
   exact k
  | false =>
   rw[hs] at k1
   have e:eachF P (n+1) r=((P r).1::(eachF P n (P r).2).1,(eachF P n (P r).2).2):=by
    show(if r.2=true then ([],r) else _)=_
    rw[if_neg (by simp[hs])]
   simp(disch:=first|omega|rfl) only[go_sem,c1,k1]
   rw[jt8 rfl]
   simp(disch:=first|omega|rfl) only[go_sem]
   refine WC.imp (hI l r h (by omega) k hs) ?_
   rintro _ hB kB
   have okB:=(hR _ _ _ kB).ok
   simp(disch:=first|omega|rfl) only[go_sem,jad,c2]
   refine qga hR hI n (by rw[f0j];show l.length+1+n<257;omega) kB (fun hj x2 x3 kj=>hQ hj x2 x3 ?_)
   rw[e]
   rw[f0i] at kj
   exact kj
theorem jvz (f:RdF0 F) {α:Type} {P:Rd->α×Rd} {I:List α->Rd->Hp->Prop} {caps:List (Nat×Nat)} (hR:∀ l r h,I l r h->RdS h p bb r)
 (hI:∀ l r h,l.length<256->I l r h->r.2=false->WC F cf (je5 caps) h (fun _ h'=>I (l++[(P r).1]) (P r).2 h'))
 (hS:∀ l r r' h h',I l r h->RdS h' p bb r'->Mv h h' [p] [p]->I l r' h') (k:I [] r h) :
 WC F 38 [.s (.ptr p 0),.s (.func cf caps)] h (fun _ h'=>I (eachR P r).1 (eachR P r).2 h'):=by
 refine jax (f.x _ rfl _ _) ((congrFun f.t _).trans qqd) rfl ?_
 unfold qah
 have kr:=hR _ _ _ k
 have ok:=kr.ok
 simp(disch:=first|omega|rfl) only[go_sem]
 refine WC.imp (jd2 f kr) ?_
 rintro _ hB ⟨rfl,k1,m1⟩
 have okB:=k1.ok
 have hb:=kr.by.sm.1
 simp(disch:=first|omega|rfl) only[go_sem]
 refine qga hR hI (smF r).1 (by show 0+_<257;omega) (hS _ _ _ _ _ k k1 m1) (fun hj x2 x3 kj=>?_)
 have okj:=(hR _ _ _ kj).ok
 simp(disch:=first|omega|rfl) only[go_sem]
 rw[f1g] at kj
 exact kj
end
end Go.Proofs.Ytkeenpohacdanaa.Ev
