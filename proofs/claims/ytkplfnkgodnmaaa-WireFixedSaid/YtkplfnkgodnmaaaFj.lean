/- A writer of bytes: a whole script. -/
import Derived.Test.YtkplfnkgodnmaaaFd
import Derived.Test.YtkplfnkgodnmaaaMc4
import Derived.Test.YtkplfnkgodnmaaaPw
namespace Go.Proofs.Ytkplfnkgodnmaaa.Ev
open Go Go.RowKit Go.Proofs.Ytkplfnkgodnmaaa.Ms
attribute [local go_sem] Int.reduceToNat reduceCtorEq Nat.reduceAdd Nat.reduceMul Nat.reduceEqDiff Int.reduceEq Int.reduceLT Int.reduceLE Int.reduceNeg Int.reduceAdd Int.reduceSub Int.reduceMul Int.reduceNe
attribute [local go_sem ↓] reduceIte
set_option linter.all false
set_option maxRecDepth 100000
set_option maxHeartbeats 2000000
def jik (s:Scr):List SV:=[si s.m1,si s.m2,jag jak s.f.values,jag jax s.f.blocks,si s.seed,si s.steps,jag jak s.junk]
def jrs (s:Scr) (xj:SV):List SV:=[si s.m1,si s.m2,jag jak s.f.values,jag jax s.f.blocks,si s.seed,si s.steps,xj]
theorem Wrn.out {h:Hp} {p:Nat} {ns:List Nat} (n:Nat) (h0:n<h.next) (hn:n∉p::ns) {h':Hp} {ns':List Nat} (m:Mv h h' (p::ns) (p::ns')):n<h'.next/\n∉p::ns':=⟨f0m h0 m.nx,fun hc=>by
 rcases m.new n hc with h1 | h1
 .exact hn h1
 .omega⟩
theorem WrS.fresh {h:Hp} {p:Nat} {ws ns:List Nat} (w:WrS h p ws ns):h.next∉p::ns:=fun hc=>by
 rcases f0h.1 hc with h1 | h1
 .have:=w.p1.2;omega
 .have:=w.lt _ h1;omega
section
variable {F:Fns} (f:WrF F) {p:Nat} {Q:Ex->St->Prop}
include f
theorem qaq {l:List Nat} {xj:SV} (lj:LstE jak 1 xj l) (hl:l.length<=10000) {x0 x1 x2 x3 x4 x5 x6 x7 x8 x9 x10 x11 x12 x13 x14 x15 x16 x17 x24 x25 x26:AV} :
 ∀ (d i:Nat) (_:i+d=l.length) {hi:Hp} {ws ns:List Nat} (_:WrS hi p ws ns) (_:ws.length+4*d<=40000) {x18 x20:AV}
  (hQ:∀ hj ns' x18 x20,WrS hj p (ws++((l.drop i).map jce).flatten) ns'->Mv hi hj (p::ns) (p::ns')->Q (.exit 0) (.mk [x0,x1,x2,x3,x4,x5,x6,x7,x8,x9,x10,x11,x12,x13,x14,x15,x16,x17,x18,.s xj,x20,vi l.length,vi l.length,.s (.ptr p 0),x24,x25,x26] hj)),
  W F jkh.loop (.mk [x0,x1,x2,x3,x4,x5,x6,x7,x8,x9,x10,x11,x12,x13,x14,x15,x16,x17,x18,.s xj,x20,vi l.length,vi i,.s (.ptr p 0),x24,x25,x26] hi) Q
 | 0,i,hd,hi,ws,ns,w,hw,x18,x20,hQ=>by
  obtain rfl:i=l.length:=by omega
  rw[jae]
  unfold jkh
  have ok:=w.ok
  simp(disch:=first|omega|rfl) only[go_sem,f0q]
  exact hQ hi ns _ _ (by rw[f2s];simpa using w) (Mv.refl ok)
 | d+1,i,hd,hi,ws,ns,w,hw,x18,x20,hQ=>by
  have hil:i<l.length:=by omega
  have hlt:(i:Int)<(l.length:Int):=by omega
  have hss:(i:Int)+1=((i+1:Nat):Int):=by omega
  obtain⟨n,hn⟩:∃ n,l[i]?=some n:=⟨_,f0b hil⟩
  have hdr:l.drop i=n::l.drop (i+1):=by rw[f0p hil,(f0e.1 hn).2]
  have hix:=lj.at_ hn
  have ok:=w.ok
  rw[jae]
  unfold jkh jvv
  simp(disch:=first|omega|rfl) only[go_sem,jac,eq_true hlt,hix,jak]
  refine WC.imp (jtq f w (n:=n) (by omega)) ?_
  rintro v hB ⟨n1,w1,m1⟩
  have okB:=w1.ok
  simp(disch:=first|omega|rfl) only[go_sem,jac,hss]
  exact qaq lj hl d (i+1) (by omega) w1 (by rw[f0g];show ws.length+4+4*d<=40000;omega) (fun hj ns' x18 x20 w' m'=>hQ hj ns' x18 x20 (by rw[hdr,f08,f0u,←f0l];exact w') (m1.trans m'))
theorem qar {l:List Ms.Ins} (hl:l.length<=10000) (hok:∀ x∈l,OkI x) {x0 x1 x2 x3 x4 x5 x6 x7 x13 x14 x15 x16 x17 x18 x19 x20 x21 x22 x24 x25 x26:AV} :
 ∀ (d i:Nat) (_:i+d=l.length) {hi:Hp} {ws ns:List Nat} (_:WrS hi p ws ns) (_:ws.length+(((l.drop i).map jje).flatten).length<=30000) {x8 x10:AV}
  (hQ:∀ hj ns' x8 x10,WrS hj p (ws++byt ((l.drop i).map jje).flatten) ns'->Mv hi hj (p::ns) (p::ns')->Q (.exit 4) (.mk [x0,x1,x2,x3,x4,x5,x6,x7,x8,.s (jag jdh l),x10,vi l.length,vi l.length,x13,x14,x15,x16,x17,x18,x19,x20,x21,x22,.s (.ptr p 0),x24,x25,x26] hj)),
  W F jki.loop (.mk [x0,x1,x2,x3,x4,x5,x6,x7,x8,.s (jag jdh l),x10,vi l.length,vi i,x13,x14,x15,x16,x17,x18,x19,x20,x21,x22,.s (.ptr p 0),x24,x25,x26] hi) Q
 | 0,i,hd,hi,ws,ns,w,hw,x8,x10,hQ=>by
  obtain rfl:i=l.length:=by omega
  rw[jae]
  unfold jki
  have ok:=w.ok
  simp(disch:=first|omega|rfl) only[go_sem,f0q]
  exact hQ hi ns _ _ (by rw[f2s];simpa[byt] using w) (Mv.refl ok)
 | d+1,i,hd,hi,ws,ns,w,hw,x8,x10,hQ=>by
  have hil:i<l.length:=by omega
  have hlt:(i:Int)<(l.length:Int):=by omega
  have hss:(i:Int)+1=((i+1:Nat):Int):=by omega
  obtain⟨x,hx⟩:∃ n,l[i]?=some n:=⟨_,f0b hil⟩
  have hdr:l.drop i=x::l.drop (i+1):=by rw[f0p hil,(f0e.1 hx).2]
  have hix:=jaf (enc:=jdh) (size:=3) hx rfl
  have ok:=w.ok
  obtain⟨hA,eA,okA,nA,xA,gA⟩:=jhi ok [.int .i64 0,.nilSlice,.nilSlice] (jdh x) 73
  have wA:=w.keep okA gA (by omega)
  rw[hdr,f08,f0u,f0g] at hw
  have eA':=eA
  have xA':=xA
  unfold jdh at xA eA
  rw[jae]
  unfold jki jvw
  simp(disch:=first|omega|rfl) only[go_sem,jac,eq_true hlt,hix,jdh,eA,xA]
  refine WC.imp (qei f wA (hok x (f0c hx)) (by omega)) ?_
  rintro v hB ⟨n1,w1,m1⟩
  have okB:=w1.ok
  simp(disch:=first|omega|rfl) only[go_sem,jac,hss]
  exact qar hl hok d (i+1) (by omega) w1 (by rw[f0g,jd9];omega) (fun hj ns' x8 x10 w' m'=>hQ hj ns' x8 x10 (by rw[hdr,f08,f0u,jd8,←f0l];exact w') ((Mv.low okA (by omega) gA _).trans (m1.trans m')))
theorem qas {l:List Ms.Edg} (hl:l.length<=10000) {x0 x1 x2 x8 x9 x10 x11 x12 x13 x14 x15 x16 x17 x18 x19 x20 x21 x22 x24 x25 x26:AV} :
 ∀ (d i:Nat) (_:i+d=l.length) {hi:Hp} {ws ns:List Nat} (_:WrS hi p ws ns) (_:ws.length+(((l.drop i).map jpl).flatten).length<=30000) {x3 x5:AV}
  (hQ:∀ hj ns' x3 x5,WrS hj p (ws++byt ((l.drop i).map jpl).flatten) ns'->Mv hi hj (p::ns) (p::ns')->Q (.exit 6) (.mk [x0,x1,x2,x3,.s (jag jdu l),x5,vi l.length,vi l.length,x8,x9,x10,x11,x12,x13,x14,x15,x16,x17,x18,x19,x20,x21,x22,.s (.ptr p 0),x24,x25,x26] hj)),
  W F jkj.loop (.mk [x0,x1,x2,x3,.s (jag jdu l),x5,vi l.length,vi i,x8,x9,x10,x11,x12,x13,x14,x15,x16,x17,x18,x19,x20,x21,x22,.s (.ptr p 0),x24,x25,x26] hi) Q
 | 0,i,hd,hi,ws,ns,w,hw,x3,x5,hQ=>by
  obtain rfl:i=l.length:=by omega
  rw[jae]
  unfold jkj
  have ok:=w.ok
  simp(disch:=first|omega|rfl) only[go_sem,f0q]
  exact hQ hi ns _ _ (by rw[f2s];simpa[byt] using w) (Mv.refl ok)
 | d+1,i,hd,hi,ws,ns,w,hw,x3,x5,hQ=>by
  have hil:i<l.length:=by omega
  have hlt:(i:Int)<(l.length:Int):=by omega
  have hss:(i:Int)+1=((i+1:Nat):Int):=by omega
  obtain⟨x,hx⟩:∃ n,l[i]?=some n:=⟨_,f0b hil⟩
  have hdr:l.drop i=x::l.drop (i+1):=by rw[f0p hil,(f0e.1 hx).2]
  have hix:=jaf (enc:=jdu) (size:=2) hx rfl
  have ok:=w.ok
  obtain⟨hA,eA,okA,nA,xA,gA⟩:=jhi ok [.int .i64 0,.nilSlice] (jdu x) 76
  have wA:=w.keep okA gA (by omega)
  have fA:=w.fresh
  rw[hdr,f08,f0u,f0g] at hw
  have hxl:(jpl x).length=2+x.args.length:=by show(x.block::x.args.length::x.args).length=_;simp;omega
  unfold jdu at xA eA
  rw[jae]
  unfold jkj jvx
  simp(disch:=first|omega|rfl) only[go_sem,jac,eq_true hlt,hix,jdu,eA,xA]
  refine WC.imp (wsb f wA (l:=[x.block]) (by simp;omega)) ?_
  rintro v hB ⟨n1,w1,m1⟩
  have okB:=w1.ok
  have xB:=(m1.keep hi.next (by omega) fA).trans xA
  simp(disch:=first|omega|rfl) only[go_sem,xB]
  refine WC.imp (jtp f w1 (l:=x.args) (by rw[f0g,jd9];show ws.length+1+_+1<=_;omega)) ?_
  rintro v hC ⟨n2,w2,m2⟩
  have okC:=w2.ok
  simp(disch:=first|omega|rfl) only[go_sem,jac,hss]
  have e2:(ws++byt [x.block])++byt (jpk x.args)=ws++byt (jpl x):=by rw[f0l,←jd8];rfl
  rw[e2] at w2
  exact qas hl d (i+1) (by omega) w2 (by rw[f0g,jd9];omega) (fun hj ns' x3 x5 w' m'=>hQ hj ns' x3 x5 (by rw[hdr,f08,f0u,jd8,←f0l];exact w') ((Mv.low okA (by omega) gA _).trans (m1.trans (m2.trans m'))))
theorem qat {l:List Ms.Blk} (hl:l.length<=10000) (hok:∀ b∈l,OkB b) {x0 x1 x2 x18 x19 x20 x21 x22 x24 x25 x26:AV} :
 ∀ (d i:Nat) (_:i+d=l.length) {hi:Hp} {ws ns:List Nat} (_:WrS hi p ws ns) (_:ws.length+(((l.drop i).map j42).flatten).length<=30000) {x3 x4 x5 x6 x7 x8 x9 x10 x11 x12 x13 x15:AV}
  (hQ:∀ hj ns' x3 x4 x5 x6 x7 x8 x9 x10 x11 x12 x13 x15,WrS hj p (ws++byt ((l.drop i).map j42).flatten) ns'->Mv hi hj (p::ns) (p::ns')->Q (.exit 2) (.mk [x0,x1,x2,x3,x4,x5,x6,x7,x8,x9,x10,x11,x12,x13,.s (jag jax l),x15,vi l.length,vi l.length,x18,x19,x20,x21,x22,.s (.ptr p 0),x24,x25,x26] hj)),
  W F jkk.loop (.mk [x0,x1,x2,x3,x4,x5,x6,x7,x8,x9,x10,x11,x12,x13,.s (jag jax l),x15,vi l.length,vi i,x18,x19,x20,x21,x22,.s (.ptr p 0),x24,x25,x26] hi) Q
 | 0,i,hd,hi,ws,ns,w,hw,x3,x4,x5,x6,x7,x8,x9,x10,x11,x12,x13,x15,hQ=>by
  obtain rfl:i=l.length:=by omega
  rw[jae]
  unfold jkk
  have ok:=w.ok
  simp(disch:=first|omega|rfl) only[go_sem,f0q]
  exact hQ hi ns _ _ _ _ _ _ _ _ _ _ _ _ (by rw[f2s];simpa[byt] using w) (Mv.refl ok)
 | d+1,i,hd,hi,ws,ns,w,hw,x3,x4,x5,x6,x7,x8,x9,x10,x11,x12,x13,x15,hQ=>by
  have hil:i<l.length:=by omega
  have hlt:(i:Int)<(l.length:Int):=by omega
  have hss:(i:Int)+1=((i+1:Nat):Int):=by omega
  obtain⟨x,hx⟩:∃ n,l[i]?=some n:=⟨_,f0b hil⟩
  have hdr:l.drop i=x::l.drop (i+1):=by rw[f0p hil,(f0e.1 hx).2]
  have hix:=jaf (enc:=jax) (size:=3) hx rfl
  have kx:=hok x (f0c hx)
  have ok:=w.ok
  obtain⟨hA,eA,okA,nA,xA,gA⟩:=jhi ok [.nilSlice,.nilSlice,.nilSlice] (jax x) 54
  have wA:=w.keep okA gA (by omega)
  have fA:=w.fresh
  rw[hdr,f08,f0u,f0g] at hw
  have hxl:(j42 x).length=1+x.params.length+(1+((x.instrs.map jje).flatten.length+(1+(x.edges.map jpl).flatten.length))):=by
   unfold j42 jpk;simp only[f0g,f03];omega
  have l1:=jad (enc:=jdh) (l:=x.instrs)
  have l2:=jad (enc:=jdu) (l:=x.edges)
  have hni:=kx.ni
  have hne:=kx.ne
  unfold jax at xA eA
  rw[jae]
  unfold jkk jvy
  simp(disch:=first|omega|rfl) only[go_sem,jac,eq_true hlt,hix,jax,eA,xA]
  refine WC.imp (jtp f wA (l:=x.params) (by omega)) ?_
  rintro v hB ⟨n1,w1,m1⟩
  have okB:=w1.ok
  have xB:=(m1.keep hi.next (by omega) fA).trans xA
  obtain⟨bB,fB⟩:=Wrn.out hi.next (by omega) fA m1
  have e1:(ws++byt (jpk x.params)).length=ws.length+(1+x.params.length):=by rw[f0g,jd9];show _+(x.params.length+1)=_;omega
  simp(disch:=first|omega|rfl) only[go_sem,xB,l1]
  refine WC.imp (wsb f w1 (l:=[x.instrs.length]) (by simp only[f03,f1j];omega)) ?_
  rintro v hC ⟨n2,w2,m2⟩
  have okC:=w2.ok
  have xC:=(m2.keep hi.next bB fB).trans xB
  obtain⟨bC,fC⟩:=Wrn.out hi.next bB fB m2
  have e2:((ws++byt (jpk x.params))++byt [x.instrs.length]).length=ws.length+(1+x.params.length)+1:=by rw[f0g,e1];rfl
  simp(disch:=first|omega|rfl) only[go_sem,xC,l1]
  refine qar f (l:=x.instrs) (by omega) kx.i x.instrs.length 0 (by omega) w2 (by rw[e2,f1e];omega) (fun hD n3 x8 x10 w3 m3=>?_)
  rw[f1e] at w3
  have okD:=w3.ok
  have xD:=(m3.keep hi.next bC fC).trans xC
  obtain⟨bD,fD⟩:=Wrn.out hi.next bC fC m3
  have e3:(((ws++byt (jpk x.params))++byt [x.instrs.length])++byt (x.instrs.map jje).flatten).length=ws.length+(1+x.params.length)+1+(x.instrs.map jje).flatten.length:=by rw[f0g,e2,jd9]
  simp(disch:=first|omega|rfl) only[go_sem,xD,l2]
  refine WC.imp (wsb f w3 (l:=[x.edges.length]) (by simp only[f03,f1j];omega)) ?_
  rintro v hE ⟨n4,w4,m4⟩
  have okE:=w4.ok
  have xE:=(m4.keep hi.next bD fD).trans xD
  have e4:((((ws++byt (jpk x.params))++byt [x.instrs.length])++byt (x.instrs.map jje).flatten)++byt [x.edges.length]).length=ws.length+(1+x.params.length)+1+(x.instrs.map jje).flatten.length+1:=by rw[f0g,e3];rfl
  simp(disch:=first|omega|rfl) only[go_sem,xE,l2]
  refine qas f (l:=x.edges) (by omega) x.edges.length 0 (by omega) w4 (by rw[e4,f1e];omega) (fun hG n5 x3 x5 w5 m5=>?_)
  rw[f1e] at w5
  have okG:=w5.ok
  have e5:((((ws++byt (jpk x.params))++byt [x.instrs.length])++byt (x.instrs.map jje).flatten)++byt [x.edges.length])++byt (x.edges.map jpl).flatten=ws++byt (j42 x):=by
   simp only[f0l,←jd8];rfl
  rw[e5] at w5
  simp(disch:=first|omega|rfl) only[go_sem,jac,hss]
  exact qat hl hok d (i+1) (by omega) w5 (by rw[f0g,jd9];omega) (fun hj ns' x3 x4 x5 x6 x7 x8 x9 x10 x11 x12 x13 x15 w' m'=>hQ hj ns' x3 x4 x5 x6 x7 x8 x9 x10 x11 x12 x13 x15 (by rw[hdr,f08,f0u,jd8,←f0l];exact w') ((Mv.low okA (by omega) gA _).trans (m1.trans (m2.trans (m3.trans (m4.trans (m5.trans m')))))))
end
set_option maxHeartbeats 4000000
noncomputable def qmx (h:Hp) (n size:Nat) (x:Option AV):R:=ob x (fun v=>jmz v (fun b o=>ob (rd h b o (Nat.mul n size)) (fun _=>ok (.s (.slice b o n n true size)) h)))
theorem qix {st fr:List AV} {h:Hp} {n size:Nat} {x:Od}:jcp st fr h (.slicea n size x)=qmx h n size (ev st fr x):=rfl
theorem qej {h:Hp} {n size b o:Nat} {row:List SV} (hr:rdB (h.get b) o (n*size)=some row):qmx h n size (some (.s (.ptr b o)))=some (.s (.slice b o n n true size),h):=by
 show ob (rdB (h.get b) o (n*size)) (fun _=>some (AV.s (.slice b o n n true size),h))=_
 rw[hr];rfl
def jfa (n:Nat):List SV:=[.int .u8 n]
def qjm (l:List Nat):AV:=.tup [(false,[jag jfa l]),(false,[si 0])]
theorem qek {kk:Bool} {h:Hp} {x:SV} {l ns:List Nat} (k:Sl h 5 1 false EY x l ns):jml kk h 3 (.tup [(false,[x]),(false,[.int .i64 0])])=some (qjm l):=by
 show ob (ob (je3 (jc0 kk h 3) [x]) (fun x=>ob (j4x (jc0 kk h 3) [(false,[.int .i64 0])]) (fun r=>some ((false,x)::r)))) (fun y=>some (AV.tup y))=_
 rw[j7s (k.frz (enc:=jfa) (fun _ _ _ e=>by obtain⟨rfl,_⟩:=e;rfl) (fun _=>rfl))]
 rfl
theorem qel {F:Fns} (f:WrF F) {h:Hp} (ok:Ok h) {s:Scr} {xj:SV} (lq:LstE jak 1 xj s.junk) {kk:Bool} (k:OkS s) (hb:(jtm s).length<=20000) (hC:∀ h Q,WC F 24 [.agg (jrs s xj)] h Q=Q (vi 0) h):WC F 8 [.agg (jrs s xj)] h (fun v h'=>∃ d,jml kk h' d v=some (qjm (byt (jtm s)))):=by
 refine jan (f.x _ rfl _ _) ((congrFun f.t _).trans qiv) rfl ?_
 unfold j37
 obtain⟨hA,eA,okA,nA,xA,gA⟩:=jra ok (jrs s xj) 31
 have hlen:(jtm s).length=2+(4+(4+(1+((s.junk.map jce).flatten.length+(1+s.f.values.length+(1+(s.f.blocks.map j42).flatten.length)))))):=by
  unfold jtm jpk jce;simp only[f0g,f03,f1j];omega
 have hjl:(s.junk.map jce).flatten.length=4*s.junk.length:=by
  generalize s.junk=q
  induction q with
  | nil=>rfl
  | cons a q ih=>rw[f08,f0u,f0g,ih];show 4+_=4*(q.length+1);omega
 have hnj:=k.nj
 have hnb:=k.nb
 have hpos:=ok.pos
 obtain⟨hB,eB,okB,nB,xB,gB⟩:=jra okA [.nilSlice] 66
 have w0:WrS hB hA.next [] []:=⟨okB,⟨_,xB,.nil⟩,⟨by omega,by omega⟩,by simp,by simp⟩
 have zA:=(gB h.next (by omega)).trans xA
 have a0:h.next∉[hA.next]:=by simp;omega
 have lj:=lq.len
 have lb:=jad (enc:=jax) (l:=s.f.blocks)
 unfold jrs at eA zA
 rw[nA] at w0 a0 xB
 have hC':=hC
 unfold jrs at hC' ⊢
 simp(disch:=first|omega|rfl) only[go_sem,eA,xA,jrs,hC']
 unfold jvz
 have hrow:rdB (hB.get h.next) 0 (2*1)=some [si s.m1,si s.m2]:=by rw[zA];rfl
 simp(disch:=first|omega|rfl) only[go_sem,nA,eB,qix,qej hrow]
 have sc:∀ {hj:Hp} {n1:List Nat},h.next<hj.next/\h.next∉(h.next+1)::n1->∀ {hk:Hp} {n2:List Nat},Mv hj hk ((h.next+1)::n1) ((h.next+1)::n2)->h.next<hk.next/\h.next∉(h.next+1)::n2:=by intro hj n1 g hk n2 m;exact Wrn.out h.next g.1 g.2 m
 refine WC.imp (jto f w0 (l:=[s.m1,s.m2]) (.inr ⟨h.next,0,2,true,_,_,rfl,zA,by omega,a0,fun i n hi=>by
  match i,hi with
  | 0,hi=>cases hi;rfl
  | 1,hi=>cases hi;rfl⟩) (by simp)) ?_
 rintro v h1 ⟨n1,w1,m1⟩
 have ok1:=w1.ok
 have b1:=sc ⟨by omega,a0⟩ m1
 have z1:=(m1.keep h.next (by omega) a0).trans zA
 simp(disch:=first|omega|rfl) only[go_sem,z1]
 refine WC.imp (jtq f w1 (n:=s.seed) (by simp[byt])) ?_
 rintro v h2 ⟨n2,w2,m2⟩
 have ok2:=w2.ok
 have b2:=sc b1 m2
 have z2:=(m2.keep h.next b1.1 b1.2).trans z1
 simp(disch:=first|omega|rfl) only[go_sem,z2]
 refine WC.imp (jtq f w2 (n:=s.steps) (by simp[byt,jce])) ?_
 rintro v h3 ⟨n3,w3,m3⟩
 have ok3:=w3.ok
 have b3:=sc b2 m3
 have z3:=(m3.keep h.next b2.1 b2.2).trans z2
 simp(disch:=first|omega|rfl) only[go_sem,z3,lj]
 refine WC.imp (wsb f w3 (l:=[s.junk.length]) (by simp[byt,jce])) ?_
 rintro v h4 ⟨n4,w4,m4⟩
 have ok4:=w4.ok
 have b4:=sc b3 m4
 have z4:=(m4.keep h.next b3.1 b3.2).trans z3
 simp(disch:=first|omega|rfl) only[go_sem,z4,lj]
 refine qaq f lq (by omega) s.junk.length 0 (by omega) w4 (by simp[byt,jce];omega) (fun h5 n5 x18 x20 w5 m5=>?_)
 rw[f1e] at w5
 have ok5:=w5.ok
 have b5:=sc b4 m5
 have z5:=(m5.keep h.next b4.1 b4.2).trans z4
 simp(disch:=first|omega|rfl) only[go_sem,z5]
 have q5:([]++byt [s.m1,s.m2]++jce s.seed++jce s.steps++byt [s.junk.length]++(s.junk.map jce).flatten).length=11+(s.junk.map jce).flatten.length:=by simp[byt,jce];omega
 refine WC.imp (jtp f w5 (l:=s.f.values) (by rw[q5];omega)) ?_
 rintro v h6 ⟨n6,w6,m6⟩
 have ok6:=w6.ok
 have b6:=sc b5 m6
 have z6:=(m6.keep h.next b5.1 b5.2).trans z5
 simp(disch:=first|omega|rfl) only[go_sem,z6,lb]
 have q6:([]++byt [s.m1,s.m2]++jce s.seed++jce s.steps++byt [s.junk.length]++(s.junk.map jce).flatten++byt (jpk s.f.values)).length=11+(s.junk.map jce).flatten.length+(1+s.f.values.length):=by rw[f0g,q5,jd9];show _+(s.f.values.length+1)=_;omega
 refine WC.imp (wsb f w6 (l:=[s.f.blocks.length]) (by rw[q6];show _+1<=_;omega)) ?_
 rintro v h7 ⟨n7,w7,m7⟩
 have ok7:=w7.ok
 have b7:=sc b6 m7
 have z7:=(m7.keep h.next b6.1 b6.2).trans z6
 simp(disch:=first|omega|rfl) only[go_sem,z7,lb]
 refine qat f (l:=s.f.blocks) (by omega) k.b s.f.blocks.length 0 (by omega) w7 (by rw[f0g,q6,f1e];show _+1+_<=_;omega) (fun h8 n8 x3 x4 x5 x6 x7 x8 x9 x10 x11 x12 x13 x15 w8 m8=>?_)
 rw[f1e] at w8
 have ok8:=w8.ok
 obtain⟨x,p1,p2⟩:=w8.ex
 simp(disch:=first|omega|rfl) only[go_sem,p1]
 have wd:∀ n,byt (jce n)=jce n:=fun n=>j4c (fun m hm=>by
  unfold jce at hm
  simp only[f0h,f2d,or_false] at hm
  omega)
 have wj:byt (s.junk.map jce).flatten=(s.junk.map jce).flatten:=by
  generalize s.junk=q
  induction q with
  | nil=>rfl
  | cons a q ih=>rw[f08,f0u,jd8,wd,ih]
 have e:[]++byt [s.m1,s.m2]++jce s.seed++jce s.steps++byt [s.junk.length]++(s.junk.map jce).flatten++byt (jpk s.f.values)++byt [s.f.blocks.length]++byt (s.f.blocks.map j42).flatten=byt (jtm s):=by
  rw[←wd s.seed,←wd s.steps,←wj]
  simp only[f1l,←jd8,f0l]
  rfl
 rw[e] at p2
 exact⟨3,qek p2⟩
open Go Go.RowKit
variable {h':Hp} {a b n:Nat}
def j4d:IC:=.seq (.block 1 (qr [qP (.ixs 1 (.g 4) (.g 7)),qL,qT 3] (qr [qM 3,qP (.bin .lt qa (qC 0)),qP (.mv qa),qR 0 false (.mv (.g 3)),qR 1 false (.bin .gt qa (qC 1073741824)),qQ 2 (.pick qc (.c (.s (.bool true))) qa)] (.cond (.g 2) (qr [qQ 1 (.mv (qC 2))] .ret) .skip)))) (.region [qI 7,qT 7])
def jpm:IC:=qr [qQ 5 (.bin .lt (.g 7) (.g 6))] (.seq (qX 5 0) j4d)
def j4e:IC:=.seq (qr [qF 6 12,qB 4 (.load 1 false qa),qQ 6 (.len qa),qQ 7 (.mv (qC 0))] (.block 0 (.loop jpm))) (qr [qQ 1 (.mv (qC 0))] .ret)
def j4f:IC:=.seq (qr [qF 6 12,qL,qP (.len qa),qQ 8 (.bin .gt qa (qC 64))] (.cond (.g 8) (qr [qQ 1 (.mv (qC 1))] .ret) .skip)) j4e
def j4g:IC:=.seq (qr [qF 4 12,qL,qP (.bin .lt qa (qC 0)),qP (.mv qa),qR 0 false (.fld 4 (.g 12)),qS 1 false (.load 1 false qa),qR 2 false (.bin .gt qa (qC 1073741824)),qP (.pick qd (.c (.s (.bool true))) qa),qP (.mv qa),qR 0 false (.fld 5 (.g 12)),qS 1 false (.load 1 false qa),qR 2 false (.bin .lt qa (qC 0)),qP (.pick qd (.c (.s (.bool true))) qa),qP (.mv qa),qR 0 false (.fld 5 (.g 12)),qS 1 false (.load 1 false qa),qR 2 false (.bin .gt qa (qC 5000)),qQ 9 (.pick qd (.c (.s (.bool true))) qa)] (.cond (.g 9) (qr [qQ 1 (.mv (qC 2))] .ret) .skip)) j4f
def qau:IC:=qr [qB 12 (.box 31 (.g 0)),qQ 1 (.mv (qC 0))] (.seq (qr [qF 2 12,qK 2,qF 0 12,qK 2,qA (.call 12 [qc,qa]),qT 11] (qr [qM 11,qQ 10 (.bin .ne qa (qC 0))] (.cond (.g 10) (qr [qM 11,qT 1] .ret) .skip))) j4g)
theorem qlw:T 24=some (.mk qau 1 12 [(.tmp 1)]):=by kernel_rfl
def j4h:IC:=qr [qA (.bslice 5 1 [] 0 []),qM 0,qA (.app 5 1 1 qb qa),qT 1] .ret
def qav:IC:=qr [qQ 1 (.mv (.c (.s .nilSlice)))] (.seq (qr [qM 0,qQ 2 (.snil false qa (.c (.s .nilSlice)))] (.cond (.g 2) (qr [qQ 1 (.mv (.c (.s .nilSlice)))] .ret) .skip)) j4h)
theorem qlx:T 16=some (.mk qav 1 2 [(.tmp 1)]):=by kernel_rfl
def j4i:IC:=qr [qM 0,qN,qG 0,qL,qP (.ixs 1 qa (qC 0)),qL,qP (.conv .i64 qa),qT 2] (qr [qM 0,qM 0,qN,qG 0,qL,qP (.slice 1 qa (.some (qC 1)) .none),qP (.nchk (.l 5)),qG 0,qA (.store 1 qa qc)] (qr [qM 2,qT 1] .ret))
def qaw:IC:=qr [qQ 1 (.mv (qC 0))] (.seq (qr [qM 0,qN,qG 0,qL,qP (.len qa),qQ 3 (.bin .eq qa (qC 0))] (.cond (.g 3) (qr [qM 0,qN,qG 1,qA (.store 1 qa (.c (.s (.bool true))))] (qr [qQ 1 (.mv (qC 0))] .ret)) .skip)) j4i)
theorem qly:T 17=some (.mk qaw 1 3 [(.tmp 1)]):=by kernel_rfl
def j4j:IC:=.seq (.block 1 (.region [qM 2,qP (.bin .shl qa (.c (.s (.int .u64 8)))),qM 0,qA (.call 17 [qa]),qP (.bin .or qc qa),qT 2])) (.region [qI 4,qT 4])
def jpn:IC:=qr [qQ 3 (.bin .lt (.g 4) (qC 4))] (.seq (qX 3 0) j4j)
def qax:IC:=qr [qQ 1 (.mv (qC 0))] (qr [qQ 2 (.mv (qC 0))] (.seq (qr [qQ 4 (.mv (qC 0))] (.block 0 (.loop jpn))) (qr [qM 2,qT 1] .ret)))
theorem qlz:T 18=some (.mk qax 1 4 [(.tmp 1)]):=by kernel_rfl
def j4k:IC:=.seq (.block 1 (.region [qM 1,qA (.callv qa [])])) (.region [qM 3,qP (.bin .sub qa (qC 1)),qT 3])
def jpo:IC:=.seq (qr [qM 3,qP (.bin .gt qa (qC 0)),qP (.mv qa),qR 0 true (.mv (.g 0)),qR 1 true (.nchk qa),qR 2 true (.fld 1 qa),qS 3 true (.load 1 false qa),qR 4 true (.not qa),qQ 2 (.pick (.l 5) qa (.c (.s (.bool false))))] (qX 2 0)) j4k
def qay:IC:=qr [qM 0,qA (.call 17 [qa]),qT 3] (.block 0 (.loop jpo))
theorem ql0:T 19=some (.mk qay 2 2 []):=by kernel_rfl
def qaz:IC:=qr [qB 3 (.box 55 (.g 0)),qQ 1 (.mv (.c (.s .nilSlice)))] (qr [qB 2 (.new 26 [.nilSlice])] (qr [qA (.load 1 false (.g 3)),qP (.mkfun 39 [.g 2,.g 3]),qA (.call 19 [qb,qa])] (qr [qA (.load 1 false (.g 2)),qT 1] .ret)))
theorem ql1:T 21=some (.mk qaz 1 3 [(.tmp 1)]):=by kernel_rfl
def j4l:IC:=.seq (.block 1 (qr [qM 0,qA (.call 17 [qa]),qT 11] (qr [qM 11,qP (.bin .and qa (qC 3)),qM 11,qP (.bin .and qa (qC 4)),qP (.bin .ne qa (qC 0)),qM 11,qP (.bin .shr qa (.c (.s (.int .u64 3)))),qM 0,qA (.call 17 [qa]),qP (.build [.int .i64 0,.int .i64 0,.bool false,.int .i64 0,.int .i64 0] [(0,(1,.l 7)),(2,(1,.l 4)),(3,(1,qc)),(1,(1,qa))]),qB 10 (.new 92 [.int .i64 0,.int .i64 0,.bool false,.int .i64 0,.int .i64 0]),qA (.store 5 qa qb)] (qr [qM 0,qA (.call 17 [qa]),qF 4 10,qA (.store 1 qa qb)] (qr [qF 1 9,qL,qA (.load 5 true (.g 10)),qA (.bslice 92 5 [.int .i64 0,.int .i64 0,.bool false,.int .i64 0,.int .i64 0] 1 [(0,(5,qa))]),qA (.app 92 5 40 qc qa),qF 1 9,qA (.store 1 qa qb)] (qr [qM 0,qN,qG 1,qB 8 (.load 1 false qa)] (.cond (.g 8) (.exit 0) .skip))))))) (.region [qI 14,qT 14])
def jpp:IC:=qr [qQ 12 (.bin .lt (.g 14) (.g 13))] (.seq (qX 12 0) j4l)
def j4m:IC:=.seq (.block 3 (qr [qM 0,qA (.call 17 [qa]),qT 3] (qr [qF 2 9,qL,qM 3,qP (.bin .shr qa (.c (.s (.int .u64 4)))),qM 3,qP (.bin .and qa (qC 15)),qP (.build [.int .i64 0,.int .i64 0] [(0,(1,qc)),(1,(1,qa))]),qA (.bslice 94 2 [.int .i64 0,.int .i64 0] 1 [(0,(2,qa))]),qA (.app 94 2 16 (.l 6) qa),qF 2 9,qA (.store 1 qa qb)] (qr [qM 0,qN,qG 1,qB 2 (.load 1 false qa)] (.cond (.g 2) (.exit 2) .skip))))) (.region [qI 6,qT 6])
def jpq:IC:=qr [qQ 4 (.bin .lt (.g 6) (.g 5))] (.seq (qX 4 2) j4m)
def qa0:IC:=qr [qB 1 (.new 73 [.int .i64 0,.nilSlice,.nilSlice])] (qr [qM 0,qA (.call 17 [qa]),qP (.build [.int .i64 0,.nilSlice,.nilSlice] [(0,(1,qa))]),qB 9 (.new 73 [.int .i64 0,.nilSlice,.nilSlice]),qA (.store 3 qa qb)] (qr [qM 0,qA (.call 17 [qa]),qT 15] (qr [qM 0,qA (.call 17 [qa]),qT 7] (.seq (qr [qQ 13 (.mv (.g 15)),qQ 14 (.mv (qC 0))] (.block 0 (.loop jpp))) (.seq (qr [qQ 5 (.mv (.g 7)),qQ 6 (.mv (qC 0))] (.block 2 (.loop jpq))) (qr [qA (.load 3 true (.g 9)),qA (.store 3 (.g 1) qa)] .ret))))))
theorem ql2:T 41=some (.mk qa0 1 15 [(.cell 1 3 true)]):=by kernel_rfl
def qa1:IC:=qr [qB 3 (.box 55 (.g 0)),qB 1 (.new 54 [.nilSlice,.nilSlice,.nilSlice])] (qr [qA (.load 1 false (.g 3)),qA (.call 21 [qa]),qP (.build [.nilSlice,.nilSlice,.nilSlice] [(0,(1,qa))]),qB 2 (.new 54 [.nilSlice,.nilSlice,.nilSlice]),qA (.store 3 qa qb)] (qr [qA (.load 1 false (.g 3)),qP (.mkfun 40 [.g 3,.g 2]),qA (.call 19 [qb,qa])] (qr [qA (.load 1 false (.g 3)),qP (.mkfun 42 [.g 3,.g 2]),qA (.call 19 [qb,qa])] (qr [qA (.load 3 true (.g 2)),qA (.store 3 (.g 1) qa)] .ret))))
theorem ql3:T 23=some (.mk qa1 1 3 [(.cell 1 3 true)]):=by kernel_rfl
def qa2:IC:=qr [qA (.load 1 false (.g 0)),qA (.call 41 [qa]),qB 2 (.new 73 [.int .i64 0,.nilSlice,.nilSlice]),qA (.store 3 qa qb)] (.region [qF 1 1,qL,qA (.load 3 true (.g 2)),qA (.bslice 73 3 [.int .i64 0,.nilSlice,.nilSlice] 1 [(0,(3,qa))]),qA (.app 73 3 56 qc qa),qF 1 1,qA (.store 1 qa qb)])
theorem ql4:T 40=some (.mk qa2 2 1 []):=by kernel_rfl
def qa3:IC:=qr [qA (.load 1 false (.g 0)),qA (.call 17 [qa]),qP (.build [.int .i64 0,.nilSlice] [(0,(1,qa))]),qB 2 (.new 76 [.int .i64 0,.nilSlice]),qA (.store 2 qa qb)] (qr [qA (.load 1 false (.g 0)),qA (.call 21 [qa]),qF 1 2,qA (.store 1 qa qb)] (.region [qF 2 1,qL,qA (.load 2 true (.g 2)),qA (.bslice 76 2 [.int .i64 0,.nilSlice] 1 [(0,(2,qa))]),qA (.app 76 2 32 qc qa),qF 2 1,qA (.store 1 qa qb)]))
theorem ql5:T 42=some (.mk qa3 2 1 []):=by kernel_rfl
def qa4:IC:=qr [qA (.load 1 false (.g 0)),qA (.call 23 [qa]),qB 2 (.new 54 [.nilSlice,.nilSlice,.nilSlice]),qA (.store 3 qa qb)] (.region [qF 2 1,qG 1,qL,qA (.load 3 true (.g 2)),qA (.bslice 54 3 [.nilSlice,.nilSlice,.nilSlice] 1 [(0,(3,qa))]),qA (.app 54 3 72 qc qa),qF 2 1,qG 1,qA (.store 1 qa qc)])
theorem ql6:T 22=some (.mk qa4 2 1 []):=by kernel_rfl
def jv3:IC:=.seq (.block 1 (qr [qM 10,qT 8] (.region [qM 8,qA (.load 1 false (.g 7)),qA (.call 17 [qa]),qF 0 6,qG 0,qP (.ixa 2 1 qa (.l 4)),qA (.store 1 qa qd)]))) (.region [qI 10,qT 10])
def jv4:IC:=qr [qQ 9 (.bin .lt (.g 10) (qC 2))] (.seq (qX 9 0) jv3)
def jv5:IC:=qr [qA (.load 7 true (.g 6)),qA (.store 7 (.g 11) qa),qQ 1 (.mv (qC 0))] .ret
def jv6:IC:=qr [qM 0,qA (.call 16 [qa]),qP (.build [.nilSlice,.bool false] [(0,(1,qa))]),qA (.box 58 qa),qB 7 (.new 55 [.nilPtr]),qA (.store 1 qa qb)] (qr [qB 6 (.new 31 [.int .i64 0,.int .i64 0,.nilSlice,.nilSlice,.int .i64 0,.int .i64 0,.nilSlice])] (.seq (qr [qQ 10 (.mv (qC 0))] (.block 0 (.loop jv4))) (qr [qA (.load 1 false (.g 7)),qA (.call 18 [qa]),qF 4 6,qA (.store 1 qa qb)] (qr [qA (.load 1 false (.g 7)),qA (.call 18 [qa]),qF 5 6,qA (.store 1 qa qb)] (qr [qA (.load 1 false (.g 7)),qP (.mkfun 20 [.g 6,.g 7]),qA (.call 19 [qb,qa])] (qr [qA (.load 1 false (.g 7)),qA (.call 21 [qa]),qF 2 6,qG 0,qA (.store 1 qa qc)] (qr [qA (.load 1 false (.g 7)),qP (.mkfun 22 [.g 7,.g 6]),qA (.call 19 [qb,qa])] (.seq (.block 2 (qr [qA (.load 1 false (.g 7)),qN,qG 1,qL,qT 5] (.cond (.g 5) (qr [qP (.build [.int .i64 0,.int .i64 0,.nilSlice,.nilSlice,.int .i64 0,.int .i64 0,.nilSlice] []),qA (.store 7 (.g 11) qa),qQ 1 (.mv (qC 5))] .ret) (qr [qA (.load 1 false (.g 7)),qN,qG 0,qL,qP (.len qa),qP (.bin .gt qa (qC 0)),qT 4] (.cond (.g 4) (qr [qP (.build [.int .i64 0,.int .i64 0,.nilSlice,.nilSlice,.int .i64 0,.int .i64 0,.nilSlice] []),qA (.store 7 (.g 11) qa),qQ 1 (.mv (qC 4))] .ret) .skip))))) (.seq (qr [qA (.load 7 true (.g 6)),qA (.call 24 [qa]),qT 3] (qr [qM 3,qQ 2 (.bin .ne qa (qC 0))] (.cond (.g 2) (qr [qP (.build [.int .i64 0,.int .i64 0,.nilSlice,.nilSlice,.int .i64 0,.int .i64 0,.nilSlice] []),qM 3,qA (.store 7 (.g 11) qb),qQ 1 (.mv qb)] .ret) .skip))) jv5)))))))))
def jtr:IC:=qr [qB 11 (.new 31 [.int .i64 0,.int .i64 0,.nilSlice,.nilSlice,.int .i64 0,.int .i64 0,.nilSlice]),qQ 1 (.mv (qC 0))] (.seq (qr [qM 0,qP (.len qa),qQ 12 (.bin .gt qa (qC 20000))] (.cond (.g 12) (qr [qP (.build [.int .i64 0,.int .i64 0,.nilSlice,.nilSlice,.int .i64 0,.int .i64 0,.nilSlice] []),qA (.store 7 (.g 11) qa),qQ 1 (.mv (qC 1))] .ret) .skip)) jv6)
theorem qa5:T 7=some (.mk jtr 1 12 [(.cell 11 7 true),(.tmp 1)]):=by kernel_rfl
structure RdS (h:Hp) (p bb:Nat) (r:Rd):Prop where
 ok:Ok h
 ex:∃ x,h.get p=some (.arr [x,.bool r.2] 58)/\jlz (.s x)=some (vi r.1.length)/\(r.1=[]∨∃ o mc ex cells ty,x=.slice bb o r.1.length mc ex 1/\r.1.length<=mc/\h.get bb=some (.arr cells ty)/\∀ (i n:Nat),r.1[i]?=some n->cells[o+i]?=some (.int .u8 n)/\n<256)
 p1:1<=p/\p<h.next/\bb<h.next/\p≠bb
theorem RdS.keep {h:Hp} {p bb:Nat} {r:Rd} (k:RdS h p bb r) (ok':Ok h') (hk:∀ n,n<h.next->h'.get n=h.get n) (hn:h.next<=h'.next):RdS h' p bb r:=by
 obtain⟨x,h1,h2,h3⟩:=k.ex
 obtain⟨q1,q2,q3,q4⟩:=k.p1
 refine⟨ok',⟨x,(hk p q2).trans h1,h2,?_⟩,⟨q1,by omega,by omega,q4⟩⟩
 rcases h3 with h3 | ⟨o,mc,ex,cells,ty,e,h4,h5,h6⟩
 .exact .inl h3
 .exact .inr ⟨o,mc,ex,cells,ty,e,h4,(hk bb q3).trans h5,h6⟩
noncomputable def ql7 (size:Nat) (x y:Option AV):Option AV:=ob x (fun v=>ja4 v
 (ob (some 0) (fun hi'=>ob (ob y (fun x=>jg1 x (fun _ n=>Int.casesOn (motive:=fun _=>Option Nat) n (fun m=>some m) (fun _=>none)))) (fun lo'=>oif (Nat.beq (Nat.add hi' lo') 0) (some (AV.s .nilSlice)) none)))
 (fun b off len mc ex sz=>ob (some len) (fun hi'=>ob (ob y (fun x=>jg1 x (fun _ n=>Int.casesOn (motive:=fun _=>Option Nat) n (fun m=>some m) (fun _=>none)))) (fun lo' =>
  oif (Nat.ble hi' mc) (oif (Nat.ble lo' hi') (oif (Nat.beq sz size) (some (AV.s (.slice b (Nat.add off (Nat.mul lo' size)) (Nat.sub hi' lo') (Nat.sub mc lo') ex sz))) none) none) none)))
 (fun rows=>ob (some (ja9 rows)) (fun hi'=>ob (ob y (fun x=>jg1 x (fun _ n=>Int.casesOn (motive:=fun _=>Option Nat) n (fun m=>some m) (fun _=>none)))) (fun lo' =>
  oif (Nat.ble hi' (ja9 rows)) (oif (Nat.ble lo' hi') (oif (jkp size rows) (ob (ja3 (Nat.sub hi' lo') (jbd lo' rows)) (fun r=>some (AV.s (.lst r)))) none) none) none)))
 (ob (some 0) (fun hi'=>ob (ob y (fun x=>jg1 x (fun _ n=>Int.casesOn (motive:=fun _=>Option Nat) n (fun m=>some m) (fun _=>none)))) (fun lo'=>oif (Nat.beq (Nat.add hi' lo') 0) (some (AV.s .emp)) none))))
theorem jts {st fr:List AV} {size:Nat} {x y:Od}:pop st fr (.slice size x (some y) none)=ql7 size (ev st fr x) (ev st fr y):=rfl
theorem j79 {off mc:Nat} {ex:Bool} (hn:1<=n) (hm:n<=mc):ql7 1 (some (AV.s (.slice b off n mc ex 1))) (some (vi 1))=some (AV.s (.slice b (off+1) (n - 1) (mc - 1) ex 1)):=by
 show oif (Nat.ble n mc) (oif (Nat.ble 1 n) (oif (Nat.beq 1 1) (some (AV.s (SV.slice b (Nat.add off (Nat.mul 1 1)) (Nat.sub n 1) (Nat.sub mc 1) ex 1))) none) none) none=_
 rw[show Nat.ble n mc=true from f1y hm,show Nat.ble 1 n=true from f1y hn]
 rfl
theorem j8a (h:n<256):jnu .i64 (n:Int)=some (vi n):=by
 show oif (Nat.ble n 9223372036854775807) (some (AV.s (.int .i64 (n:Int)))) _=_
 rw[show Nat.ble n 9223372036854775807=true from f1y (by omega)]
 rfl
def Xf (f:FuncId):Bool:=Nat.beq f 16||(Nat.beq f 17||(Nat.beq f 18||(Nat.beq f 19||(Nat.beq f 21||(Nat.beq f 41||(Nat.beq f 23||(Nat.beq f 40||(Nat.beq f 42||(Nat.beq f 22||Nat.beq f 7)))))))))
structure RdF0 (F:Fns):Prop where
 x:∀ f,Xf f=true->∀ vs h,jeb F f vs h=none
 t:jy6 F=T
theorem Mv.at {h:Hp} {p:Nat} (ok:Ok h') (hn:h.next<=h'.next) (g:∀ n,n≠p->n<h.next->h'.get n=h.get n):Mv h h' [p] [p]:=⟨ok,hn,fun n hm=>.inl hm,fun n h1 h2=>g n (fun e=>h2 (by simp[e])) h1⟩
section
variable {F:Fns} {h:Hp} {p bb:Nat} {r:Rd}
def Rdn (h:Hp) (p bb:Nat) (n:Nat) (r:Rd):AV->Hp->Prop:=fun v h'=>v=vi n/\RdS h' p bb r/\Mv h h' [p] [p]
theorem jc9 (f:RdF0 F) (k:RdS h p bb r):WC F 17 [.s (.ptr p 0)] h (Rdn h p bb (smF r).1 (smF r).2):=by
 refine jan (f.x _ rfl _ _) ((congrFun f.t _).trans qly) rfl ?_
 unfold qaw
 obtain⟨l,s⟩:=r
 obtain⟨x,k1,k2,k3⟩:=k.ex
 obtain⟨q1,q2,q3,q4⟩:=k.p1
 have ok:=k.ok
 simp only at k1 k2 k3
 cases l with
 | nil =>
  obtain⟨hA,eA,okA,nA,xA,gA⟩:=jrx ok q1 (some (.arr [x,.bool true] 58))
  have c1:((([]:List Nat).length:Int)=0)=True:=by simp
  simp(disch:=first|omega|rfl) only[go_sem,k1,k2,c1,eA]
  exact⟨rfl,⟨okA,⟨x,xA,k2,.inl rfl⟩,⟨q1,by omega,by omega,q4⟩⟩,Mv.at okA (by omega) (fun n h1 _=>gA n h1)⟩
 | cons a l =>
  rcases k3 with k3 | ⟨o,mc,ex,cells,ty,rfl,k4,k5,k6⟩
  .cases k3
  obtain⟨k7,k8⟩:=k6 0 a rfl
  have k4':l.length+1<=mc:=k4
  obtain⟨hA,eA,okA,nA,xA,gA⟩:=jrx ok q1 (some (.arr [.slice bb (o+1) l.length (mc - 1) ex 1,.bool s] 58))
  have c1:(((a::l).length:Int)=0)=False:=by simp;omega
  have hix:jj3 1 (.s (.slice bb o (a::l).length mc ex 1)) (vi ((0:Nat):Int))=some (.s (.ptr bb (o+0*1))):=jcc (by simp)
  have hix':jj3 1 (.s (.slice bb o (a::l).length mc ex 1)) (vi 0)=some (.s (.ptr bb o)):=hix
  have hrd:rdB (h.get bb) o 1=some [.int .u8 a]:=by rw[k5];exact j1t k7
  have hsl:ql7 1 (some (AV.s (.slice bb o (a::l).length mc ex 1))) (some (vi 1))=some (AV.s (.slice bb (o+1) l.length (mc - 1) ex 1)):=j79 (by simp) k4
  simp(disch:=first|omega|rfl) only[go_sem,k1,k2,c1]
  unfold j4i
  simp(disch:=first|omega|rfl) only[go_sem,k1,hix',hrd,j8a k8,jts,hsl,eA]
  refine⟨rfl,⟨okA,⟨_,xA,rfl,?_⟩,⟨q1,by omega,by omega,q4⟩⟩,Mv.at okA (by omega) (fun n h1 _=>gA n h1)⟩
  refine .inr ⟨o+1,mc - 1,ex,cells,ty,rfl,(show l.length<=mc - 1 by omega),(gA bb (fun e=>q4 e.symm)).trans k5,fun i n hn=>?_⟩
  have:=k6 (i+1) n hn
  rw[show o+1+i=o+(i+1) by omega]
  exact this
end
def wdN:Nat->Nat->Rd->Nat×Rd
 | 0,a,r=>(a,r)
 | d+1,a,r=>wdN d (a*256 ||| (smF r).1) (smF r).2
theorem j8b (r:Rd):jd7 r=wdN 4 0 r:=by
 show((((smF r).1*256 ||| _)*256 ||| _)*256 ||| _,_)=((((0*256 ||| (smF r).1)*256 ||| _)*256 ||| _)*256 ||| _,_)
 rw[f1s,Nat.zero_or]
def ByR (r:Rd):Prop:=∀ n∈r.1,n<256
theorem ByR.sm {r:Rd} (b:ByR r):(smF r).1<256/\ByR (smF r).2:=by
 obtain⟨l,s⟩:=r
 cases l with
 | nil=>exact⟨show 0<256 by decide,fun n hn=>by cases hn⟩
 | cons a l=>exact⟨b a (by simp),fun n hn=>b n (f1b _ hn)⟩
theorem RdS.by {h:Hp} {p bb:Nat} {r:Rd} (k:RdS h p bb r):ByR r:=by
 obtain⟨x,_,_,h3⟩:=k.ex
 rcases h3 with h3 | ⟨o,mc,ex,cells,ty,_,_,_,h6⟩
 .rw [ByR,h3];intro n hn;cases hn
 .intro n hn
  obtain⟨i,hi⟩:=f2h hn
  exact(h6 i n hi).2
theorem jrt (h:n<9223372036854775808):inR .i64 (.ofNat n)=true:=f1y (by omega)
theorem ql8 (h:a<4294967296):jcv .shl (.int .i64 (a:Int)) (.int .u64 8)=some (vi ((a*256:Nat):Int)):=by
 show oif (inR .i64 (.ofNat (Nat.mul a (Nat.pow 2 8)))) (some (AV.s (.int .i64 (.ofNat (Nat.mul a (Nat.pow 2 8)))))) none=_
 rw[show Nat.mul a (Nat.pow 2 8)=a*256 from rfl,jrt (by omega)]
 rfl
theorem qiy (h:a<9223372036854775808) (h2:b<9223372036854775808):jcv .or (.int .i64 (a:Int)) (.int .i64 (b:Int))=some (vi ((a ||| b:Nat):Int)):=by
 show oif (inR .i64 (.ofNat a)) (oif (inR .i64 (.ofNat b)) (some (AV.s (.int .i64 (.ofNat (Nat.lor a b))))) none) none=_
 rw[jrt h,jrt h2]
 rfl
section
variable {F:Fns} {p bb:Nat}
theorem qa6 (f:RdF0 F) {Q:Ex->St->Prop} {x1:AV}:∀ (d i a:Nat) (_:i+d=4) (_:a<256 ^ i) {h:Hp} {r:Rd} (k:RdS h p bb r) {x3:AV}
 (hQ:∀ hj x3,RdS hj p bb (wdN d a r).2->Mv h hj [p] [p]->Q (.exit 0) (.mk [.s (.ptr p 0),x1,vi (wdN d a r).1,x3,vi 4] hj)),
 W F jpn.loop (.mk [.s (.ptr p 0),x1,vi a,x3,vi i] h) Q
 | 0,i,a,hd,ha,h,r,k,x3,hQ=>by
  obtain rfl:i=4:=by omega
  have ok:=k.ok
  rw[jae]
  unfold jpn
  simp(disch:=first|omega|rfl) only[go_sem,f0q]
  exact hQ h _ k (Mv.refl ok)
 | d+1,i,a,hd,ha,h,r,k,x3,hQ=>by
  have ok:=k.ok
  have hlt:((i:Int)<4)=True:=eq_true (by omega)
  have hss:(i:Int)+1=((i+1:Nat):Int):=by omega
  have hi4:256 ^ i<=256 ^ 4:=Nat.pow_le_pow_right (by decide) (by omega)
  have ha1:a<4294967296:=f0m ha hi4
  obtain⟨b1,b2⟩:=k.by.sm
  have e1:a*256 ||| (smF r).1=a*256+(smF r).1:=j77 b1
  have ha2:(a*256 ||| (smF r).1)<256 ^ (i+1):=by
   rw[e1,Nat.pow_succ]
   have h1:(a+1)*256<=256 ^ i*256:=f2f _ ha
   omega
  rw[jae]
  unfold jpn j4j
  simp(disch:=first|omega|rfl) only[go_sem,jac,hlt,ql8 ha1]
  refine WC.imp (jc9 f k) ?_
  rintro _ hB ⟨rfl,k1,m1⟩
  have okB:=k1.ok
  simp(disch:=first|omega|rfl) only[go_sem,jac,qiy (show a*256<9223372036854775808 by omega) (show(smF r).1<9223372036854775808 by omega),hss]
  exact qa6 f d (i+1) (a*256 ||| (smF r).1) (by omega) ha2 k1 (fun hj x3 k2 m2=>hQ hj x3 k2 (m1.trans m2))
end
section
variable {F:Fns} {p bb:Nat} {h:Hp} {r:Rd}
theorem jtt (f:RdF0 F) (k:RdS h p bb r):WC F 18 [.s (.ptr p 0)] h (Rdn h p bb (jd7 r).1 (jd7 r).2):=by
 refine jan (f.x _ rfl _ _) ((congrFun f.t _).trans qlz) rfl ?_
 unfold qax
 have ok:=k.ok
 rw[j8b]
 simp(disch:=first|omega|rfl) only[go_sem]
 refine qa6 f 4 0 0 (by omega) (by decide) k (fun hj x3 k2 m2=>?_)
 have okj:=k2.ok
 simp(disch:=first|omega|rfl) only[go_sem]
 exact⟨rfl,k2,m2⟩
theorem qa7 {α:Type} {P:Rd->α×Rd} {I:List α->Rd->Hp->Prop} {cf:FuncId} {caps:List (Nat×Nat)} (hR:∀ l r h,I l r h->RdS h p bb r)
 (hI:∀ l r h,l.length<256->I l r h->r.2=false->WC F cf (jdx caps) h (fun _ h'=>I (l++[(P r).1]) (P r).2 h')) {Q:Ex->St->Prop} :
 ∀ (n:Nat) {l:List α} {r:Rd} {h:Hp} (_:l.length+n<257) (k:I l r h) {x2:AV}
  (hQ:∀ hj x2 x3,I (l++(eachF P n r).1) (eachF P n r).2 hj->Q (.exit 0) (.mk [.s (.ptr p 0),.s (.func cf caps),x2,x3] hj)),
  W F jpo.loop (.mk [.s (.ptr p 0),.s (.func cf caps),x2,vi n] h) Q
 | 0,l,r,h,hn,k,x2,hQ=>by
  have ok:=(hR _ _ _ k).ok
  rw[jae]
  unfold jpo
  simp(disch:=first|omega|rfl) only[go_sem,f0q,Int.natCast_zero]
  exact hQ h _ _ (by show I (l++[]) r h;rw[f1d];exact k)
 | n+1,l,r,h,hn,k,x2,hQ=>by
  have kr:=hR _ _ _ k
  have ok:=kr.ok
  obtain⟨x,k1,k2,k3⟩:=kr.ex
  have c1:(0<((n+1:Nat):Int))=True:=eq_true (by omega)
  have c2:((n+1:Nat):Int) - 1=(n:Int):=by omega
  rw[jae]
  unfold jpo j4k
  cases hs:r.2 with
  | true =>
   rw[hs] at k1
   simp(disch:=first|omega|rfl) only[go_sem,c1,k1]
   refine hQ h _ _ ?_
   have e:eachF P (n+1) r=([],r):=by unfold eachF;rw[if_pos hs]
   rw[e,f1d]
   exact k
  | false =>
   rw[hs] at k1
   have e:eachF P (n+1) r=((P r).1::(eachF P n (P r).2).1,(eachF P n (P r).2).2):=by
    show(if r.2=true then ([],r) else _)=_
    rw[if_neg (by simp[hs])]
   simp(disch:=first|omega|rfl) only[go_sem,c1,k1]
   rw[jgx rfl]
   simp(disch:=first|omega|rfl) only[go_sem]
   refine WC.imp (hI l r h (by omega) k hs) ?_
   rintro _ hB kB
   have okB:=(hR _ _ _ kB).ok
   simp(disch:=first|omega|rfl) only[go_sem,jac,c2]
   refine qa7 hR hI n (by rw[f0g];show l.length+1+n<257;omega) kB (fun hj x2 x3 kj=>hQ hj x2 x3 ?_)
   rw[e]
   rw[f0l] at kj
   exact kj
theorem jmf (f:RdF0 F) {α:Type} {P:Rd->α×Rd} {I:List α->Rd->Hp->Prop} {cf:FuncId} {caps:List (Nat×Nat)} (hR:∀ l r h,I l r h->RdS h p bb r)
 (hI:∀ l r h,l.length<256->I l r h->r.2=false->WC F cf (jdx caps) h (fun _ h'=>I (l++[(P r).1]) (P r).2 h'))
 (hS:∀ l r r' h h',I l r h->RdS h' p bb r'->Mv h h' [p] [p]->I l r' h') (k:I [] r h) :
 WC F 19 [.s (.ptr p 0),.s (.func cf caps)] h (fun _ h'=>I (eachR P r).1 (eachR P r).2 h'):=by
 refine jan (f.x _ rfl _ _) ((congrFun f.t _).trans ql0) rfl ?_
 unfold qay
 have kr:=hR _ _ _ k
 have ok:=kr.ok
 simp(disch:=first|omega|rfl) only[go_sem]
 refine WC.imp (jc9 f kr) ?_
 rintro _ hB ⟨rfl,k1,m1⟩
 have okB:=k1.ok
 have hb:=kr.by.sm.1
 simp(disch:=first|omega|rfl) only[go_sem]
 refine qa7 hR hI (smF r).1 (by show 0+_<257;omega) (hS _ _ _ _ _ k k1 m1) (fun hj x2 x3 kj=>?_)
 have okj:=(hR _ _ _ kj).ok
 simp(disch:=first|omega|rfl) only[go_sem]
 rw[f1l] at kj
 exact kj
end
end Go.Proofs.Ytkplfnkgodnmaaa.Ev
