/- A writer of bytes: a whole script. -/
import Derived.Test.YthbghmhjgdonmaaFd
import Derived.Test.YthbghmhjgdonmaaMc4
namespace Go.Proofs.Ythbghmhjgdonmaa.Ev
open Go Go.RowKit Go.Proofs.Ythbghmhjgdonmaa.Ms
attribute [local go_sem] Int.reduceToNat reduceCtorEq Nat.reduceAdd Nat.reduceMul Nat.reduceEqDiff Int.reduceEq Int.reduceLT Int.reduceLE Int.reduceNeg Int.reduceAdd Int.reduceSub Int.reduceMul Int.reduceNe
attribute [local go_sem ↓] reduceIte
set_option linter.all false
set_option maxRecDepth 100000
set_option maxHeartbeats 2000000
def j79 (s:Scr):List SV:=[si s.m1,si s.m2,jb6 jfn s.f.values,jb6 jlx s.f.blocks,si s.seed,si s.steps,jb6 jfn s.junk]
def jiy (s:Scr) (xj:SV):List SV:=[si s.m1,si s.m2,jb6 jfn s.f.values,jb6 jlx s.f.blocks,si s.seed,si s.steps,xj]
theorem Wrn.out {h:Hp} {p:Nat} {ns:List Nat} (n:Nat) (h0:n<h.next) (hn:n∉p::ns) {h':Hp} {ns':List Nat} (m:Mv h h' (p::ns) (p::ns')):n<h'.next/\n∉p::ns':=⟨f0j h0 m.nx,fun hc=>by
 rcases m.new n hc with h1 | h1
 .exact hn h1
 .omega⟩
theorem WrS.fresh {h:Hp} {p:Nat} {ws ns:List Nat} (w:WrS h p ws ns):h.next∉p::ns:=fun hc=>by
 rcases f0m.1 hc with h1 | h1
 .have:=w.p1.2;omega
 .have:=w.lt _ h1;omega
section
variable {F:Fns} (f:WrF F) {p:Nat} {Q:Ex->St->Prop}
include f
theorem j1z {l:List Nat} {xj:SV} (lj:LstE jfn 1 xj l) (hl:l.length<=10000) {x0 x1 x2 x3 x4 x5 x6 x7 x8 x9 x10 x11 x12 x13 x14 x15 x16 x17 x24 x25 x26:AV} :
 ∀ (d i:Nat) (_:i+d=l.length) {hi:Hp} {ws ns:List Nat} (_:WrS hi p ws ns) (_:ws.length+4*d<=40000) {x18 x20:AV}
  (hQ:∀ hj ns' x18 x20,WrS hj p (ws++((l.drop i).map jbo).flatten) ns'->Mv hi hj (p::ns) (p::ns')->Q (.exit 0) (.mk [x0,x1,x2,x3,x4,x5,x6,x7,x8,x9,x10,x11,x12,x13,x14,x15,x16,x17,x18,.s xj,x20,vi l.length,vi l.length,.s (.ptr p 0),x24,x25,x26] hj)),
  W F jja.loop (.mk [x0,x1,x2,x3,x4,x5,x6,x7,x8,x9,x10,x11,x12,x13,x14,x15,x16,x17,x18,.s xj,x20,vi l.length,vi i,.s (.ptr p 0),x24,x25,x26] hi) Q
 | 0,i,hd,hi,ws,ns,w,hw,x18,x20,hQ=>by
  obtain rfl:i=l.length:=by omega
  rw[jck]
  unfold jja
  have ok:=w.ok
  simp(disch:=first|omega|rfl) only[go_sem,f2e]
  exact hQ hi ns _ _ (by rw[f14];simpa using w) (Mv.refl ok)
 | d+1,i,hd,hi,ws,ns,w,hw,x18,x20,hQ=>by
  have hil:i<l.length:=by omega
  have hlt:(i:Int)<(l.length:Int):=by omega
  have hss:(i:Int)+1=((i+1:Nat):Int):=by omega
  obtain⟨n,hn⟩:∃ n,l[i]?=some n:=⟨_,f0f hil⟩
  have hdr:l.drop i=n::l.drop (i+1):=by rw[f0w hil,(f0r.1 hn).2]
  have hix:=lj.at_ hn
  have ok:=w.ok
  rw[jck]
  unfold jja jty
  simp(disch:=first|omega|rfl) only[go_sem,jbx,eq_true hlt,hix,jfn]
  refine WC.imp (jsv f w (n:=n) (by omega)) ?_
  rintro v hB ⟨n1,w1,m1⟩
  have okB:=w1.ok
  simp(disch:=first|omega|rfl) only[go_sem,jbx,hss]
  exact j1z lj hl d (i+1) (by omega) w1 (by rw[f0d];show ws.length+4+4*d<=40000;omega) (fun hj ns' x18 x20 w' m'=>hQ hj ns' x18 x20 (by rw[hdr,f1c,f0s,←f0l];exact w') (m1.trans m'))
theorem j10 {l:List Ms.Ins} (hl:l.length<=10000) (hok:∀ x∈l,OkI x) {x0 x1 x2 x3 x4 x5 x6 x7 x13 x14 x15 x16 x17 x18 x19 x20 x21 x22 x24 x25 x26:AV} :
 ∀ (d i:Nat) (_:i+d=l.length) {hi:Hp} {ws ns:List Nat} (_:WrS hi p ws ns) (_:ws.length+(((l.drop i).map jlv).flatten).length<=30000) {x8 x10:AV}
  (hQ:∀ hj ns' x8 x10,WrS hj p (ws++byt ((l.drop i).map jlv).flatten) ns'->Mv hi hj (p::ns) (p::ns')->Q (.exit 4) (.mk [x0,x1,x2,x3,x4,x5,x6,x7,x8,.s (jb6 jvc l),x10,vi l.length,vi l.length,x13,x14,x15,x16,x17,x18,x19,x20,x21,x22,.s (.ptr p 0),x24,x25,x26] hj)),
  W F jjb.loop (.mk [x0,x1,x2,x3,x4,x5,x6,x7,x8,.s (jb6 jvc l),x10,vi l.length,vi i,x13,x14,x15,x16,x17,x18,x19,x20,x21,x22,.s (.ptr p 0),x24,x25,x26] hi) Q
 | 0,i,hd,hi,ws,ns,w,hw,x8,x10,hQ=>by
  obtain rfl:i=l.length:=by omega
  rw[jck]
  unfold jjb
  have ok:=w.ok
  simp(disch:=first|omega|rfl) only[go_sem,f2e]
  exact hQ hi ns _ _ (by rw[f14];simpa[byt] using w) (Mv.refl ok)
 | d+1,i,hd,hi,ws,ns,w,hw,x8,x10,hQ=>by
  have hil:i<l.length:=by omega
  have hlt:(i:Int)<(l.length:Int):=by omega
  have hss:(i:Int)+1=((i+1:Nat):Int):=by omega
  obtain⟨x,hx⟩:∃ n,l[i]?=some n:=⟨_,f0f hil⟩
  have hdr:l.drop i=x::l.drop (i+1):=by rw[f0w hil,(f0r.1 hx).2]
  have hix:=jc4 (enc:=jvc) (size:=3) hx rfl
  have ok:=w.ok
  obtain⟨hA,eA,okA,nA,xA,gA⟩:=ju9 ok [.int .i64 0,.nilSlice,.nilSlice] (jvc x) 81
  have wA:=w.keep okA gA (by omega)
  rw[hdr,f1c,f0s,f0d] at hw
  have eA':=eA
  have xA':=xA
  unfold jvc at xA eA
  rw[jck]
  unfold jjb jtz
  simp(disch:=first|omega|rfl) only[go_sem,jbx,eq_true hlt,hix,jvc,eA,xA]
  refine WC.imp (j38 f wA (hok x (f0k hx)) (by omega)) ?_
  rintro v hB ⟨n1,w1,m1⟩
  have okB:=w1.ok
  simp(disch:=first|omega|rfl) only[go_sem,jbx,hss]
  exact j10 hl hok d (i+1) (by omega) w1 (by rw[f0d,jc8];omega) (fun hj ns' x8 x10 w' m'=>hQ hj ns' x8 x10 (by rw[hdr,f1c,f0s,jc7,←f0l];exact w') ((Mv.low okA (by omega) gA _).trans (m1.trans m')))
theorem j11 {l:List Ms.Edg} (hl:l.length<=10000) {x0 x1 x2 x8 x9 x10 x11 x12 x13 x14 x15 x16 x17 x18 x19 x20 x21 x22 x24 x25 x26:AV} :
 ∀ (d i:Nat) (_:i+d=l.length) {hi:Hp} {ws ns:List Nat} (_:WrS hi p ws ns) (_:ws.length+(((l.drop i).map jsr).flatten).length<=30000) {x3 x5:AV}
  (hQ:∀ hj ns' x3 x5,WrS hj p (ws++byt ((l.drop i).map jsr).flatten) ns'->Mv hi hj (p::ns) (p::ns')->Q (.exit 6) (.mk [x0,x1,x2,x3,.s (jb6 j1o l),x5,vi l.length,vi l.length,x8,x9,x10,x11,x12,x13,x14,x15,x16,x17,x18,x19,x20,x21,x22,.s (.ptr p 0),x24,x25,x26] hj)),
  W F jjc.loop (.mk [x0,x1,x2,x3,.s (jb6 j1o l),x5,vi l.length,vi i,x8,x9,x10,x11,x12,x13,x14,x15,x16,x17,x18,x19,x20,x21,x22,.s (.ptr p 0),x24,x25,x26] hi) Q
 | 0,i,hd,hi,ws,ns,w,hw,x3,x5,hQ=>by
  obtain rfl:i=l.length:=by omega
  rw[jck]
  unfold jjc
  have ok:=w.ok
  simp(disch:=first|omega|rfl) only[go_sem,f2e]
  exact hQ hi ns _ _ (by rw[f14];simpa[byt] using w) (Mv.refl ok)
 | d+1,i,hd,hi,ws,ns,w,hw,x3,x5,hQ=>by
  have hil:i<l.length:=by omega
  have hlt:(i:Int)<(l.length:Int):=by omega
  have hss:(i:Int)+1=((i+1:Nat):Int):=by omega
  obtain⟨x,hx⟩:∃ n,l[i]?=some n:=⟨_,f0f hil⟩
  have hdr:l.drop i=x::l.drop (i+1):=by rw[f0w hil,(f0r.1 hx).2]
  have hix:=jc4 (enc:=j1o) (size:=2) hx rfl
  have ok:=w.ok
  obtain⟨hA,eA,okA,nA,xA,gA⟩:=ju9 ok [.int .i64 0,.nilSlice] (j1o x) 68
  have wA:=w.keep okA gA (by omega)
  have fA:=w.fresh
  rw[hdr,f1c,f0s,f0d] at hw
  have hxl:(jsr x).length=2+x.args.length:=by show(x.block::x.args.length::x.args).length=_;simp;omega
  unfold j1o at xA eA
  rw[jck]
  unfold jjc jt0
  simp(disch:=first|omega|rfl) only[go_sem,jbx,eq_true hlt,hix,j1o,eA,xA]
  refine WC.imp (wsb f wA (l:=[x.block]) (by simp;omega)) ?_
  rintro v hB ⟨n1,w1,m1⟩
  have okB:=w1.ok
  have xB:=(m1.keep hi.next (by omega) fA).trans xA
  simp(disch:=first|omega|rfl) only[go_sem,xB]
  refine WC.imp (jsu f w1 (l:=x.args) (by rw[f0d,jc8];show ws.length+1+_+1<=_;omega)) ?_
  rintro v hC ⟨n2,w2,m2⟩
  have okC:=w2.ok
  simp(disch:=first|omega|rfl) only[go_sem,jbx,hss]
  have e2:(ws++byt [x.block])++byt (jqq x.args)=ws++byt (jsr x):=by rw[f0l,←jc7];rfl
  rw[e2] at w2
  exact j11 hl d (i+1) (by omega) w2 (by rw[f0d,jc8];omega) (fun hj ns' x3 x5 w' m'=>hQ hj ns' x3 x5 (by rw[hdr,f1c,f0s,jc7,←f0l];exact w') ((Mv.low okA (by omega) gA _).trans (m1.trans (m2.trans m'))))
theorem j12 {l:List Ms.Blk} (hl:l.length<=10000) (hok:∀ b∈l,OkB b) {x0 x1 x2 x18 x19 x20 x21 x22 x24 x25 x26:AV} :
 ∀ (d i:Nat) (_:i+d=l.length) {hi:Hp} {ws ns:List Nat} (_:WrS hi p ws ns) (_:ws.length+(((l.drop i).map jy6).flatten).length<=30000) {x3 x4 x5 x6 x7 x8 x9 x10 x11 x12 x13 x15:AV}
  (hQ:∀ hj ns' x3 x4 x5 x6 x7 x8 x9 x10 x11 x12 x13 x15,WrS hj p (ws++byt ((l.drop i).map jy6).flatten) ns'->Mv hi hj (p::ns) (p::ns')->Q (.exit 2) (.mk [x0,x1,x2,x3,x4,x5,x6,x7,x8,x9,x10,x11,x12,x13,.s (jb6 jlx l),x15,vi l.length,vi l.length,x18,x19,x20,x21,x22,.s (.ptr p 0),x24,x25,x26] hj)),
  W F jjd.loop (.mk [x0,x1,x2,x3,x4,x5,x6,x7,x8,x9,x10,x11,x12,x13,.s (jb6 jlx l),x15,vi l.length,vi i,x18,x19,x20,x21,x22,.s (.ptr p 0),x24,x25,x26] hi) Q
 | 0,i,hd,hi,ws,ns,w,hw,x3,x4,x5,x6,x7,x8,x9,x10,x11,x12,x13,x15,hQ=>by
  obtain rfl:i=l.length:=by omega
  rw[jck]
  unfold jjd
  have ok:=w.ok
  simp(disch:=first|omega|rfl) only[go_sem,f2e]
  exact hQ hi ns _ _ _ _ _ _ _ _ _ _ _ _ (by rw[f14];simpa[byt] using w) (Mv.refl ok)
 | d+1,i,hd,hi,ws,ns,w,hw,x3,x4,x5,x6,x7,x8,x9,x10,x11,x12,x13,x15,hQ=>by
  have hil:i<l.length:=by omega
  have hlt:(i:Int)<(l.length:Int):=by omega
  have hss:(i:Int)+1=((i+1:Nat):Int):=by omega
  obtain⟨x,hx⟩:∃ n,l[i]?=some n:=⟨_,f0f hil⟩
  have hdr:l.drop i=x::l.drop (i+1):=by rw[f0w hil,(f0r.1 hx).2]
  have hix:=jc4 (enc:=jlx) (size:=3) hx rfl
  have kx:=hok x (f0k hx)
  have ok:=w.ok
  obtain⟨hA,eA,okA,nA,xA,gA⟩:=ju9 ok [.nilSlice,.nilSlice,.nilSlice] (jlx x) 36
  have wA:=w.keep okA gA (by omega)
  have fA:=w.fresh
  rw[hdr,f1c,f0s,f0d] at hw
  have hxl:(jy6 x).length=1+x.params.length+(1+((x.instrs.map jlv).flatten.length+(1+(x.edges.map jsr).flatten.length))):=by
   unfold jy6 jqq;simp only[f0d,f07];omega
  have l1:=jb5 (enc:=jvc) (l:=x.instrs)
  have l2:=jb5 (enc:=j1o) (l:=x.edges)
  have hni:=kx.ni
  have hne:=kx.ne
  unfold jlx at xA eA
  rw[jck]
  unfold jjd jt1
  simp(disch:=first|omega|rfl) only[go_sem,jbx,eq_true hlt,hix,jlx,eA,xA]
  refine WC.imp (jsu f wA (l:=x.params) (by omega)) ?_
  rintro v hB ⟨n1,w1,m1⟩
  have okB:=w1.ok
  have xB:=(m1.keep hi.next (by omega) fA).trans xA
  obtain⟨bB,fB⟩:=Wrn.out hi.next (by omega) fA m1
  have e1:(ws++byt (jqq x.params)).length=ws.length+(1+x.params.length):=by rw[f0d,jc8];show _+(x.params.length+1)=_;omega
  simp(disch:=first|omega|rfl) only[go_sem,xB,l1]
  refine WC.imp (wsb f w1 (l:=[x.instrs.length]) (by simp only[f07,f1i];omega)) ?_
  rintro v hC ⟨n2,w2,m2⟩
  have okC:=w2.ok
  have xC:=(m2.keep hi.next bB fB).trans xB
  obtain⟨bC,fC⟩:=Wrn.out hi.next bB fB m2
  have e2:((ws++byt (jqq x.params))++byt [x.instrs.length]).length=ws.length+(1+x.params.length)+1:=by rw[f0d,e1];rfl
  simp(disch:=first|omega|rfl) only[go_sem,xC,l1]
  refine j10 f (l:=x.instrs) (by omega) kx.i x.instrs.length 0 (by omega) w2 (by rw[e2,f1f];omega) (fun hD n3 x8 x10 w3 m3=>?_)
  rw[f1f] at w3
  have okD:=w3.ok
  have xD:=(m3.keep hi.next bC fC).trans xC
  obtain⟨bD,fD⟩:=Wrn.out hi.next bC fC m3
  have e3:(((ws++byt (jqq x.params))++byt [x.instrs.length])++byt (x.instrs.map jlv).flatten).length=ws.length+(1+x.params.length)+1+(x.instrs.map jlv).flatten.length:=by rw[f0d,e2,jc8]
  simp(disch:=first|omega|rfl) only[go_sem,xD,l2]
  refine WC.imp (wsb f w3 (l:=[x.edges.length]) (by simp only[f07,f1i];omega)) ?_
  rintro v hE ⟨n4,w4,m4⟩
  have okE:=w4.ok
  have xE:=(m4.keep hi.next bD fD).trans xD
  have e4:((((ws++byt (jqq x.params))++byt [x.instrs.length])++byt (x.instrs.map jlv).flatten)++byt [x.edges.length]).length=ws.length+(1+x.params.length)+1+(x.instrs.map jlv).flatten.length+1:=by rw[f0d,e3];rfl
  simp(disch:=first|omega|rfl) only[go_sem,xE,l2]
  refine j11 f (l:=x.edges) (by omega) x.edges.length 0 (by omega) w4 (by rw[e4,f1f];omega) (fun hG n5 x3 x5 w5 m5=>?_)
  rw[f1f] at w5
  have okG:=w5.ok
  have e5:((((ws++byt (jqq x.params))++byt [x.instrs.length])++byt (x.instrs.map jlv).flatten)++byt [x.edges.length])++byt (x.edges.map jsr).flatten=ws++byt (jy6 x):=by
   simp only[f0l,←jc7];rfl
  rw[e5] at w5
  simp(disch:=first|omega|rfl) only[go_sem,jbx,hss]
  exact j12 hl hok d (i+1) (by omega) w5 (by rw[f0d,jc8];omega) (fun hj ns' x3 x4 x5 x6 x7 x8 x9 x10 x11 x12 x13 x15 w' m'=>hQ hj ns' x3 x4 x5 x6 x7 x8 x9 x10 x11 x12 x13 x15 (by rw[hdr,f1c,f0s,jc7,←f0l];exact w') ((Mv.low okA (by omega) gA _).trans (m1.trans (m2.trans (m3.trans (m4.trans (m5.trans m')))))))
end
set_option maxHeartbeats 4000000
noncomputable def j8s (h:Hp) (n size:Nat) (x:Option AV):R:=ob x (fun v=>jl8 v (fun b o=>ob (rd h b o (Nat.mul n size)) (fun _=>ok (.s (.slice b o n n true size)) h)))
theorem j6c {st fr:List AV} {h:Hp} {n size:Nat} {x:Od}:jb7 st fr h (.slicea n size x)=j8s h n size (ev st fr x):=rfl
theorem j39 {h:Hp} {n size b o:Nat} {row:List SV} (hr:rdB (h.get b) o (n*size)=some row):j8s h n size (some (.s (.ptr b o)))=some (.s (.slice b o n n true size),h):=by
 show ob (rdB (h.get b) o (n*size)) (fun _=>some (AV.s (.slice b o n n true size),h))=_
 rw[hr];rfl
def j8a (n:Nat):List SV:=[.int .u8 n]
def j6d (l:List Nat):AV:=.tup [(false,[jb6 j8a l]),(false,[si 0])]
theorem j4a {kk:Bool} {h:Hp} {x:SV} {l ns:List Nat} (k:Sl h 5 1 false EY x l ns):jtj kk h 3 (.tup [(false,[x]),(false,[.int .i64 0])])=some (j6d l):=by
 show ob (ob (jgd (jfy kk h 3) [x]) (fun x=>ob (j1k (jfy kk h 3) [(false,[.int .i64 0])]) (fun r=>some ((false,x)::r)))) (fun y=>some (AV.tup y))=_
 rw[j0t (k.frz (enc:=j8a) (fun _ _ _ e=>by obtain⟨rfl,_⟩:=e;rfl) (fun _=>rfl))]
 rfl
theorem j4b {F:Fns} (f:WrF F) {h:Hp} (ok:Ok h) {s:Scr} {xj:SV} (lq:LstE jfn 1 xj s.junk) {kk:Bool} (k:OkS s) (hb:(jvd s).length<=20000) (hC:∀ h Q,WC F 28 [.agg (jiy s xj)] h Q=Q (vi 0) h):WC F 13 [.agg (jiy s xj)] h (fun v h'=>∃ d,jtj kk h' d v=some (j6d (byt (jvd s)))):=by
 refine jin (f.x _ rfl _ _) ((congrFun f.t _).trans j59) rfl ?_
 unfold jy4
 obtain⟨hA,eA,okA,nA,xA,gA⟩:=j4m ok (jiy s xj) 45
 have hlen:(jvd s).length=2+(4+(4+(1+((s.junk.map jbo).flatten.length+(1+s.f.values.length+(1+(s.f.blocks.map jy6).flatten.length)))))):=by
  unfold jvd jqq jbo;simp only[f0d,f07,f1i];omega
 have hjl:(s.junk.map jbo).flatten.length=4*s.junk.length:=by
  generalize s.junk=q
  induction q with
  | nil=>rfl
  | cons a q ih=>rw[f1c,f0s,f0d,ih];show 4+_=4*(q.length+1);omega
 have hnj:=k.nj
 have hnb:=k.nb
 have hpos:=ok.pos
 obtain⟨hB,eB,okB,nB,xB,gB⟩:=j4m okA [.nilSlice] 74
 have w0:WrS hB hA.next [] []:=⟨okB,⟨_,xB,.nil⟩,⟨by omega,by omega⟩,by simp,by simp⟩
 have zA:=(gB h.next (by omega)).trans xA
 have a0:h.next∉[hA.next]:=by simp;omega
 have lj:=lq.len
 have lb:=jb5 (enc:=jlx) (l:=s.f.blocks)
 unfold jiy at eA zA
 rw[nA] at w0 a0 xB
 have hC':=hC
 unfold jiy at hC' ⊢
 simp(disch:=first|omega|rfl) only[go_sem,eA,xA,jiy,hC']
 unfold jt2
 have hrow:rdB (hB.get h.next) 0 (2*1)=some [si s.m1,si s.m2]:=by rw[zA];rfl
 simp(disch:=first|omega|rfl) only[go_sem,nA,eB,j6c,j39 hrow]
 have sc:∀ {hj:Hp} {n1:List Nat},h.next<hj.next/\h.next∉(h.next+1)::n1->∀ {hk:Hp} {n2:List Nat},Mv hj hk ((h.next+1)::n1) ((h.next+1)::n2)->h.next<hk.next/\h.next∉(h.next+1)::n2:=by intro hj n1 g hk n2 m;exact Wrn.out h.next g.1 g.2 m
 refine WC.imp (jst f w0 (l:=[s.m1,s.m2]) (.inr ⟨h.next,0,2,true,_,_,rfl,zA,by omega,a0,fun i n hi=>by
  match i,hi with
  | 0,hi=>cases hi;rfl
  | 1,hi=>cases hi;rfl⟩) (by simp)) ?_
 rintro v h1 ⟨n1,w1,m1⟩
 have ok1:=w1.ok
 have b1:=sc ⟨by omega,a0⟩ m1
 have z1:=(m1.keep h.next (by omega) a0).trans zA
 simp(disch:=first|omega|rfl) only[go_sem,z1]
 refine WC.imp (jsv f w1 (n:=s.seed) (by simp[byt])) ?_
 rintro v h2 ⟨n2,w2,m2⟩
 have ok2:=w2.ok
 have b2:=sc b1 m2
 have z2:=(m2.keep h.next b1.1 b1.2).trans z1
 simp(disch:=first|omega|rfl) only[go_sem,z2]
 refine WC.imp (jsv f w2 (n:=s.steps) (by simp[byt,jbo])) ?_
 rintro v h3 ⟨n3,w3,m3⟩
 have ok3:=w3.ok
 have b3:=sc b2 m3
 have z3:=(m3.keep h.next b2.1 b2.2).trans z2
 simp(disch:=first|omega|rfl) only[go_sem,z3,lj]
 refine WC.imp (wsb f w3 (l:=[s.junk.length]) (by simp[byt,jbo])) ?_
 rintro v h4 ⟨n4,w4,m4⟩
 have ok4:=w4.ok
 have b4:=sc b3 m4
 have z4:=(m4.keep h.next b3.1 b3.2).trans z3
 simp(disch:=first|omega|rfl) only[go_sem,z4,lj]
 refine j1z f lq (by omega) s.junk.length 0 (by omega) w4 (by simp[byt,jbo];omega) (fun h5 n5 x18 x20 w5 m5=>?_)
 rw[f1f] at w5
 have ok5:=w5.ok
 have b5:=sc b4 m5
 have z5:=(m5.keep h.next b4.1 b4.2).trans z4
 simp(disch:=first|omega|rfl) only[go_sem,z5]
 have q5:([]++byt [s.m1,s.m2]++jbo s.seed++jbo s.steps++byt [s.junk.length]++(s.junk.map jbo).flatten).length=11+(s.junk.map jbo).flatten.length:=by simp[byt,jbo];omega
 refine WC.imp (jsu f w5 (l:=s.f.values) (by rw[q5];omega)) ?_
 rintro v h6 ⟨n6,w6,m6⟩
 have ok6:=w6.ok
 have b6:=sc b5 m6
 have z6:=(m6.keep h.next b5.1 b5.2).trans z5
 simp(disch:=first|omega|rfl) only[go_sem,z6,lb]
 have q6:([]++byt [s.m1,s.m2]++jbo s.seed++jbo s.steps++byt [s.junk.length]++(s.junk.map jbo).flatten++byt (jqq s.f.values)).length=11+(s.junk.map jbo).flatten.length+(1+s.f.values.length):=by rw[f0d,q5,jc8];show _+(s.f.values.length+1)=_;omega
 refine WC.imp (wsb f w6 (l:=[s.f.blocks.length]) (by rw[q6];show _+1<=_;omega)) ?_
 rintro v h7 ⟨n7,w7,m7⟩
 have ok7:=w7.ok
 have b7:=sc b6 m7
 have z7:=(m7.keep h.next b6.1 b6.2).trans z6
 simp(disch:=first|omega|rfl) only[go_sem,z7,lb]
 refine j12 f (l:=s.f.blocks) (by omega) k.b s.f.blocks.length 0 (by omega) w7 (by rw[f0d,q6,f1f];show _+1+_<=_;omega) (fun h8 n8 x3 x4 x5 x6 x7 x8 x9 x10 x11 x12 x13 x15 w8 m8=>?_)
 rw[f1f] at w8
 have ok8:=w8.ok
 obtain⟨x,p1,p2⟩:=w8.ex
 simp(disch:=first|omega|rfl) only[go_sem,p1]
 have wd:∀ n,byt (jbo n)=jbo n:=fun n=>jy9 (fun m hm=>by
  unfold jbo at hm
  simp only[f0m,f2g,or_false] at hm
  omega)
 have wj:byt (s.junk.map jbo).flatten=(s.junk.map jbo).flatten:=by
  generalize s.junk=q
  induction q with
  | nil=>rfl
  | cons a q ih=>rw[f1c,f0s,jc7,wd,ih]
 have e:[]++byt [s.m1,s.m2]++jbo s.seed++jbo s.steps++byt [s.junk.length]++(s.junk.map jbo).flatten++byt (jqq s.f.values)++byt [s.f.blocks.length]++byt (s.f.blocks.map jy6).flatten=byt (jvd s):=by
  rw[←wd s.seed,←wd s.steps,←wj]
  simp only[f1w,←jc7,f0l]
  rfl
 rw[e] at p2
 exact⟨3,j4a p2⟩
open Go Go.RowKit
def jza:IC:=.seq (.block 1 (qr [qP (.ixs 1 (.g 4) (.g 7)),qL,qT 3] (qr [qM 3,qP (.bin .lt qa (qC 0)),qP (.mv qa),qR 0 false (.mv (.g 3)),qR 1 false (.bin .gt qa (qC 1073741824)),qQ 2 (.pick qc (.c (.s (.bool true))) qa)] (.cond (.g 2) (qr [qQ 1 (.mv (qC 2))] .ret) .skip)))) (.region [qI 7,qT 7])
def jo9:IC:=qr [qQ 5 (.bin .lt (.g 7) (.g 6))] (.seq (qX 5 0) jza)
def jzb:IC:=.seq (qr [qF 6 12,qB 4 (.load 1 false qa),qQ 6 (.len qa),qQ 7 (.mv (qC 0))] (.block 0 (.loop jo9))) (qr [qQ 1 (.mv (qC 0))] .ret)
def jzc:IC:=.seq (qr [qF 6 12,qL,qP (.len qa),qQ 8 (.bin .gt qa (qC 64))] (.cond (.g 8) (qr [qQ 1 (.mv (qC 1))] .ret) .skip)) jzb
def jzd:IC:=.seq (qr [qF 4 12,qL,qP (.bin .lt qa (qC 0)),qP (.mv qa),qR 0 false (.fld 4 (.g 12)),qS 1 false (.load 1 false qa),qR 2 false (.bin .gt qa (qC 1073741824)),qP (.pick qd (.c (.s (.bool true))) qa),qP (.mv qa),qR 0 false (.fld 5 (.g 12)),qS 1 false (.load 1 false qa),qR 2 false (.bin .lt qa (qC 0)),qP (.pick qd (.c (.s (.bool true))) qa),qP (.mv qa),qR 0 false (.fld 5 (.g 12)),qS 1 false (.load 1 false qa),qR 2 false (.bin .gt qa (qC 5000)),qQ 9 (.pick qd (.c (.s (.bool true))) qa)] (.cond (.g 9) (qr [qQ 1 (.mv (qC 2))] .ret) .skip)) jzc
def j13:IC:=qr [qB 12 (.box 45 (.g 0)),qQ 1 (.mv (qC 0))] (.seq (qr [qF 2 12,qK 2,qF 0 12,qK 2,qA (.call 11 [qc,qa]),qT 11] (qr [qM 11,qQ 10 (.bin .ne qa (qC 0))] (.cond (.g 10) (qr [qM 11,qT 1] .ret) .skip))) jzd)
theorem j8b:T 28=some (.mk j13 1 12 [(.tmp 1)]):=by kernel_rfl
theorem j14 {F:Fns} {l:List Nat} {xj:SV} (lj:LstE jfn 1 xj l) (hl:l.length<=64) (hj:∀ n∈l,n<=1073741824) {x0 x1 x8 x9 x10 x11 x12:AV} {Q:Ex->St->Prop} :
 ∀ (d i:Nat) (_:i+d=l.length) {hi:Hp} (_:Ok hi) {x2 x3 x5:AV}
  (hQ:∀ x2 x3 x5,Q (.exit 0) (.mk [x0,x1,x2,x3,.s xj,x5,vi l.length,vi l.length,x8,x9,x10,x11,x12] hi)),
  W F jo9.loop (.mk [x0,x1,x2,x3,.s xj,x5,vi l.length,vi i,x8,x9,x10,x11,x12] hi) Q
 | 0,i,hd,hi,ok,x2,x3,x5,hQ=>by
  obtain rfl:i=l.length:=by omega
  rw[jck]
  unfold jo9
  simp(disch:=first|omega|rfl) only[go_sem,f2e]
  exact hQ _ _ _
 | d+1,i,hd,hi,ok,x2,x3,x5,hQ=>by
  have hil:i<l.length:=by omega
  have hlt:(i:Int)<(l.length:Int):=by omega
  have hss:(i:Int)+1=((i+1:Nat):Int):=by omega
  obtain⟨n,hn⟩:∃ n,l[i]?=some n:=⟨_,f0f hil⟩
  have hix:=lj.at_ hn
  have hn2:=hj n (f0k hn)
  have c1:((n:Int)<0)=False:=eq_false (by omega)
  have c2:(1073741824<(n:Int))=False:=eq_false (by omega)
  rw[jck]
  unfold jo9 jza
  simp(disch:=first|omega|rfl) only[go_sem,jbx,eq_true hlt,hix,jfn,c1,c2,hss]
  exact j14 lj hl hj d (i+1) (by omega) ok hQ
theorem j4c {F:Fns} (hX:∀ vs h,jgw F 28 vs h=none) (hT:jz6 F=T) {h:Hp} (ok:Ok h) {s:Scr} {xj:SV} (lq:LstE jfn 1 xj s.junk) (hK:∀ h Q,WC F 11 [.agg [jb6 jfn s.f.values,jb6 jlx s.f.blocks],.agg [si s.m1,si s.m2]] h Q=Q (vi 0) h) (h1:s.seed<=1073741824) (h2:s.steps<=5000) (h3:s.junk.length<=64) (h4:∀ n∈s.junk,n<=1073741824) :
 WC F 28 [.agg (jiy s xj)] h (fun v h'=>∃ d,jtj true h' d v=some (vi 0)):=by
 refine jin (hX _ _) ((congrFun hT _).trans j8b) rfl ?_
 unfold j13 jiy
 obtain⟨hA,eA,okA,nA,xA,gA⟩:=j4m ok [si s.m1,si s.m2,jb6 jfn s.f.values,jb6 jlx s.f.blocks,si s.seed,si s.steps,xj] 45
 have lj:=lq.len
 have c1:((s.seed:Int)<0)=False:=eq_false (by omega)
 have c2:(1073741824<(s.seed:Int))=False:=eq_false (by omega)
 have c3:((s.steps:Int)<0)=False:=eq_false (by omega)
 have c4:(5000<(s.steps:Int))=False:=eq_false (by omega)
 have c5:(64<(s.junk.length:Int))=False:=eq_false (by omega)
 simp(disch:=first|omega|rfl) only[go_sem,eA,xA,hK]
 unfold jzd
 simp(disch:=first|omega|rfl) only[go_sem,xA,c1,c2,c3,c4]
 unfold jzc
 simp(disch:=first|omega|rfl) only[go_sem,xA,lj,c5]
 unfold jzb
 simp(disch:=first|omega|rfl) only[go_sem,xA,lj]
 refine j14 lq h3 h4 s.junk.length 0 (by omega) okA (fun x2 x3 x5=>?_)
 simp(disch:=first|omega|rfl) only[go_sem]
 exact⟨1,rfl⟩
theorem j8t {h:Hp} (ok:Ok h) {b:Nat} (hb:1<=b) (x:Option AB):∃ hA,h.put b x=hA/\Ok hA/\hA.next=h.next/\hA.get b=x/\∀ n,n≠b->hA.get n=h.get n :=
 ⟨_,rfl,jed ok,Hp.next_put ..,by rw[jbk ok hb,if_pos rfl],fun n hn=>by rw[jbk ok hb,if_neg hn]⟩
structure RdS (h:Hp) (p bb:Nat) (r:Rd):Prop where
 ok:Ok h
 ex:∃ x,h.get p=some (.arr [x,.bool r.2] 86)/\jqp (.s x)=some (vi r.1.length)/\(r.1=[]∨∃ o mc ex cells ty,x=.slice bb o r.1.length mc ex 1/\r.1.length<=mc/\h.get bb=some (.arr cells ty)/\∀ (i n:Nat),r.1[i]?=some n->cells[o+i]?=some (.int .u8 n)/\n<256)
 p1:1<=p/\p<h.next/\bb<h.next/\p≠bb
theorem RdS.keep {h h':Hp} {p bb:Nat} {r:Rd} (k:RdS h p bb r) (ok':Ok h') (hk:∀ n,n<h.next->h'.get n=h.get n) (hn:h.next<=h'.next):RdS h' p bb r:=by
 obtain⟨x,h1,h2,h3⟩:=k.ex
 obtain⟨q1,q2,q3,q4⟩:=k.p1
 refine⟨ok',⟨x,(hk p q2).trans h1,h2,?_⟩,⟨q1,by omega,by omega,q4⟩⟩
 rcases h3 with h3 | ⟨o,mc,ex,cells,ty,e,h4,h5,h6⟩
 .exact .inl h3
 .exact .inr ⟨o,mc,ex,cells,ty,e,h4,(hk bb q3).trans h5,h6⟩
def Xf (f:FuncId):Bool:=Nat.beq f 33||(Nat.beq f 34||(Nat.beq f 35||(Nat.beq f 36||(Nat.beq f 38||(Nat.beq f 64||(Nat.beq f 40||(Nat.beq f 63||(Nat.beq f 65||(Nat.beq f 39||Nat.beq f 14)))))))))
structure RdF0 (F:Fns):Prop where
 x:∀ f,Xf f=true->∀ vs h,jgw F f vs h=none
 t:jz6 F=T
theorem Mv.at {h h':Hp} {p:Nat} (ok:Ok h') (hn:h.next<=h'.next) (g:∀ n,n≠p->n<h.next->h'.get n=h.get n):Mv h h' [p] [p]:=⟨ok,hn,fun n hm=>.inl hm,fun n h1 h2=>g n (fun e=>h2 (by simp[e])) h1⟩
section
variable {F:Fns} {h:Hp} {p bb:Nat} {r:Rd}
end
end Go.Proofs.Ythbghmhjgdonmaa.Ev
