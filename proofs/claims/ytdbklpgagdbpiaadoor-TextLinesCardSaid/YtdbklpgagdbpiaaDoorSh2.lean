/- A builder of strings: an instruction's line. -/
import Derived.Test.YtdbklpgagdbpiaaDoorBo2
namespace Go.Proofs.YtdbklpgagdbpiaaDoor.Ev
noncomputable section
open Go Go.RowKit Go.Proofs.YtdbklpgagdbpiaaDoor.Ms
attribute [local go_sem] Int.reduceToNat reduceCtorEq Nat.reduceAdd Nat.reduceMul Nat.reduceEqDiff Int.reduceEq Int.reduceLT Int.reduceLE Int.reduceNeg Int.reduceAdd Int.reduceSub Int.reduceMul Int.reduceNe
attribute [local go_sem ↓] reduceIte
set_option linter.all false
set_option maxRecDepth 100000
set_option maxHeartbeats 2000000
variable {x0 x1 x2 x3 x4 x5 x6 x7 x8 x9 x10 x11 x12 x13 x14 x15 x16 x17 x19 x20 x21:AV}
def qer (r:Nat×Nat):List UInt8:=(([32,115,112,111,105,108,115,32]++ito r.1)++[32])++ito r.2
def qb1 (x:Ms.Ins):List UInt8:=((([111,112,32]++ito x.op)++(x.ops.map qb0).flatten)++(x.spoils.map qer).flatten)++[10]
theorem jwo (r:Nat×Nat):(qer r).length<=60:=by
 have h1:=jc3 r.1
 have h2:=jc3 r.2
 unfold qer;simp;omega
theorem jlr {α:Type} {f:α->List UInt8} {k:Nat} (hf:∀ a,(f a).length<=k):∀ l:List α,((l.map f).flatten).length<=k*l.length
 | []=>by simp
 | a::l=>by have:=jlr hf l;have:=hf a;rw[f1k,f1h,f0k,f00,Nat.mul_succ];omega
structure TkI (x:Ms.Ins):Prop where
 op:x.op<=9223372036854775807
 nops:x.ops.length<=20
 nsp:x.spoils.length<=40
 ops:∀ o∈x.ops,TkO o
 sp:∀ r∈x.spoils,r.1<=9223372036854775807/\r.2<=9223372036854775807
theorem jwp {x:Ms.Ins} (k:TkI x):(qb1 x).length<=4000:=by
 have h1:=jc3 x.op
 have h2:=jlr jwn x.ops
 have h3:=jlr jwo x.spoils
 have:=k.nops
 have:=k.nsp
 unfold qb1
 simp only[f0k,f00,f1b]
 omega
section
variable {F:Fns} {h:Hp} {p:Nat} {bs:List UInt8} {o:List Nat}
theorem Bl.low {h h':Hp} {p:Nat} {o:List Nat} (ok:Ok h') (hn:h.next<=h'.next) (g:∀ n,n<h.next->h'.get n=h.get n):Mv h h' (p::o) (p::o):=⟨ok,hn,fun n hm=>.inl hm,fun n hn _=>g n hn⟩
theorem Bl.fresh (w:Bl h p bs o):h.next∉p::o:=fun hc=>by
 rcases f0j.1 hc with h1 | h1
 .have:=w.p1.2;omega
 .have:=w.lt _ h1;omega
theorem Bl.out {hi hj:Hp} {p n:Nat} {o1 o2:List Nat} (h0:n<hi.next/\n∉p::o1) (m:Mv hi hj (p::o1) (p::o2)):n<hj.next/\n∉p::o2:=⟨f0m h0.1 m.nx,fun hc=>by
 rcases m.new _ hc with h1 | h1
 .exact h0.2 h1
 .have:=h0.1;omega⟩
theorem qg9 (f:BlF F) {l:List Ms.Opd} (hok:∀ o∈l,TkO o) (hl:l.length<=1000) {Q:Ex->St->Prop} :
 ∀ (d i:Nat) (_:i+d=l.length) {hi:Hp} {bs:List UInt8} {o:List Nat} (_:Bl hi p bs o) (_:bs.length+60*d<=900000000) {x7 x9:AV}
  (hQ:∀ hj o' x7 x9,Bl hj p (bs++((l.drop i).map qb0).flatten) o'->Mv hi hj (p::o) (p::o')->Q (.exit 0) (.mk [.s (.ptr p 0),x1,x2,x3,x4,x5,x6,x7,.s (jae jbi l),x9,vi l.length,vi l.length,x12] hj)),
  W F jok.loop (.mk [.s (.ptr p 0),x1,x2,x3,x4,x5,x6,x7,.s (jae jbi l),x9,vi l.length,vi i,x12] hi) Q
 | 0,i,hd,hi,bs,o,w,hw,x7,x9,hQ=>by
  obtain rfl:i=l.length:=by omega
  rw[jaj]
  unfold jok
  have ok:=w.ok
  simp(disch:=first|omega|rfl) only[go_sem,f0s]
  exact hQ hi o _ _ (by rw[f2r];simpa using w) (Mv.refl ok)
 | d+1,i,hd,hi,bs,o,w,hw,x7,x9,hQ=>by
  have hil:i<l.length:=by omega
  have hlt:(i:Int)<(l.length:Int):=by omega
  have hss:(i:Int)+1=((i+1:Nat):Int):=by omega
  obtain⟨x,hx⟩:∃ n,l[i]?=some n:=⟨_,f0b hil⟩
  have hdr:l.drop i=x::l.drop (i+1):=by rw[f08 hil,(f0x.1 hx).2]
  have hix:=jah (enc:=jbi) (size:=5) hx rfl
  have ok:=w.ok
  have hxl:=jwn x
  obtain⟨hA,eA,okA,nA,xA,gA⟩:=jc2 ok [.int .i64 0,.int .i64 0,.bool false,.int .i64 0,.int .i64 0] (jbi x) 73
  have wA:=w.keep okA gA (by omega)
  have run:=qn0 f wA (hok x (f0c hx)) (by omega)
  unfold jbi at xA eA run
  rw[jaj]
  unfold jok
  simp(disch:=first|omega|rfl) only[go_sem,jad,eq_true hlt,hix,jbi,eA,xA]
  refine WC.imp run ?_
  rintro v hB ⟨o1,w1,m1⟩
  have okB:=w1.ok
  simp(disch:=first|omega|rfl) only[go_sem,jad,hss]
  exact qg9 f hok hl d (i+1) (by omega) w1 (by rw[f0k];omega) (fun hj o' x7 x9 w' m'=>hQ hj o' x7 x9 (by rw[hdr,f1k,f1h,←f0l];exact w') ((Bl.low okA (by omega) gA).trans (m1.trans m')))
theorem qha (f:BlF F) {l:List (Nat×Nat)} (hok:∀ r∈l,r.1<=9223372036854775807/\r.2<=9223372036854775807) (hl:l.length<=1000) {Q:Ex->St->Prop} :
 ∀ (d i:Nat) (_:i+d=l.length) {hi:Hp} {bs:List UInt8} {o:List Nat} (_:Bl hi p bs o) (_:bs.length+60*d<=900000000) {x2 x4:AV}
  (hQ:∀ hj o' x2 x4,Bl hj p (bs++((l.drop i).map qer).flatten) o'->Mv hi hj (p::o) (p::o')->Q (.exit 2) (.mk [.s (.ptr p 0),x1,x2,.s (jae jds l),x4,vi l.length,vi l.length,x7,x8,x9,x10,x11,x12] hj)),
  W F jol.loop (.mk [.s (.ptr p 0),x1,x2,.s (jae jds l),x4,vi l.length,vi i,x7,x8,x9,x10,x11,x12] hi) Q
 | 0,i,hd,hi,bs,o,w,hw,x2,x4,hQ=>by
  obtain rfl:i=l.length:=by omega
  rw[jaj]
  unfold jol
  have ok:=w.ok
  simp(disch:=first|omega|rfl) only[go_sem,f0s]
  exact hQ hi o _ _ (by rw[f2r];simpa using w) (Mv.refl ok)
 | d+1,i,hd,hi,bs,o,w,hw,x2,x4,hQ=>by
  have hil:i<l.length:=by omega
  have hlt:(i:Int)<(l.length:Int):=by omega
  have hss:(i:Int)+1=((i+1:Nat):Int):=by omega
  obtain⟨x,hx⟩:∃ n,l[i]?=some n:=⟨_,f0b hil⟩
  have hdr:l.drop i=x::l.drop (i+1):=by rw[f08 hil,(f0x.1 hx).2]
  have hix:=jah (enc:=jds) (size:=2) hx rfl
  have ok:=w.ok
  have hxl:=jwo x
  obtain⟨k1,k2⟩:=hok x (f0c hx)
  have q1:=jc3 x.1
  have q2:=jc3 x.2
  obtain⟨hA,eA,okA,nA,xA,gA⟩:=jc2 ok [.int .i64 0,.int .i64 0] (jds x) 76
  have wA:=w.keep okA gA (by omega)
  have i1:=fun(h:Hp) (Q:AV->Hp->Prop)=>je9 (h:=h) (Q:=Q) f k1
  have i2:=fun(h:Hp) (Q:AV->Hp->Prop)=>je9 (h:=h) (Q:=Q) f k2
  have c1:=jea (l:=[32,115,112,111,105,108,115,32]) (r:=ito x.1) (by simp;omega)
  have c2:=jea (l:=32::115::112::111::105::108::115::32::ito x.1) (r:=[32]) (by simp;omega)
  have c3:=jea (l:=32::115::112::111::105::108::115::32::(ito x.1++[32])) (r:=ito x.2) (by simp;omega)
  have hh:(hA.next<=hi.next/\hi.next<hA.next)=False:=eq_false (by omega)
  unfold jds at xA eA
  rw[jaj]
  unfold jol j4j
  simp(disch:=first|omega|rfl) only[go_sem,jcf,jcg,jch,jaw,jan,jci,jax,jad,eq_true hlt,hix,jds,eA,xA,i1,i2,c1,c2,c3,hh]
  refine WC.imp (jey f wA (s:=qer x) (by unfold qer;simp) (by omega)) ?_
  rintro v hB ⟨m1,w1,e1⟩
  have okB:=w1.ok
  simp(disch:=first|omega|rfl) only[go_sem,jad,hss]
  exact qha f hok hl d (i+1) (by omega) w1 (by rw[f0k];omega) (fun hj o' x2 x4 w' m'=>hQ hj o' x2 x4 (by rw[hdr,f1k,f1h,←f0l];exact w') ((Bl.low okA (by omega) gA).trans (e1.trans m')))
theorem qn1 (f:BlF F) (w:Bl h p bs o) {x:Ms.Ins} (k:TkI x) (hw:bs.length<=800000000):WC F 14 [.s (.ptr p 0),.agg (jel x)] h (Bln h p bs o (qb1 x)):=by
 refine ja9 (f.x _ rfl _ _) ((congrFun f.t _).trans qr7) rfl ?_
 unfold qbu jel
 have ok:=w.ok
 have l1:=jc3 x.op
 have l2:=jlr jwn x.ops
 have l3:=jlr jwo x.spoils
 have h1:=k.nops
 have h2:=k.nsp
 obtain⟨hA,eA,okA,nA,xA,gA⟩:=je0 ok [si x.op,jae jbi x.ops,jae jds x.spoils] 59
 have wA:=w.keep okA gA (by omega)
 have i1:=fun(h:Hp) (Q:AV->Hp->Prop)=>je9 (h:=h) (Q:=Q) f k.op
 have c1:=jea (l:=[111,112,32]) (r:=ito x.op) (by simp;omega)
 have ll1:=jag (enc:=jbi) (l:=x.ops)
 have ll2:=jag (enc:=jds) (l:=x.spoils)
 have fA:=w.fresh
 simp(disch:=first|omega|rfl) only[go_sem,jcf,jcg,jch,jaw,jan,jci,jax,eA,xA,i1,c1]
 refine WC.imp (jey f wA (s:=[111,112,32]++ito x.op) (by simp) (by simp;omega)) ?_
 rintro v hB ⟨m1,w1,e1⟩
 have okB:=w1.ok
 have b1:=Bl.out (n:=h.next) ⟨by omega,fA⟩ e1
 have xB:=(e1.keep h.next (by omega) fA).trans xA
 have n1:(bs++([111,112,32]++ito x.op)).length<=bs.length+22:=by simp;omega
 simp(disch:=first|omega|rfl) only[go_sem,xB,ll1]
 refine qg9 f k.ops (by omega) x.ops.length 0 (by omega) w1 (by omega) (fun hC o2 x7 x9 w2 e2=>?_)
 rw[f11] at w2
 have okC:=w2.ok
 have xC:=(e2.keep h.next b1.1 b1.2).trans xB
 have n2:((bs++([111,112,32]++ito x.op))++(x.ops.map qb0).flatten).length<=bs.length+60022:=by rw[f0k];omega
 simp(disch:=first|omega|rfl) only[go_sem,xC,ll2]
 refine qha f k.sp (by omega) x.spoils.length 0 (by omega) w2 (by omega) (fun hD o3 x2 x4 w3 e3=>?_)
 rw[f11] at w3
 have okD:=w3.ok
 have n3:(((bs++([111,112,32]++ito x.op))++(x.ops.map qb0).flatten)++(x.spoils.map qer).flatten).length<=bs.length+120022:=by rw[f0k];omega
 simp(disch:=first|omega|rfl) only[go_sem]
 refine WC.imp (jwm f w3 (by omega)) ?_
 rintro v hE ⟨m4,w4,e4⟩
 simp(disch:=first|omega|rfl) only[go_sem]
 refine⟨m4,?_,(Bl.low okA (by omega) gA).trans (e1.trans (e2.trans (e3.trans e4)))⟩
 unfold qb1
 simpa only[f0l] using w4
end
set_option maxHeartbeats 4000000
def jrs (s:Scr):List SV:=[si s.m1,si s.m2,jae jaz s.f.values,jae ja3 s.f.blocks,si s.seed,si s.steps,jae jaz s.junk]
def qes (e:Ms.Edg):List UInt8:=(([101,100,103,101,32]++ito e.block)++jlq e.args)++[10]
def qb8 (b:Ms.Blk):List UInt8:=((([98,108,111,99,107]++jlq b.params)++[10])++(b.instrs.map qb1).flatten)++(b.edges.map qes).flatten
def j58 (s:Scr):List UInt8:=(((((([109,97,99,104,105,110,101]++jlq [s.m1,s.m2])++((([10,114,117,110,32]++ito s.seed)++[32])++ito s.steps))++jlq s.junk)++[10,118,97,108,117,101,115])++jlq s.f.values)++[10])++(s.f.blocks.map qb8).flatten
structure TkE (e:Ms.Edg):Prop where
 b:e.block<=9223372036854775807
 na:e.args.length<=300
 a:∀ n∈e.args,n<=9223372036854775807
structure TkB (b:Ms.Blk):Prop where
 np:b.params.length<=300
 p:∀ n∈b.params,n<=9223372036854775807
 ni:b.instrs.length<=100
 i:∀ x∈b.instrs,TkI x
 ne:b.edges.length<=20
 e:∀ e∈b.edges,TkE e
structure TkS (s:Scr):Prop where
 m1:s.m1<=9223372036854775807
 m2:s.m2<=9223372036854775807
 sd:s.seed<=9223372036854775807
 st:s.steps<=9223372036854775807
 nj:s.junk.length<=300
 j:∀ n∈s.junk,n<=9223372036854775807
 nv:s.f.values.length<=300
 v:∀ n∈s.f.values,n<=9223372036854775807
 nb:s.f.blocks.length<=100
 b:∀ b∈s.f.blocks,TkB b
theorem j4p {e:Ms.Edg} (k:TkE e):(qes e).length<=6100:=by
 have h1:=jc3 e.block
 have h2:=jeb e.args
 have:=k.na
 unfold qes;simp only[f0k,f00,f1b];omega
theorem jhc {α:Type} {f:α->List UInt8} {k:Nat}:∀ {l:List α} (_:∀ a∈l,(f a).length<=k),((l.map f).flatten).length<=k*l.length
 | [],_=>by simp
 | a::l,hf=>by have:=jhc (l:=l) (fun b hb=>hf b (by simp[hb]));have:=hf a (by simp);rw[f1k,f1h,f0k,f00,Nat.mul_succ];omega
theorem jwq {b:Ms.Blk} (k:TkB b):(qb8 b).length<=600000:=by
 have h1:=jeb b.params
 have h2:=jhc (f:=qb1) (k:=4000) (l:=b.instrs) (fun x hx=>jwp (k.i x hx))
 have h3:=jhc (f:=qes) (k:=6100) (l:=b.edges) (fun x hx=>j4p (k.e x hx))
 have:=k.np
 have:=k.ni
 have:=k.ne
 unfold qb8;simp only[f0k,f00,f1b];omega
def qsa (h:Hp) (n size:Nat) (x:Option AV):R:=ob x (fun v=>jev v (fun b o=>ob (rd h b o (Nat.mul n size)) (fun _=>ok (.s (.slice b o n n true size)) h)) (fun cs=>ob (qce size n cs) (fun rows=>ok (.s (.lst rows)) h)))
theorem qn2 {h:Hp} {st fr:List AV} {n size:Nat} {x:Od}:jdy st fr h (.slicea n size x)=qsa h n size (ev st fr x):=rfl
theorem qet {h:Hp} {n size b o:Nat} {row:List SV} (hr:rdB (h.get b) o (n*size)=some row):qsa h n size (some (.s (.ptr b o)))=some (.s (.slice b o n n true size),h):=by
 show ob (rdB (h.get b) o (n*size)) (fun _=>some (AV.s (.slice b o n n true size),h))=_
 rw[hr];rfl
theorem qn3 (l:List UInt8):qcg (u8s l)=some l:=by
 induction l with
 | nil=>rfl
 | cons a l ih =>
  show ob (qcg (u8s l)) (fun l=>some (UInt8.ofNat (Int.toNat (Int.ofNat a.toNat))::l))=_
  rw[ih]
  show some (UInt8.ofNat (Int.toNat ((a.toNat:Nat):Int))::l)=_
  rw[f1m]
  simp
theorem qeu (l:List UInt8):jp3 (u8s l)=true:=by
 induction l with
 | nil=>rfl
 | cons a l ih =>
  show(inR .u8 (Int.ofNat a.toNat)&&jp3 (u8s l))=true
  rw[ih,Bool.and_true]
  have:=a.toNat_lt
  exact jde (show a.toNat<=255 by omega)
section
variable {F:Fns} {h:Hp} {p:Nat} {bs:List UInt8} {o:List Nat}
theorem qsb (w:Bl h p bs o) (hb:bs≠[]) (hl:bs.length<=1000000000):∃ h',qpo [.s (.ptr p 0)] h=some (.s (.str bs),h'):=by
 obtain⟨c,x,h1,h2,h3⟩:=w.ex
 rcases h3 with⟨h3,_⟩ | ⟨m,rfl,rfl,h5⟩
 .exact absurd h3 hb
 have ok0:=w.ok
 refine⟨h.put m none,?_⟩
 unfold qpo
 simp only[h1,qil]
 rw[show Nat.beq bT bT=true from f1l _]
 simp only[h5,qil]
 rw[show Nat.beq 5 5=true from rfl,ok0.lo,show Nat.ble 0 m=true from jde (f14 _),show Nat.beq 1 1=true from rfl]
 have l8:(u8s bs).length=bs.length:=by rw[jsl,f1d]
 have hr:rd h m 0 bs.length=some (u8s bs):=by
  rw[qpr,h5]
  show jbp bs.length (u8s bs)=_
  exact(ja5 _).2 ⟨by rw[l8];exact f0d _,by rw[←l8,f2e]⟩
 show ob (rd h m 0 bs.length) _=_
 rw[hr]
 show ob (qcg (u8s bs)) _=_
 rw[qn3]
 cases bs with
 | nil=>exact absurd rfl hb
 | cons a r =>
  show oif (Nat.ble (a::r).length 9223372036854775807) (oif (jp3 (u8s (a::r))) (ok (.s (.str (a::r))) (h.put m none)) none) none=_
  rw[jde (show(a::r).length<=9223372036854775807 by omega),qeu];rfl
theorem qhb (f:BlF F) {l:List Ms.Ins} (hok:∀ x∈l,TkI x) (hl:l.length<=1000) {Q:Ex->St->Prop} :
 ∀ (d i:Nat) (_:i+d=l.length) {hi:Hp} {bs:List UInt8} {o:List Nat} (_:Bl hi p bs o) (_:bs.length+4000*d<=700000000) {x8 x10:AV}
  (hQ:∀ hj o' x8 x10,Bl hj p (bs++((l.drop i).map qb1).flatten) o'->Mv hi hj (p::o) (p::o')->Q (.exit 2) (.mk [x0,x1,x2,x3,x4,x5,x6,x7,x8,.s (jae jel l),x10,vi l.length,vi l.length,x13,x14,x15,x16,x17,.s (.ptr p 0),x19,x20,x21] hj)),
  W F jom.loop (.mk [x0,x1,x2,x3,x4,x5,x6,x7,x8,.s (jae jel l),x10,vi l.length,vi i,x13,x14,x15,x16,x17,.s (.ptr p 0),x19,x20,x21] hi) Q
 | 0,i,hd,hi,bs,o,w,hw,x8,x10,hQ=>by
  obtain rfl:i=l.length:=by omega
  rw[jaj]
  unfold jom
  have ok:=w.ok
  simp(disch:=first|omega|rfl) only[go_sem,f0s]
  exact hQ hi o _ _ (by rw[f2r];simpa using w) (Mv.refl ok)
 | d+1,i,hd,hi,bs,o,w,hw,x8,x10,hQ=>by
  have hil:i<l.length:=by omega
  have hlt:(i:Int)<(l.length:Int):=by omega
  have hss:(i:Int)+1=((i+1:Nat):Int):=by omega
  obtain⟨x,hx⟩:∃ n,l[i]?=some n:=⟨_,f0b hil⟩
  have hdr:l.drop i=x::l.drop (i+1):=by rw[f08 hil,(f0x.1 hx).2]
  have hix:=jah (enc:=jel) (size:=3) hx rfl
  have ok:=w.ok
  have kx:=hok x (f0c hx)
  have hxl:=jwp kx
  obtain⟨hA,eA,okA,nA,xA,gA⟩:=jc2 ok [.int .i64 0,.nilSlice,.nilSlice] (jel x) 59
  have wA:=w.keep okA gA (by omega)
  have run:=qn1 f wA kx (by omega)
  unfold jel at xA eA run
  rw[jaj]
  unfold jom j4l
  simp(disch:=first|omega|rfl) only[go_sem,jad,eq_true hlt,hix,jel,eA,xA]
  refine WC.imp run ?_
  rintro v hB ⟨m1,w1,e1⟩
  have okB:=w1.ok
  simp(disch:=first|omega|rfl) only[go_sem,jad,hss]
  exact qhb f hok hl d (i+1) (by omega) w1 (by rw[f0k];omega) (fun hj o' x8 x10 w' m'=>hQ hj o' x8 x10 (by rw[hdr,f1k,f1h,←f0l];exact w') ((Bl.low okA (by omega) gA).trans (e1.trans m')))
theorem qhc (f:BlF F) {l:List Ms.Edg} (hok:∀ x∈l,TkE x) (hl:l.length<=1000) {Q:Ex->St->Prop} :
 ∀ (d i:Nat) (_:i+d=l.length) {hi:Hp} {bs:List UInt8} {o:List Nat} (_:Bl hi p bs o) (_:bs.length+6100*d<=700000000) {x3 x5:AV}
  (hQ:∀ hj o' x3 x5,Bl hj p (bs++((l.drop i).map qes).flatten) o'->Mv hi hj (p::o) (p::o')->Q (.exit 4) (.mk [x0,x1,x2,x3,.s (jae jgf l),x5,vi l.length,vi l.length,x8,x9,x10,x11,x12,x13,x14,x15,x16,x17,.s (.ptr p 0),x19,x20,x21] hj)),
  W F jon.loop (.mk [x0,x1,x2,x3,.s (jae jgf l),x5,vi l.length,vi i,x8,x9,x10,x11,x12,x13,x14,x15,x16,x17,.s (.ptr p 0),x19,x20,x21] hi) Q
 | 0,i,hd,hi,bs,o,w,hw,x3,x5,hQ=>by
  obtain rfl:i=l.length:=by omega
  rw[jaj]
  unfold jon
  have ok:=w.ok
  simp(disch:=first|omega|rfl) only[go_sem,f0s]
  exact hQ hi o _ _ (by rw[f2r];simpa using w) (Mv.refl ok)
 | d+1,i,hd,hi,bs,o,w,hw,x3,x5,hQ=>by
  have hil:i<l.length:=by omega
  have hlt:(i:Int)<(l.length:Int):=by omega
  have hss:(i:Int)+1=((i+1:Nat):Int):=by omega
  obtain⟨x,hx⟩:∃ n,l[i]?=some n:=⟨_,f0b hil⟩
  have hdr:l.drop i=x::l.drop (i+1):=by rw[f08 hil,(f0x.1 hx).2]
  have hix:=jah (enc:=jgf) (size:=2) hx rfl
  have ok:=w.ok
  have kx:=hok x (f0c hx)
  have hxl:=j4p kx
  have q1:=jc3 x.block
  have q2:=jeb x.args
  have q3:=kx.na
  obtain⟨hA,eA,okA,nA,xA,gA⟩:=jc2 ok [.int .i64 0,.nilSlice] (jgf x) 62
  have wA:=w.keep okA gA (by omega)
  have fA:=w.fresh
  have i1:=fun(h:Hp) (Q:AV->Hp->Prop)=>je9 (h:=h) (Q:=Q) f kx.b
  have c1:=jea (l:=[101,100,103,101,32]) (r:=ito x.block) (by simp;omega)
  unfold jgf at xA eA
  rw[jaj]
  unfold jon j4m
  simp(disch:=first|omega|rfl) only[go_sem,jcf,jcg,jch,jaw,jan,jci,jax,jad,eq_true hlt,hix,jgf,eA,xA,i1,c1]
  refine WC.imp (jey f wA (s:=[101,100,103,101,32]++ito x.block) (by simp) (by simp;omega)) ?_
  rintro v hB ⟨m1,w1,e1⟩
  have okB:=w1.ok
  have b1:=Bl.out (n:=hi.next) ⟨by omega,fA⟩ e1
  have xB:=(e1.keep hi.next (by omega) fA).trans xA
  have n1:(bs++([101,100,103,101,32]++ito x.block)).length<=bs.length+24:=by simp;omega
  simp(disch:=first|omega|rfl) only[go_sem,xB]
  refine WC.imp (jrr f w1 kx.a (by omega) (.inl rfl) (by omega)) ?_
  rintro v hC ⟨o2,w2,e2⟩
  have okC:=w2.ok
  have n2:((bs++([101,100,103,101,32]++ito x.block))++jlq x.args).length<=bs.length+6030:=by rw[f0k];omega
  simp(disch:=first|omega|rfl) only[go_sem]
  refine WC.imp (jwm f w2 (by omega)) ?_
  rintro v hD ⟨m3,w3,e3⟩
  have okD:=w3.ok
  have w3':Bl hD p (bs++qes x) [m3]:=by
   unfold qes
   simpa only[f0l] using w3
  simp(disch:=first|omega|rfl) only[go_sem,jad,hss]
  exact qhc f hok hl d (i+1) (by omega) w3' (by rw[f0k];omega) (fun hj o' x3 x5 w' m'=>hQ hj o' x3 x5 (by rw[hdr,f1k,f1h,←f0l];exact w') ((Bl.low okA (by omega) gA).trans (e1.trans (e2.trans (e3.trans m')))))
theorem qhd (f:BlF F) {l:List Ms.Blk} (hok:∀ x∈l,TkB x) (hl:l.length<=100) {Q:Ex->St->Prop} :
 ∀ (d i:Nat) (_:i+d=l.length) {hi:Hp} {bs:List UInt8} {o:List Nat} (_:Bl hi p bs o) (_:bs.length+600000*d<=100000000) {x3 x4 x5 x6 x7 x8 x9 x10 x11 x12 x13 x15:AV}
  (hQ:∀ hj o' x3 x4 x5 x6 x7 x8 x9 x10 x11 x12 x13 x15,Bl hj p (bs++((l.drop i).map qb8).flatten) o'->Mv hi hj (p::o) (p::o')->Q (.exit 0) (.mk [x0,x1,x2,x3,x4,x5,x6,x7,x8,x9,x10,x11,x12,x13,.s (jae ja3 l),x15,vi l.length,vi l.length,.s (.ptr p 0),x19,x20,x21] hj)),
  W F joo.loop (.mk [x0,x1,x2,x3,x4,x5,x6,x7,x8,x9,x10,x11,x12,x13,.s (jae ja3 l),x15,vi l.length,vi i,.s (.ptr p 0),x19,x20,x21] hi) Q
 | 0,i,hd,hi,bs,o,w,hw,x3,x4,x5,x6,x7,x8,x9,x10,x11,x12,x13,x15,hQ=>by
  obtain rfl:i=l.length:=by omega
  rw[jaj]
  unfold joo
  have ok:=w.ok
  simp(disch:=first|omega|rfl) only[go_sem,f0s]
  exact hQ hi o _ _ _ _ _ _ _ _ _ _ _ _ (by rw[f2r];simpa using w) (Mv.refl ok)
 | d+1,i,hd,hi,bs,o,w,hw,x3,x4,x5,x6,x7,x8,x9,x10,x11,x12,x13,x15,hQ=>by
  have hil:i<l.length:=by omega
  have hlt:(i:Int)<(l.length:Int):=by omega
  have hss:(i:Int)+1=((i+1:Nat):Int):=by omega
  obtain⟨x,hx⟩:∃ n,l[i]?=some n:=⟨_,f0b hil⟩
  have hdr:l.drop i=x::l.drop (i+1):=by rw[f08 hil,(f0x.1 hx).2]
  have hix:=jah (enc:=ja3) (size:=3) hx rfl
  have ok:=w.ok
  have kx:=hok x (f0c hx)
  have hxl:=jwq kx
  have q2:=jeb x.params
  have q3:=kx.np
  have q4:=jhc (f:=qb1) (k:=4000) (l:=x.instrs) (fun y hy=>jwp (kx.i y hy))
  have q5:=kx.ni
  have q6:=kx.ne
  obtain⟨hA,eA,okA,nA,xA,gA⟩:=jc2 ok [.nilSlice,.nilSlice,.nilSlice] (ja3 x) 39
  have wA:=w.keep okA gA (by omega)
  have fA:=w.fresh
  have l1:=jag (enc:=jel) (l:=x.instrs)
  have l2:=jag (enc:=jgf) (l:=x.edges)
  unfold ja3 at xA eA
  rw[jaj]
  unfold joo j4n
  simp(disch:=first|omega|rfl) only[go_sem,jcf,jcg,jch,jaw,jan,jci,jax,jad,eq_true hlt,hix,ja3,eA,xA]
  refine WC.imp (jey f wA (s:=[98,108,111,99,107]) (by simp) (by simp;omega)) ?_
  rintro v hB ⟨m1,w1,e1⟩
  have okB:=w1.ok
  have b1:=Bl.out (n:=hi.next) ⟨by omega,fA⟩ e1
  have xB:=(e1.keep hi.next (by omega) fA).trans xA
  have n1:(bs++[98,108,111,99,107]).length=bs.length+5:=by simp
  simp(disch:=first|omega|rfl) only[go_sem,xB]
  refine WC.imp (jrr f w1 kx.p (by omega) (.inl rfl) (by omega)) ?_
  rintro v hC ⟨o2,w2,e2⟩
  have okC:=w2.ok
  have b2:=Bl.out b1 e2
  have xC:=(e2.keep hi.next b1.1 b1.2).trans xB
  have n2:((bs++[98,108,111,99,107])++jlq x.params).length<=bs.length+6005:=by rw[f0k];omega
  simp(disch:=first|omega|rfl) only[go_sem]
  refine WC.imp (jwm f w2 (by omega)) ?_
  rintro v hD ⟨m3,w3,e3⟩
  have okD:=w3.ok
  have b3:=Bl.out b2 e3
  have xD:=(e3.keep hi.next b2.1 b2.2).trans xC
  have n3:(((bs++[98,108,111,99,107])++jlq x.params)++[10]).length<=bs.length+6006:=by rw[f0k];simp;omega
  simp(disch:=first|omega|rfl) only[go_sem,xD,l1]
  refine qhb f kx.i (by omega) x.instrs.length 0 (by omega) w3 (by omega) (fun hE o4 x8 x10 w4 e4=>?_)
  rw[f11] at w4
  have okE:=w4.ok
  have xE:=(e4.keep hi.next b3.1 b3.2).trans xD
  have n4:((((bs++[98,108,111,99,107])++jlq x.params)++[10])++(x.instrs.map qb1).flatten).length<=bs.length+406006:=by rw[f0k];omega
  simp(disch:=first|omega|rfl) only[go_sem,xE,l2]
  refine qhc f kx.e (by omega) x.edges.length 0 (by omega) w4 (by omega) (fun hG o5 x3 x5 w5 e5=>?_)
  rw[f11] at w5
  have okG:=w5.ok
  have w5':Bl hG p (bs++qb8 x) o5:=by
   unfold qb8
   simpa only[f0l] using w5
  simp(disch:=first|omega|rfl) only[go_sem,jad,hss]
  exact qhd f hok hl d (i+1) (by omega) w5' (by rw[f0k];omega) (fun hj o' x3 x4 x5 x6 x7 x8 x9 x10 x11 x12 x13 x15 w' m'=>hQ hj o' x3 x4 x5 x6 x7 x8 x9 x10 x11 x12 x13 x15 (by rw[hdr,f1k,f1h,←f0l];exact w') ((Bl.low okA (by omega) gA).trans (e1.trans (e2.trans (e3.trans (e4.trans (e5.trans m')))))))
theorem qn4 (f:BlF F) {h:Hp} (ok:Ok h) {s:Scr} (k:TkS s) (hC:∀ h Q,WC F 9 [.agg (jrs s)] h Q=Q (vi 0) h) {Q:AV->Hp->Prop} (hQ:∀ h',Q (.tup [(false,[.str (j58 s)]),(false,[si 0])]) h'):WC F 5 [.agg (jrs s)] h Q:=by
 refine ja9 (f.x _ rfl _ _) ((congrFun f.t _).trans qr8) rfl ?_
 unfold qbv
 obtain⟨hA,eA,okA,nA,xA,gA⟩:=je0 ok (jrs s) 31
 obtain⟨hB,eB,okB,nB,xB,gB⟩:=je0 okA [.nilPtr,.nilSlice] 48
 have hpos:=ok.pos
 have w0:Bl hB hA.next [] []:=⟨okB,⟨_,_,xB,.inl rfl,.inl ⟨rfl,rfl,rfl⟩⟩,⟨by omega,by omega⟩,by simp,by simp⟩
 have zA:=(gB h.next (by omega)).trans xA
 have a0:h.next<hB.next/\h.next∉hA.next::([]:List Nat):=⟨by omega,by simp;omega⟩
 have lb:=jag (enc:=ja3) (l:=s.f.blocks)
 have i1:=fun(h:Hp) (Q:AV->Hp->Prop)=>je9 (h:=h) (Q:=Q) f k.sd
 have i2:=fun(h:Hp) (Q:AV->Hp->Prop)=>je9 (h:=h) (Q:=Q) f k.st
 have q1:=jc3 s.seed
 have q2:=jc3 s.steps
 have q3:=jeb [s.m1,s.m2]
 have q4:=jeb s.junk
 have q5:=jeb s.f.values
 have q6:=k.nj
 have q7:=k.nv
 have q8:=k.nb
 have q9:=jhc (f:=qb8) (k:=600000) (l:=s.f.blocks) (fun y hy=>jwq (k.b y hy))
 have c1:=jea (l:=[10,114,117,110,32]) (r:=ito s.seed) (by simp;omega)
 have c2:=jea (l:=10::114::117::110::32::ito s.seed) (r:=[32]) (by simp;omega)
 have c3:=jea (l:=10::114::117::110::32::(ito s.seed++[32])) (r:=ito s.steps) (by simp;omega)
 have hC':=hC
 unfold jrs at eA zA xA hC' ⊢
 simp(disch:=first|omega|rfl) only[go_sem,jcf,jcg,jch,jaw,jan,jci,jax,eA,xA,hC']
 unfold j4o
 simp(disch:=first|omega|rfl) only[go_sem,jcf,jcg,jch,jaw,jan,jci,jax,eB]
 refine WC.imp (jey f w0 (s:=[109,97,99,104,105,110,101]) (by simp) (by simp)) ?_
 rintro v h1 ⟨m1,w1,e1⟩
 have ok1:=w1.ok
 have b1:=Bl.out a0 e1
 have z1:=(e1.keep h.next a0.1 a0.2).trans zA
 have n1:([]++[109,97,99,104,105,110,101]:List UInt8).length=7:=rfl
 have hrow:rdB (h1.get h.next) 0 (2*1)=some [si s.m1,si s.m2]:=by rw[z1];rfl
 simp(disch:=first|omega|rfl) only[go_sem,jcf,jcg,jch,jaw,jan,jci,jax,qn2,qet hrow]
 refine WC.imp (jrr f w1 (l:=[s.m1,s.m2]) (by simp;exact⟨k.m1,k.m2⟩) (by simp) (.inr ⟨h.next,0,2,true,_,_,rfl,z1,b1.1,b1.2,fun i n hi=>by
  match i,hi with
  | 0,hi=>cases hi;rfl
  | 1,hi=>cases hi;rfl⟩) (by rw[n1];simp)) ?_
 rintro v h2 ⟨o2,w2,e2⟩
 have ok2:=w2.ok
 have b2:=Bl.out b1 e2
 have z2:=(e2.keep h.next b1.1 b1.2).trans z1
 have n2:(([]++[109,97,99,104,105,110,101]:List UInt8)++jlq [s.m1,s.m2]).length<=47:=by rw[f0k,n1];simp at q3;omega
 have hh:(h2.next<=h.next/\h.next<h2.next)=False:=eq_false (by omega)
 unfold j4k
 simp(disch:=first|omega|rfl) only[go_sem,jcf,jcg,jch,jaw,jan,jci,jax,z2,i1,i2,c1,c2,c3,hh]
 refine WC.imp (jey f w2 (s:=(([10,114,117,110,32]++ito s.seed)++[32])++ito s.steps) (by simp) (by simp;simp at n2;omega)) ?_
 rintro v h3 ⟨m3,w3,e3⟩
 have ok3:=w3.ok
 have b3:=Bl.out b2 e3
 have z3:=(e3.keep h.next b2.1 b2.2).trans z2
 have n3:((([]++[109,97,99,104,105,110,101]:List UInt8)++jlq [s.m1,s.m2])++((([10,114,117,110,32]++ito s.seed)++[32])++ito s.steps)).length<=100:=by rw[f0k];simp only[f0k,f00,f1b] at n2 ⊢;omega
 simp(disch:=first|omega|rfl) only[go_sem,jcf,jcg,jch,jaw,jan,jci,jax,z3]
 refine WC.imp (jrr f w3 k.j (by omega) (.inl rfl) (by omega)) ?_
 rintro v h4 ⟨o4,w4,e4⟩
 have ok4:=w4.ok
 have b4:=Bl.out b3 e4
 have z4:=(e4.keep h.next b3.1 b3.2).trans z3
 have n4:(((([]++[109,97,99,104,105,110,101]:List UInt8)++jlq [s.m1,s.m2])++((([10,114,117,110,32]++ito s.seed)++[32])++ito s.steps))++jlq s.junk).length<=6100:=by rw[f0k];omega
 simp(disch:=first|omega|rfl) only[go_sem,jcf,jcg,jch,jaw,jan,jci,jax]
 refine WC.imp (jey f w4 (s:=[10,118,97,108,117,101,115]) (by simp) (by simp only[f00,f1b];omega)) ?_
 rintro v h5 ⟨m5,w5,e5⟩
 have ok5:=w5.ok
 have b5:=Bl.out b4 e5
 have z5:=(e5.keep h.next b4.1 b4.2).trans z4
 have n5:((((([]++[109,97,99,104,105,110,101]:List UInt8)++jlq [s.m1,s.m2])++((([10,114,117,110,32]++ito s.seed)++[32])++ito s.steps))++jlq s.junk)++[10,118,97,108,117,101,115]).length<=6107:=by rw[f0k];simp only[f00,f1b];omega
 simp(disch:=first|omega|rfl) only[go_sem,jcf,jcg,jch,jaw,jan,jci,jax,z5]
 refine WC.imp (jrr f w5 k.v (by omega) (.inl rfl) (by omega)) ?_
 rintro v h6 ⟨o6,w6,e6⟩
 have ok6:=w6.ok
 have b6:=Bl.out b5 e6
 have z6:=(e6.keep h.next b5.1 b5.2).trans z5
 have n6:(((((([]++[109,97,99,104,105,110,101]:List UInt8)++jlq [s.m1,s.m2])++((([10,114,117,110,32]++ito s.seed)++[32])++ito s.steps))++jlq s.junk)++[10,118,97,108,117,101,115])++jlq s.f.values).length<=12107:=by rw[f0k];omega
 simp(disch:=first|omega|rfl) only[go_sem,jcf,jcg,jch,jaw,jan,jci,jax]
 refine WC.imp (jwm f w6 (by omega)) ?_
 rintro v h7 ⟨m7,w7,e7⟩
 have ok7:=w7.ok
 have b7:=Bl.out b6 e7
 have z7:=(e7.keep h.next b6.1 b6.2).trans z6
 have n7:((((((([]++[109,97,99,104,105,110,101]:List UInt8)++jlq [s.m1,s.m2])++((([10,114,117,110,32]++ito s.seed)++[32])++ito s.steps))++jlq s.junk)++[10,118,97,108,117,101,115])++jlq s.f.values)++[10]).length<=12108:=by rw[f0k];simp only[f00,f1b];omega
 simp(disch:=first|omega|rfl) only[go_sem,jcf,jcg,jch,jaw,jan,jci,jax,z7,lb]
 refine qhd f k.b q8 s.f.blocks.length 0 (by omega) w7 (by omega) (fun h8 o8 x3 x4 x5 x6 x7 x8 x9 x10 x11 x12 x13 x15 w8 e8=>?_)
 rw[f11] at w8
 have ok8:=w8.ok
 have w8':Bl h8 hA.next (j58 s) o8:=by
  unfold j58
  simpa only[f0l,f1j] using w8
 have hne:j58 s≠[]:=by unfold j58;simp
 have hlen:(j58 s).length<=1000000000:=by
  unfold j58
  simp only[f0k,f00,f1b] at n7 ⊢
  omega
 obtain⟨h9,hx⟩:=qsb w8' hne hlen
 have hs:=fun(Q:AV->Hp->Prop)=>jaq (F:=F) (Q:=Q) (f.l 15 _ _ _ (show jz4 15 [.s (.ptr hA.next 0)] h8=_ from hx))
 simp(disch:=first|omega|rfl) only[go_sem,jcf,jcg,jch,jaw,jan,jci,jax,hs]
 exact hQ h9
end
end
end Go.Proofs.YtdbklpgagdbpiaaDoor.Ev
