/- What functions may be, whatever they are: does an instruction ask for one place twice? -/
import Derived.Test.YtkplfnkgodnmaaaJd
namespace Go.Proofs.Ytkplfnkgodnmaaa.Ev
open Go Go.RowKit Go.Proofs.Ytkplfnkgodnmaaa.Ms
attribute [local go_sem] Int.reduceToNat reduceCtorEq Nat.reduceAdd Nat.reduceMul Nat.reduceEqDiff Int.reduceEq Int.reduceLT Int.reduceLE Int.reduceNeg Int.reduceAdd Int.reduceSub Int.reduceMul Int.reduceNe
attribute [local go_sem ↓] reduceIte
set_option linter.all false
set_option maxRecDepth 100000
set_option maxHeartbeats 8000000
variable {x0 x1 x2 x3 x4 x5 x6 x7 x8 x9 x10 x11 x12 x13 x14 x15 x16 x17 x18 x19 x20 x21 x22 x23 x24 x25 x26 x27 x28 x29 x30 x31 x33 x34:AV} {has:Bool} {a h' hi:Hp} {j bO bP bf bm br bx:Nat}
noncomputable def j96 (size:Nat) (x y:Option AV):Option AV:=ob x (fun v=>ja4 v
 (ob (ob y (fun x=>jg1 x (fun _ n=>Int.casesOn (motive:=fun _=>Option Nat) n (fun m=>some m) (fun _=>none)))) (fun hi'=>oif (Nat.beq (Nat.add hi' 0) 0) (some (AV.s .nilSlice)) none))
 (fun b off len mc ex sz=>ob (ob y (fun x=>jg1 x (fun _ n=>Int.casesOn (motive:=fun _=>Option Nat) n (fun m=>some m) (fun _=>none)))) (fun hi' =>
  oif (Nat.ble hi' mc) (oif (Nat.ble 0 hi') (oif (Nat.beq sz size) (some (AV.s (.slice b (Nat.add off (Nat.mul 0 size)) (Nat.sub hi' 0) (Nat.sub mc 0) ex sz))) none) none) none))
 (fun rows=>ob (ob y (fun x=>jg1 x (fun _ n=>Int.casesOn (motive:=fun _=>Option Nat) n (fun m=>some m) (fun _=>none)))) (fun hi' =>
  oif (Nat.ble hi' (ja9 rows)) (oif (Nat.ble 0 hi') (oif (jkp size rows) (ob (ja3 (Nat.sub hi' 0) (jbd 0 rows)) (fun r=>some (AV.s (.lst r)))) none) none) none))
 (ob (ob y (fun x=>jg1 x (fun _ n=>Int.casesOn (motive:=fun _=>Option Nat) n (fun m=>some m) (fun _=>none)))) (fun hi'=>oif (Nat.beq (Nat.add hi' 0) 0) (some (AV.s .emp)) none)))
theorem jmv {st fr:List AV} {size:Nat} {x y:Od}:pop st fr (.slice size x none (some y))=j96 size (ev st fr x) (ev st fr y):=rfl
def jgj (l:List Ms.Opd) (i:Nat):SV:=.lst ((l.map jbc).take i)
theorem jxy {l:List Ms.Opd} {i:Nat} (hi:i<l.length):j96 5 (some (.s (jag jbc l))) (some (vi (i:Int)))=some (.s (jgj l i)):=by
 cases l with
 | nil=>simp at hi
 | cons a l =>
  show oif (Nat.ble i (ja9 ((a::l).map jbc))) (oif (Nat.ble 0 i) (oif (jkp 5 ((a::l).map jbc)) (ob (ja3 (Nat.sub i 0) (jbd 0 ((a::l).map jbc))) (fun r=>some (AV.s (.lst r)))) none) none) none=_
  have h1:ja9 ((a::l).map jbc)=(a::l).length:=by rw[jas,f05]
  have h2:Nat.ble i (ja9 ((a::l).map jbc))=true:=f1y (by rw[h1];omega)
  have h3:ja3 (Nat.sub i 0) (jbd 0 ((a::l).map jbc))=some (((a::l).map jbc).take i):=(jam _).2 ⟨by show i<=(jbd 0 ((a::l).map jbc)).length;rw[jaz,f1e,f05];omega,by rw[jaz];rfl⟩
  rw[h2,h3]
  rfl
theorem jtf {l:List Ms.Opd} {i:Nat} (hi:i<l.length):jlz (.s (jgj l i))=some (vi i):=by
 unfold jgj
 rw[jom,f2p,f05,Nat.min_eq_left (by omega)]
theorem jtg {l:List Ms.Opd} {i:Nat} {o:Ms.Opd} (hj:j<i) (h:l[j]?=some o):jj3 5 (.s (jgj l i)) (vi (j:Int))=some (.s (.cp (jbc o))):=by
 unfold jgj
 exact jur (by rw[f11,if_pos hj,f07,h];rfl) rfl
def jth:IC->IC
 | .seq a b=>a
 | c=>c
def jti:IC->IC
 | .seq a b=>b
 | c=>c
abbrev OC (o:Ms.Opd):List SV:=[si o.kind,si o.value,.bool o.late,si o.limit,si o.n]
section
variable {F:Fns} (S:SF F)
theorem qd4 {o p:Ms.Opd} {i:Nat} (xO:hi.get bO=some (.arr (OC o) 92)) (xP:hi.get bP=some (.arr (OC p) 92))
 {x0 x1 x2 x3 x4 x5 x6 x8 x10 x11 x12 x13 x15 x16 x17 x18 x20 x21 x22 x23 x24 x25:AV} {K:Ex->St->Prop} (hK:∀ b:Bool,K .normal (.mk [x0,x1,x2,x3,vb b,x5,x6,vi j,x8,.s (.ptr bP 0),x10,x11,x12,x13,vi i,x15,x16,x17,x18,.s (.ptr bO 0),x20,x21,x22,x23,x24,x25] hi)) :
 W F (jth jfk) (.mk [x0,x1,x2,x3,x4,x5,x6,vi j,x8,.s (.ptr bP 0),x10,x11,x12,x13,vi i,x15,x16,x17,x18,.s (.ptr bO 0),x20,x21,x22,x23,x24,x25] hi) K:=by
 obtain⟨okd,ovl,olt,olm,on⟩:=o
 obtain⟨pkd,pvl,plt,plm,pn⟩:=p
 simp only[OC] at xO xP
 unfold jfk jth
 have P:(((plm:Int)=5)=False/\((plm:Int)=5)=False)∨((((plm:Int)=5)=True)/\(((pn:Int)=(i:Int))=True∨((pn:Int)=(i:Int))=False)):=by
  by_cases h1:(plm:Int)=5
  .by_cases h2:(pn:Int)=(i:Int)
   .exact .inr ⟨eq_true h1,.inl (eq_true h2)⟩
   .exact .inr ⟨eq_true h1,.inr (eq_false h2)⟩
  .exact .inl ⟨eq_false h1,eq_false h1⟩
 by_cases o5:(olm:Int)=5
 .by_cases oj:(on:Int)=(j:Int)
  .simp (disch:=first|omega|rfl) only[go_sem,xO,xP,eq_true o5,eq_true oj]
   exact hK _
  .rcases P with⟨p1,p2⟩ | ⟨p1,p2 | p2⟩ <;>
    (simp(disch:=first|omega|rfl) only[go_sem,xO,xP,eq_true o5,eq_false oj,p1,p2];exact hK _)
 .rcases P with⟨p1,p2⟩ | ⟨p1,p2 | p2⟩ <;>
   (simp(disch:=first|omega|rfl) only[go_sem,xO,xP,eq_false o5,p1,p2];exact hK _)
include S
theorem qd5 (ok:Ok hi) {o p:Ms.Opd} (ho:o.kind=1∨o.kind=2) (hp:p.kind=1∨p.kind=2) {bq a b a' b':Nat} {also same:Bool} (xO:hi.get bO=some (.arr (OC o) 92)) (xP:hi.get bP=some (.arr (OC p) 92)) (xq:hi.get bq=some (.arr [si a',si b'] 94)) (xr:hi.get br=some (.arr [si a,si b] 94))
 {x0 x1 x2 x3 x7 x8 x10 x11 x12 x13 x14 x15 x16 x20 x21 x22 x23 x24 x25:AV} {K:Ex->St->Prop} (hK:∀ hj x3,Gw hi hj->K .normal (.mk [x0,x1,x2,x3,vb same,.s (.ptr bq 0),vb also,x7,x8,.s (.ptr bP 0),x10,x11,x12,x13,x14,x15,x16,.s (.ptr br 0),vb has,.s (.ptr bO 0),x20,x21,x22,x23,x24,x25] hj)) (hR:∀ fr hj,jbp fr 2=some (vb true)->Gw hi hj->K .ret (.mk fr hj)) :
 W F (jti jfk) (.mk [x0,x1,x2,x3,vb same,.s (.ptr bq 0),vb also,x7,x8,.s (.ptr bP 0),x10,x11,x12,x13,x14,x15,x16,.s (.ptr br 0),vb has,.s (.ptr bO 0),x20,x21,x22,x23,x24,x25] hi) K:=by
 unfold jfk jti
 cases has with
 | false =>
  simp(disch:=first|omega|rfl) only[go_sem]
  exact hK hi _ (.self ok)
 | true =>
 cases also with
 | false =>
  simp(disch:=first|omega|rfl) only[go_sem]
  exact hK hi _ (.self ok)
 | true =>
 by_cases he:((a':Int)=(a:Int)/\(b':Int)=(b:Int))
 .simp (disch:=first|omega|rfl) only[go_sem,xq,xr,jg0,jvq,eq_true he,xO,xP]
  refine WC.imp (qln S ok ho hp) ?_
  rintro _ hj ⟨t,rfl,g⟩
  cases t with
  | false =>
   simp(disch:=first|omega|rfl) only[go_sem]
   exact hK hj _ g
  | true =>
   cases same with
   | true =>
    simp(disch:=first|omega|rfl) only[go_sem]
    exact hK hj _ g
   | false =>
    simp(disch:=first|omega|rfl) only[go_sem]
    exact hR _ hj rfl g
 .simp (disch:=first|omega|rfl) only[go_sem,xq,xr,jg0,jvq,eq_false he]
  exact hK hi _ (.self ok)
theorem j97 {f:Fc} {x:Ms.Ins} (hl:x.ops.length<=10000) (hx:∀ u∈x.ops,OpT f u) (hr:∀ u∈x.ops,u.limit=5->u.n<x.ops.length) {o:Ms.Opd} {i:Nat} (hi:x.ops[i]?=some o) {a b:Nat} {Q:Ex->St->Prop} :
 ∀ (d j:Nat) (_:j+d=i) {hp:Hp} (_:Ok hp) (_:bf<hp.next/\bx<hp.next/\bO<hp.next/\br<hp.next) (_:hp.get bf=some (.arr [jag jak f.values,jag jax f.blocks] 29)) (_:hp.get bx=some (.arr [si x.op,jag jbc x.ops,jag jcu x.spoils] 73)) (_:hp.get bO=some (.arr (OC o) 92)) (_:hp.get br=some (.arr [si a,si b] 94)) {x3 x4 x5 x6 x7 x8 x9 x11:AV}
  (hQ:∀ hj x3 x4 x5 x6 x7 x8 x9 x11,Gw hp hj->Q (.exit 2) (.mk [x0,x1,vb false,x3,x4,x5,x6,x7,x8,x9,.s (jgj x.ops i),x11,vi i,vi i,vi i,x15,x16,.s (.ptr br 0),vb has,.s (.ptr bO 0),.s (.ptr bf 0),x21,x22,x23,x24,.s (.ptr bx 0)] hj))
  (hR:∀ fr hj,jbp fr 2=some (vb true)->Gw hp hj->Q .ret (.mk fr hj)),
  W F jl5.loop (.mk [x0,x1,vb false,x3,x4,x5,x6,x7,x8,x9,.s (jgj x.ops i),x11,vi i,vi j,vi i,x15,x16,.s (.ptr br 0),vb has,.s (.ptr bO 0),.s (.ptr bf 0),x21,x22,x23,x24,.s (.ptr bx 0)] hp) Q
 | 0,j,hd,hp,ok,lt,xf,xx,xO,xr,x3,x4,x5,x6,x7,x8,x9,x11,hQ,hR=>by
  obtain rfl:j=i:=by omega
  rw[jae]
  unfold jl5
  simp(disch:=first|omega|rfl) only[go_sem,f0q]
  exact hQ hp _ _ _ _ _ _ _ _ (.self ok)
 | d+1,j,hd,hp,ok,lt,xf,xx,xO,xr,x3,x4,x5,x6,x7,x8,x9,x11,hQ,hR=>by
  have hji:j<i:=by omega
  have hlt:(j:Int)<(i:Int):=by omega
  have hil:i<x.ops.length:=(f0e.1 hi).1
  obtain⟨p,hget⟩:∃ p,x.ops[j]?=some p:=⟨_,f0b (by omega)⟩
  have hpm:=f0c hget
  have hom:=f0c hi
  have hix:=jtg hji hget
  have hs:(j:Int)+1=((j+1:Nat):Int):=by omega
  obtain⟨l1,l2,l3,l4⟩:=lt
  obtain⟨hA,eA,gA,nA,xA⟩:=nwG ok [.int .i64 0,.int .i64 0,.bool false,.int .i64 0,.int .i64 0] (OC p) 92
  have okA:=gA.ok
  have yf:=(gA.g _ l1).trans xf
  have yx:=(gA.g _ l2).trans xx
  have yO:=(gA.g _ l3).trans xO
  have yr:=(gA.g _ l4).trans xr
  have e1:jbc p=OC p:=rfl
  rw[jae]
  unfold jl5 j13
  simp(disch:=first|omega|rfl) only[go_sem,jac,eq_true hlt,hix,e1,eA,xA,yf,yx]
  refine WC.imp (qmr S okA (f:=f) (x:=x) (o:=p) hx (hx p hpm) (hr p hpm)) ?_
  rintro _ hB ⟨a',b',t,rfl,gB⟩
  have okB:=gB.ok
  have nB:=gB.nx
  have zA:=(gB.g hp.next (by omega)).trans xA
  have zf:=(gB.g bf (by omega)).trans yf
  have zx:=(gB.g bx (by omega)).trans yx
  have zO:=(gB.g bO (by omega)).trans yO
  have zr:=(gB.g br (by omega)).trans yr
  obtain⟨hC,eC,gC,nC,xC⟩:=nwG okB [.int .i64 0,.int .i64 0] [si a',si b'] 94
  have okC:=gC.ok
  have wA:=(gC.g hp.next (by omega)).trans zA
  have wf:=(gC.g bf (by omega)).trans zf
  have wx:=(gC.g bx (by omega)).trans zx
  have wO:=(gC.g bO (by omega)).trans zO
  have wr:=(gC.g br (by omega)).trans zr
  have G:=gA.trans (gB.trans gC)
  have tail:∀ (x3 x4 x8:AV),W F jfk (.mk [x0,x1,vb false,x3,x4,.s (.ptr hB.next 0),vb t,vi j,x8,.s (.ptr hp.next 0),.s (jgj x.ops i),vb true,vi i,vi j,vi i,x15,x16,.s (.ptr br 0),vb has,.s (.ptr bO 0),.s (.ptr bf 0),x21,x22,x23,x24,.s (.ptr bx 0)] hC) (j4y 3 (jol F (.region [(.mk .none (.p (.bin .add (.g 13) (.c (.s (.int .i64 1))))) .none),(.mk (.some 13) (.p (.mv (.l 0))) .none)]) (jqu F jl5 Q))):=fun x3 x4 x8=>by
   rw[show jfk=.seq (jth jfk) (jti jfk) from rfl,qgc]
   refine qd4 wO wA (fun sm=>?_)
   rw[jju]
   refine qd5 S okC (hx o hom).k (hx p hpm).k wO wA xC wr (fun hj x3 g=>?_) (fun fr hj e g=>?_)
   .simp (disch:=first|omega|rfl) only[go_sem,jac,hs]
    exact j97 hl hx hr hi d (j+1) (by omega) g.ok ⟨by have:=g.nx;omega,by have:=g.nx;omega,by have:=g.nx;omega,by have:=g.nx;omega⟩ ((g.g _ (by omega)).trans wf) ((g.g _ (by omega)).trans wx) ((g.g _ (by omega)).trans wO) ((g.g _ (by omega)).trans wr) (fun hk x3 x4 x5 x6 x7 x8 x9 x11 g2=>hQ hk x3 x4 x5 x6 x7 x8 x9 x11 (G.trans (g.trans g2))) (fun fr hk e g2=>hR fr hk e (G.trans (g.trans g2)))
   .simp (disch:=first|omega|rfl) only[go_sem]
    exact hR fr hj e (G.trans g)
  by_cases o5:(o.limit:Int)=5
  .by_cases p5:(p.limit:Int)=5
   .by_cases en:(o.n:Int)=(p.n:Int)
    .simp (disch:=first|omega|rfl) only[go_sem,eC,wO,wA,eq_true o5,eq_true p5,eq_true en]
     exact hR _ hC rfl G
    .simp (disch:=first|omega|rfl) only[go_sem,eC,wO,wA,eq_true o5,eq_true p5,eq_false en]
     exact tail _ _ _
   .simp (disch:=first|omega|rfl) only[go_sem,eC,wO,wA,eq_true o5,eq_false p5]
    exact tail _ _ _
  .simp (disch:=first|omega|rfl) only[go_sem,eC,wO,wA,eq_false o5]
   exact tail _ _ _
theorem j98 {f:Fc} {x:Ms.Ins} (hl:x.ops.length<=10000) (hsp:x.spoils.length<=10000) (hx:∀ u∈x.ops,OpT f u) (hr:∀ u∈x.ops,u.limit=5->u.n<x.ops.length) {Q:Ex->St->Prop} :
 ∀ (d i:Nat) (_:i+d=x.ops.length) {hp:Hp} (_:Ok hp) (_:bf<hp.next/\bx<hp.next) (_:hp.get bf=some (.arr [jag jak f.values,jag jax f.blocks] 29)) (_:hp.get bx=some (.arr [si x.op,jag jbc x.ops,jag jcu x.spoils] 73)) {x3 x4 x5 x6 x7 x8 x9 x10 x11 x12 x13 x14 x15 x16 x17 x18 x19 x22:AV}
  (hQ:∀ hj x3 x4 x5 x6 x7 x8 x9 x10 x11 x12 x13 x14 x15 x16 x17 x18 x19 x22,Gw hp hj->Q (.exit 0) (.mk [x0,x1,vb false,x3,x4,x5,x6,x7,x8,x9,x10,x11,x12,x13,x14,x15,x16,x17,x18,x19,.s (.ptr bf 0),.s (jag jbc x.ops),x22,vi x.ops.length,vi x.ops.length,.s (.ptr bx 0)] hj))
  (hR:∀ fr hj,jbp fr 2=some (vb true)->Gw hp hj->Q .ret (.mk fr hj)),
  W F jjd.loop (.mk [x0,x1,vb false,x3,x4,x5,x6,x7,x8,x9,x10,x11,x12,x13,x14,x15,x16,x17,x18,x19,.s (.ptr bf 0),.s (jag jbc x.ops),x22,vi x.ops.length,vi i,.s (.ptr bx 0)] hp) Q
 | 0,i,hd,hp,ok,lt,xf,xx,x3,x4,x5,x6,x7,x8,x9,x10,x11,x12,x13,x14,x15,x16,x17,x18,x19,x22,hQ,hR=>by
  obtain rfl:i=x.ops.length:=by omega
  rw[jae]
  unfold jjd
  simp(disch:=first|omega|rfl) only[go_sem,f0q]
  exact hQ hp _ _ _ _ _ _ _ _ _ _ _ _ _ _ _ _ _ _ (.self ok)
 | d+1,i,hd,hp,ok,lt,xf,xx,x3,x4,x5,x6,x7,x8,x9,x10,x11,x12,x13,x14,x15,x16,x17,x18,x19,x22,hQ,hR=>by
  have hil:i<x.ops.length:=by omega
  have hlt:(i:Int)<(x.ops.length:Int):=by omega
  obtain⟨o,hget⟩:∃ p,x.ops[i]?=some p:=⟨_,f0b (by omega)⟩
  have hom:=f0c hget
  have hix:=jaf (enc:=jbc) (size:=5) hget rfl
  have hs:(i:Int)+1=((i+1:Nat):Int):=by omega
  obtain⟨l1,l2⟩:=lt
  obtain⟨hA,eA,gA,nA,xA⟩:=nwG ok [.int .i64 0,.int .i64 0,.bool false,.int .i64 0,.int .i64 0] (OC o) 92
  have okA:=gA.ok
  have yf:=(gA.g _ l1).trans xf
  have yx:=(gA.g _ l2).trans xx
  have e1:jbc o=OC o:=rfl
  rw[jae]
  unfold jjd j14
  simp(disch:=first|omega|rfl) only[go_sem,jac,eq_true hlt,hix,e1,eA,xA,yf,yx]
  refine WC.imp (qmr S okA (f:=f) (x:=x) (o:=o) hx (hx o hom) (hr o hom)) ?_
  rintro _ hB ⟨a,b,t,rfl,gB⟩
  have okB:=gB.ok
  have nB:=gB.nx
  have zA:=(gB.g hp.next (by omega)).trans xA
  have zf:=(gB.g bf (by omega)).trans yf
  have zx:=(gB.g bx (by omega)).trans yx
  obtain⟨hC,eC,gC,nC,xC⟩:=nwG okB [.int .i64 0,.int .i64 0] [si a,si b] 94
  have okC:=gC.ok
  have wA:=(gC.g hp.next (by omega)).trans zA
  have wf:=(gC.g bf (by omega)).trans zf
  have wx:=(gC.g bx (by omega)).trans zx
  have G:=gA.trans (gB.trans gC)
  have inner:∀ {hD:Hp} (g:Gw hC hD) (x3 x4 x5 x6 x7 x8 x9 x10 x11 x12 x13 x15 x16:AV),W F jtb (.mk [x0,x1,vb false,x3,x4,x5,x6,x7,x8,x9,x10,x11,x12,x13,vi i,x15,x16,.s (.ptr hB.next 0),vb t,.s (.ptr hp.next 0),.s (.ptr bf 0),.s (jag jbc x.ops),vb true,vi x.ops.length,vi i,.s (.ptr bx 0)] hD) (j4y 1 (jol F (.region [(.mk .none (.p (.bin .add (.g 24) (.c (.s (.int .i64 1))))) .none),(.mk (.some 24) (.p (.mv (.l 0))) .none)]) (jqu F jjd Q))):=fun {hD} g x3 x4 x5 x6 x7 x8 x9 x10 x11 x12 x13 x15 x16=>by
   have okD:=g.ok
   have nD:=g.nx
   have vx:=(g.g bx (by omega)).trans wx
   have sl:=jxy hil
   have sn:=jtf hil
   unfold jtb
   simp(disch:=first|omega|rfl) only[go_sem,vx,jmv,sl,sn]
   refine j97 S hl hx hr hget i 0 (by omega) okD ⟨by omega,by omega,by omega,by omega⟩ ((g.g bf (by omega)).trans wf) vx ((g.g hp.next (by omega)).trans wA) ((g.g hB.next (by omega)).trans xC) (fun hj x3 x4 x5 x6 x7 x8 x9 x11 g2=>?_) (fun fr hj e g2=>?_)
   .simp (disch:=first|omega|rfl) only[go_sem,jac,hs]
    have G2:=G.trans (g.trans g2)
    have n2:=G2.nx
    exact j98 hl hsp hx hr d (i+1) (by omega) g2.ok ⟨by omega,by omega⟩ ((G2.g bf l1).trans xf) ((G2.g bx l2).trans xx) (fun hk x3 x4 x5 x6 x7 x8 x9 x10 x11 x12 x13 x14 x15 x16 x17 x18 x19 x22 g3=>hQ hk x3 x4 x5 x6 x7 x8 x9 x10 x11 x12 x13 x14 x15 x16 x17 x18 x19 x22 (G2.trans g3)) (fun fr hk e g3=>hR fr hk e (G2.trans g3))
   .simp (disch:=first|omega|rfl) only[go_sem]
    exact hR fr hj e (G.trans (g.trans g2))
  have second:∀ {hD:Hp} (g:Gw hC hD) (x3 x4 x5 x6 x7 x8 x9 x10 x11 x12 x13 x15 x16:AV),W F jtc (.mk [x0,x1,vb false,x3,x4,x5,x6,x7,x8,x9,x10,x11,x12,x13,vi i,x15,x16,.s (.ptr hB.next 0),vb t,.s (.ptr hp.next 0),.s (.ptr bf 0),.s (jag jbc x.ops),vb true,vi x.ops.length,vi i,.s (.ptr bx 0)] hD) (j4y 1 (jol F (.region [(.mk .none (.p (.bin .add (.g 24) (.c (.s (.int .i64 1))))) .none),(.mk (.some 24) (.p (.mv (.l 0))) .none)]) (jqu F jjd Q))):=fun {hD} g x3 x4 x5 x6 x7 x8 x9 x10 x11 x12 x13 x15 x16=>by
   have okD:=g.ok
   have nD:=g.nx
   have vx:=(g.g bx (by omega)).trans wx
   have vA:=(g.g hp.next (by omega)).trans wA
   have vC:=(g.g hB.next (by omega)).trans xC
   unfold jtc
   cases t with
   | false =>
    simp(disch:=first|omega|rfl) only[go_sem]
    exact inner g _ _ _ _ _ _ _ _ _ _ _ _ _
   | true =>
    by_cases k2:(o.kind:Int)=2
    .cases hlate:o.late with
     | true =>
      simp only[OC,hlate] at vA
      simp(disch:=first|omega|rfl) only[go_sem,vA,eq_true k2]
      exact inner g _ _ _ _ _ _ _ _ _ _ _ _ _
     | false =>
      simp only[OC,hlate] at vA
      simp(disch:=first|omega|rfl) only[go_sem,vA,eq_true k2,vx,vC]
      refine WC.imp (jct S okD hsp) ?_
      rintro _ hE ⟨q,rfl,gE⟩
      cases q with
      | true =>
       simp(disch:=first|omega|rfl) only[go_sem]
       exact hR _ hE rfl (G.trans (g.trans gE))
      | false =>
       simp(disch:=first|omega|rfl) only[go_sem]
       exact inner (g.trans gE) _ _ _ _ _ _ _ _ _ _ _ _ _
    .simp (disch:=first|omega|rfl) only[go_sem,vA,eq_false k2]
     exact inner g _ _ _ _ _ _ _ _ _ _ _ _ _
  cases t with
  | false =>
   simp(disch:=first|omega|rfl) only[go_sem,eC]
   exact second (.self okC) _ _ _ _ _ _ _ _ _ _ _ _ _
  | true =>
   cases hlate:o.late with
   | false =>
    have wA':=wA
    simp only[OC,hlate] at wA'
    simp(disch:=first|omega|rfl) only[go_sem,eC,wA']
    exact second (.self okC) _ _ _ _ _ _ _ _ _ _ _ _ _
   | true =>
    have wA':=wA
    simp only[OC,hlate] at wA'
    simp(disch:=first|omega|rfl) only[go_sem,eC,wA',wx,xC]
    refine WC.imp (jct S okC hsp) ?_
    rintro _ hE ⟨q,rfl,gE⟩
    cases q with
    | true =>
     simp(disch:=first|omega|rfl) only[go_sem]
     exact hR _ hE rfl (G.trans gE)
    | false =>
     simp(disch:=first|omega|rfl) only[go_sem]
     exact second gE _ _ _ _ _ _ _ _ _ _ _ _ _
theorem qnz {h:Hp} (ok:Ok h) {f:Fc} {x:Ms.Ins} (hl:x.ops.length<=10000) (hsp:x.spoils.length<=10000) (hx:∀ u∈x.ops,OpT f u) (hr:∀ u∈x.ops,u.limit=5->u.n<x.ops.length):WC F 68 [FA f,XA x] h (jxx h):=by
 refine jan (S.X _ (by simp) _ _) ((S.T _).trans qla) rfl ?_
 unfold j9j
 obtain⟨hA,eA,gA,nA,xA⟩:=bxG ok [jag jak f.values,jag jax f.blocks] 29
 obtain⟨hB,eB,gB,nB,xB⟩:=bxG gA.ok [si x.op,jag jbc x.ops,jag jcu x.spoils] 73
 have okA:=gA.ok
 have okB:=gB.ok
 have G:=gA.trans gB
 have yA:=(gB.g h.next (by omega)).trans xA
 rw[nA] at xB
 have l1:=jad (enc:=jbc) (l:=x.ops)
 simp(disch:=first|omega|rfl) only[go_sem,eA,nA,eB,xB,l1]
 refine j98 S hl hsp hx hr x.ops.length 0 (by omega) okB ⟨by omega,by omega⟩ yA xB (fun hj _ _ _ _ _ _ _ _ _ _ _ _ _ _ _ _ _ _ g=>?_) (fun fr hj e g=>?_)
 .simp (disch:=first|omega|rfl) only[go_sem]
  exact⟨_,rfl,G.trans g⟩
 .simp (disch:=first|omega|rfl) only[go_sem,e]
  exact⟨_,rfl,G.trans g⟩
end
section
variable {F:Fns} (S:SF F)
include S
theorem j99 {f:Fc} (hc:qd3 f) {m:Nat×Nat} {l:List Ms.Opd} (hl:l.length<=10000) {Q:Ex->St->Prop} :
 ∀ (d i:Nat) (_:i+d=l.length) {hi:Hp} (_:Ok hi) (_:bf<hi.next/\bm<hi.next) (_:hi.get bf=some (.arr [jag jak f.values,jag jax f.blocks] 29)) (_:hi.get bm=some (.arr [si m.1,si m.2] 25)) {x19 x20 x21 x25:AV}
  (hQ:∀ hj x19 x20 x21 x25,Gw hi hj->(∀ u∈l.drop i,OpT f u)->Q (.exit 0) (.mk [x0,x1,x2,vi 0,x4,x5,x6,x7,x8,x9,x10,x11,x12,x13,x14,x15,x16,x17,x18,x19,x20,x21,.s (.ptr bm 0),.s (.ptr bf 0),.s (jag jbc l),x25,vi l.length,vi l.length,x28,x29] hj))
  (hR:∀ fr hj (e:Int),jbp fr 3=some (vi e)->e≠0->Gw hi hj->Q .ret (.mk fr hj)),
  W F jou.loop (.mk [x0,x1,x2,vi 0,x4,x5,x6,x7,x8,x9,x10,x11,x12,x13,x14,x15,x16,x17,x18,x19,x20,x21,.s (.ptr bm 0),.s (.ptr bf 0),.s (jag jbc l),x25,vi l.length,vi i,x28,x29] hi) Q
 | 0,i,hd,hi,ok,lt,xf,xm,x19,x20,x21,x25,hQ,hR=>by
  obtain rfl:i=l.length:=by omega
  rw[jae]
  unfold jou
  simp(disch:=first|omega|rfl) only[go_sem,f0q]
  exact hQ hi _ _ _ _ (.self ok) (by simp)
 | d+1,i,hd,hi,ok,lt,xf,xm,x19,x20,x21,x25,hQ,hR=>by
  have hil:i<l.length:=by omega
  have hlt:(i:Int)<l.length:=by omega
  obtain⟨o,hget⟩:∃ x,l[i]?=some x:=⟨_,f0b (by omega)⟩
  have hix:=jaf (enc:=jbc) (size:=5) hget rfl
  have hs:(i:Int)+1=((i+1:Nat):Int):=by omega
  have ed:l.drop i=o::l.drop (i+1):=by
   rw[f0p hil,(f0e.1 hget).2]
  obtain⟨l1,l2⟩:=lt
  obtain⟨hA,eA,gA,nA,xA⟩:=nwG ok [.int .i64 0,.int .i64 0,.bool false,.int .i64 0,.int .i64 0] (OC o) 92
  have okA:=gA.ok
  have yf:=(gA.g _ l1).trans xf
  have ym:=(gA.g _ l2).trans xm
  have e1:jbc o=OC o:=rfl
  rw[jae]
  unfold jou j15
  simp(disch:=first|omega|rfl) only[go_sem,jac,eq_true hlt,hix,e1,eA,xA,yf,ym]
  refine WC.imp (qnw S okA (f:=f) (m:=m) (o:=o) hc) ?_
  rintro _ hB ⟨e,rfl,he,gB⟩
  have G:=gA.trans gB
  have nB:=G.nx
  by_cases e0:e=0
  .have e0':(e≠0)=False:=eq_false (fun h=>h e0)
   simp(disch:=first|omega|rfl) only[go_sem,jac,e0',hs]
   refine j99 hc hl d (i+1) (by omega) gB.ok ⟨by omega,by omega⟩ ((G.g _ l1).trans xf) ((G.g _ l2).trans xm) (fun hj x19 x20 x21 x25 g hh=>hQ hj x19 x20 x21 x25 (G.trans g) (fun u hu=>?_)) (fun fr hj e h1 h2 g=>hR fr hj e h1 h2 (G.trans g))
   rw[ed] at hu
   rcases f0h.1 hu with rfl | hu
   .exact he e0
   .exact hh u hu
  .have e0':(e≠0)=True:=eq_true e0
   simp(disch:=first|omega|rfl) only[go_sem,e0']
   exact hR _ hB e rfl e0 G
theorem j3d {f:Fc} {x:Ms.Ins} (hl:x.ops.length<=10000) (hx:∀ u∈x.ops,OpT f u) {Q:Ex->St->Prop} :
 ∀ (d i:Nat) (_:i+d=x.ops.length) {hi:Hp} (_:Ok hi) (_:bf<hi.next/\bx<hi.next) (_:hi.get bf=some (.arr [jag jak f.values,jag jax f.blocks] 29)) (_:hi.get bx=some (.arr [si x.op,jag jbc x.ops,jag jcu x.spoils] 73)) {x11 x12 x13 x14 x16:AV}
  (hQ:∀ hj x11 x12 x13 x14 x16,Gw hi hj->(∀ u∈x.ops.drop i,u.limit=5->u.n<x.ops.length)->Q (.exit 2) (.mk [x0,x1,x2,vi 0,x4,x5,x6,x7,x8,x9,x10,x11,x12,x13,x14,.s (jag jbc x.ops),x16,vi x.ops.length,vi x.ops.length,x19,x20,x21,.s (.ptr bm 0),.s (.ptr bf 0),x24,x25,x26,x27,x28,.s (.ptr bx 0)] hj))
  (hR:∀ fr hj (e:Int),jbp fr 3=some (vi e)->e≠0->Gw hi hj->Q .ret (.mk fr hj)),
  W F jov.loop (.mk [x0,x1,x2,vi 0,x4,x5,x6,x7,x8,x9,x10,x11,x12,x13,x14,.s (jag jbc x.ops),x16,vi x.ops.length,vi i,x19,x20,x21,.s (.ptr bm 0),.s (.ptr bf 0),x24,x25,x26,x27,x28,.s (.ptr bx 0)] hi) Q
 | 0,i,hd,hi,ok,lt,xf,xx,x11,x12,x13,x14,x16,hQ,hR=>by
  obtain rfl:i=x.ops.length:=by omega
  rw[jae]
  unfold jov
  simp(disch:=first|omega|rfl) only[go_sem,f0q]
  exact hQ hi _ _ _ _ _ (.self ok) (by simp)
 | d+1,i,hd,hi,ok,lt,xf,xx,x11,x12,x13,x14,x16,hQ,hR=>by
  have hil:i<x.ops.length:=by omega
  have hlt:(i:Int)<x.ops.length:=by omega
  obtain⟨o,hget⟩:∃ y,x.ops[i]?=some y:=⟨_,f0b (by omega)⟩
  have hom:=f0c hget
  have hix:=jaf (enc:=jbc) (size:=5) hget rfl
  have hs:(i:Int)+1=((i+1:Nat):Int):=by omega
  have ed:x.ops.drop i=o::x.ops.drop (i+1):=by
   rw[f0p hil,(f0e.1 hget).2]
  obtain⟨l1,l2⟩:=lt
  obtain⟨hA,eA,gA,nA,xA⟩:=nwG ok [.int .i64 0,.int .i64 0,.bool false,.int .i64 0,.int .i64 0] (OC o) 92
  have okA:=gA.ok
  have yf:=(gA.g _ l1).trans xf
  have yx:=(gA.g _ l2).trans xx
  have e1:jbc o=OC o:=rfl
  rw[jae]
  unfold jov j17
  by_cases c5:(o.limit:Int)=5
  .have c5':((o.limit:Int)≠5)=False:=eq_false (fun h=>h c5)
   simp(disch:=first|omega|rfl) only[go_sem,jac,eq_true hlt,hix,e1,eA,xA,c5']
   unfold j16
   simp(disch:=first|omega|rfl) only[go_sem,xA,yf,yx]
   refine WC.imp (qnx S okA (f:=f) (x:=x) (o:=o) hx (hx o hom).v) ?_
   rintro _ hB ⟨e,rfl,he,gB⟩
   have G:=gA.trans gB
   have nB:=G.nx
   by_cases e0:e=0
   .have e0':(e≠0)=False:=eq_false (fun h=>h e0)
    simp(disch:=first|omega|rfl) only[go_sem,jac,e0',hs]
    refine j3d hl hx d (i+1) (by omega) gB.ok ⟨by omega,by omega⟩ ((G.g _ l1).trans xf) ((G.g _ l2).trans xx) (fun hj x11 x12 x13 x14 x16 g hh=>hQ hj x11 x12 x13 x14 x16 (G.trans g) (fun u hu=>?_)) (fun fr hj e h1 h2 g=>hR fr hj e h1 h2 (G.trans g))
    rw[ed] at hu
    rcases f0h.1 hu with rfl | hu
    .exact fun _=>he e0
    .exact hh u hu
   .have e0':(e≠0)=True:=eq_true e0
    simp(disch:=first|omega|rfl) only[go_sem,e0']
    exact hR _ hB e rfl e0 G
  .have c5':((o.limit:Int)≠5)=True:=eq_true c5
   simp(disch:=first|omega|rfl) only[go_sem,jac,eq_true hlt,hix,e1,eA,xA,c5',hs]
   have nB:=gA.nx
   refine j3d hl hx d (i+1) (by omega) okA ⟨by omega,by omega⟩ yf yx (fun hj x11 x12 x13 x14 x16 g hh=>hQ hj x11 x12 x13 x14 x16 (gA.trans g) (fun u hu=>?_)) (fun fr hj e h1 h2 g=>hR fr hj e h1 h2 (gA.trans g))
   rw[ed] at hu
   rcases f0h.1 hu with rfl | hu
   .exact fun h=>absurd (by omega) c5
   .exact hh u hu
structure InT (f:Fc) (x:Ms.Ins):Prop where
 o:∀ u∈x.ops,OpT f u
theorem qn0 {h:Hp} (ok:Ok h) {f:Fc} (hc:qd3 f) {m:Nat×Nat} {x:Ms.Ins} (hl:x.ops.length<=10000) (hsp:x.spoils.length<=10000):WC F 51 [FA f,MA m,XA x] h (jxw (InT f x) h):=by
 refine jan (S.X _ (by simp) _ _) ((S.T _).trans qlb) rfl ?_
 unfold j9m
 obtain⟨hA,eA,gA,nA,xA⟩:=bxG ok [jag jak f.values,jag jax f.blocks] 29
 obtain⟨hB,eB,gB,nB,xB⟩:=bxG gA.ok [si m.1,si m.2] 25
 obtain⟨hC,eC,gC,nC,xC⟩:=bxG gB.ok [si x.op,jag jbc x.ops,jag jcu x.spoils] 73
 have okA:=gA.ok
 have okB:=gB.ok
 have okC:=gC.ok
 have G:=gA.trans (gB.trans gC)
 have nb:hB.next=h.next+2:=by omega
 have yA:=(gC.g h.next (by omega)).trans ((gB.g h.next (by omega)).trans xA)
 rw[nA] at xB
 have yB:=(gC.g (h.next+1) (by omega)).trans xB
 rw[nb] at xC
 have l1:=jad (enc:=jbc) (l:=x.ops)
 have c0:((x.op:Int)<0)=False:=eq_false (by omega)
 by_cases c1:255<(x.op:Int)
 .simp (disch:=first|omega|rfl) only[go_sem,eA,nA,eB,nb,eC,xC,c0,eq_true c1]
  exact .no (by decide) G
 simp(disch:=first|omega|rfl) only[go_sem,eA,nA,eB,nb,eC,xC,c0,eq_false c1]
 unfold j2c
 simp(disch:=first|omega|rfl) only[go_sem,xC,l1]
 have back:∀ {hh:Hp} (g:Gw hC hh),hh.get h.next=some (.arr [jag jak f.values,jag jax f.blocks] 29)/\hh.get (h.next+1)=some (.arr [si m.1,si m.2] 25)/\hh.get (h.next+2)=some (.arr [si x.op,jag jbc x.ops,jag jcu x.spoils] 73)/\h.next+3<=hh.next:=fun {hh} g=>⟨(g.g _ (by omega)).trans yA,(g.g _ (by omega)).trans yB,(g.g _ (by omega)).trans xC,by have:=g.nx;omega⟩
 refine j99 S hc hl x.ops.length 0 (by omega) okC ⟨by omega,by omega⟩ yA yB (fun hD x19 x20 x21 x25 gD hx=>?_) (fun fr hj e h1 h2 g=>?hr1)
 case hr1 =>
  simp(disch:=first|omega|rfl) only[go_sem,h1]
  exact .no h2 (G.trans g)
 rw[f1e] at hx
 obtain⟨z1,z2,z3,z4⟩:=back gD
 have okD:=gD.ok
 simp(disch:=first|omega|rfl) only[go_sem,z3,l1]
 refine j3d S hl hx x.ops.length 0 (by omega) okD ⟨by omega,by omega⟩ z1 z3 (fun hE x11 x12 x13 x14 x16 gE hr=>?_) (fun fr hj e h1 h2 g=>?hr2)
 case hr2 =>
  simp(disch:=first|omega|rfl) only[go_sem,h1]
  exact .no h2 (G.trans (gD.trans g))
 rw[f1e] at hr
 obtain⟨w1,w2,w3,w4⟩:=back (gD.trans gE)
 have okE:=gE.ok
 simp(disch:=first|omega|rfl) only[go_sem,w2,w3]
 refine WC.imp (qny S okE (m:=m) hsp) ?_
 rintro _ hF ⟨e,rfl,_,gF⟩
 have GF:=gD.trans (gE.trans gF)
 obtain⟨v1,v2,v3,v4⟩:=back GF
 have okF:=gF.ok
 by_cases e0:e≠0
 .have e0':(e≠0)=True:=eq_true e0
  simp(disch:=first|omega|rfl) only[go_sem,e0']
  exact .no e0 (G.trans GF)
 have e0':(e≠0)=False:=eq_false e0
 simp(disch:=first|omega|rfl) only[go_sem,e0']
 unfold j2b
 simp(disch:=first|omega|rfl) only[go_sem,v1,v3]
 refine WC.imp (qnz S okF (f:=f) (x:=x) hl hsp hx hr) ?_
 rintro _ hG ⟨t,rfl,gG⟩
 have GG:=GF.trans gG
 obtain⟨u1,u2,u3,u4⟩:=back GG
 have okG:=gG.ok
 cases t with
 | true =>
  simp(disch:=first|omega|rfl) only[go_sem]
  exact .no (by decide) (G.trans GG)
 | false =>
 simp(disch:=first|omega|rfl) only[go_sem]
 unfold j2a
 simp(disch:=first|omega|rfl) only[go_sem]
 rw[jae]
 unfold j19 j18
 simp(disch:=first|omega|rfl) only[go_sem,u1,u2,u3]
 refine WC.imp (jnd S okG (f:=f) (m:=m) (x:=x) hl hsp hx (c:=0) (by omega)) ?_
 rintro _ hH ⟨t,rfl,gH⟩
 have GH:=GG.trans gH
 obtain⟨q1,q2,q3,q4⟩:=back GH
 have okH:=gH.ok
 cases t with
 | false =>
  simp(disch:=first|omega|rfl) only[go_sem]
  exact .no (by decide) (G.trans GH)
 | true =>
 simp(disch:=first|omega|rfl) only[go_sem,jac]
 rw[jae]
 simp(disch:=first|omega|rfl) only[go_sem,q1,q2,q3]
 refine WC.imp (jnd S okH (f:=f) (m:=m) (x:=x) hl hsp hx (c:=1) (by omega)) ?_
 rintro _ hI ⟨t,rfl,gI⟩
 have GI:=GH.trans gI
 have okI:=gI.ok
 cases t with
 | false =>
  simp(disch:=first|omega|rfl) only[go_sem]
  exact .no (by decide) (G.trans GI)
 | true =>
 simp(disch:=first|omega|rfl) only[go_sem,jac]
 rw[jae]
 simp(disch:=first|omega|rfl) only[go_sem]
 exact .yes ⟨hx⟩ (G.trans GI)
end
section
variable {F:Fns} (S:SF F)
include S
theorem qh8 {f:Fc} {l ps:List Nat} (hl:l.length<=10000) (hp:l.length=ps.length) {Q:Ex->St->Prop} :
 ∀ (d i:Nat) (_:i+d=l.length) {hi:Hp} (_:Ok hi) (_:bf<hi.next) (_:hi.get bf=some (.arr [jag jak f.values,jag jax f.blocks] 29)) {x3 x4 x5 x6 x8:AV}
  (hQ:∀ x3 x4 x5 x6 x8,(∀ v∈l.drop i,v<f.values.length)->Q (.exit 0) (.mk [x0,x1,x2,x3,x4,x5,x6,.s (jag jak l),x8,vi l.length,vi l.length,x11,.s (jag jak ps),x13,.s (.ptr bf 0),x15] hi))
  (hR:∀ fr (e:Int),jbp fr 2=some (vi e)->e≠0->Q .ret (.mk fr hi)),
  W F jkd.loop (.mk [x0,x1,x2,x3,x4,x5,x6,.s (jag jak l),x8,vi l.length,vi i,x11,.s (jag jak ps),x13,.s (.ptr bf 0),x15] hi) Q
 | 0,i,hd,hi,ok,lt,xf,x3,x4,x5,x6,x8,hQ,hR=>by
  obtain rfl:i=l.length:=by omega
  rw[jae]
  unfold jkd
  simp(disch:=first|omega|rfl) only[go_sem,f0q]
  exact hQ _ _ _ _ _ (by simp)
 | d+1,i,hd,hi,ok,lt,xf,x3,x4,x5,x6,x8,hQ,hR=>by
  have hil:i<l.length:=by omega
  have hlt:(i:Int)<l.length:=by omega
  obtain⟨v,hget⟩:∃ x,l[i]?=some x:=⟨_,f0b (by omega)⟩
  obtain⟨q,hgq⟩:∃ x,ps[i]?=some x:=⟨_,f0b (by omega)⟩
  have hix:=jaf (enc:=jak) (size:=1) hget rfl
  have hiq:=jaf (enc:=jak) (size:=1) hgq rfl
  have hs:(i:Int)+1=((i+1:Nat):Int):=by omega
  have ed:l.drop i=v::l.drop (i+1):=by
   rw[f0p hil,(f0e.1 hget).2]
  have vv:=fun(Q:AV->Hp->Prop) (h:Hp)=>jvE S (h:=h) (f:=f) (v:=v) (Q:=Q)
  have vq:=fun(Q:AV->Hp->Prop) (h:Hp)=>jvE S (h:=h) (f:=f) (v:=q) (Q:=Q)
  rw[jae]
  unfold jkd jvc
  by_cases hv:¬ v<f.values.length
  .simp (disch:=first|omega|rfl) only[go_sem,jac,eq_true hlt,hix,jak,xf,vv,hv]
   exact hR _ 2 rfl (by decide)
  have hv:=Classical.not_not.1 hv
  simp(disch:=first|omega|rfl) only[go_sem,jac,eq_true hlt,hix,jak,xf,vv,hv]
  unfold jvb jva
  by_cases hq:¬ q<f.values.length
  .simp (disch:=first|omega|rfl) only[go_sem,xf,hiq,jak,vq,hq]
   exact hR _ 17 rfl (by decide)
  have hq:=Classical.not_not.1 hq
  have i1:=jaf (enc:=jak) (size:=1) (jrq hv) rfl
  have i2:=jaf (enc:=jak) (size:=1) (jrq hq) rfl
  by_cases c4:(cv f.values q:Int)=(cv f.values v:Int)
  .have c4':((cv f.values q:Int)≠(cv f.values v:Int))=False:=eq_false (fun h=>h c4)
   simp(disch:=first|omega|rfl) only[go_sem,jac,xf,hiq,jak,vq,hq,i1,i2,c4',hs]
   refine qh8 hl hp d (i+1) (by omega) ok lt xf (fun x3 x4 x5 x6 x8 hh=>hQ x3 x4 x5 x6 x8 (fun u hu=>?_)) hR
   rw[ed] at hu
   rcases f0h.1 hu with rfl | hu
   .exact hv
   .exact hh u hu
  .have c4':((cv f.values q:Int)≠(cv f.values v:Int))=True:=eq_true c4
   simp(disch:=first|omega|rfl) only[go_sem,xf,hiq,jak,vq,hq,i1,i2,c4']
   exact hR _ 17 rfl (by decide)
structure EdT (f:Fc) (e:Ms.Edg):Prop where
 b1:1<=e.block
 b2:e.block<f.blocks.length
 a:∀ v∈e.args,v<f.values.length
abbrev EA (e:Ms.Edg):AV:=.agg [si e.block,jag jak e.args]
theorem qn1 {h:Hp} (ok:Ok h) {f:Fc} {e:Ms.Edg} (hl:e.args.length<=10000):WC F 52 [FA f,EA e] h (jxw (EdT f e) h):=by
 obtain⟨bk,ags⟩:=e
 simp only at hl
 refine jan (S.X _ (by simp) _ _) ((S.T _).trans qh1) rfl ?_
 unfold j2d
 obtain⟨hA,eA,gA,nA,xA⟩:=bxG ok [jag jak f.values,jag jax f.blocks] 29
 obtain⟨hB,eB,gB,nB,xB⟩:=bxG gA.ok [si bk,jag jak ags] 76
 have okA:=gA.ok
 have okB:=gB.ok
 have G:=gA.trans gB
 have yA:=(gB.g h.next (by omega)).trans xA
 rw[nA] at xB
 have l1:=jad (enc:=jax) (l:=f.blocks)
 have l2:=jad (enc:=jak) (l:=ags)
 by_cases c1:(bk:Int)<1
 .simp (disch:=first|omega|rfl) only[go_sem,eA,nA,eB,xB,yA,l1,eq_true c1]
  exact .no (by decide) G
 by_cases c2:(f.blocks.length:Int)<=(bk:Int)
 .simp (disch:=first|omega|rfl) only[go_sem,eA,nA,eB,xB,yA,l1,eq_false c1,eq_true c2]
  exact .no (by decide) G
 simp(disch:=first|omega|rfl) only[go_sem,eA,nA,eB,xB,yA,l1,eq_false c1,eq_false c2]
 obtain⟨⟨bp,bi,be⟩,hb⟩:∃ b,f.blocks[bk]?=some b:=⟨_,f0b (by omega)⟩
 have ib:=jaf (enc:=jax) (size:=3) hb rfl
 have l3:=jad (enc:=jak) (l:=bp)
 unfold jve
 by_cases c3:(ags.length:Int)=(bp.length:Int)
 .have c3':((ags.length:Int)≠(bp.length:Int))=False:=eq_false (fun h=>h c3)
  simp(disch:=first|omega|rfl) only[go_sem,xB,yA,ib,jax,l2,l3,c3']
  unfold jvd
  simp(disch:=first|omega|rfl) only[go_sem,xB,l2]
  refine qh8 S hl (by omega) ags.length 0 (by omega) okB (by omega) yA (fun x3 x4 x5 x6 x8 hh=>?_) (fun fr e h1 h2=>?_)
  .simp (disch:=first|omega|rfl) only[go_sem]
   exact .yes ⟨by simp only;omega,by simp only;omega,by simpa using hh⟩ G
  .simp (disch:=first|omega|rfl) only[go_sem,h1]
   exact .no h2 G
 .have c3':((ags.length:Int)≠(bp.length:Int))=True:=eq_true c3
  simp(disch:=first|omega|rfl) only[go_sem,xB,yA,ib,jax,l2,l3,c3']
  exact .no (by decide) G
end
structure Gb (b:Nat) (h h':Hp):Prop where
 ok:Ok h'
 nx:h.next<=h'.next
 g:∀ n,n<h.next->n≠b->h'.get n=h.get n
theorem Gb.trans {n:Nat} {b c:Hp} (x:Gb n a b) (y:Gb n b c):Gb n a c:=⟨y.ok,f0w x.nx y.nx,fun k hk hn=>(y.g k (f0m hk x.nx) hn).trans (x.g k hk hn)⟩
theorem Gw.b {n:Nat} {b:Hp} (x:Gw a b):Gb n a b:=⟨x.ok,x.nx,fun k hk _=>x.g k hk⟩
theorem Gb.self {n:Nat} (ok:Ok a):Gb n a a:=⟨ok,f0d _,fun _ _ _=>rfl⟩
theorem Gb.w {b:Nat} {h0 h:Hp} (x:Gb b h h') (y:Gw h0 h) (hb:h0.next<=b):Gw h0 h':=⟨x.ok,f0w y.nx x.nx,fun n hn=>(x.g n (f0m hn y.nx) (by omega)).trans (y.g n hn)⟩
theorem wr1 {α:Type} {c:α} {l:List α} {i:Nat} (h:i<l.length):jat i [c] l=some (l.set i c) :=
 (jb7 _).2 ⟨by simp;omega,by rw[List.set_eq_take_append_cons_drop,if_pos h];rfl⟩
theorem rd1 {l:List SV} {i:Nat} {c:SV} {ty:Nat} (h:l[i]?=some c):rdB (some (.arr l ty)) i 1=some [c]:=by
 rw[jdm,jaz]
 obtain⟨h1,h2⟩:=f0e.1 h
 refine(jam _).2 ⟨by rw[f28];omega,?_⟩
 rw[f0p h1,h2];rfl
theorem qaa {a b:Bool}:j3b false false [true] (some (vb a)) (some (vb b))=some (vb (decide (a=b))):=by
 cases a<;>cases b<;>rfl
structure Mk (h:Hp) (bm bs n:Nat):Prop where
 m:h.get bm=some (.arr [.slice bs 0 n n true 1] 106)
 lm:bm<h.next
 s:∃ l:List Bool,l.length=n/\h.get bs=some (.arr (l.map (fun b=>SV.bool b)) 4)
 ls:bs<h.next
 s1:1<=bs
 ne:bm≠bs
theorem Mk.gw {h:Hp} {bs n:Nat} (k:Mk h bm bs n) (g:Gw h h'):Mk h' bm bs n:=by
 obtain⟨l,h1,h2⟩:=k.s
 exact⟨(g.g _ k.lm).trans k.m,f0m k.lm g.nx,⟨l,h1,(g.g _ k.ls).trans h2⟩,f0m k.ls g.nx,k.s1,k.ne⟩
theorem ixm {bs n v:Nat} (h:v<n):jj3 1 (.s (.slice bs 0 n n true 1)) (vi (v:Int))=some (.s (.ptr bs v)):=by
 have:=jcc (size:=1) (b:=bs) (off:=0) (mc:=n) (sz:=1) (ex:=true) h
 rw[f2w,f0y] at this
 exact this
section
variable {F:Fns} (S:SF F)
include S
theorem qms {h:Hp} (ok:Ok h) {f:Fc} {v bs:Nat} (xf:h.get bf=some (.arr [jag jak f.values,jag jax f.blocks] 29)) (k:Mk h bm bs f.values.length) :
 WC F 71 [vi v,.s (.ptr bf 0),.s (.ptr bm 0)] h (fun u h'=>∃ e:Int,u=vi e/\(e=0->v<f.values.length)/\Gb bs h h'/\Mk h' bm bs f.values.length):=by
 refine jan (S.X _ (by simp) _ _) ((S.T _).trans qld) rfl ?_
 unfold j9o
 have vv:=fun(Q:AV->Hp->Prop) (h:Hp)=>jvE S (h:=h) (f:=f) (v:=v) (Q:=Q)
 by_cases hv:¬ v<f.values.length
 .simp (disch:=first|omega|rfl) only[go_sem,xf,vv,hv]
  exact⟨2,rfl,fun h=>absurd h (by decide),.self ok,k⟩
 have hv:=Classical.not_not.1 hv
 simp(disch:=first|omega|rfl) only[go_sem,xf,vv,hv]
 obtain⟨l,hl,xs⟩:=k.s
 have xm:=k.m
 have im:=ixm (bs:=bs) hv
 obtain⟨c,hc⟩:∃ c,l[v]?=some c:=⟨_,f0b (by omega)⟩
 have rr:rdB (some (.arr (l.map (fun b=>SV.bool b)) 4)) v 1=some [.bool c]:=rd1 (by rw[f07,hc];rfl)
 unfold j2l
 cases c with
 | true =>
  simp(disch:=first|omega|rfl) only[go_sem,xm,im,xs,rr]
  exact⟨7,rfl,fun h=>absurd h (by decide),.self ok,k⟩
 | false =>
  have hw:jat v [.bool true] (l.map (fun b=>SV.bool b))=some ((l.set v true).map (fun b=>SV.bool b)):=by
   rw[wr1 (by rw[f05];omega),List.map_set]
  obtain⟨hA,eA,okA,nA,xA,gA⟩:=pt1 ok k.s1 (some (.arr ((l.set v true).map (fun b=>SV.bool b)) 4))
  simp(disch:=first|omega|rfl) only[go_sem,xm,im,xs,rr]
  unfold j2k
  simp(disch:=first|omega|rfl) only[go_sem,xm,im,xs,hw,eA]
  exact⟨0,rfl,fun _=>by first | exact hv | trivial,⟨okA,by omega,fun n _ hn=>gA n hn⟩,⟨(gA _ k.ne).trans xm,by have:=k.lm;omega,⟨l.set v true,by rw[f2m];exact hl,xA⟩,by have:=k.ls;omega,k.s1,k.ne⟩⟩
theorem qab {f:Fc} {l:List Nat} (hl:l.length<=10000) {bs:Nat} {Q:Ex->St->Prop} :
 ∀ (d i:Nat) (_:i+d=l.length) {hi:Hp} (_:Ok hi) (_:bf<hi.next/\bf≠bs) (_:hi.get bf=some (.arr [jag jak f.values,jag jax f.blocks] 29)) (_:Mk hi bm bs f.values.length) {x16 x17 x18 x21:AV}
  (hQ:∀ hj x16 x17 x18 x21,Gb bs hi hj->Mk hj bm bs f.values.length->(∀ v∈l.drop i,v<f.values.length)->Q (.exit 2) (.mk [x0,vi 0,x2,x3,x4,x5,x6,x7,x8,x9,x10,x11,x12,x13,x14,x15,x16,x17,x18,.s (.func 71 [(bf,0),(bm,0)]),.s (jag jak l),x21,vi l.length,vi l.length,x24,x25,x26,x27,x28,x29,.s (.ptr bf 0)] hj))
  (hR:∀ fr hj (e:Int),jbp fr 1=some (vi e)->e≠0->Gb bs hi hj->Q .ret (.mk fr hj)),
  W F jow.loop (.mk [x0,vi 0,x2,x3,x4,x5,x6,x7,x8,x9,x10,x11,x12,x13,x14,x15,x16,x17,x18,.s (.func 71 [(bf,0),(bm,0)]),.s (jag jak l),x21,vi l.length,vi i,x24,x25,x26,x27,x28,x29,.s (.ptr bf 0)] hi) Q
 | 0,i,hd,hi,ok,lt,xf,k,x16,x17,x18,x21,hQ,hR=>by
  obtain rfl:i=l.length:=by omega
  rw[jae]
  unfold jow
  simp(disch:=first|omega|rfl) only[go_sem,f0q]
  exact hQ hi _ _ _ _ (.self ok) k (by simp)
 | d+1,i,hd,hi,ok,lt,xf,k,x16,x17,x18,x21,hQ,hR=>by
  have hil:i<l.length:=by omega
  have hlt:(i:Int)<l.length:=by omega
  obtain⟨v,hget⟩:∃ x,l[i]?=some x:=⟨_,f0b (by omega)⟩
  have hix:=jaf (enc:=jak) (size:=1) hget rfl
  have hs:(i:Int)+1=((i+1:Nat):Int):=by omega
  have ed:l.drop i=v::l.drop (i+1):=by
   rw[f0p hil,(f0e.1 hget).2]
  rw[jae]
  unfold jow j2e
  simp(disch:=first|omega|rfl) only[go_sem,jac,eq_true hlt,hix,jak]
  rw[jgx rfl]
  simp(disch:=first|omega|rfl) only[go_sem]
  refine WC.imp (qms S ok (v:=v) xf k) ?_
  rintro _ hB ⟨e,rfl,he,gB,kB⟩
  have nB:=gB.nx
  by_cases e0:e=0
  .have e0':(e≠0)=False:=eq_false (fun h=>h e0)
   simp(disch:=first|omega|rfl) only[go_sem,jac,e0',hs]
   refine qab hl d (i+1) (by omega) gB.ok ⟨by omega,lt.2⟩ ((gB.g _ lt.1 lt.2).trans xf) kB (fun hj x16 x17 x18 x21 g k2 hh=>hQ hj x16 x17 x18 x21 (gB.trans g) k2 (fun u hu=>?_)) (fun fr hj e h1 h2 g=>hR fr hj e h1 h2 (gB.trans g))
   rw[ed] at hu
   rcases f0h.1 hu with rfl | hu
   .exact he e0
   .exact hh u hu
  .have e0':(e≠0)=True:=eq_true e0
   simp(disch:=first|omega|rfl) only[go_sem,e0']
   exact hR _ hB e rfl e0 gB
theorem j3e {f:Fc} {l:List Ms.Opd} (hl:l.length<=10000) {bs:Nat} {Q:Ex->St->Prop} :
 ∀ (d i:Nat) (_:i+d=l.length) {hi:Hp} (_:Ok hi) (_:bf<hi.next/\bf≠bs) (_:hi.get bf=some (.arr [jag jak f.values,jag jax f.blocks] 29)) (_:Mk hi bm bs f.values.length) {x3 x4 x5 x6 x8:AV}
  (hQ:∀ hj x3 x4 x5 x6 x8,Gb bs hi hj->Mk hj bm bs f.values.length->Q (.exit 6) (.mk [x0,vi 0,x2,x3,x4,x5,x6,.s (jag jbc l),x8,vi l.length,vi l.length,x11,x12,x13,x14,x15,x16,x17,x18,.s (.func 71 [(bf,0),(bm,0)]),x20,x21,x22,x23,x24,x25,x26,x27,x28,x29,.s (.ptr bf 0)] hj))
  (hR:∀ fr hj (e:Int),jbp fr 1=some (vi e)->e≠0->Gb bs hi hj->Q .ret (.mk fr hj)),
  W F jox.loop (.mk [x0,vi 0,x2,x3,x4,x5,x6,.s (jag jbc l),x8,vi l.length,vi i,x11,x12,x13,x14,x15,x16,x17,x18,.s (.func 71 [(bf,0),(bm,0)]),x20,x21,x22,x23,x24,x25,x26,x27,x28,x29,.s (.ptr bf 0)] hi) Q
 | 0,i,hd,hi,ok,lt,xf,k,x3,x4,x5,x6,x8,hQ,hR=>by
  obtain rfl:i=l.length:=by omega
  rw[jae]
  unfold jox
  simp(disch:=first|omega|rfl) only[go_sem,f0q]
  exact hQ hi _ _ _ _ _ (.self ok) k
 | d+1,i,hd,hi,ok,lt,xf,k,x3,x4,x5,x6,x8,hQ,hR=>by
  have hlt:(i:Int)<l.length:=by omega
  obtain⟨o,hget⟩:∃ x,l[i]?=some x:=⟨_,f0b (by omega)⟩
  have hix:=jaf (enc:=jbc) (size:=5) hget rfl
  have hs:(i:Int)+1=((i+1:Nat):Int):=by omega
  obtain⟨hA,eA,gA,nA,xA⟩:=nwG ok [.int .i64 0,.int .i64 0,.bool false,.int .i64 0,.int .i64 0] (OC o) 92
  have okA:=gA.ok
  have yf:=(gA.g _ lt.1).trans xf
  have kA:=k.gw gA
  have e1:jbc o=OC o:=rfl
  rw[jae]
  unfold jox j2g
  by_cases c2:(o.kind:Int)=2
  .have c2':((o.kind:Int)≠2)=False:=eq_false (fun h=>h c2)
   simp(disch:=first|omega|rfl) only[go_sem,jac,eq_true hlt,hix,e1,eA,xA,c2']
   unfold j2f
   simp(disch:=first|omega|rfl) only[go_sem,xA]
   rw[jgx rfl]
   simp(disch:=first|omega|rfl) only[go_sem]
   refine WC.imp (qms S okA (v:=o.value) yf kA) ?_
   rintro _ hB ⟨e,rfl,he,gB,kB⟩
   have G:Gb bs hi hB:=gA.b.trans gB
   have nB:=G.nx
   by_cases e0:e=0
   .have e0':(e≠0)=False:=eq_false (fun h=>h e0)
    simp(disch:=first|omega|rfl) only[go_sem,jac,e0',hs]
    exact j3e hl d (i+1) (by omega) gB.ok ⟨by omega,lt.2⟩ ((G.g _ lt.1 lt.2).trans xf) kB (fun hj x3 x4 x5 x6 x8 g k2=>hQ hj x3 x4 x5 x6 x8 (G.trans g) k2) (fun fr hj e h1 h2 g=>hR fr hj e h1 h2 (G.trans g))
   .have e0':(e≠0)=True:=eq_true e0
    simp(disch:=first|omega|rfl) only[go_sem,e0']
    exact hR _ hB e rfl e0 G
  .have c2':((o.kind:Int)≠2)=True:=eq_true c2
   simp(disch:=first|omega|rfl) only[go_sem,jac,eq_true hlt,hix,e1,eA,xA,c2',hs]
   have nB:=gA.nx
   exact j3e hl d (i+1) (by omega) okA ⟨by omega,lt.2⟩ yf kA (fun hj x3 x4 x5 x6 x8 g k2=>hQ hj x3 x4 x5 x6 x8 (gA.b.trans g) k2) (fun fr hj e h1 h2 g=>hR fr hj e h1 h2 (gA.b.trans g))
theorem qac {f:Fc} {l:List Ms.Ins} (hl:l.length<=10000) (hop:∀ x∈l,x.ops.length<=10000) {bs:Nat} {Q:Ex->St->Prop} :
 ∀ (d i:Nat) (_:i+d=l.length) {hi:Hp} (_:Ok hi) (_:bf<hi.next/\bf≠bs) (_:hi.get bf=some (.arr [jag jak f.values,jag jax f.blocks] 29)) (_:Mk hi bm bs f.values.length) {x3 x4 x5 x6 x7 x8 x9 x10 x11 x13:AV}
  (hQ:∀ hj x3 x4 x5 x6 x7 x8 x9 x10 x11 x13,Gb bs hi hj->Mk hj bm bs f.values.length->Q (.exit 4) (.mk [x0,vi 0,x2,x3,x4,x5,x6,x7,x8,x9,x10,x11,.s (jag jdh l),x13,vi l.length,vi l.length,x16,x17,x18,.s (.func 71 [(bf,0),(bm,0)]),x20,x21,x22,x23,x24,x25,x26,x27,x28,x29,.s (.ptr bf 0)] hj))
  (hR:∀ fr hj (e:Int),jbp fr 1=some (vi e)->e≠0->Gb bs hi hj->Q .ret (.mk fr hj)),
  W F joy.loop (.mk [x0,vi 0,x2,x3,x4,x5,x6,x7,x8,x9,x10,x11,.s (jag jdh l),x13,vi l.length,vi i,x16,x17,x18,.s (.func 71 [(bf,0),(bm,0)]),x20,x21,x22,x23,x24,x25,x26,x27,x28,x29,.s (.ptr bf 0)] hi) Q
 | 0,i,hd,hi,ok,lt,xf,k,x3,x4,x5,x6,x7,x8,x9,x10,x11,x13,hQ,hR=>by
  obtain rfl:i=l.length:=by omega
  rw[jae]
  unfold joy
  simp(disch:=first|omega|rfl) only[go_sem,f0q]
  exact hQ hi _ _ _ _ _ _ _ _ _ _ (.self ok) k
 | d+1,i,hd,hi,ok,lt,xf,k,x3,x4,x5,x6,x7,x8,x9,x10,x11,x13,hQ,hR=>by
  have hlt:(i:Int)<l.length:=by omega
  obtain⟨x,hget⟩:∃ x,l[i]?=some x:=⟨_,f0b (by omega)⟩
  have hxo:=hop x (f0c hget)
  have hix:=jaf (enc:=jdh) (size:=3) hget rfl
  have hs:(i:Int)+1=((i+1:Nat):Int):=by omega
  obtain⟨hA,eA,gA,nA,xA⟩:=nwG ok [.int .i64 0,.nilSlice,.nilSlice] (jdh x) 73
  have okA:=gA.ok
  have yf:=(gA.g _ lt.1).trans xf
  have kA:=k.gw gA
  have l1:=jad (enc:=jbc) (l:=x.ops)
  unfold jdh at xA eA
  rw[jae]
  unfold joy j2h
  simp(disch:=first|omega|rfl) only[go_sem,jac,eq_true hlt,hix,jdh,eA,xA,l1]
  have nA2:=gA.nx
  refine j3e S hxo x.ops.length 0 (by omega) okA ⟨by omega,lt.2⟩ yf kA (fun hB x3 x4 x5 x6 x8 gB kB=>?_) (fun fr hj e h1 h2 g=>?_)
  .have G:Gb bs hi hB:=gA.b.trans gB
   have nB:=G.nx
   simp(disch:=first|omega|rfl) only[go_sem,jac,hs]
   exact qac hl hop d (i+1) (by omega) gB.ok ⟨by omega,lt.2⟩ ((G.g _ lt.1 lt.2).trans xf) kB (fun hj x3 x4 x5 x6 x7 x8 x9 x10 x11 x13 g k2=>hQ hj x3 x4 x5 x6 x7 x8 x9 x10 x11 x13 (G.trans g) k2) (fun fr hj e h1 h2 g=>hR fr hj e h1 h2 (G.trans g))
  .simp (disch:=first|omega|rfl) only[go_sem]
   exact hR fr hj e h1 h2 (gA.b.trans g)
theorem qad {f:Fc} {l:List Blk} (hl:l.length<=10000) (hb:∀ b∈l,BSz b) {bs:Nat} {Q:Ex->St->Prop} :
 ∀ (d i:Nat) (_:i+d=l.length) {hi:Hp} (_:Ok hi) (_:bf<hi.next/\bf≠bs) (_:hi.get bf=some (.arr [jag jak f.values,jag jax f.blocks] 29)) (_:Mk hi bm bs f.values.length) {x3 x4 x5 x6 x7 x8 x9 x10 x11 x12 x13 x14 x15 x16 x17 x18 x20 x21 x22 x23 x24 x26:AV}
  (hQ:∀ hj x3 x4 x5 x6 x7 x8 x9 x10 x11 x12 x13 x14 x15 x16 x17 x18 x20 x21 x22 x23 x24 x26,Gb bs hi hj->Mk hj bm bs f.values.length->(∀ b∈l.drop i,∀ v∈b.params,v<f.values.length)->Q (.exit 0) (.mk [x0,vi 0,x2,x3,x4,x5,x6,x7,x8,x9,x10,x11,x12,x13,x14,x15,x16,x17,x18,.s (.func 71 [(bf,0),(bm,0)]),x20,x21,x22,x23,x24,.s (jag jax l),x26,vi l.length,vi l.length,x29,.s (.ptr bf 0)] hj))
  (hR:∀ fr hj (e:Int),jbp fr 1=some (vi e)->e≠0->Gb bs hi hj->Q .ret (.mk fr hj)),
  W F joz.loop (.mk [x0,vi 0,x2,x3,x4,x5,x6,x7,x8,x9,x10,x11,x12,x13,x14,x15,x16,x17,x18,.s (.func 71 [(bf,0),(bm,0)]),x20,x21,x22,x23,x24,.s (jag jax l),x26,vi l.length,vi i,x29,.s (.ptr bf 0)] hi) Q
 | 0,i,hd,hi,ok,lt,xf,k,x3,x4,x5,x6,x7,x8,x9,x10,x11,x12,x13,x14,x15,x16,x17,x18,x20,x21,x22,x23,x24,x26,hQ,hR=>by
  obtain rfl:i=l.length:=by omega
  rw[jae]
  unfold joz
  simp(disch:=first|omega|rfl) only[go_sem,f0q]
  exact hQ hi _ _ _ _ _ _ _ _ _ _ _ _ _ _ _ _ _ _ _ _ _ _ (.self ok) k (by simp)
 | d+1,i,hd,hi,ok,lt,xf,k,x3,x4,x5,x6,x7,x8,x9,x10,x11,x12,x13,x14,x15,x16,x17,x18,x20,x21,x22,x23,x24,x26,hQ,hR=>by
  have hil:i<l.length:=by omega
  have hlt:(i:Int)<l.length:=by omega
  obtain⟨b,hget⟩:∃ x,l[i]?=some x:=⟨_,f0b (by omega)⟩
  have hbb:=hb b (f0c hget)
  have hb1:=hbb.p
  have hb2:=hbb.i
  have hix:=jaf (enc:=jax) (size:=3) hget rfl
  have hs:(i:Int)+1=((i+1:Nat):Int):=by omega
  have ed:l.drop i=b::l.drop (i+1):=by
   rw[f0p hil,(f0e.1 hget).2]
  obtain⟨hA,eA,gA,nA,xA⟩:=nwG ok [.nilSlice,.nilSlice,.nilSlice] (jax b) 54
  have okA:=gA.ok
  have yf:=(gA.g _ lt.1).trans xf
  have kA:=k.gw gA
  have l1:=jad (enc:=jak) (l:=b.params)
  have l2:=jad (enc:=jdh) (l:=b.instrs)
  have hbs:=k.ls
  unfold jax at xA eA
  rw[jae]
  unfold joz j2i
  simp(disch:=first|omega|rfl) only[go_sem,jac,eq_true hlt,hix,jax,eA,xA,l1]
  have nA2:=gA.nx
  refine qab S (by omega) b.params.length 0 (by omega) okA ⟨by omega,lt.2⟩ yf kA (fun hB x16 x17 x18 x21 gB kB hp=>?_) (fun fr hj e h1 h2 g=>?hr1)
  case hr1 =>
   simp(disch:=first|omega|rfl) only[go_sem]
   exact hR fr hj e h1 h2 (gA.b.trans g)
  have G:Gb bs hi hB:=gA.b.trans gB
  have nB:=G.nx
  have nB2:=gB.nx
  have zA:=(gB.g hi.next (by omega) (by omega)).trans xA
  have okB:=gB.ok
  simp(disch:=first|omega|rfl) only[go_sem,zA,l2]
  refine qac S (by omega) (fun x hx=>by have:=(hbb.x x hx).1;omega) b.instrs.length 0 (by omega) okB ⟨by omega,lt.2⟩ ((G.g _ lt.1 lt.2).trans xf) kB (fun hC x3 x4 x5 x6 x7 x8 x9 x10 x11 x13 gC kC=>?_) (fun fr hj e h1 h2 g=>?hr2)
  case hr2 =>
   simp(disch:=first|omega|rfl) only[go_sem]
   exact hR fr hj e h1 h2 (G.trans g)
  have G2:=G.trans gC
  have nC:=G2.nx
  simp(disch:=first|omega|rfl) only[go_sem,jac,hs]
  refine qad hl hb d (i+1) (by omega) gC.ok ⟨by omega,lt.2⟩ ((G2.g _ lt.1 lt.2).trans xf) kC (fun hj x3 x4 x5 x6 x7 x8 x9 x10 x11 x12 x13 x14 x15 x16 x17 x18 x20 x21 x22 x23 x24 x26 g k2 hh=>hQ hj x3 x4 x5 x6 x7 x8 x9 x10 x11 x12 x13 x14 x15 x16 x17 x18 x20 x21 x22 x23 x24 x26 (G2.trans g) k2 (fun c hc=>?_)) (fun fr hj e h1 h2 g=>hR fr hj e h1 h2 (G2.trans g))
  rw[ed] at hc
  rcases f0h.1 hc with rfl | hc
  .simpa using hp
  .exact hh c hc
theorem qmt {n:Nat} (hn:n<=100000) {bs:Nat} {t:Bool} {l:List Bool} (hl:l.length=n) {Q:Ex->St->Prop} (xs:hi.get bs=some (.arr (l.map (fun b=>SV.bool b)) 4)) :
 ∀ (d i:Nat) (_:i+d=n) {x2 x3 x4 x5:AV} (hQ:∀ x3 x4 x5,Q (.exit 0) (.mk [.s (.slice bs 0 n n true 1),vb t,x2,x3,x4,x5,vi n,vi n] hi)) (hR:∀ fr (e:Int),jbp fr 2=some (vi e)->Q .ret (.mk fr hi)),
  W F jkf.loop (.mk [.s (.slice bs 0 n n true 1),vb t,x2,x3,x4,x5,vi n,vi i] hi) Q
 | 0,i,hd,x2,x3,x4,x5,hQ,hR=>by
  obtain rfl:i=n:=by omega
  rw[jae]
  unfold jkf
  simp(disch:=first|omega|rfl) only[go_sem,f0q]
  exact hQ _ _ _
 | d+1,i,hd,x2,x3,x4,x5,hQ,hR=>by
  have hlt:(i:Int)<(n:Int):=by omega
  obtain⟨c,hc⟩:∃ c,l[i]?=some c:=⟨_,f0b (by omega)⟩
  have rr:rdB (some (.arr (l.map (fun b=>SV.bool b)) 4)) i 1=some [.bool c]:=rd1 (by rw[f07,hc];rfl)
  have im:=ixm (bs:=bs) (n:=n) (v:=i) (by omega)
  have hs:(i:Int)+1=((i+1:Nat):Int):=by omega
  rw[jae]
  unfold jkf jvh
  by_cases hct:t=c
  .simp (disch:=first|omega|rfl) only[go_sem,eq_true hlt,im,xs,rr,jg0,qaa,eq_true hct]
   exact hR _ _ rfl
  .simp (disch:=first|omega|rfl) only[go_sem,jac,eq_true hlt,im,xs,rr,jg0,qaa,eq_false hct,hs]
   exact qmt hn hl xs d (i+1) (by omega) hQ hR
theorem qn2 {h:Hp} (ok:Ok h) {n bs:Nat} (hn:n<=100000) {t:Bool} {l:List Bool} (hl:l.length=n) (xs:h.get bs=some (.arr (l.map (fun b=>SV.bool b)) 4)):WC F 72 [.s (.slice bs 0 n n true 1),vb t] h (jxx h):=by
 refine jan (S.X _ (by simp) _ _) ((S.T _).trans qlg) rfl ?_
 unfold j9r
 simp(disch:=first|omega|rfl) only[go_sem]
 have key:WC F 79 [.s (.slice bs 0 n n true 1),vb t] h (fun v h'=>∃ e:Int,v=vi e/\Gw h h'):=by
  refine jan (S.X _ (by simp) _ _) ((S.T _).trans qh3) rfl ?_
  unfold j2u
  simp(disch:=first|omega|rfl) only[go_sem]
  refine qmt S hn hl xs n 0 (by omega) (fun x3 x4 x5=>?_) (fun fr e h1=>?_)
  .simp (disch:=first|omega|rfl) only[go_sem]
   exact⟨_,rfl,.self ok⟩
  .simp (disch:=first|omega|rfl) only[go_sem,h1]
   exact⟨_,rfl,.self ok⟩
 refine WC.imp key ?_
 rintro _ h' ⟨e,rfl,g⟩
 simp(disch:=first|omega|rfl) only[go_sem]
 exact⟨_,rfl,g⟩
theorem qn3 {h:Hp} (ok:Ok h) {f:Fc} (hv:f.values.length<=10000) (hl:f.blocks.length<=10000) (hb:∀ b∈f.blocks,BSz b):WC F 53 [FA f] h (jxw (∀ b∈f.blocks,∀ v∈b.params,v<f.values.length) h):=by
 refine jan (S.X _ (by simp) _ _) ((S.T _).trans qlc) rfl ?_
 unfold j9n
 obtain⟨hA,eA,gA,nA,xA⟩:=bxG ok [jag jak f.values,jag jax f.blocks] 29
 obtain⟨hB,eB,gB,nB,xB⟩:=bxG gA.ok (rep [.bool false] f.values.length) 4
 obtain⟨hC,eC,gC,nC,xC⟩:=nwG gB.ok [.nilSlice] [.slice (h.next+1) 0 f.values.length f.values.length true 1] 106
 have okA:=gA.ok
 have okB:=gB.ok
 have okC:=gC.ok
 have hp:=ok.pos
 have nb:hB.next=h.next+2:=by omega
 have l1:=jad (enc:=jak) (l:=f.values)
 have l2:=jad (enc:=jax) (l:=f.blocks)
 have ms:=jhf (e:=4) (size:=1) (bytes:=1) (z:=[.bool false]) (m:=f.values.length) okA (by omega) (by omega)
 rw[eB,nA] at ms
 rw[nb] at eC xC
 have er:∀ n,rep [.bool false] n=(List.replicate n false).map (fun b=>SV.bool b):=fun n=>by
  induction n with
  | zero=>rfl
  | succ n ih =>
   have:rep [.bool false] (n+1)=[.bool false]++rep [.bool false] n:=show jeq [SV.bool false] (rep [SV.bool false] n)=_ from jb2 ..
   rw[this,ih];rfl
 rw[nA] at xB
 have G:=gA.trans (gB.trans gC)
 have yA:=(gC.g h.next (by omega)).trans ((gB.g h.next (by omega)).trans xA)
 have yB:=(gC.g (h.next+1) (by omega)).trans xB
 have k:Mk hC (h.next+2) (h.next+1) f.values.length:=⟨xC,by omega,⟨List.replicate f.values.length false,by simp,by rw[yB,er]⟩,by omega,by omega,by omega⟩
 simp(disch:=first|omega|rfl) only[go_sem,eA,xA,nA,l1,ms,nb,eC,yA,l2]
 refine qad S hl hb f.blocks.length 0 (by omega) okC ⟨by omega,by omega⟩ yA k (fun hj x3 x4 x5 x6 x7 x8 x9 x10 x11 x12 x13 x14 x15 x16 x17 x18 x20 x21 x22 x23 x24 x26 g k2 hh=>?_) (fun fr hj e h1 h2 g=>?_)
 .have okj:=g.ok
  have xm:=k2.m
  obtain⟨l,h1,xs⟩:=k2.s
  simp(disch:=first|omega|rfl) only[go_sem,xm]
  refine WC.imp (qn2 S okj (by omega) (t:=false) h1 xs) ?_
  rintro _ hk ⟨t,rfl,gk⟩
  have Gk:Gw h hk:=(g.w G (by omega)).trans gk
  cases t with
  | true =>
   simp(disch:=first|omega|rfl) only[go_sem]
   exact .no (by decide) Gk
  | false =>
   simp(disch:=first|omega|rfl) only[go_sem]
   unfold j2j
   simp(disch:=first|omega|rfl) only[go_sem]
   exact .yes (by simpa using hh) Gk
 .simp (disch:=first|omega|rfl) only[go_sem,h1]
  exact .no h2 (g.w G (by omega))
end
section
variable {F:Fns} (S:SF F)
include S
theorem qae {l:List Nat} (hl:l.length<=10000) {x32 x35:AV} {Q:Ex->St->Prop} :
 ∀ (d i:Nat) (_:i+d=l.length) {hi:Hp} (_:Ok hi) {x24 x25 x27:AV}
  (hQ:∀ x24 x25 x27,(∀ c∈l.drop i,c<2)->Q (.exit 0) (.mk [x0,x1,x2,x3,x4,x5,x6,x7,x8,x9,x10,x11,x12,x13,x14,x15,x16,x17,x18,x19,x20,x21,x22,x23,x24,x25,.s (jag jak l),x27,vi l.length,vi l.length,x30,x31,x32,x33,x34,x35] hi))
  (hR:∀ fr hj (e:Int),jbp fr 2=some (vi e)->e≠0->Gw hi hj->Q .ret (.mk fr hj)),
  W F jo0.loop (.mk [x0,x1,x2,x3,x4,x5,x6,x7,x8,x9,x10,x11,x12,x13,x14,x15,x16,x17,x18,x19,x20,x21,x22,x23,x24,x25,.s (jag jak l),x27,vi l.length,vi i,x30,x31,x32,x33,x34,x35] hi) Q
 | 0,i,hd,hi,ok,x24,x25,x27,hQ,hR=>by
  obtain rfl:i=l.length:=by omega
  rw[jae]
  unfold jo0
  simp(disch:=first|omega|rfl) only[go_sem,f0q]
  exact hQ _ _ _ (by simp)
 | d+1,i,hd,hi,ok,x24,x25,x27,hQ,hR=>by
  have hil:i<l.length:=by omega
  have hlt:(i:Int)<l.length:=by omega
  obtain⟨v,hget⟩:∃ x,l[i]?=some x:=⟨_,f0b (by omega)⟩
  have hix:=jaf (enc:=jak) (size:=1) hget rfl
  have hs:(i:Int)+1=((i+1:Nat):Int):=by omega
  have ed:l.drop i=v::l.drop (i+1):=by
   rw[f0p hil,(f0e.1 hget).2]
  have c0:((v:Int)<0)=False:=eq_false (by omega)
  rw[jae]
  unfold jo0 j2m
  by_cases c2:(2:Int)<=(v:Int)
  .simp (disch:=first|omega|rfl) only[go_sem,jac,eq_true hlt,hix,jak,c0,eq_true c2]
   exact hR _ hi 17 rfl (by decide) (.self ok)
  simp(disch:=first|omega|rfl) only[go_sem,jac,eq_true hlt,hix,jak,c0,eq_false c2,hs]
  refine qae hl d (i+1) (by omega) ok (fun x24 x25 x27 hh=>hQ x24 x25 x27 (fun u hu=>?_)) hR
  rw[ed] at hu
  rcases f0h.1 hu with rfl | hu
  .omega
  .exact hh u hu
theorem qaf {f:Fc} (hc:qd3 f) {m:Nat×Nat} {l:List Ms.Ins} (hl:l.length<=10000) (hx:∀ x∈l,x.ops.length<=6/\x.spoils.length<=20) {Q:Ex->St->Prop} :
 ∀ (d i:Nat) (_:i+d=l.length) {hi:Hp} (_:Ok hi) (_:bf<hi.next/\bm<hi.next) (_:hi.get bf=some (.arr [jag jak f.values,jag jax f.blocks] 29)) (_:hi.get bm=some (.arr [si m.1,si m.2] 25)) {x11 x12 x13 x15:AV}
  (hQ:∀ hj x11 x12 x13 x15,Gw hi hj->(∀ x∈l.drop i,InT f x)->Q (.exit 4) (.mk [x0,x1,vi 0,x3,x4,x5,x6,x7,x8,x9,x10,x11,x12,x13,.s (jag jdh l),x15,vi l.length,vi l.length,x18,x19,x20,x21,x22,x23,x24,x25,x26,x27,x28,x29,x30,x31,.s (.ptr bf 0),x33,x34,.s (.ptr bm 0)] hj))
  (hR:∀ fr hj (e:Int),jbp fr 2=some (vi e)->e≠0->Gw hi hj->Q .ret (.mk fr hj)),
  W F jo1.loop (.mk [x0,x1,vi 0,x3,x4,x5,x6,x7,x8,x9,x10,x11,x12,x13,.s (jag jdh l),x15,vi l.length,vi i,x18,x19,x20,x21,x22,x23,x24,x25,x26,x27,x28,x29,x30,x31,.s (.ptr bf 0),x33,x34,.s (.ptr bm 0)] hi) Q
 | 0,i,hd,hi,ok,lt,xf,xm,x11,x12,x13,x15,hQ,hR=>by
  obtain rfl:i=l.length:=by omega
  rw[jae]
  unfold jo1
  simp(disch:=first|omega|rfl) only[go_sem,f0q]
  exact hQ hi _ _ _ _ (.self ok) (by simp)
 | d+1,i,hd,hi,ok,lt,xf,xm,x11,x12,x13,x15,hQ,hR=>by
  have hil:i<l.length:=by omega
  have hlt:(i:Int)<l.length:=by omega
  obtain⟨x,hget⟩:∃ x,l[i]?=some x:=⟨_,f0b (by omega)⟩
  have hxx:=hx x (f0c hget)
  have hix:=jaf (enc:=jdh) (size:=3) hget rfl
  have hs:(i:Int)+1=((i+1:Nat):Int):=by omega
  have ed:l.drop i=x::l.drop (i+1):=by
   rw[f0p hil,(f0e.1 hget).2]
  obtain⟨hA,eA,gA,nA,xA⟩:=nwG ok [.int .i64 0,.nilSlice,.nilSlice] (jdh x) 73
  have okA:=gA.ok
  have yf:=(gA.g _ lt.1).trans xf
  have ym:=(gA.g _ lt.2).trans xm
  unfold jdh at xA eA
  rw[jae]
  unfold jo1 j2n
  simp(disch:=first|omega|rfl) only[go_sem,jac,eq_true hlt,hix,jdh,eA,xA,yf,ym]
  refine WC.imp (qn0 S okA (f:=f) (m:=m) (x:=x) hc (by omega) (by omega)) ?_
  rintro _ hB ⟨e,rfl,he,gB⟩
  have G:=gA.trans gB
  have nB:=G.nx
  by_cases e0:e=0
  .have e0':(e≠0)=False:=eq_false (fun h=>h e0)
   simp(disch:=first|omega|rfl) only[go_sem,jac,e0',hs]
   refine qaf hc hl hx d (i+1) (by omega) gB.ok ⟨by omega,by omega⟩ ((G.g _ lt.1).trans xf) ((G.g _ lt.2).trans xm) (fun hj x11 x12 x13 x15 g hh=>hQ hj x11 x12 x13 x15 (G.trans g) (fun u hu=>?_)) (fun fr hj e h1 h2 g=>hR fr hj e h1 h2 (G.trans g))
   rw[ed] at hu
   rcases f0h.1 hu with rfl | hu
   .exact he e0
   .exact hh u hu
  .have e0':(e≠0)=True:=eq_true e0
   simp(disch:=first|omega|rfl) only[go_sem,e0']
   exact hR _ hB e rfl e0 G
theorem qag {f:Fc} {m:Nat×Nat} {l:List Ms.Edg} (hl:l.length<=10000) (hx:∀ e∈l,e.args.length<=10000) {Q:Ex->St->Prop} :
 ∀ (d i:Nat) (_:i+d=l.length) {hi:Hp} (_:Ok hi) (_:bf<hi.next/\bm<hi.next) (_:hi.get bf=some (.arr [jag jak f.values,jag jax f.blocks] 29)) (_:hi.get bm=some (.arr [si m.1,si m.2] 25)) {x3 x4 x5 x7:AV}
  (hQ:∀ hj x3 x4 x5 x7,Gw hi hj->(∀ x∈l.drop i,EdT f x)->Q (.exit 6) (.mk [x0,x1,vi 0,x3,x4,x5,.s (jag jdu l),x7,vi l.length,vi l.length,x10,x11,x12,x13,x14,x15,x16,x17,x18,x19,x20,x21,x22,x23,x24,x25,x26,x27,x28,x29,x30,x31,.s (.ptr bf 0),x33,x34,.s (.ptr bm 0)] hj))
  (hR:∀ fr hj (e:Int),jbp fr 2=some (vi e)->e≠0->Gw hi hj->Q .ret (.mk fr hj)),
  W F jo2.loop (.mk [x0,x1,vi 0,x3,x4,x5,.s (jag jdu l),x7,vi l.length,vi i,x10,x11,x12,x13,x14,x15,x16,x17,x18,x19,x20,x21,x22,x23,x24,x25,x26,x27,x28,x29,x30,x31,.s (.ptr bf 0),x33,x34,.s (.ptr bm 0)] hi) Q
 | 0,i,hd,hi,ok,lt,xf,xm,x3,x4,x5,x7,hQ,hR=>by
  obtain rfl:i=l.length:=by omega
  rw[jae]
  unfold jo2
  simp(disch:=first|omega|rfl) only[go_sem,f0q]
  exact hQ hi _ _ _ _ (.self ok) (by simp)
 | d+1,i,hd,hi,ok,lt,xf,xm,x3,x4,x5,x7,hQ,hR=>by
  have hil:i<l.length:=by omega
  have hlt:(i:Int)<l.length:=by omega
  obtain⟨x,hget⟩:∃ x,l[i]?=some x:=⟨_,f0b (by omega)⟩
  have hxx:=hx x (f0c hget)
  have hix:=jaf (enc:=jdu) (size:=2) hget rfl
  have hs:(i:Int)+1=((i+1:Nat):Int):=by omega
  have ed:l.drop i=x::l.drop (i+1):=by
   rw[f0p hil,(f0e.1 hget).2]
  obtain⟨hA,eA,gA,nA,xA⟩:=nwG ok [.int .i64 0,.nilSlice] (jdu x) 76
  have okA:=gA.ok
  have yf:=(gA.g _ lt.1).trans xf
  have ym:=(gA.g _ lt.2).trans xm
  unfold jdu at xA eA
  rw[jae]
  unfold jo2 j2o
  simp(disch:=first|omega|rfl) only[go_sem,jac,eq_true hlt,hix,jdu,eA,xA,yf]
  refine WC.imp (qn1 S okA (f:=f) (e:=x) hxx) ?_
  rintro _ hB ⟨e,rfl,he,gB⟩
  have G:=gA.trans gB
  have nB:=G.nx
  by_cases e0:e=0
  .have e0':(e≠0)=False:=eq_false (fun h=>h e0)
   simp(disch:=first|omega|rfl) only[go_sem,jac,e0',hs]
   refine qag (m:=m) hl hx d (i+1) (by omega) gB.ok ⟨by omega,by omega⟩ ((G.g _ lt.1).trans xf) ((G.g _ lt.2).trans xm) (fun hj x3 x4 x5 x7 g hh=>hQ hj x3 x4 x5 x7 (G.trans g) (fun u hu=>?_)) (fun fr hj e h1 h2 g=>hR fr hj e h1 h2 (G.trans g))
   rw[ed] at hu
   rcases f0h.1 hu with rfl | hu
   .exact he e0
   .exact hh u hu
  .have e0':(e≠0)=True:=eq_true e0
   simp(disch:=first|omega|rfl) only[go_sem,e0']
   exact hR _ hB e rfl e0 G
structure BlT (f:Fc) (b:Blk):Prop where
 x:∀ x∈b.instrs,InT f x
 e:∀ e∈b.edges,EdT f e
theorem qah {f:Fc} (hc:qd3 f) {m:Nat×Nat} {l:List Blk} (hl:l.length<=10000) (hb:∀ b∈l,BSz b) (ha:∀ b∈l,∀ e∈b.edges,e.args.length<=10000) {Q:Ex->St->Prop} :
 ∀ (d i:Nat) (_:i+d=l.length) {hi:Hp} (_:Ok hi) (_:bf<hi.next/\bm<hi.next) (_:hi.get bf=some (.arr [jag jak f.values,jag jax f.blocks] 29)) (_:hi.get bm=some (.arr [si m.1,si m.2] 25)) {x3 x4 x5 x6 x7 x8 x9 x10 x11 x12 x13 x14 x15 x16 x17 x18 x20:AV}
  (hQ:∀ hj x3 x4 x5 x6 x7 x8 x9 x10 x11 x12 x13 x14 x15 x16 x17 x18 x20,Gw hi hj->(∀ b∈l.drop i,BlT f b)->Q (.exit 2) (.mk [x0,x1,vi 0,x3,x4,x5,x6,x7,x8,x9,x10,x11,x12,x13,x14,x15,x16,x17,x18,.s (jag jax l),x20,vi l.length,vi l.length,x23,x24,x25,x26,x27,x28,x29,x30,x31,.s (.ptr bf 0),x33,x34,.s (.ptr bm 0)] hj))
  (hR:∀ fr hj (e:Int),jbp fr 2=some (vi e)->e≠0->Gw hi hj->Q .ret (.mk fr hj)),
  W F jl6.loop (.mk [x0,x1,vi 0,x3,x4,x5,x6,x7,x8,x9,x10,x11,x12,x13,x14,x15,x16,x17,x18,.s (jag jax l),x20,vi l.length,vi i,x23,x24,x25,x26,x27,x28,x29,x30,x31,.s (.ptr bf 0),x33,x34,.s (.ptr bm 0)] hi) Q
 | 0,i,hd,hi,ok,lt,xf,xm,x3,x4,x5,x6,x7,x8,x9,x10,x11,x12,x13,x14,x15,x16,x17,x18,x20,hQ,hR=>by
  obtain rfl:i=l.length:=by omega
  rw[jae]
  unfold jl6
  simp(disch:=first|omega|rfl) only[go_sem,f0q]
  exact hQ hi _ _ _ _ _ _ _ _ _ _ _ _ _ _ _ _ _ (.self ok) (by simp)
 | d+1,i,hd,hi,ok,lt,xf,xm,x3,x4,x5,x6,x7,x8,x9,x10,x11,x12,x13,x14,x15,x16,x17,x18,x20,hQ,hR=>by
  have hil:i<l.length:=by omega
  have hlt:(i:Int)<l.length:=by omega
  obtain⟨b,hget⟩:∃ x,l[i]?=some x:=⟨_,f0b (by omega)⟩
  have hbm:=f0c hget
  have hbb:=hb b hbm
  have hba:=ha b hbm
  have hb1:=hbb.i
  have hb2:=hbb.e
  have hix:=jaf (enc:=jax) (size:=3) hget rfl
  have hs:(i:Int)+1=((i+1:Nat):Int):=by omega
  have ed:l.drop i=b::l.drop (i+1):=by
   rw[f0p hil,(f0e.1 hget).2]
  obtain⟨hA,eA,gA,nA,xA⟩:=nwG ok [.nilSlice,.nilSlice,.nilSlice] (jax b) 54
  have okA:=gA.ok
  have yf:=(gA.g _ lt.1).trans xf
  have ym:=(gA.g _ lt.2).trans xm
  have l1:=jad (enc:=jdh) (l:=b.instrs)
  have l2:=jad (enc:=jdu) (l:=b.edges)
  unfold jax at xA eA
  rw[jae]
  unfold jl6 j2p
  simp(disch:=first|omega|rfl) only[go_sem,jac,eq_true hlt,hix,jax,eA,xA,l1]
  have nA2:=gA.nx
  refine qaf S hc (by omega) hbb.x b.instrs.length 0 (by omega) okA ⟨by omega,by omega⟩ yf ym (fun hB x11 x12 x13 x15 gB hx=>?_) (fun fr hj e h1 h2 g=>?hr1)
  case hr1 =>
   simp(disch:=first|omega|rfl) only[go_sem]
   exact hR fr hj e h1 h2 (gA.trans g)
  have G:=gA.trans gB
  have nB:=G.nx
  have zA:=(gB.g hi.next (by omega)).trans xA
  have okB:=gB.ok
  have tail:∀ x10,W F jtd (.mk [x0,x1,vi 0,x3,x4,x5,x6,x7,x8,x9,x10,x11,x12,x13,.s (jag jdh b.instrs),x15,vi b.instrs.length,vi b.instrs.length,.s (.ptr hi.next 0),.s (jag jax l),vb true,vi l.length,vi i,x23,x24,x25,x26,x27,x28,x29,x30,x31,.s (.ptr bf 0),x33,x34,.s (.ptr bm 0)] hB) (j4y 3 (jol F (.region [(.mk .none (.p (.bin .add (.g 22) (.c (.s (.int .i64 1))))) .none),(.mk (.some 22) (.p (.mv (.l 0))) .none)]) (jqu F jl6 Q))):=fun x10=>by
   unfold jtd
   simp(disch:=first|omega|rfl) only[go_sem,zA,l2]
   refine qag S (by omega) hba b.edges.length 0 (by omega) okB ⟨by omega,by omega⟩ ((G.g _ lt.1).trans xf) ((G.g _ lt.2).trans xm) (fun hC x3 x4 x5 x7 gC he=>?_) (fun fr hj e h1 h2 g=>?_)
   .have G2:=G.trans gC
    have nC:=G2.nx
    simp(disch:=first|omega|rfl) only[go_sem,jac,hs]
    refine qah hc hl hb ha d (i+1) (by omega) gC.ok ⟨by omega,by omega⟩ ((G2.g _ lt.1).trans xf) ((G2.g _ lt.2).trans xm) (fun hj x3 x4 x5 x6 x7 x8 x9 x10 x11 x12 x13 x14 x15 x16 x17 x18 x20 g hh=>hQ hj x3 x4 x5 x6 x7 x8 x9 x10 x11 x12 x13 x14 x15 x16 x17 x18 x20 (G2.trans g) (fun c hc'=>?_)) (fun fr hj e h1 h2 g=>hR fr hj e h1 h2 (G2.trans g))
    rw[ed] at hc'
    rcases f0h.1 hc' with rfl | hc'
    .exact ⟨by simpa using hx,by simpa using he⟩
    .exact hh c hc'
   .simp (disch:=first|omega|rfl) only[go_sem]
    exact hR fr hj e h1 h2 (G.trans g)
  by_cases k1:(1:Int)<(b.edges.length:Int)
  .by_cases k2:(b.instrs.length:Int)=0
   .simp (disch:=first|omega|rfl) only[go_sem,zA,l1,l2,eq_true k1,eq_true k2]
    exact hR _ hB 4 rfl (by decide) G
   .simp (disch:=first|omega|rfl) only[go_sem,zA,l1,l2,eq_true k1,eq_false k2]
    exact tail _
  .simp (disch:=first|omega|rfl) only[go_sem,zA,l2,eq_false k1]
   exact tail _
structure ShT (f:Fc):Prop where
 n1:1<=f.blocks.length
 n2:f.blocks.length<=16
 nv:f.values.length<=160
 bs:∀ b∈f.blocks,BSz b
 bl:∀ b∈f.blocks,BlT f b
 pa:∀ b∈f.blocks,∀ v∈b.params,v<f.values.length
structure Shrt (f:Fc):Prop where
 b:f.blocks.length<=10000
 i:∀ b∈f.blocks,b.instrs.length<=10000
 a:∀ b∈f.blocks,∀ e∈b.edges,e.args.length<=10000
theorem qn4 {h:Hp} (ok:Ok h) {f:Fc} (hf:Shrt f) {m:Nat×Nat}:WC F 34 [FA f,MA m] h (jxw (ShT f) h):=by
 refine jan (S.X _ (by simp) _ _) ((S.T _).trans qle) rfl ?_
 unfold j9p
 obtain⟨hA,eA,gA,nA,xA⟩:=bxG ok [jag jak f.values,jag jax f.blocks] 29
 obtain⟨hB,eB,gB,nB,xB⟩:=bxG gA.ok [si m.1,si m.2] 25
 have okA:=gA.ok
 have okB:=gB.ok
 have G:=gA.trans gB
 have yA:=(gB.g h.next (by omega)).trans xA
 rw[nA] at xB
 have l1:=jad (enc:=jak) (l:=f.values)
 have l2:=jad (enc:=jax) (l:=f.blocks)
 have back:∀ {hh:Hp} (g:Gw hB hh),hh.get h.next=some (.arr [jag jak f.values,jag jax f.blocks] 29)/\hh.get (h.next+1)=some (.arr [si m.1,si m.2] 25)/\h.next+2<=hh.next:=fun {hh} g=>⟨(g.g _ (by omega)).trans yA,(g.g _ (by omega)).trans xB,by have:=g.nx;omega⟩
 simp(disch:=first|omega|rfl) only[go_sem,eA,nA,eB,xB]
 refine WC.imp (jcm S okB (m:=m)) ?_
 rintro _ hC ⟨e,rfl,hm,gC⟩
 have okC:=gC.ok
 obtain⟨z1,z2,z3⟩:=back gC
 by_cases e0:e≠0
 .have e0':(e≠0)=True:=eq_true e0
  simp(disch:=first|omega|rfl) only[go_sem,e0']
  exact .no e0 (G.trans gC)
 have e0':(e≠0)=False:=eq_false e0
 simp(disch:=first|omega|rfl) only[go_sem,e0']
 unfold j2s
 simp(disch:=first|omega|rfl) only[go_sem,z1]
 refine WC.imp (jsz S okC (f:=f) hf.b hf.i) ?_
 rintro _ hD ⟨e,rfl,hz,gD⟩
 have okD:=gD.ok
 have GD:=gC.trans gD
 obtain⟨y1,y2,y3⟩:=back GD
 by_cases e1:e≠0
 .have e1':(e≠0)=True:=eq_true e1
  simp(disch:=first|omega|rfl) only[go_sem,e1']
  exact .no e1 (G.trans GD)
 have e1':(e≠0)=False:=eq_false e1
 obtain⟨n1,n2,nv,hbs⟩:=hz (Classical.not_not.1 e1)
 simp(disch:=first|omega|rfl) only[go_sem,e1']
 unfold j2r
 simp(disch:=first|omega|rfl) only[go_sem,y1,l1]
 refine qae S (by omega) f.values.length 0 (by omega) okD (fun x24 x25 x27 hc=>?_) (fun fr hj e h1 h2 g=>?hr1)
 case hr1 =>
  simp(disch:=first|omega|rfl) only[go_sem,h1]
  exact .no h2 (G.trans (GD.trans g))
 rw[f1e] at hc
 obtain⟨⟨bp,bi,be⟩,hb0⟩:∃ b,f.blocks[0]?=some b:=⟨_,f0b (by omega)⟩
 have i0:jj3 3 (.s (jag jax f.blocks)) (vi 0)=some (.s (.cp (jax ⟨bp,bi,be⟩))):=jaf (enc:=jax) (size:=3) (i:=0) hb0 rfl
 have l3:=jad (enc:=jak) (l:=bp)
 by_cases k0:(0:Int)<(bp.length:Int)
 .simp (disch:=first|omega|rfl) only[go_sem,y1,i0,jax,l3,eq_true k0]
  exact .no (by decide) (G.trans GD)
 simp(disch:=first|omega|rfl) only[go_sem,y1,i0,jax,l3,eq_false k0]
 unfold j2q
 simp(disch:=first|omega|rfl) only[go_sem,y1,l2]
 refine qah S hc hf.b hbs hf.a f.blocks.length 0 (by omega) okD ⟨by omega,by omega⟩ y1 y2 (fun hE x3 x4 x5 x6 x7 x8 x9 x10 x11 x12 x13 x14 x15 x16 x17 x18 x20 gE hbl=>?_) (fun fr hj e h1 h2 g=>?hr2)
 case hr2 =>
  simp(disch:=first|omega|rfl) only[go_sem,h1]
  exact .no h2 (G.trans (GD.trans g))
 have okE:=gE.ok
 have GE:=GD.trans gE
 obtain⟨w1,w2,w3⟩:=back GE
 simp(disch:=first|omega|rfl) only[go_sem,w1]
 refine WC.imp (qn3 S okE (f:=f) (by omega) (by omega) hbs) ?_
 rintro _ hF ⟨e,rfl,ho,gF⟩
 simp(disch:=first|omega|rfl) only[go_sem]
 exact⟨e,rfl,fun h=>⟨n1,n2,nv,hbs,by simpa using hbl,ho h⟩,G.trans (GE.trans gF)⟩
end
end Go.Proofs.Ytkplfnkgodnmaaa.Ev
