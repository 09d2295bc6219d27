/- Code of functions as the interpreter has it prepared, cut at loops. -/
import Derived.Test.YtkeenpohacdanaaUi
import Derived.Test.YtkeenpohacdanaaOr
import Derived.Test.YtkeenpohacdanaaVd
namespace Go.Proofs.Ytkeenpohacdanaa.Ev
open Go Go.RowKit
set_option linter.all false
set_option maxRecDepth 100000
def j0u:IC:=.seq (.block 3 (qr [qP (.ixs 3 (.g 11) (.g 14)),qK 3,qB 10 (.new 44 [.int .i64 0,.nilSlice,.nilSlice]),qA (.store 3 qa qb)] (qr [qF 1 10,qL,qA (.app 46 5 40 (.c (.s .nilSlice)) qa),qF 1 10,qA (.store 1 qa qb)] (qr [qF 2 10,qL,qA (.app 116 2 16 (.c (.s .nilSlice)) qa),qF 2 10,qA (.store 1 qa qb)] (.region [qM 9,qA (.load 3 true (.g 10)),qA (.bslice 44 3 [.int .i64 0,.nilSlice,.nilSlice] 1 [(0,(3,qa))]),qA (.app 44 3 56 qc qa),qT 9]))))) (.region [qI 14,qT 14])
def jmq:IC:=qr [qQ 12 (.bin .lt (.g 14) (.g 13))] (.seq (qX 12 2) j0u)
def j0v:IC:=.seq (.block 5 (qr [qP (.ixs 2 (.g 5) (.g 8)),qK 2,qB 4 (.new 73 [.int .i64 0,.nilSlice]),qA (.store 2 qa qb)] (qr [qF 1 4,qL,qA (.app 3 1 8 (.c (.s .nilSlice)) qa),qF 1 4,qA (.store 1 qa qb)] (.region [qM 3,qA (.load 2 true (.g 4)),qA (.bslice 73 2 [.int .i64 0,.nilSlice] 1 [(0,(2,qa))]),qA (.app 73 2 32 qc qa),qT 3])))) (.region [qI 8,qT 8])
def jmr:IC:=qr [qQ 6 (.bin .lt (.g 8) (.g 7))] (.seq (qX 6 4) j0v)
def j0w:IC:=.seq (.block 1 (qr [qP (.ixs 3 (.g 16) (.g 19)),qK 3,qB 15 (.new 36 [.nilSlice,.nilSlice,.nilSlice]),qA (.store 3 qa qb)] (qr [qQ 9 (.mv (.c (.s .nilSlice)))] (.seq (qr [qF 1 15,qB 11 (.load 1 false qa),qQ 13 (.len qa),qQ 14 (.mv (qC 0))] (.block 2 (.loop jmq))) (qr [qQ 3 (.mv (.c (.s .nilSlice)))] (.seq (qr [qF 2 15,qB 5 (.load 1 false qa),qQ 7 (.len qa),qQ 8 (.mv (qC 0))] (.block 4 (.loop jmr))) (.region [qM 2,qF 0 15,qL,qA (.app 3 1 8 (.c (.s .nilSlice)) qa),qM 9,qM 3,qP (.build [.nilSlice,.nilSlice,.nilSlice] [(0,(1,qc)),(1,(1,qb)),(2,(1,qa))]),qA (.bslice 36 3 [.nilSlice,.nilSlice,.nilSlice] 1 [(0,(3,qa))]),qA (.app 36 3 72 (.l 7) qa),qT 2]))))))) (.region [qI 19,qT 19])
def jms:IC:=qr [qQ 17 (.bin .lt (.g 19) (.g 18))] (.seq (qX 17 0) j0w)
def j7f:IC:=qr [qB 20 (.box 26 (.g 0)),qB 1 (.new 26 [.nilSlice,.nilSlice])] (qr [qQ 2 (.mv (.c (.s .nilSlice)))] (.seq (qr [qF 1 20,qB 16 (.load 1 false qa),qQ 18 (.len qa),qQ 19 (.mv (qC 0))] (.block 0 (.loop jms))) (qr [qF 0 20,qL,qA (.app 3 1 8 (.c (.s .nilSlice)) qa),qM 2,qP (.build [.nilSlice,.nilSlice] [(0,(1,qb)),(1,(1,qa))]),qA (.store 2 (.g 1) qa)] .ret)))
theorem ql6:T 11=some (.mk j7f 1 20 [(.cell 1 2 true)]):=by kernel_rfl
def jv6:IC:=.seq (.block 1 (qr [qP (.ixs 3 (.g 12) (.g 15)),qK 3,qB 10 (.new 36 [.nilSlice,.nilSlice,.nilSlice]),qA (.store 3 qa qb)] (.region [qM 11,qF 1 10,qL,qP (.len qa),qP (.bin .add qd qa),qT 11]))) (.region [qI 15,qT 15])
def jj5:IC:=qr [qQ 13 (.bin .lt (.g 15) (.g 14))] (.seq (qX 13 0) jv6)
def jv7:IC:=.region [qM 6,qF 1 16,qL,qM 5,qP (.ixs 3 qb qa),qG 1,qL,qP (.len qa),qP (.bin .sub (.l 7) qa),qT 6]
def jv8:IC:=.seq (.block 3 (qr [qM 9,qT 5] (.seq (qr [qM 6,qF 1 16,qL,qM 5,qP (.ixs 3 qb qa),qG 1,qL,qP (.len qa),qQ 4 (.bin .lt (.l 7) qa)] (.cond (.g 4) (qr [qM 5,qM 6,qQ 3 (.mv qb),qQ 2 (.mv qb)] .ret) .skip)) jv7))) (.region [qI 9,qT 9])
def jj6:IC:=qr [qQ 7 (.bin .lt (.g 9) (.g 8))] (.seq (qX 7 2) jv8)
def j0x:IC:=qr [qB 16 (.box 26 (.g 0)),qQ 3 (.mv (qC 0)),qQ 2 (.mv (qC 0))] (qr [qQ 11 (.mv (qC 0))] (.seq (qr [qF 1 16,qB 12 (.load 1 false qa),qQ 14 (.len qa),qQ 15 (.mv (qC 0))] (.block 0 (.loop jj5))) (qr [qM 1,qM 11,qP (.mm true qa (qC 1)),qA (.call 19 [qc,qa]),qT 6] (.seq (qr [qF 1 16,qL,qQ 8 (.len qa),qQ 9 (.mv (qC 0))] (.block 2 (.loop jj6))) (qr [qQ 3 (.mv (qC 0)),qQ 2 (.mv (qC 0))] .ret)))))
theorem qia:T 12=some (.mk j0x 2 15 [(.tmp 3),(.tmp 2)]):=by kernel_rfl
open Go Go.RowKit Go.Proofs.Ytkeenpohacdanaa.Ms
variable {x0 x1 x2 x3 x4 x5 x6 x7 x8 x9 x10 x11 x12 x13 x14 x15 x16 x17 x18 x19 x20:AV} {Q:Ex->St->Prop} {f:Fc} {h:Hp}
attribute [local go_sem] Int.reduceToNat reduceCtorEq Nat.reduceAdd Nat.reduceMul Nat.reduceEqDiff Int.reduceEq Int.reduceLT Int.reduceLE Int.reduceNeg Int.reduceAdd Int.reduceSub Int.reduceMul Int.reduceNe
attribute [local go_sem ↓] reduceIte
set_option maxHeartbeats 2000000
theorem qiq (ok:Ok h) {b:Nat} (hb:1<=b) (x:Option AB):∃ hA,h.put b x=hA/\Ok hA/\hA.next=h.next/\hA.get b=x/\∀ n,n≠b->hA.get n=h.get n :=
 ⟨_,rfl,jao ok,Hp.next_put ..,by rw[jai ok hb,if_pos rfl],fun n hn=>by rw[jai ok hb,if_neg hn]⟩
section
variable {F:Fns}
theorem qbz {l:List Ms.Ins} (hl:l.length<=10000) (hp:∀ x∈l,x.ops.length<=10000/\x.spoils.length<=10000) {lo:Nat} (hlo:1<=lo) :
 ∀ (rest done:List Ms.Ins) (_:done++rest=l) {hi:Hp} (_:Ok hi) (_:lo<=hi.next) {a:SV} (_:Gs lo hi 44 3 (OX hi) a done) {x10 x12:AV}
  (hQ:∀ hj a x10 x12,Ok hj->hi.next<=hj.next->(∀ n,n<lo->hj.get n=hi.get n)->Gs lo hj 44 3 (OX hj) a l->Q (.exit 2) (.mk [x0,x1,x2,x3,x4,x5,x6,x7,x8,.s a,x10,.s (jaf jdz l),x12,vi l.length,vi l.length,x15,x16,x17,x18,x19,x20] hj)),
  W F jmq.loop (.mk [x0,x1,x2,x3,x4,x5,x6,x7,x8,.s a,x10,.s (jaf jdz l),x12,vi l.length,vi done.length,x15,x16,x17,x18,x19,x20] hi) Q
 | [],done,hdn,hi,ok,hn,a,k,x10,x12,hQ=>by
  rw[f07] at hdn
  subst hdn
  rw[jak]
  unfold jmq
  simp(disch:=first|omega|rfl) only[go_sem,f0v]
  exact hQ hi a _ _ ok (f0e _) (fun _ _=>rfl) k
 | x::rest,done,hdn,hi,ok,hn,a,k,x10,x12,hQ=>by
  have hlt1:done.length<l.length:=by rw[←hdn];simp
  have hlt:(done.length:Int)<l.length:=by omega
  have hget:l[done.length]?=some x:=by rw[←hdn];simp
  obtain⟨p1,p2⟩:=hp x (f0b hget)
  have hix:=jag (enc:=jdz) (size:=3) hget rfl
  have hdn':(done++[x])++rest=l:=by rw[←hdn];simp
  have hs:(done.length:Int)+1=(((done++[x]).length:Nat):Int):=by simp
  have hpos:=ok.pos
  obtain⟨hA,eA,okA,nA,xA,gA⟩:=jcm ok [.int .i64 0,.nilSlice,.nilSlice] (jdz x) 44
  obtain⟨so,hB,eB,okB,nB,gB,n1,s1,d1,l1⟩:=jjv (ty:=46) (sz:=5) (E:=EO) (bytes:=40) (l:=x.ops) (enc:=jbb) okA (fun _=>rfl) (fun _=>⟨rfl,rfl⟩) (by omega) (by omega)
  have yB:=(gB _ (by omega)).trans xA
  obtain⟨hC,eC,okC,nC,xC,gC⟩:=qiq okB hpos (some (.arr [si x.op,so,jaf jdu x.spoils] 44))
  obtain⟨ss,hD,eD,okD,nD,gD,n2,s2,d2,l2⟩:=jjv (ty:=116) (sz:=2) (E:=ER) (bytes:=16) (l:=x.spoils) (enc:=jdu) okC (fun _=>rfl) (fun _=>⟨rfl,rfl⟩) (by omega) (by omega)
  have yD:=(gD _ (by omega)).trans xC
  obtain⟨hE,eE,okE,nE,xE,gE⟩:=qiq okD hpos (some (.arr [si x.op,so,ss] 44))
  have g1:∀ n∈n1,hE.get n=hB.get n:=fun n hm=>by
   have:=l1 n hm
   rw[gE n (by omega),gD n (by omega),gC n (by omega)]
  have g2:∀ n∈n2,hE.get n=hD.get n:=fun n hm=>by
   have:=l2 n hm
   rw[gE n (by omega)]
  have g0:∀ n,n<hi.next->hE.get n=hi.get n:=fun n hm=>by
   rw[gE n (by omega),gD n (by omega),gC n (by omega),gB n (by omega),gA n hm]
  obtain⟨a',hF,eF,okF,nF,gF,kF⟩:=k.app1 (bytes:=56) (h1:=hE) (row:=[si x.op,so,ss]) (a:=x) (ms:=n1++n2) (E1:=OX hE) (E2:=fun h=>OX h) (fun row a m hm e=>e.keep (fun n hn=>g0 n (hm n hn))) okE (by omega) g0 hn hlo
   ⟨so,ss,n1,n2,_,rfl,s1.keep g1,s2.keep g2,rfl⟩ (f0j.2 ⟨d1,d2,fun u hu v hv e=>by have:=l1 u hu;have:=l2 v hv;omega⟩)
   (fun n hm=>by
    rcases f0d.1 hm with hm | hm
    .have:=l1 n hm;omega
    .have:=l2 n hm;omega) rfl (by omega) (by omega) (fun h2 _ row a m e hm=>e.keep hm)
  unfold jdz at xA eA yB
  rw[jak]
  unfold jmq j0u
  simp(disch:=first|omega|rfl) only[go_sem,jad,eq_true hlt,hix,jdz,eA,xA,eB,yB,eC,xC,eD,yD,eE,xE,eF,hs]
  exact qbz hl hp hlo rest (done++[x]) hdn' okF (by omega) kF (fun hj a x10 x12 ok' n' g' k'=>hQ hj a x10 x12 ok' (by omega) (fun n hm=>(g' n hm).trans (gF n hm)) k')
theorem qb0 {l:List Ms.Edg} (hl:l.length<=10000) (hp:∀ x∈l,x.args.length<=10000) {lo:Nat} (hlo:1<=lo) :
 ∀ (rest done:List Ms.Edg) (_:done++rest=l) {hi:Hp} (_:Ok hi) (_:lo<=hi.next) {a:SV} (_:Gs lo hi 73 2 (OE hi) a done) {x4 x6:AV}
  (hQ:∀ hj a x4 x6,Ok hj->hi.next<=hj.next->(∀ n,n<lo->hj.get n=hi.get n)->Gs lo hj 73 2 (OE hj) a l->Q (.exit 4) (.mk [x0,x1,x2,.s a,x4,.s (jaf jfj l),x6,vi l.length,vi l.length,x9,x10,x11,x12,x13,x14,x15,x16,x17,x18,x19,x20] hj)),
  W F jmr.loop (.mk [x0,x1,x2,.s a,x4,.s (jaf jfj l),x6,vi l.length,vi done.length,x9,x10,x11,x12,x13,x14,x15,x16,x17,x18,x19,x20] hi) Q
 | [],done,hdn,hi,ok,hn,a,k,x4,x6,hQ=>by
  rw[f07] at hdn
  subst hdn
  rw[jak]
  unfold jmr
  simp(disch:=first|omega|rfl) only[go_sem,f0v]
  exact hQ hi a _ _ ok (f0e _) (fun _ _=>rfl) k
 | x::rest,done,hdn,hi,ok,hn,a,k,x4,x6,hQ=>by
  have hlt1:done.length<l.length:=by rw[←hdn];simp
  have hlt:(done.length:Int)<l.length:=by omega
  have hget:l[done.length]?=some x:=by rw[←hdn];simp
  have p1:=hp x (f0b hget)
  have hix:=jag (enc:=jfj) (size:=2) hget rfl
  have hdn':(done++[x])++rest=l:=by rw[←hdn];simp
  have hs:(done.length:Int)+1=(((done++[x]).length:Nat):Int):=by simp
  have hpos:=ok.pos
  obtain⟨hA,eA,okA,nA,xA,gA⟩:=jcm ok [.int .i64 0,.nilSlice] (jfj x) 73
  obtain⟨so,hB,eB,okB,nB,gB,n1,s1,d1,l1⟩:=jjv (ty:=3) (sz:=1) (E:=EI) (bytes:=8) (l:=x.args) (enc:=jay) okA (fun _=>rfl) (fun _=>⟨rfl,rfl⟩) (by omega) (by omega)
  have yB:=(gB _ (by omega)).trans xA
  obtain⟨hE,eE,okE,nE,xE,gE⟩:=qiq okB hpos (some (.arr [si x.block,so] 73))
  have g1:∀ n∈n1,hE.get n=hB.get n:=fun n hm=>by
   have:=l1 n hm
   rw[gE n (by omega)]
  have g0:∀ n,n<hi.next->hE.get n=hi.get n:=fun n hm=>by
   rw[gE n (by omega),gB n (by omega),gA n hm]
  obtain⟨a',hF,eF,okF,nF,gF,kF⟩:=k.app1 (bytes:=32) (h1:=hE) (row:=[si x.block,so]) (a:=x) (ms:=n1) (E1:=OE hE) (E2:=fun h=>OE h) (fun row a m hm e=>e.keep (fun n hn=>g0 n (hm n hn))) okE (by omega) g0 hn hlo
   ⟨so,rfl,s1.keep g1⟩ d1 (fun n hm=>by have:=l1 n hm;omega) rfl (by omega) (by omega) (fun h2 _ row a m e hm=>e.keep hm)
  unfold jfj at xA eA yB
  rw[jak]
  unfold jmr j0v
  simp(disch:=first|omega|rfl) only[go_sem,jad,eq_true hlt,hix,jfj,eA,xA,eB,yB,eE,xE,eF,hs]
  exact qb0 hl hp hlo rest (done++[x]) hdn' okF (by omega) kF (fun hj a x4 x6 ok' n' g' k'=>hQ hj a x4 x6 ok' (by omega) (fun n hm=>(g' n hm).trans (gF n hm)) k')
structure Szs (f:Fc):Prop where
 v:f.values.length<=100000
 b:f.blocks.length<=10000
 bs:∀ b∈f.blocks,b.params.length<=10000/\b.instrs.length<=10000/\b.edges.length<=10000/\(∀ x∈b.instrs,x.ops.length<=10000/\x.spoils.length<=10000)/\∀ x∈b.edges,x.args.length<=10000
theorem qb1 (z:Szs f) {lo:Nat} (hlo:1<=lo) :
 ∀ (rest done:List Ms.Blk) (_:done++rest=f.blocks) {hi:Hp} (_:Ok hi) (_:lo<=hi.next) {a:SV} (_:Gs lo hi 36 3 (OB hi) a done) {x3 x4 x5 x6 x7 x8 x9 x10 x11 x12 x13 x14 x15 x17:AV}
  (hQ:∀ hj a x3 x4 x5 x6 x7 x8 x9 x10 x11 x12 x13 x14 x15 x17,Ok hj->hi.next<=hj.next->(∀ n,n<lo->hj.get n=hi.get n)->Gs lo hj 36 3 (OB hj) a f.blocks->Q (.exit 0) (.mk [x0,x1,.s a,x3,x4,x5,x6,x7,x8,x9,x10,x11,x12,x13,x14,x15,.s (jaf ja1 f.blocks),x17,vi f.blocks.length,vi f.blocks.length,x20] hj)),
  W F jms.loop (.mk [x0,x1,.s a,x3,x4,x5,x6,x7,x8,x9,x10,x11,x12,x13,x14,x15,.s (jaf ja1 f.blocks),x17,vi f.blocks.length,vi done.length,x20] hi) Q
 | [],done,hdn,hi,ok,hn,a,k,x3,x4,x5,x6,x7,x8,x9,x10,x11,x12,x13,x14,x15,x17,hQ=>by
  rw[f07] at hdn
  rw[jak,hdn]
  unfold jms
  simp(disch:=first|omega|rfl) only[go_sem,f0v]
  exact hQ hi a _ _ _ _ _ _ _ _ _ _ _ _ _ _ ok (f0e _) (fun _ _=>rfl) (hdn▸k)
 | b::rest,done,hdn,hi,ok,hn,a,k,x3,x4,x5,x6,x7,x8,x9,x10,x11,x12,x13,x14,x15,x17,hQ=>by
  have hlb:=z.b
  have hlt1:done.length<f.blocks.length:=by rw[←hdn];simp
  have hlt:(done.length:Int)<f.blocks.length:=by omega
  have hget:f.blocks[done.length]?=some b:=by rw[←hdn];simp
  obtain⟨p1,p2,p3,p4,p5⟩:=z.bs b (f0b hget)
  have hix:=jag (enc:=ja1) (size:=3) hget rfl
  have hdn':(done++[b])++rest=f.blocks:=by rw[←hdn];simp
  have hs:(done.length:Int)+1=(((done++[b]).length:Nat):Int):=by simp
  have hpos:=ok.pos
  have li:=jaj (enc:=jdz) (l:=b.instrs)
  have le:=jaj (enc:=jfj) (l:=b.edges)
  obtain⟨hA,eA,okA,nA,xA,gA⟩:=jcm ok [.nilSlice,.nilSlice,.nilSlice] (ja1 b) 36
  unfold ja1 at xA eA
  rw[jak]
  unfold jms j0w
  simp(disch:=first|omega|rfl) only[go_sem,eq_true hlt,hix,ja1,eA,xA,li]
  refine qbz p2 p4 (lo:=hA.next) (by omega) b.instrs [] rfl okA (f0e _) .nil (fun hj si' y10 y12 okj nj gj ⟨ni,s1,d1,l1⟩=>?_)
  have xj:=(gj _ (by omega)).trans xA
  simp(disch:=first|omega|rfl) only[go_sem,xj,le]
  refine qb0 p3 p5 (lo:=hj.next) (by omega) b.edges [] rfl okj (f0e _) .nil (fun hk se y4 y6 okk nk gk ⟨ne,s2,d2,l2⟩=>?_)
  have xk:=(gk _ (by omega)).trans xj
  obtain⟨sp,hE,eE,okE,nE,gE,np,s3,d3,l3⟩:=jjv (ty:=3) (sz:=1) (E:=EI) (bytes:=8) (l:=b.params) (enc:=jay) okk (fun _=>rfl) (fun _=>⟨rfl,rfl⟩) (by omega) (by omega)
  have g0:∀ n,n<hi.next->hE.get n=hi.get n:=fun n hm=>by
   rw[gE n (by omega),gk n (by omega),gj n (by omega),gA n hm]
  have g1:∀ n∈ni,hE.get n=hj.get n:=fun n hm=>by
   have:=l1 n hm
   rw[gE n (by omega),gk n (by omega)]
  have g2:∀ n∈ne,hE.get n=hk.get n:=fun n hm=>by
   have:=l2 n hm
   rw[gE n (by omega)]
  obtain⟨a',hF,eF,okF,nF,gF,kF⟩:=k.app1 (bytes:=72) (h1:=hE) (row:=[sp,si',se]) (a:=b) (ms:=np++(ni++ne)) (E1:=OB hE) (E2:=fun h=>OB h) (fun row a m hm e=>e.keep (fun n hn=>g0 n (hm n hn))) okE (by omega) g0 hn hlo
   ⟨sp,si',se,np,ni,ne,_,rfl,s3,s1.imp g1 (fun row a ms hm e=>e.keep (fun n hn=>g1 n (hm n hn))),s2.imp g2 (fun row a ms hm e=>e.keep (fun n hn=>g2 n (hm n hn))),rfl⟩
   (f0j.2 ⟨d3,f0j.2 ⟨d1,d2,fun u hu v hv e=>by have:=l1 u hu;have:=l2 v hv;omega⟩,fun u hu v hv e=>by
    have:=l3 u hu
    rcases f0d.1 hv with hv | hv
    .have:=l1 v hv;omega
    .have:=l2 v hv;omega⟩)
   (fun n hm=>by
    rcases f0d.1 hm with hm | hm
    .have:=l3 n hm;omega
    .rcases f0d.1 hm with hm | hm
     .have:=l1 n hm;omega
     .have:=l2 n hm;omega) rfl (by omega) (by omega) (fun h2 _ row a m e hm=>e.keep hm)
  simp(disch:=first|omega|rfl) only[go_sem,jad,xk,eE,eF,hs]
  exact qb1 z hlo rest (done++[b]) hdn' okF (by omega) kF (fun hj a x3 x4 x5 x6 x7 x8 x9 x10 x11 x12 x13 x14 x15 x17 ok' n' g' k'=>hQ hj a x3 x4 x5 x6 x7 x8 x9 x10 x11 x12 x13 x14 x15 x17 ok' (by omega) (fun n hm=>(g' n hm).trans (gF n hm)) k')
theorem qib (ok:Ok h) (z:Szs f) (hX:jdg F 11 [.agg (jt6 f)] h=none) (hT:qab F 11=T 11) :
 WC F 11 [.agg (jt6 f)] h (fun v h'=>∃ na nb,OF h' v f na nb/\Ok h'/\h.next<=h'.next/\(∀ n,n<h.next->h'.get n=h.get n)/\∀ n∈na++nb,h.next<=n):=by
 refine ja9 hX (hT.trans ql6) rfl ?_
 unfold j7f
 have hpos:=ok.pos
 have zv:=z.v
 have ll:=jaj (enc:=ja1) (l:=f.blocks)
 obtain⟨hA,eA,okA,nA,xA,gA⟩:=jed ok (jt6 f) 26
 obtain⟨hB,eB,okB,nB,xB,gB⟩:=jed okA [.nilSlice,.nilSlice] 26
 have yA:=(gB _ (by omega)).trans xA
 rw[nA] at xB
 unfold jt6 at eA xA yA
 simp(disch:=first|omega|rfl) only[go_sem,jt6,eA,nA,eB,yA,ll]
 refine qb1 z (lo:=hB.next) (by omega) f.blocks [] rfl okB (f0e _) .nil (fun hj a x3 x4 x5 x6 x7 x8 x9 x10 x11 x12 x13 x14 x15 x17 okj nj gj ⟨nb,s1,d1,l1⟩=>?_)
 have xj:=(gj _ (by omega)).trans yA
 have yj:=(gj _ (by omega)).trans xB
 obtain⟨sv,hE,eE,okE,nE,gE,na,s2,d2,l2⟩:=jjv (ty:=3) (sz:=1) (E:=EI) (bytes:=8) (l:=f.values) (enc:=jay) okj (fun _=>rfl) (fun _=>⟨rfl,rfl⟩) (by omega) (by omega)
 have zE:=(gE _ (by omega)).trans yj
 obtain⟨hG,eG,okG,nG,xG,gG⟩:=qiq okE (b:=h.next+1) (by omega) (some (.arr [sv,a] 26))
 have g1:∀ n∈nb,hG.get n=hj.get n:=fun n hm=>by
  have:=l1 n hm
  rw[gG n (by omega),gE n (by omega)]
 have g2:∀ n∈na,hG.get n=hE.get n:=fun n hm=>by
  have:=l2 n hm
  rw[gG n (by omega)]
 simp(disch:=first|omega|rfl) only[go_sem,xj,eE,zE,eG,xG]
 refine⟨na,nb,⟨⟨sv,a,rfl,s2.keep g2,s1.imp g1 (fun row a ms hm e=>e.keep (fun n hn=>g1 n (hm n hn)))⟩,f0j.2 ⟨d2,d1,fun u hu v hv e=>by have:=l1 v hv;have:=l2 u hu;omega⟩,fun n hm=>?_⟩,okG,by omega,fun n hm=>by rw[gG n (by omega),gE n (by omega),gj n (by omega),gB n (by omega),gA n hm],fun n hm=>?_⟩
 .rcases f0d.1 hm with hm | hm
  .have:=l2 n hm;omega
  .have:=l1 n hm;omega
 .rcases f0d.1 hm with hm | hm
  .have:=l2 n hm;omega
  .have:=l1 n hm;omega
end
def jmt (l:List Ms.Blk):Nat:=(l.map (fun b=>b.instrs.length)).sum
def jv9:List Ms.Blk->Nat->Nat->Nat×Nat
 | [],_,_=>(0,0)
 | x::r,b,k=>if k<x.instrs.length then (b,k) else jv9 r (b+1) (k - x.instrs.length)
def jpj (f:Fc) (n:Int):Nat×Nat:=jv9 f.blocks 0 (pk n (max (jmt f.blocks) 1))
theorem j7g {l:List Ms.Blk} {b:Ms.Blk}:jmt (l++[b])=jmt l+b.instrs.length:=by unfold jmt;simp
theorem jyh:∀ {l:List Ms.Blk},(∀ b∈l,b.instrs.length<=10000)->jmt l<=l.length*10000
 | [],_=>by simp[jmt]
 | b::l,h=>by
  have h1:=jyh (l:=l) (fun b hb=>h b (f0y _ hb))
  have h2:=h b (by simp)
  have:jmt (b::l)=b.instrs.length+jmt l:=by simp[jmt]
  rw[this,f1e,f21]
  omega
theorem j0y:∀ (l:List Ms.Blk) (b k:Nat),k<jmt l->∃ d,(jv9 l b k).1=b+d/\∃ x,l[d]?=some x/\(jv9 l b k).2<x.instrs.length
 | [],b,k,h=>by simp[jmt] at h
 | x::r,b,k,h=>by
  have e:jmt (x::r)=x.instrs.length+jmt r:=by simp[jmt]
  unfold jv9
  split
  .exact ⟨0,by simp,x,rfl,by assumption⟩
  .rename_i hk
   obtain⟨d,h1,y,h2,h3⟩:=j0y r (b+1) (k - x.instrs.length) (by omega)
   exact⟨d+1,by omega,y,by simpa using h2,h3⟩
section
variable {F:Fns}
theorem j7h {l:List Ms.Blk} (hl:l.length<=10000) (hi':∀ b∈l,b.instrs.length<=10000) {lo:Nat} :
 ∀ (rest done:List Ms.Blk) (_:done++rest=l) {hi:Hp} (_:Ok hi) (_:lo<=hi.next) {x10 x13:AV}
  (hQ:∀ hj x10 x13,Ok hj->lo<=hj.next->(∀ n,n<lo->hj.get n=hi.get n)->Q (.exit 0) (.mk [x0,x1,x2,x3,x4,x5,x6,x7,x8,x9,x10,vi (jmt l),.s (jaf ja1 l),x13,vi l.length,vi l.length,x16] hj)),
  W F jj5.loop (.mk [x0,x1,x2,x3,x4,x5,x6,x7,x8,x9,x10,vi (jmt done),.s (jaf ja1 l),x13,vi l.length,vi done.length,x16] hi) Q
 | [],done,hdn,hi,ok,hn,x10,x13,hQ=>by
  rw[f07] at hdn
  subst hdn
  rw[jak]
  unfold jj5
  simp(disch:=first|omega|rfl) only[go_sem,f0v]
  exact hQ hi _ _ ok hn (fun _ _=>rfl)
 | b::rest,done,hdn,hi,ok,hn,x10,x13,hQ=>by
  have hlt1:done.length<l.length:=by rw[←hdn];simp
  have hlt:(done.length:Int)<l.length:=by omega
  have hget:l[done.length]?=some b:=by rw[←hdn];simp
  have p1:=hi' b (f0b hget)
  have hix:=jag (enc:=ja1) (size:=3) hget rfl
  have hdn':(done++[b])++rest=l:=by rw[←hdn];simp
  have hs:(done.length:Int)+1=(((done++[b]).length:Nat):Int):=by simp
  have hb:=jyh (l:=done) (fun b hb=>hi' b (by rw[←hdn];simp[hb]))
  have hb2:done.length*10000<=100000000:=by omega
  have ha:(jmt done:Int)+(b.instrs.length:Int)=((jmt (done++[b]):Nat):Int):=by rw[j7g];omega
  have hpos:=ok.pos
  have li:=jaj (enc:=jdz) (l:=b.instrs)
  obtain⟨hA,eA,okA,nA,xA,gA⟩:=jcm ok [.nilSlice,.nilSlice,.nilSlice] (ja1 b) 36
  unfold ja1 at xA eA
  rw[jak]
  unfold jj5 jv6
  simp(disch:=first|omega|rfl) only[go_sem,jad,eq_true hlt,hix,ja1,eA,xA,li,hs,ha]
  exact j7h hl hi' rest (done++[b]) hdn' okA (by omega) (fun hj x10 x13 ok' n' g'=>hQ hj x10 x13 ok' n' (fun n hm=>(g' n hm).trans (gA n (by omega))))
theorem j7i {l:List Ms.Blk} {vals:SV} {bx:Nat} (hl:l.length<=10000) (hi':∀ b∈l,b.instrs.length<=10000) (ok:Ok h) (hx:h.get bx=some (.arr [vals,jaf ja1 l] 26)) {r:Nat×Nat}
 (hR:∀ x4 x5 x6 x7 x9,Q .ret (.mk [x0,x1,vi r.2,vi r.1,x4,x5,x6,x7,vi l.length,x9,x10,x11,x12,x13,x14,x15,.s (.ptr bx 0)] h)) (hE:r=(0,0)->∀ x2 x3 x4 x5 x6 x7 x9,Q (.exit 2) (.mk [x0,x1,x2,x3,x4,x5,x6,x7,vi l.length,x9,x10,x11,x12,x13,x14,x15,.s (.ptr bx 0)] h)) :
 ∀ (rest done:List Ms.Blk) (_:done++rest=l) (k:Nat) (_:k<=1000000000) (_:jv9 rest done.length k=r) {x2 x3 x4 x5 x7:AV},
  W F jj6.loop (.mk [x0,x1,x2,x3,x4,x5,vi k,x7,vi l.length,vi done.length,x10,x11,x12,x13,x14,x15,.s (.ptr bx 0)] h) Q
 | [],done,hdn,k,hk,hr,x2,x3,x4,x5,x7=>by
  rw[f07] at hdn
  subst hdn
  rw[jak]
  unfold jj6
  simp(disch:=first|omega|rfl) only[go_sem,f0v]
  exact hE hr.symm _ _ _ _ _ _ _
 | b::rest,done,hdn,k,hk,hr,x2,x3,x4,x5,x7=>by
  have hlt1:done.length<l.length:=by rw[←hdn];simp
  have hlt:(done.length:Int)<l.length:=by omega
  have hget:l[done.length]?=some b:=by rw[←hdn];simp
  have p1:=hi' b (f0b hget)
  have hix:=jag (enc:=ja1) (size:=3) hget rfl
  have hdn':(done++[b])++rest=l:=by rw[←hdn];simp
  have hs:(done.length:Int)+1=(((done++[b]).length:Nat):Int):=by simp
  have hs2:(done++[b]).length=done.length+1:=by simp
  have li:=jaj (enc:=jdz) (l:=b.instrs)
  unfold jv9 at hr
  rw[jak]
  unfold jj6 jv8
  by_cases e:k<b.instrs.length
  .rw [if_pos e] at hr
   have c1:((k:Int)<(b.instrs.length:Int))=True:=eq_true (by omega)
   subst hr
   simp(disch:=first|omega|rfl) only[go_sem,jad,eq_true hlt,hx,hix,ja1,li,c1]
   exact hR _ _ _ _ _
  .rw [if_neg e] at hr
   have c1:((k:Int)<(b.instrs.length:Int))=False:=eq_false (by omega)
   have hk2:(k:Int) - (b.instrs.length:Int)=((k - b.instrs.length:Nat):Int):=by omega
   unfold jv7
   simp(disch:=first|omega|rfl) only[go_sem,jad,eq_true hlt,hx,hix,ja1,li,c1,hs,hk2]
   exact j7i hl hi' ok hx hR hE rest (done++[b]) hdn' _ (by omega) (by rw[hs2];exact hr)
theorem j9w {k:Bool} (ok:Ok h) (z:Szs f) {n:Int} (hn1:-9223372036854775808<=n) (hn2:n<=9223372036854775807) (hX:jdg F 12 [.agg (jt6 f),vi n] h=none) (hT:qab F 12=T 12)
 (hp:∀ (m:Int) (h:Hp),0<m->m<=9223372036854775807->jdg F 19 [vi n,vi m] h=some (vi (pick n m),h)) :
 WC F 12 [.agg (jt6 f),vi n] h (fun v h'=>∃ d,jfq k h' d v=some (.tup [(false,[si (jpj f n).1]),(false,[si (jpj f n).2])])):=by
 refine ja9 hX (hT.trans qia) rfl ?_
 unfold j0x
 have hpos:=ok.pos
 have zb:=z.b
 have ll:=jaj (enc:=ja1) (l:=f.blocks)
 have hN:=jyh (l:=f.blocks) (fun b hb=>(z.bs b hb).2.1)
 obtain⟨hA,eA,okA,nA,xA,gA⟩:=jed ok (jt6 f) 26
 unfold jt6 at eA xA
 simp(disch:=first|omega|rfl) only[go_sem,jt6,eA,xA,ll]
 refine j7h z.b (fun b hb=>(z.bs b hb).2.1) (lo:=hA.next) f.blocks [] rfl okA (f0e _) (fun hj x10 x13 okj nj gj=>?_)
 have xj:=(gj _ (by omega)).trans xA
 have hmm:mmV true (some (vi (jmt f.blocks))) (some (vi 1))=some (vi ((max (jmt f.blocks) 1:Nat):Int)):=by
  rw[jsz]
  congr 3
  split<;>omega
 obtain⟨m,em⟩:∃ m,max (jmt f.blocks) 1=m:=⟨_,rfl⟩
 have hm:1<=m/\m<=1000000000:=by omega
 have hpm:=hp m hj (by omega) (by omega)
 have hpk:=je0 (n:=n) (m:=m) (by omega)
 rw[jbn (by omega)] at hpm
 rw[em] at hmm
 have es:jpj f n=jv9 f.blocks 0 (pk n m):=by unfold jpj;rw[em]
 simp(disch:=first|omega|rfl) only[go_sem,hmm,jap hpm,xj,ll]
 refine j7i z.b (fun b hb=>(z.bs b hb).2.1) okj xj (r:=jpj f n) (fun x4 x5 x6 x7 x9=>?_) (fun e x2 x3 x4 x5 x6 x7 x9=>?_) f.blocks [] rfl (pk n m) (by omega) es.symm
 .simp (disch:=first|omega|rfl) only[go_sem]
  exact⟨1,rfl⟩
 .simp (disch:=first|omega|rfl) only[go_sem]
  rw[e]
  exact⟨1,rfl⟩
end
end Go.Proofs.Ytkeenpohacdanaa.Ev
namespace Go.Proofs.Ytkeenpohacdanaa.Ms
set_option linter.all false
variable {m:Nat×Nat}
def LD (x:Ins):Prop:=∃ r o,x.ops=r++[o]/\o.kind=2
def AL (l:List Blk):Prop:=∀ b∈l,∀ x∈b.instrs,LD x
theorem jwa (p:Pc) (flags uses i:Nat) (x:Iw×Nat×Ms):∃ o:Opd,(jej p flags uses i x).1.ops=x.1.ops++[o]/\o.kind=2/\(jej p flags uses i x).2.2.blocks=x.2.2.blocks:=by
 unfold jej
 simp only
 split
 .exact ⟨_,rfl,rfl,rfl⟩
 .exact ⟨_,rfl,rfl,rfl⟩
theorem jqw (p:Pc) (flags uses:Nat):∀ (k i:Nat) (x:Iw×Nat×Ms),(∃ (r:List Opd) (o:Opd),(jdr p flags uses (k+1) i x).1.ops=r++[o]/\o.kind=2)/\(jdr p flags uses (k+1) i x).2.2.blocks=x.2.2.blocks
 | 0,i,x=>by
  obtain⟨o,h1,h2,h3⟩:=jwa p flags uses i x
  exact⟨⟨_,o,h1,h2⟩,h3⟩
 | k+1,i,x=>by
  obtain⟨o,h1,h2,h3⟩:=jwa p flags uses i x
  have:=jqw p flags uses k (i+1) (jej p flags uses i x)
  exact⟨this.1,this.2.trans h3⟩
theorem j2a (w:Ms) (p:Pc):LD (jau w p).1/\(jau w p).2.blocks=w.blocks:=by
 unfold jau
 simp only
 rw[Nat.add_comm 1]
 obtain⟨⟨r,o,h1,h2⟩,h3⟩:=jqw p (pk p.flags (2 ^ 30)) (jd4 w p (pk p.flags (2 ^ 30)) (if w.known=[] then 0 else pk p.flags (2 ^ 30) % 4) 0 ⟨[],pk p.limits (2 ^ 40),(0,0),(0,0)⟩).ops.length (pk p.flags (2 ^ 30) / 2 ^ 8 % 2) 0 (jd4 w p (pk p.flags (2 ^ 30)) (if w.known=[] then 0 else pk p.flags (2 ^ 30) % 4) 0 ⟨[],pk p.limits (2 ^ 40),(0,0),(0,0)⟩,(jd4 w p (pk p.flags (2 ^ 30)) (if w.known=[] then 0 else pk p.flags (2 ^ 30) % 4) 0 ⟨[],pk p.limits (2 ^ 40),(0,0),(0,0)⟩).ops.length,w)
 exact⟨⟨r,o,h1,h2⟩,h3⟩
theorem AL.modify {l:List Blk} (h:AL l) {k:Nat} {f:Blk->Blk} (hf:∀ b,(∀ x∈b.instrs,LD x)->∀ x∈(f b).instrs,LD x):AL (l.modify k f):=by
 intro b hb
 rcases jbl hb with hb | ⟨c,hc,_,rfl⟩
 .exact h b hb
 .exact hf c (h c hc)
theorem AL.lay {w:Ms} (h:AL w.blocks) (p:Pc):AL (jb8 w p).blocks:=by
 obtain⟨h1,h2⟩:=j2a w p
 unfold jb8
 simp only[h2]
 exact h.modify (fun b hb x hx=>by
  rcases f0d.1 hx with hx | hx
  .exact hb x hx
  .rw [f0i.1 hx];exact h1)
theorem AL.block {w:Ms} (h:AL w.blocks) (cs:List Nat):AL (jae w cs).blocks:=fun b hb x hx=>by
 rcases f0d.1 hb with hb | hb
 .exact h b hb x hx
 .rw [f0i.1 hb] at hx;simp at hx
theorem AL.edge {w:Ms} (h:AL w.blocks) (k to:Nat) (a:List Nat):AL (jaq w k to a).blocks:=h.modify (fun b hb=>hb)
theorem AL.newest {w:Ms} (h:AL w.blocks) (c:Nat) (p:Pc):AL (jab w c p).2.blocks:=by
 unfold jab
 split
 .exact h
 .exact h.lay _
theorem AL.way {w:Ms} (h:AL w.blocks) (p:Pc) (c n e k:Nat) (lay:Bool):AL (jgk p c n e k lay w).2.blocks:=by
 unfold jgk
 simp only
 refine AL.edge ?_ _ _ _
 refine AL.newest ?_ _ _
 refine AL.newest ?_ _ _
 split
 .exact AL.lay (w:={ w with cur:=k }) h _
 .exact h
theorem AL.fork {w:Ms} (h:AL w.blocks) (p:Pc):AL (jek w p).blocks:=by
 unfold jek
 simp only
 refine AL.way ?_ _ _ _ _ _ _
 refine AL.way ?_ _ _ _ _ _ _
 exact((((h.lay p).block []).block []).block [pk p.c 2,0]).edge _ _ _ |>.edge _ _ _
theorem AL.loop {w:Ms} (h:AL w.blocks) (p:Pc):AL (je4 w p).blocks:=by
 unfold je4
 simp only
 refine AL.edge ?_ _ _ _
 refine AL.newest ?_ _ _
 refine AL.newest ?_ _ _
 refine AL.lay ?_ _
 refine AL.edge ?_ _ _ _
 refine AL.edge ?_ _ _ _
 refine AL.block ?_ _
 refine AL.block ?_ _
 refine AL.lay ?_ _
 refine AL.edge ?_ _ _ _
 refine AL.block ?_ _
 refine AL.newest ?_ _ _
 exact AL.newest h _ _
theorem AL.piece {w:Ms} (h:AL w.blocks) (p:Pc):AL (jbj w p).blocks:=by
 unfold jbj
 simp only
 split
 .exact h.fork p
 .split
  .exact h.loop p
  .split
   .exact h.lay p
   .exact h
theorem AL.foldl:∀ {l:List Pc} {w:Ms},AL w.blocks->AL (l.foldl jbj w).blocks
 | [],_,h=>h
 | p::l,w,h=>AL.foldl (l:=l) (h.piece p)
theorem j7j (m:Nat×Nat) (l:List Pc):AL (jcs m l).blocks:=by
 unfold jcs
 simp only
 refine AL.lay (AL.foldl ?_) _
 intro b hb x hx
 rw[f0i.1 hb] at hx;simp at hx
theorem j7k (m1:2<=m.1/\m.1<=10) (m2:2<=m.2/\m.2<=10) (l:List Pc):(∀ b∈(jcs m l).blocks,b.instrs.length<=23)/\1<=sm (jcs m l).blocks/\sm (jcs m l).blocks<=100:=by
 have k0:=jg8 m1 m2
 have k1:=k0.pieces (l.take 24)
 obtain⟨b,_⟩:=k1.bd.lay ⟨0,0,1,0,0,0,3⟩
 obtain⟨_,_,_,_,_,hs,_⟩:=j9e k1.v ⟨0,0,1,0,0,0,3⟩
 obtain⟨w,ew⟩:∃ w,(l.take 24).foldl jbj (jbo m)=w:=⟨_,rfl⟩
 rw[ew] at b k1 hs
 have lt:(l.take 24).length<=24:=by simp;omega
 have nbk:=k1.nb
 have sk:=k1.sum
 unfold jcs
 simp only[ew]
 refine⟨fun x hx=>?_,by omega,by omega⟩
 obtain⟨k,e⟩:=j5k hx
 have hf:=b.i k
 have hi:=k1.i k
 have e2:nI (jb8 w ⟨0,0,1,0,0,0,3⟩) k=x.instrs.length:=by unfold nI;rw[e]
 rw[e2] at hf
 have e3:up (nI w) w.cur k<=nI w k+1:=by unfold up;split<;>omega
 omega
theorem FcOk.value {f:Fc} (k:FcOk m f) (h:f.values.length<=159):FcOk m ⟨f.values++[0],f.blocks⟩ :=
 ⟨k.nb,by simp;omega,fun c hc=>by
  rcases f0d.1 hc with hc | hc
  .exact k.cls c hc
  .rw [f0i.1 hc];omega,k.blk,k.all,fun b hb x hx=>(k.ins b hb x hx).app [0],k.par,fun b hb e he=>by
  obtain⟨h1,h2,t,h3,h4,h5⟩:=k.edg b hb e he
  refine⟨h1,fun v hv=>by have:=h2 v hv;simp;omega,t,h3,?_,fun v hv=>by have:=h5 v hv;simp;omega⟩
  rw[f24 (fun v hv=>jqr (h5 v hv)),h4]
  exact(f24 (fun v hv=>jqr (h2 v hv))).symm,k.ent,fun b hb v hv=>by have:=k.prm b hb v hv;simp;omega⟩
def jqx (k v:Nat):Ins:=⟨0,[⟨k,v,false,1,0⟩],[]⟩
theorem qic {vs:List Nat} (m1:2<=m.1) (m2:2<=m.2) {k v:Nat} (hk:k=1∨k=2) (hv:v<vs.length):InsOk m vs (jqx k v):=by
 refine⟨by simp[jqx],by simp[jqx],by simp[jqx],fun o ho=>?_,fun o ho h=>?_,fun r hr=>by simp[jqx] at hr,fun i q r h=>by simp[jqx] at h,fun o ho r h=>by simp[jqx],fun i j o p hij hi hj=>?_,fun c hc=>?_⟩
 .rw [f0i.1 ho]
  exact⟨hk,by simp,hv,fun h=>by simp at h,fun _=>rfl,fun h=>by simp at h⟩
 .rw [f0i.1 ho] at h;simp at h
 .cases i with
  | zero=>omega
  | succ i=>simp[jqx] at hi
 .have:(jqx k v).ops.countP (jci vs c)=0:=by simp[jqx,jci]
  rw[this]
  show 0+0<g2 m c
  unfold g2;split<;>omega
theorem FcOk.instrs {f:Fc} (k:FcOk m f) {j:Nat} {g:List Ins->List Ins} (hg:∀ b∈f.blocks,(g b.instrs).length<=40/\(b.instrs≠[]->g b.instrs≠[])/\∀ x∈g b.instrs,InsOk m f.values x) (hs:sm (f.blocks.modify j (fun b=>{ b with instrs:=g b.instrs }))<=160):FcOk m ⟨f.values,f.blocks.modify j (fun b=>{ b with instrs:=g b.instrs })⟩:=by
 refine⟨by simp only[f1c];exact k.nb,k.nv,k.cls,fun b hb=>?_,hs,fun b hb=>?_,fun b hb=>?_,fun b hb e he=>?_,fun b hb=>?_,fun b hb=>?_⟩
 .rcases jbl hb with hb | ⟨c,hc,_,rfl⟩
  .exact k.blk b hb
  .have:=k.blk c hc;exact⟨this.1,(hg c hc).1,this.2.2⟩
 .rcases jbl hb with hb | ⟨c,hc,_,rfl⟩
  .exact k.ins b hb
  .exact (hg c hc).2.2
 .rcases jbl hb with hb | ⟨c,hc,_,rfl⟩
  .exact k.par b hb
  .exact fun h=>(hg c hc).2.1 (k.par c hc h)
 .have:jo6 f.values f.blocks e:=by
   rcases jbl hb with hb | ⟨c,hc,_,rfl⟩
   .exact k.edg b hb e he
   .exact k.edg c hc e he
  obtain⟨h1,h2,t,h3,h4,h5⟩:=this
  obtain⟨t',h6,h7⟩:=jgd (k:=j) (f:=fun b=>{ b with instrs:=g b.instrs }) (fun _=>rfl) h3
  exact⟨h1,h2,t',h6,by rw[h7];exact h4,by rw[h7];exact h5⟩
 .obtain ⟨t,ht,e⟩:=jfp (f:=fun b=>{ b with instrs:=g b.instrs }) (fun _=>rfl) hb
  rw[e];exact k.ent t ht
 .rcases jbl hb with hb | ⟨c,hc,_,rfl⟩
  .exact k.prm b hb
  .exact k.prm c hc
end Go.Proofs.Ytkeenpohacdanaa.Ms
namespace Go.Proofs.Ytkeenpohacdanaa.Ev
open Go Go.RowKit Go.Proofs.Ytkeenpohacdanaa.Ms
set_option linter.all false
set_option maxRecDepth 100000
set_option maxHeartbeats 2000000
variable {n:Int} {js:List Nat} {sz size:Nat}
section
variable {F:Fns} {st fr:List AV} {es:List Ent} {h h2:Hp} {dst:Option Nat} {l:List (IOper×Option (List Nat))} {Q:Ex->St->Prop}
theorem jpk {e:TypeId} {bytes:Nat} {ox oy:Od} {b o n mc:Nat} {ex:Bool} {w v:AV} (k:Ok h) (k2:Ok h2) (hx:ev st fr ox=some (.s (.slice b o n mc ex sz))) (hw:ev st fr oy=some w) (hs:sel es js []=some []) (hu:jfa es js b=true) {c:AB} (hb:h.get b=some c) (ha:jin h e size bytes (.s (.slice b o n mc ex sz)) w=some (v,h2)) :
 WD F ((.mk dst (.a (.app e size bytes ox oy)) none,some js)::l) st es fr h Q=WD F l (v::st) (.mk [(b,Nat.succ b),(h.next,h2.next)] none::es) (jcn fr dst v) h2 Q:=by
 rw[jw4 (x:=some (DR.mk v h2 (.mk [(b,Nat.succ b),(h.next,h2.next)] none))) (fun cl=>?_)]
 .exact jby
 .cases h with
  | mk n1 t lo hid =>
  cases h2 with
  | mk n2 t2 lo2 hid2 =>
  obtain rfl:hid=[]:=k.hid
  obtain rfl:lo=0:=k.lo
  obtain rfl:hid2=[]:=k2.hid
  obtain rfl:lo2=0:=k2.lo
  have hc:jbp st fr (.a (.app e size bytes ox oy))=.app b:=by
   show jq1 (ob (ev st fr ox) (fun v=>jgl v none (fun b _ _ _ _ _=>some b))) Cls.app=_
   rw[hx];rfl
  have hi:iop cl st fr (.mk n1 t 0 []) (.a (.app e size bytes ox oy))=some (v,.mk n2 t2 0 []):=by
   show ob (ev st fr ox) (fun v=>ob (ev st fr oy) (fun w=>jin (.mk n1 t 0 []) e size bytes v w))=_
   rw[hx,hw];exact ha
  show ob (sel es js []) (fun hid'=>Cls.casesOn (motive:=fun _=>Option DR) (jbp st fr (.a (.app e size bytes ox oy))) _ _ (fun b=>oif (jfa es js b) (oif (Nat.ble 0 b) (ob (Hp.get (.mk n1 t 0 hid') b) (fun _=>jj8 cl st fr n1 t 0 0 [] hid' (.a (.app e size bytes ox oy)) (fun n'=>.mk [(b,Nat.succ b),(n1,n')] none))) none) none) _ _)=_
  rw[hs]
  show Cls.casesOn (motive:=fun _=>Option DR) (jbp st fr (.a (.app e size bytes ox oy))) _ _ (fun b=>oif (jfa es js b) (oif (Nat.ble 0 b) (ob (Hp.get (.mk n1 t 0 []) b) (fun _=>jj8 cl st fr n1 t 0 0 [] [] (.a (.app e size bytes ox oy)) (fun n'=>.mk [(b,Nat.succ b),(n1,n')] none))) none) none) _ _=_
  rw[hc]
  show oif (jfa es js b) (oif (Nat.ble 0 b) (ob (Hp.get (.mk n1 t 0 []) b) (fun _=>ob (iop cl st fr (.mk n1 t 0 []) (.a (.app e size bytes ox oy))) _)) none) none=_
  rw[hu,hb,hi]
  cases b<;>rfl
theorem jwb {e:TypeId} {bytes:Nat} {ox oy:Od} {b n:Nat} {row:List SV} (k:Ok h) (hx:ev st fr ox=some (.s .nilSlice)) (hw:ev st fr oy=some (.s (.slice b 0 1 1 true size))) (hs:sel es js []=some []) (hb:rdB (h.get b) 0 (1*size)=some row) (hsm:1*bytes<=1000000000) :
 WD F ((.mk dst (.a (.app e size bytes ox oy)) none,some js)::l) st es fr h Q=WD F l (.s (.slice h.next 0 1 1 false size)::st) (.mk [(h.next,Nat.succ h.next)] none::es) (jcn fr dst (.s (.slice h.next 0 1 1 false size))) (h.push (.arr row e)) Q:=by
 rw[jw4 (x:=some (DR.mk (.s (.slice h.next 0 1 1 false size)) (h.push (.arr row e)) (.mk [(h.next,Nat.succ h.next)] none))) (fun cl=>?_)]
 .exact jby
 .cases h with
  | mk n1 t lo hid =>
  obtain rfl:hid=[]:=k.hid
  obtain rfl:lo=0:=k.lo
  have hc:jbp st fr (.a (.app e size bytes ox oy))=.other:=by
   show jq1 (ob (ev st fr ox) (fun v=>jgl v none (fun b _ _ _ _ _=>some b))) Cls.app=_
   rw[hx];rfl
  have hi:iop cl st fr (.mk n1 t n1 []) (.a (.app e size bytes ox oy))=some (.s (.slice n1 0 1 1 false size),.mk (Nat.succ n1) (t.put (Nat.succ n1) n1 (some (.arr row e))) n1 []):=by
   show ob (ev st fr ox) (fun v=>ob (ev st fr oy) (fun w=>jin (.mk n1 t n1 []) e size bytes v w))=_
   rw[hx,hw]
   show ob (rdB ((Hp.mk n1 t n1 []).get b) 0 (1*size)) (fun new=>jh1 bytes 1 (nw (.mk n1 t n1 []) new e (fun k h=>Ev.ok (.s (.slice k 0 1 1 false size)) h)))=_
   rw[show rdB ((Hp.mk n1 t n1 []).get b) 0 (1*size)=some row from hb]
   show jh1 bytes 1 _=_
   rw[jhn hsm (by omega)]
   rfl
  show ob (sel es js []) (fun hid'=>Cls.casesOn (motive:=fun _=>Option DR) (jbp st fr (.a (.app e size bytes ox oy))) _ _ _ _ (jj8 cl st fr n1 t 0 n1 [] hid' (.a (.app e size bytes ox oy)) (fun n'=>.mk [(n1,n')] none)))=_
  rw[hs]
  show Cls.casesOn (motive:=fun _=>Option DR) (jbp st fr (.a (.app e size bytes ox oy))) _ _ _ _ (jj8 cl st fr n1 t 0 n1 [] [] (.a (.app e size bytes ox oy)) (fun n'=>.mk [(n1,n')] none))=_
  rw[hc]
  show ob (iop cl st fr (.mk n1 t n1 []) (.a (.app e size bytes ox oy))) _=_
  rw[hi]
  rfl
end
theorem ql7 {k:Bool} {h:Hp} {d:Nat} {v:AV} (e:jfq k h d v=some (vi n)):v=vi n:=by
 cases v with
 | s x =>
  obtain⟨y,h1,h2⟩:=jaa.1 (show ob (jgy k h d x) (fun y=>some (AV.s y))=some (vi n) from e)
  simp only[Option.some.injEq,AV.s.injEq] at h2
  subst h2
  cases d with
  | zero=>cases h1
  | succ d =>
   cases x with
   | slice b off len mc ex sz =>
    cases len with
    | zero=>cases h1
    | succ len =>
     obtain⟨cs,_,h1⟩:=jaa.1 (show ob (rd h b off (Nat.mul (len+1) sz)) (fun cs=>ob (jgj (jgy k h d) cs) (fun cs=>ob (jnl sz (len+1) cs) (fun rows=>some (SV.lst rows))))=_ from h1)
     obtain⟨cs,_,h1⟩:=jaa.1 h1
     obtain⟨cs,_,h1⟩:=jaa.1 h1
     cases h1
   | lst rows=>cases k<;>cases rows<;>cases h1
   | int k n=>cases h1;rfl
   | _=>cases h1
 | agg l =>
  obtain⟨y,h1,h2⟩:=jaa.1 (show ob (jgj (jgy k h d) l) (fun y=>some (AV.agg y))=some (vi n) from e)
  cases h2
 | tup l =>
  obtain⟨y,h1,h2⟩:=jaa.1 (show ob (qad (jgy k h d) l) (fun y=>some (AV.tup y))=some (vi n) from e)
  cases h2
 | _=>cases e
theorem jh9.scal {F:Fns} {f:FuncId} {us:List AV} (k:jh9 true F f us (vi n)):jh9 false F f us (vi n) :=
 WC.imp k (fun v h ⟨d,e⟩=>by rw[ql7 e];exact⟨1,rfl⟩)
section
variable {h:Hp} {x:AV} {f:Fc} {na nb:List Nat}
theorem OF.nogrd (o:OF h x f na nb) (hne:f.blocks≠[]) (l:List AV):ji9 (x::l)=false:=by
 obtain⟨⟨a,b,rfl,h1,h2⟩,_,_⟩:=o
 rcases h2 with⟨h3,_⟩ | ⟨_,bb,rows,nss,rfl,_⟩
 .exact absurd h3 hne
 .show oif (oif (grd a) false false) (ji9 l) false=false
  cases grd a<;>rfl
theorem OF.frz1 (o:OF h x f na nb):jnm true h 4 [x,vi n]=some [.agg (jt6 f),vi n]:=by
 show ob (jfq true h 4 x) (fun y=>ob (jnm true h 4 [vi n]) (fun r=>some (y::r)))=_
 rw[o.frz];rfl
theorem OF.frz2 (o:OF h x f na nb) {a b:Nat}:jnm true h 4 [x,.agg [si a,si b]]=some [.agg (jt6 f),.agg [si a,si b]]:=by
 show ob (jfq true h 4 x) (fun y=>ob (jnm true h 4 [.agg [si a,si b]]) (fun r=>some (y::r)))=_
 rw[o.frz];rfl
theorem OF.call2 {S:FuncId->Bool} {F:Fns} {g:FuncId} (o:OF h x f na nb) (hne:f.blocks≠[]) (hS:S g=true) {a b:Nat} (k:jh9 true F g [.agg (jt6 f),.agg [si a,si b]] (vi n)):jdg (PX S F) g [x,.agg [si a,si b]] h=some (vi n,h) :=
 j3y hS (o.nogrd hne _) ⟨_,4,o.frz2,k.scal⟩
end
theorem qb2 {h:Hp} {b i j:Nat} {row:List SV} {v:SV} (h1:rdB (h.get b) (i*sz) sz=some row) (hl:row.length=sz) (hj:row[j]?=some v):rdB (h.get b) (i*sz+j) 1=some [v]:=by
 cases e:h.get b with
 | none=>rw[e] at h1;cases h1
 | some x =>
  cases x with
  | arr cells ty =>
   rw[e,jdo,jbq] at h1
   obtain⟨h2,h3⟩:=(jax _).1 h1
   apply j5d
   have hjl:j<sz:=by rw[←hl];exact(f05.1 hj).1
   rw[h3,f1r,if_pos hjl,f1d] at hj
   exact hj
  | _=>rw[e] at h1;cases h1
section
variable {h:Hp} {a b:SV} {f:Fc} {na nb:List Nat}
theorem OF.at (o:OF h (.agg [a,b]) f na nb) {k:Nat} {B:Ms.Blk} (hk:f.blocks[k]?=some B):∃ bb p i e np ni ne ex M1 M2 cells,jwg 3 (.s b) (vi (k:Int))=some (.s (.ptr bb (k*3)))/\h.get bb=some (.arr cells 36)/\rdB (h.get bb) (k*3) 3=some [p,i,e] /\
 Sl h 3 1 false EI p B.params np/\Sl h 44 3 false (OX h) i B.instrs ni/\Sl h 73 2 ex (OE h) e B.edges ne/\nb=bb::(M1++((np++(ni++ne))++M2)) /\
 (∀ {j:Nat} {v:SV},j<3->∃ cells',jbm (k*3+j) [v] cells=some cells'/\∀ {N:Nat} {h':Hp} {B':Ms.Blk} {ms':List Nat},(∀ n∈na++nb,n<N)->h'.get bb=some (.arr cells' 36)->OB h' ([p,i,e].set j v) B' ms'->(∀ n∈na++(M1++M2),h'.get n=h.get n)->h.next<=h'.next->ms'.Nodup->(∀ n∈ms',(n∈np++(ni++ne)∨N<=n)/\n<h'.next) ->
  OF h' (.agg [a,b]) ⟨f.values,f.blocks.set k B'⟩ na (bb::(M1++(ms'++M2)))):=by
 obtain⟨⟨a',b',e0,s1,s2⟩,nd,lt⟩:=o
 cases e0
 obtain⟨bb,row,ms,M1,M2,cells,e1,e2,e3,e4,⟨p,i,e,np,ni,ne,ex,rfl,h1,h2,h3,rfl⟩,rfl,up⟩:=s2.upd hk
 refine⟨bb,p,i,e,np,ni,ne,ex,M1,M2,cells,e1,e2,e3,h1,h2,h3,rfl,fun {j v} hj=>?_⟩
 obtain⟨cells',e5,e6⟩:=up (j:=j) (v:=v) hj
 refine⟨cells',e5,fun {N h' B' ms'} g0 g1 g2 g3 g4 g5 g6=>⟨⟨a,b,rfl,s1.keep (fun n hn=>g3 n (by simp[hn])),e6 g1 g2 (fun row a m hm e=>e.keep (fun n hn=>g3 n (by have:=hm n hn;simp only[f0d] at this ⊢;exact .inr this)))⟩,?_,fun n hn=>?_⟩⟩
 .have nd':((na++(bb::M1))++((np++(ni++ne))++M2)).Nodup:=by simpa[f0r] using nd
  have:=jdf (N:=N) nd' (fun n hn=>g0 n (by simpa[f0r] using hn)) g5 (fun n hn=>(g6 n hn).1)
  simpa[f0r] using this
 .by_cases hm:n∈ms'
  .have:=g6 n hm
   have hp:=lt bb (by simp)
   have hp2:=g0 bb (by simp)
   rcases this.1 with h4 | h4
   .have:=lt n (by simp only[f0d,f0g] at h4 ⊢;exact .inr (.inr (.inr (.inl h4))))
    omega
   .omega
  .have:=lt n (by
    simp only[f0d,f0g] at hn ⊢
    rcases hn with h | h | h | h | h
    .exact .inl h
    .exact .inr (.inl h)
    .exact .inr (.inr (.inl h))
    .exact absurd h hm
    .exact .inr (.inr (.inr (.inr h))))
   omega
theorem OF.value (o:OF h (.agg [a,b]) f na nb) (ok:Ok h) (hl:f.values.length<=1000):∃ a' h2 na',jin (h.push (.arr [.int .i64 0] 3)) 3 1 8 (.s a) (.s (.slice h.next 0 1 1 true 1))=some (.s a',h2)/\Ok h2/\h.next<=h2.next/\(∀ n,n<h.next->n∉na->h2.get n=h.get n)/\OF h2 (.agg [a',b]) ⟨f.values++[0],f.blocks⟩ na' nb/\∀ n∈na',n∈na∨h.next<=n:=by
 obtain⟨⟨a',b',e0,s1,s2⟩,nd,lt⟩:=o
 cases e0
 obtain⟨d1,d2,d3⟩:=f0j.1 nd
 have s1':Sl h 3 1 false EI a f.values na:=s1
 obtain⟨h2,e2,ok2,n2,kp2,kt2,sl2⟩:=s1'.app1 (bytes:=8) (row:=[si 0]) (a:=0) (ms:=[]) ok (fun n hn=>lt n (by simp[hn])) rfl ⟨rfl,rfl⟩ (by omega) (by omega)
 have kb:∀ n∈nb,h2.get n=h.get n:=fun n hn=>kp2 n (lt n (by simp[hn])).2 (fun hc=>d3 n hc n hn rfl)
 refine⟨_,h2,_,e2,ok2,by omega,kp2,⟨⟨_,b,rfl,sl2 (fun _ _ _ _ e=>e),s2.imp kb (fun row a m hm e=>e.keep (fun n hn=>kb n (hm n hn)))⟩,?_,fun n hn=>?_⟩,fun n hn=>?_⟩
 .have hf:h.next+1∉na:=fun hn=>by have:=lt _ (f04 _ hn);omega
  refine f0j.2 ⟨jch d1 .nil (by simp) hf (by simp),d2,fun u hu v hv e=>?_⟩
  rcases f0g.1 hu with rfl | hu
  .have:=lt v (by simp[hv]);omega
  .exact d3 u (f0k (by simpa using hu)) v hv e
 .rcases f0d.1 hn with hn | hn
  .rcases f0g.1 hn with rfl | hn
   .omega
   .have:=lt n (f04 _ (f0k (by simpa using hn)));omega
  .have:=lt n (by simp[hn]);omega
 .rcases f0g.1 hn with rfl | hn
  .exact .inr (by omega)
  .exact .inl (f0k (by simpa using hn))
end
theorem qb3 {m:Nat×Nat} {f:Fc} (k:FcOk m f):Szs f:=by
 refine⟨by have:=k.nv;omega,by have:=k.nb;omega,fun b hb=>?_⟩
 have h1:=k.blk b hb
 refine⟨by omega,by omega,by omega,fun x hx=>?_,fun e he=>?_⟩
 .have:=k.ins b hb x hx
  have h2:=this.nops
  have h3:=this.nsp
  omega
 .obtain ⟨_,_,t,h3,h4,_⟩:=k.edg b hb e he
  have:=congrArg List.length h4
  rw[f1a,f1a] at this
  have:=k.blk t (f0b h3)
  omega
def jpl (l:List Ms.Opd):Nat:=l.foldl (fun v o=>if o.kind=2 then o.value else v) 0
theorem jlk {l:List Ms.Opd} {o:Ms.Opd}:jpl (l++[o])=if o.kind=2 then o.value else jpl l:=by unfold jpl;rw[List.foldl_append];rfl
end Go.Proofs.Ytkeenpohacdanaa.Ev
