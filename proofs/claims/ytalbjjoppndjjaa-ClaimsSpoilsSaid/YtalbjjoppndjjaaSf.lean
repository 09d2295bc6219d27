/- What functions may be: small checks: fixed registers, a register among others, registers that are needed. -/
import Derived.Test.YtalbjjoppndjjaaSb
namespace Go.Proofs.Ytalbjjoppndjjaa.Ev
open Go Go.RowKit Go.Proofs.Ytalbjjoppndjjaa.Ms
attribute [local go_sem] Int.reduceToNat reduceCtorEq Nat.reduceAdd Nat.reduceMul Nat.reduceEqDiff Int.reduceEq Int.reduceLT Int.reduceLE Int.reduceNeg Int.reduceAdd Int.reduceSub Int.reduceMul Int.reduceNe
attribute [local go_sem ↓] reduceIte
set_option linter.all false
set_option maxRecDepth 100000
set_option maxHeartbeats 2000000
variable {x0 x1 x2 x15 x16:AV} {hi:Hp} {v bF bO bP bR bX:Nat}
def qqg:Option (Nat×Nat)->AV
 | none=>.tup [(true,[si 0,si 0]),(false,[.bool false])]
 | some r=>.tup [(true,[si r.1,si r.2]),(false,[.bool true])]
theorem j10 (ok:Ok hi) {f:Fc} {s:Ms.Opd} (h2:s.value<f.values.length) (p1:1<=bR) (xF:hi.get bF=some (.arr [jae jat f.values,jae ja0 f.blocks] 26)) (xO:hi.get bO=some (.arr [si s.kind,si s.value,.bool s.late,si s.limit,si s.n] 59)) (xR:hi.get bR=some (.arr [si 0,si 0] 48)) {x6 x7 x8:AV} :
 W F3 jud (.mk [x0,x1,x2,vb false,.s (.ptr bF 0),.s (.ptr bR 0),x6,x7,x8,.s (.ptr bO 0)] hi) (qdc [(.cell 5 2 true),(.tmp 3)] (fun v h'=>∃ d,jgm true h' d v=some (qqg (if s.limit=4 then some (cl f.values s.value,s.n) else none)))):=by
 have ix:=jag (enc:=jat) (size:=1) (jp5 h2) rfl
 unfold jud
 by_cases e:s.limit=4
 .have c1:((s.limit:Int)≠4)=False:=by simp;omega
  rw[if_pos e]
  simp(disch:=first|omega|rfl) only[go_sem,xO,c1]
  unfold j1q j1p
  simp(disch:=first|omega|rfl) only[go_sem,xF,xO,ix,jat,xR]
  exact⟨1,rfl⟩
 .have c1:((s.limit:Int)≠4)=True:=by simp;omega
  rw[if_neg e]
  simp(disch:=first|omega|rfl) only[go_sem,xO,c1,xR]
  exact⟨1,rfl⟩
theorem qhi {h:Hp} (ok:Ok h) {f:Fc} {x:Ms.Ins} {o:Ms.Opd} (h1:o.limit=5->∃ u,x.ops[o.n]?=some u/\u.value<f.values.length) (h2:o.value<f.values.length) :
 WC F3 75 [.agg [jae jat f.values,jae ja0 f.blocks],.agg [si x.op,jae ja5 x.ops,jae jcr x.spoils],.agg [si o.kind,si o.value,.bool o.late,si o.limit,si o.n]] h (fun v h'=>∃ d,jgm true h' d v=some (qqg (jhm f.values x.ops o))):=by
 refine jba (no3 rfl rfl rfl) qnm rfl ?_
 unfold j73
 have hp:=ok.pos
 obtain⟨hA,eA,okA,nA,xA,gA⟩:=jei ok [jae jat f.values,jae ja0 f.blocks] 26
 obtain⟨hB,eB,okB,nB,xB,gB⟩:=jei okA [si x.op,jae ja5 x.ops,jae jcr x.spoils] 57
 obtain⟨hC,eC,okC,nC,xC,gC⟩:=jei okB [si o.kind,si o.value,.bool o.late,si o.limit,si o.n] 59
 obtain⟨hD,eD,okD,nD,xD,gD⟩:=jei okC [.int .i64 0,.int .i64 0] 48
 have yA:=(gD _ (by omega)).trans ((gC _ (by omega)).trans ((gB _ (by omega)).trans xA))
 have yB:=(gD _ (by omega)).trans ((gC _ (by omega)).trans xB)
 have yC:=(gD _ (by omega)).trans xC
 have nb:hB.next=h.next+2:=by omega
 have nc:hC.next=h.next+3:=by omega
 rw[nA] at yB
 rw[nb] at yC
 rw[nc] at xD
 by_cases e:o.limit=5
 .obtain ⟨u,hu,hul⟩:=h1 e
  have c1:((o.limit:Int)=5)=True:=by simp;omega
  have ix:=jag (enc:=ja5) (size:=5) hu rfl
  have es:jhm f.values x.ops o=if u.limit=4 then some (cl f.values u.value,u.n) else none:=by
   unfold jhm jke
   rw[if_pos e,f0d,hu];rfl
  rw[es]
  obtain⟨hE,eE⟩:∃ hE,hD.put (h.next+2) (some (.arr [si u.kind,si u.value,.bool u.late,si u.limit,si u.n] 59))=hE:=⟨_,rfl⟩
  have okE:Ok hE:=by rw[←eE];exact jao okD
  have zA:hE.get h.next=some (.arr [jae jat f.values,jae ja0 f.blocks] 26):=by rw[←eE,jai okD (by omega),if_neg (by omega)];exact yA
  have zC:hE.get (h.next+2)=some (.arr [si u.kind,si u.value,.bool u.late,si u.limit,si u.n] 59):=by rw[←eE,jai okD (by omega),if_pos rfl]
  have zD:hE.get (h.next+3)=some (.arr [si 0,si 0] 48):=by rw[←eE,jai okD (by omega),if_neg (by omega)];exact xD
  simp(disch:=first|omega|rfl) only[go_sem,eA,eB,eC,eD,nA,nb,nc,yA,yB,yC,c1,ix,ja5,eE]
  exact j10 okE hul (by omega) zA zC zD
 .have c1:((o.limit:Int)=5)=False:=by simp;omega
  have es:jhm f.values x.ops o=if o.limit=4 then some (cl f.values o.value,o.n) else none:=by
   unfold jhm jke
   rw[if_neg e]
  rw[es]
  simp(disch:=first|omega|rfl) only[go_sem,eA,eB,eC,eD,nA,nb,nc,yA,yB,yC,c1]
  exact j10 okD h2 (by omega) yA yC xD
theorem j11 {l:List (Nat×Nat)} {r:Nat×Nat} (hr:r∉l) {br:Nat} {Q:Ex->St->Prop} :
 ∀ (d i:Nat) (_:i+d=l.length) {hi:Hp} (_:Ok hi) (_:l.length<=10000) (_:hi.get br=some (.arr [si r.1,si r.2] 48)) {x2 x3 x4 x6:AV}
  (hQ:∀ hj x2 x3 x4 x6,Q (.exit 0) (.mk [.s (jae jcr l),x1,x2,x3,x4,.s (.ptr br 0),x6,vi l.length,vi l.length] hj)),
  W F3 jnc.loop (.mk [.s (jae jcr l),x1,x2,x3,x4,.s (.ptr br 0),x6,vi l.length,vi i] hi) Q
 | 0,i,hd,hi,ok,hl,xb,x2,x3,x4,x6,hQ=>by
  obtain rfl:i=l.length:=by omega
  rw[jaj]
  unfold jnc
  simp(disch:=first|omega|rfl) only[go_sem,f0u]
  exact hQ hi ..
 | d+1,i,hd,hi,ok,hl,xb,x2,x3,x4,x6,hQ=>by
  have hlt:(i:Int)<l.length:=by omega
  obtain⟨⟨c,n⟩,hget⟩:∃ x,l[i]?=some x:=⟨_,f0a (by omega)⟩
  have hix:=jag (enc:=jcr) (size:=2) hget rfl
  have hs:(i:Int)+1=((i+1:Nat):Int):=by omega
  have hne:((r.1:Int)=(c:Int)/\(r.2:Int)=(n:Int))=False:=eq_false (fun h=>hr (by
   have e:r=(c,n):=by
    obtain⟨a,b⟩:=r
    simp only at h;simp;omega
   rw[e];exact f0c hget))
  have hne':((c:Int)=(r.1:Int)/\(n:Int)=(r.2:Int))=False:=by
   rw[show((c:Int)=(r.1:Int)/\(n:Int)=(r.2:Int))=((r.1:Int)=(c:Int)/\(r.2:Int)=(n:Int)) from propext ⟨fun h=>⟨h.1.symm,h.2.symm⟩,fun h=>⟨h.1.symm,h.2.symm⟩⟩]
   exact hne
  rw[jaj]
  unfold jnc j1y j1x
  simp(disch:=first|omega|rfl) only[go_sem,jac,eq_true hlt,hix,jcr,xb,jfd,qb2,hne,hne',hs]
  exact j11 hr d (i+1) (by omega) ok hl xb hQ
theorem qhj {h:Hp} (ok:Ok h) {l:List (Nat×Nat)} {r:Nat×Nat} (hr:r∉l) (hl:l.length<=10000):WC F3 86 [.s (jae jcr l),.agg [si r.1,si r.2]] h (fun v h'=>v=vi (-1)):=by
 refine jba (no3 rfl rfl rfl) qnp rfl ?_
 unfold j8v
 obtain⟨hA,eA,okA,nA,xA,gA⟩:=jei ok [si r.1,si r.2] 48
 have l1:=jah (enc:=jcr) (l:=l)
 simp(disch:=first|omega|rfl) only[go_sem,eA,xA,l1]
 refine j11 hr l.length 0 (by omega) okA hl xA (fun hj x2 x3 x4 x6=>?_)
 simp(disch:=first|omega|rfl) only[go_sem]
theorem qhk {h:Hp} (ok:Ok h) {l:List (Nat×Nat)} {r:Nat×Nat} (hr:r∉l) (hl:l.length<=10000):WC F3 76 [.s (jae jcr l),.agg [si r.1,si r.2]] h (fun v h'=>∃ d,jgm true h' d v=some (vb false)):=by
 refine jba (no3 rfl rfl rfl) qr6 rfl ?_
 unfold qd3
 obtain⟨hA,eA,okA,nA,xA,gA⟩:=jei ok [si r.1,si r.2] 48
 simp(disch:=first|omega|rfl) only[go_sem,eA,xA]
 refine WC.imp (qhj okA hr hl) (fun v h' e=>?_)
 subst e
 simp(disch:=first|omega|rfl) only[go_sem]
 exact⟨1,rfl⟩
theorem qb4 {l:List (Nat×Nat)} {c:Nat} {x0 x1 x2 x4 x5 x6 x7 x8 x9 x10 x11 x12 x20:AV} {Q:Ex->St->Prop} (hl:l.length<=10000) :
 ∀ (d i:Nat) (_:i+d=l.length) {hi:Hp} (_:Ok hi) {x14 x15 x17:AV}
  (hQ:∀ hj x14 x15 x17,Ok hj->hi.next<=hj.next->(∀ k,k<hi.next->hj.get k=hi.get k)->Q (.exit 0) (.mk [x0,x1,x2,vi c,x4,x5,x6,x7,x8,x9,x10,x11,x12,vi (l.countP (fun r=>decide (r.1=c))),x14,x15,.s (jae jcr l),x17,vi l.length,vi l.length,x20] hj)),
  W F3 j1r.loop (.mk [x0,x1,x2,vi c,x4,x5,x6,x7,x8,x9,x10,x11,x12,vi ((l.take i).countP (fun r=>decide (r.1=c))),x14,x15,.s (jae jcr l),x17,vi l.length,vi i,x20] hi) Q
 | 0,i,hd,hi,ok,x14,x15,x17,hQ=>by
  obtain rfl:i=l.length:=by omega
  rw[jaj,f2t]
  unfold j1r
  simp(disch:=first|omega|rfl) only[go_sem,f0u]
  exact hQ hi _ _ _ ok (f0f _) (fun _ _=>rfl)
 | d+1,i,hd,hi,ok,x14,x15,x17,hQ=>by
  have hlt:(i:Int)<l.length:=by omega
  have hil:i<l.length:=by omega
  obtain⟨x,hget⟩:∃ x,l[i]?=some x:=⟨_,f0a hil⟩
  have hix:=jag (enc:=jcr) (size:=2) hget rfl
  have hs:(i:Int)+1=((i+1:Nat):Int):=by omega
  have hcnt:(l.take (i+1)).countP (fun r=>decide (r.1=c))=(l.take i).countP (fun r=>decide (r.1=c))+if x.1=c then 1 else 0:=by
   rw[f0a hil] at hget
   rw[List.take_succ_eq_append_getElem hil,List.countP_append,Option.some.inj hget,List.countP_singleton]
   by_cases h:x.1=c<;>simp[h]
  have hle:(l.take i).countP (fun r=>decide (r.1=c))<=10000:=f01 f3t (by rw[f1x];omega)
  obtain⟨hA,eA,okA,nA,xA,gA⟩:=jbv ok [.int .i64 0,.int .i64 0] (jcr x) 48
  unfold jcr at xA eA
  rw[jaj]
  unfold j1r qdx
  by_cases e:x.1=c
  .have c1:((x.1:Int)=(c:Int))=True:=by simp;omega
   rw[if_pos e] at hcnt
   have hadd:(((l.take i).countP (fun r=>decide (r.1=c)):Nat):Int)+1=(((l.take (i+1)).countP (fun r=>decide (r.1=c)):Nat):Int):=by omega
   simp(disch:=first|omega|rfl) only[go_sem,jac,eq_true hlt,hix,jcr,eA,xA,c1,hadd,hs]
   exact qb4 hl d (i+1) (by omega) okA (fun hj x14 x15 x17 o n g=>hQ hj x14 x15 x17 o (by omega) (fun k hk=>(g k (by omega)).trans (gA k hk)))
  .have c1:((x.1:Int)=(c:Int))=False:=by simp;omega
   rw[if_neg e] at hcnt
   have hadd:(l.take i).countP (fun r=>decide (r.1=c))=(l.take (i+1)).countP (fun r=>decide (r.1=c)):=by omega
   simp(disch:=first|omega|rfl) only[go_sem,jac,eq_true hlt,hix,jcr,eA,xA,c1,hs]
   rw[hadd]
   exact qb4 hl d (i+1) (by omega) okA (fun hj x14 x15 x17 o n g=>hQ hj x14 x15 x17 o (by omega) (fun k hk=>(g k (by omega)).trans (gA k hk)))
theorem qd6 {f:Fc} {l:List Ms.Opd} {c n0:Nat} {x4 x5 x14 x17 x18 x19 x20:AV} {Q:Ex->St->Prop} (hl:l.length<=10000) (hn:n0<=10000) (hv:∀ o∈l,o.value<f.values.length) :
 ∀ (d i:Nat) (_:i+d=l.length) {hi:Hp} (_:Ok hi) (_:bF<hi.next) (_:hi.get bF=some (.arr [jae jat f.values,jae ja0 f.blocks] 26)) {x6 x7 x10:AV}
  (hQ:∀ hj x6 x7 x10,Ok hj->hi.next<=hj.next->(∀ k,k<hi.next->hj.get k=hi.get k)->Q (.exit 2) (.mk [x0,x1,x2,vi c,x4,x5,x6,x7,.s (.ptr bF 0),.s (jae ja5 l),x10,vi l.length,vi l.length,vi (n0+l.countP (jck f.values c):Nat),x14,x15,x16,x17,x18,x19,x20] hj)),
  W F3 jw1.loop (.mk [x0,x1,x2,vi c,x4,x5,x6,x7,.s (.ptr bF 0),.s (jae ja5 l),x10,vi l.length,vi i,vi (n0+(l.take i).countP (jck f.values c):Nat),x14,x15,x16,x17,x18,x19,x20] hi) Q
 | 0,i,hd,hi,ok,hb,xF,x6,x7,x10,hQ=>by
  obtain rfl:i=l.length:=by omega
  rw[jaj,f2t]
  unfold jw1
  simp(disch:=first|omega|rfl) only[go_sem,f0u]
  exact hQ hi _ _ _ ok (f0f _) (fun _ _=>rfl)
 | d+1,i,hd,hi,ok,hb,xF,x6,x7,x10,hQ=>by
  have hlt:(i:Int)<l.length:=by omega
  have hil:i<l.length:=by omega
  obtain⟨o,hget⟩:∃ x,l[i]?=some x:=⟨_,f0a hil⟩
  have hov:=hv o (f0c hget)
  have hix:=jag (enc:=ja5) (size:=5) hget rfl
  have iv:=jag (enc:=jat) (size:=1) (jp5 hov) rfl
  have hs:(i:Int)+1=((i+1:Nat):Int):=by omega
  have hcnt:(l.take (i+1)).countP (jck f.values c)=(l.take i).countP (jck f.values c)+if jck f.values c o=true then 1 else 0:=by
   rw[f0a hil] at hget
   rw[List.take_succ_eq_append_getElem hil,List.countP_append,Option.some.inj hget,List.countP_singleton]
  have hle:(l.take i).countP (jck f.values c)<=10000:=f01 f3t (by rw[f1x];omega)
  obtain⟨hA,eA,okA,nA,xA,gA⟩:=jbv ok [.int .i64 0,.int .i64 0,.bool false,.int .i64 0,.int .i64 0] (ja5 o) 59
  have yF:=(gA _ hb).trans xF
  have hrec:∀ {x6 x7 x10:AV},W F3 jw1.loop (.mk [x0,x1,x2,vi c,x4,x5,x6,x7,.s (.ptr bF 0),.s (jae ja5 l),x10,vi l.length,vi (i+1:Nat),vi (n0+(l.take (i+1)).countP (jck f.values c):Nat),x14,x15,x16,x17,x18,x19,x20] hA) Q:=fun {x6 x7 x10} =>
   qd6 hl hn hv d (i+1) (by omega) okA (by omega) yF (fun hj x6 x7 x10 o n g=>hQ hj x6 x7 x10 o (by omega) (fun k hk=>(g k (by omega)).trans (gA k hk)))
  have hno:jck f.values c o=false->n0+(l.take i).countP (jck f.values c)=n0+(l.take (i+1)).countP (jck f.values c):=fun h=>by rw[hcnt,h];simp
  unfold ja5 at xA eA
  rw[jaj]
  unfold jw1 qdy
  by_cases e1:cl f.values o.value=c
  .have c1:((cl f.values o.value:Int)=(c:Int))=True:=by simp;omega
   by_cases e2:o.limit=1
   .have c2:((o.limit:Int)≠1)=False:=by simp;omega
    simp(disch:=first|omega|rfl) only[go_sem,jac,eq_true hlt,hix,ja5,eA,xA,yF,iv,jat,c1,c2,hs]
    rw[hno (by unfold jck;simp[e2])]
    exact hrec
   .have c2:((o.limit:Int)≠1)=True:=by simp;omega
    by_cases e3:o.limit=3
    .have c3:((o.limit:Int)≠3)=False:=by simp;omega
     simp(disch:=first|omega|rfl) only[go_sem,jac,eq_true hlt,hix,ja5,eA,xA,yF,iv,jat,c1,c2,c3,hs]
     rw[hno (by unfold jck;simp[e3])]
     exact hrec
    .have c3:((o.limit:Int)≠3)=True:=by simp;omega
     have hadd:((n0+(l.take i).countP (jck f.values c):Nat):Int)+1=((n0+(l.take (i+1)).countP (jck f.values c):Nat):Int):=by
      rw[hcnt,if_pos (by unfold jck;simp[e1,e2,e3])];omega
     simp(disch:=first|omega|rfl) only[go_sem,jac,eq_true hlt,hix,ja5,eA,xA,yF,iv,jat,c1,c2,c3,hs,hadd]
     exact hrec
  .have c1:((cl f.values o.value:Int)=(c:Int))=False:=by simp;omega
   simp(disch:=first|omega|rfl) only[go_sem,jac,eq_true hlt,hix,ja5,eA,xA,yF,iv,jat,c1,hs]
   rw[hno (by unfold jck;simp[e1])]
   exact hrec
theorem qnv {h:Hp} (ok:Ok h) {f:Fc} {m:Nat×Nat} {x:Ms.Ins} {c:Nat} (hc:c<2) (k:InsOk m f.values x):WC F3 58 [.agg [jae jat f.values,jae ja0 f.blocks],.agg [si m.1,si m.2],.agg [si x.op,jae ja5 x.ops,jae jcr x.spoils],vi c] h (fun v h'=>∃ d,jgm true h' d v=some (vb true)):=by
 refine jba (no3 rfl rfl rfl) qut rfl ?_
 unfold qnn
 have k1:=k.nops
 have k2:=k.nsp
 obtain⟨hA,eA,okA,nA,xA,gA⟩:=jei ok [jae jat f.values,jae ja0 f.blocks] 26
 obtain⟨hB,eB,okB,nB,xB,gB⟩:=jei okA [si m.1,si m.2] 30
 obtain⟨hC,eC,okC,nC,xC,gC⟩:=jei okB [si x.op,jae ja5 x.ops,jae jcr x.spoils] 57
 have yA:=(gC _ (by omega)).trans ((gB _ (by omega)).trans xA)
 have yB:=(gC _ (by omega)).trans xB
 have nb:hB.next=h.next+2:=by omega
 rw[nA] at yB
 rw[nb] at xC
 have l1:=jah (enc:=jcr) (l:=x.spoils)
 have l2:=jah (enc:=ja5) (l:=x.ops)
 simp(disch:=first|omega|rfl) only[go_sem,eA,eB,eC,nA,nb,xC,l1]
 have h1:=@qb4 x.spoils c
 refine qb4 (l:=x.spoils) (c:=c) (by omega) x.spoils.length 0 (by omega) okC (fun hj x14 x15 x17 o n g=>?_)
 have zA:=(g _ (by omega)).trans yA
 have zB:=(g _ (by omega)).trans yB
 have zC:=(g _ (by omega)).trans xC
 simp(disch:=first|omega|rfl) only[go_sem,zC,l2]
 have hcp:x.spoils.countP (fun r=>decide (r.1=c))<=10000:=f01 f3t (by omega)
 refine qd6 (f:=f) (l:=x.ops) (c:=c) (n0:=x.spoils.countP (fun r=>decide (r.1=c))) (by omega) hcp (fun o ho=>(k.opd o ho).val) x.ops.length 0 (by omega) o (by omega) zA (fun hj x6 x7 x10 o n g=>?_)
 have wB:=(g _ (by omega)).trans zB
 have hrd:∃ k,rdB (hj.get (h.next+1)) c 1=some [si (k:Nat)]/\g2 m c=k:=by
  rw[wB]
  have:c=0∨c=1:=by omega
  rcases this with rfl | rfl
  .exact ⟨m.1,rfl,rfl⟩
  .exact ⟨m.2,rfl,rfl⟩
 obtain⟨r,hrd,hr⟩:=hrd
 have hxa:=jcq (n:=2) (size:=1) (b:=h.next+1) (off:=0) (m:=c) (by omega)
 rw[f0y,f3j] at hxa
 have hlt:=k.need c hc
 rw[hr] at hlt
 have c1:(((x.spoils.countP (fun r=>decide (r.1=c))+x.ops.countP (jck f.values c):Nat):Int)<(r:Int))=True:=by simp;omega
 simp(disch:=first|omega|rfl) only[go_sem,hxa,hrd,c1]
 exact⟨1,rfl⟩
theorem ja2:jmo []=true:=rfl
theorem jay {a:AV} {l:List AV}:jmo (a::l)=oif (qlv a) (jmo l) false:=rfl
theorem jbc {l:List SV}:qlv (.agg l)=qaa l:=rfl
theorem jcl {v:SV}:qlv (.s v)=grd v:=rfl
theorem jbd:qaa []=true:=rfl
theorem ja3 {a:SV} {l:List SV}:qaa (a::l)=oif (grd a) (qaa l) false:=rfl
theorem jbn {k:IntKind} {n:Int}:grd (.int k n)=true:=rfl
theorem jbe {b:Bool}:grd (.bool b)=true:=rfl
def S4 (f:FuncId):Bool:=Nat.beq f 35||(Nat.beq f 36||(Nat.beq f 59||(Nat.beq f 55||(Nat.beq f 56||(Nat.beq f 77||(Nat.beq f 75||(Nat.beq f 58||Nat.beq f 76)))))))
noncomputable def F4:Fns:=PX S4 F3
theorem quu {A:Nat->Int}:Env Try.prog A tys F4:=jgb quq
theorem no4 {f:FuncId} (h1:S1 f=false) (h2:Nat.beq f jfs.f=false) (h3:S3 f=false) (h4:S4 f=false) {vs:List AV} {h:Hp}:jcp F4 f vs h=none:=(jbf h4).trans (no3 h1 h2 h3)
section
variable {h:Hp} {f:Fc} {m:Nat×Nat} {Q:AV->Hp->Prop}
theorem qd7 (hv:v<f.values.length):jcp F4 59 [.agg [jae jat f.values,jae ja0 f.blocks],vi v] h=some (vb true,h):=jbh rfl (by simp only[jay,ja2,jbc,jcl,ja3,jbd,ja9,jbn,jbe,jbi,if_true]) (qhf jdx hv)
theorem ji0 (hv:v<f.values.length):WC F4 59 [.agg [jae jat f.values,jae ja0 f.blocks],vi v] h Q=Q (vb true) h:=jas (qd7 hv)
end
theorem qhl {h:Hp} (ok:Ok h) {f:Fc} {m:Nat×Nat} {o:Ms.Opd} (hc:∀ v,cl f.values v<2) (k:OpdOk m f.values o):WC F4 54 [.agg [jae jat f.values,jae ja0 f.blocks],.agg [si m.1,si m.2],.agg [si o.kind,si o.value,.bool o.late,si o.limit,si o.n]] h (fun v h'=>∃ d,jgm true h' d v=some (vi 0)):=by
 refine jba (no4 rfl rfl rfl rfl) qnj rfl ?_
 unfold j70
 obtain⟨hA,eA,okA,nA,xA,gA⟩:=jei ok [jae jat f.values,jae ja0 f.blocks] 26
 obtain⟨hB,eB,okB,nB,xB,gB⟩:=jei okA [si m.1,si m.2] 30
 obtain⟨hC,eC,okC,nC,xC,gC⟩:=jei okB [si o.kind,si o.value,.bool o.late,si o.limit,si o.n] 59
 have yA:=(gC _ (by omega)).trans ((gB _ (by omega)).trans xA)
 have yB:=(gC _ (by omega)).trans xB
 have nb:hB.next=h.next+2:=by omega
 rw[nA] at yB
 rw[nb] at xC
 have k1:=k.kind
 have k2:=k.lim
 have k3:=k.val
 have c1:((o.limit:Int)<1)=False:=by simp;omega
 have c2:(5<(o.limit:Int))=False:=by simp;omega
 have kk:((o.kind:Int)≠1)=False∨(((o.kind:Int)≠1)=True/\((o.kind:Int)≠2)=False):=by
  rcases k1 with h | h
  .left;simp;omega
  .right;constructor
   .simp;omega
   .simp;omega
 by_cases e3:o.limit<=3
 .have c3:((o.limit:Int)<=3)=True:=by simp;omega
  have c4:((o.limit:Int)=4)=False:=by simp;omega
  have c5:((o.limit:Int)=5)=False:=by simp;omega
  have c6:((o.n:Int)≠0)=False:=by have:=k.zero e3;simp;omega
  rcases kk with d1 | ⟨d1,d2⟩
  .simp (disch:=first|omega|rfl) only[go_sem,eA,eB,eC,nA,nb,yA,yB,xC,d1,c1,c2]
   unfold jh6 jh5 jh4
   simp(disch:=first|omega|rfl) only[go_sem,yA,yB,xC,c3,c4,c5,c6,ji0 k3]
   exact⟨1,rfl⟩
  .simp (disch:=first|omega|rfl) only[go_sem,eA,eB,eC,nA,nb,yA,yB,xC,d1,d2,c1,c2]
   unfold jh6 jh5 jh4
   simp(disch:=first|omega|rfl) only[go_sem,yA,yB,xC,c3,c4,c5,c6,ji0 k3]
   exact⟨1,rfl⟩
 .have c3:((o.limit:Int)<=3)=False:=by simp;omega
  by_cases e4:o.limit=4
  .have c4:((o.limit:Int)=4)=True:=by simp;omega
   have c5:((o.limit:Int)=5)=False:=by simp;omega
   have hn:=k.fix e4
   have hcl:=hc o.value
   have iv:=jag (enc:=jat) (size:=1) (jp5 k3) rfl
   have hrd:∃ k,rdB (hC.get (h.next+1)) (cl f.values o.value) 1=some [si (k:Nat)]/\g2 m (cl f.values o.value)=k:=by
    rw[yB]
    have:cl f.values o.value=0∨cl f.values o.value=1:=by omega
    rcases this with e | e
    .rw [e];exact⟨m.1,rfl,rfl⟩
    .rw [e];exact⟨m.2,rfl,rfl⟩
   obtain⟨r,hrd,hr⟩:=hrd
   have hxa:=jcq (n:=2) (size:=1) (b:=h.next+1) (off:=0) (m:=cl f.values o.value) (by omega)
   rw[f0y,f3j] at hxa
   rw[hr] at hn
   have c6:((r:Int)<=(o.n:Int))=False:=by simp;omega
   have c7:((o.n:Int)<0)=False:=by simp
   rcases kk with d1 | ⟨d1,d2⟩
   .simp (disch:=first|omega|rfl) only[go_sem,eA,eB,eC,nA,nb,yA,yB,xC,d1,c1,c2]
    unfold jh6 jh5 jh4
    simp(disch:=first|omega|rfl) only[go_sem,yA,xC,c3,c4,c5,c6,c7,iv,jat,hxa,hrd,ji0 k3]
    exact⟨1,rfl⟩
   .simp (disch:=first|omega|rfl) only[go_sem,eA,eB,eC,nA,nb,yA,yB,xC,d1,d2,c1,c2]
    unfold jh6 jh5 jh4
    simp(disch:=first|omega|rfl) only[go_sem,yA,xC,c3,c4,c5,c6,c7,iv,jat,hxa,hrd,ji0 k3]
    exact⟨1,rfl⟩
  .have e5:o.limit=5:=by omega
   have c4:((o.limit:Int)=4)=False:=by simp;omega
   have c5:((o.limit:Int)=5)=True:=by simp;omega
   obtain⟨hk,hlt⟩:=k.reu e5
   have d1:((o.kind:Int)≠1)=True:=by simp;omega
   have d2:((o.kind:Int)≠2)=False:=by simp;omega
   rw[hlt] at eC xC ⊢
   simp(disch:=first|omega|rfl) only[go_sem,eA,eB,eC,nA,nb,yA,yB,xC,d1,d2,c1,c2]
   unfold jh6 jh5 jh4
   simp(disch:=first|omega|rfl) only[go_sem,yA,yB,xC,c3,c4,c5,d2,ji0 k3]
   exact⟨1,rfl⟩
theorem j12 {f:Fc} {args ps:List Nat} (hl:args.length<=10000) (ha:∀ v∈args,v<f.values.length) (hp:∀ v∈ps,v<f.values.length) (hcl:ps.map (cl f.values)=args.map (cl f.values)) {x11 x13:AV} {Q:Ex->St->Prop} :
 ∀ (d i:Nat) (_:i+d=args.length) {hi:Hp} (_:Ok hi) (_:hi.get bF=some (.arr [jae jat f.values,jae ja0 f.blocks] 26)) {x3 x4 x5 x6 x8:AV}
  (hQ:∀ hj x3 x4 x5 x6 x8,Q (.exit 0) (.mk [x0,x1,x2,x3,x4,x5,x6,.s (jae jat args),x8,vi args.length,vi args.length,x11,.s (jae jat ps),x13,.s (.ptr bF 0),x15] hj)),
  W F4 jnb.loop (.mk [x0,x1,x2,x3,x4,x5,x6,.s (jae jat args),x8,vi args.length,vi i,x11,.s (jae jat ps),x13,.s (.ptr bF 0),x15] hi) Q
 | 0,i,hd,hi,ok,xF,x3,x4,x5,x6,x8,hQ=>by
  obtain rfl:i=args.length:=by omega
  rw[jaj]
  unfold jnb
  simp(disch:=first|omega|rfl) only[go_sem,f0u]
  exact hQ hi ..
 | d+1,i,hd,hi,ok,xF,x3,x4,x5,x6,x8,hQ=>by
  have hlt:(i:Int)<args.length:=by omega
  have hpl:ps.length=args.length:=by have:=congrArg List.length hcl;simpa using this
  obtain⟨v,hget⟩:∃ x,args[i]?=some x:=⟨_,f0a (by omega)⟩
  obtain⟨u,hpet⟩:∃ x,ps[i]?=some x:=⟨_,f0a (by omega)⟩
  have hv:=ha v (f0c hget)
  have hu:=hp u (f0c hpet)
  have huv:cl f.values u=cl f.values v:=by
   have:=congrArg (fun l=>l[i]?) hcl
   simp only[f1b,hget,hpet,f1o,Option.some.injEq] at this
   exact this
  have hix:=jag (enc:=jat) (size:=1) hget rfl
  have hipx:=jag (enc:=jat) (size:=1) hpet rfl
  have iv:=jag (enc:=jat) (size:=1) (jp5 hv) rfl
  have iu:=jag (enc:=jat) (size:=1) (jp5 hu) rfl
  have hs:(i:Int)+1=((i+1:Nat):Int):=by omega
  have c1:((cl f.values u:Int)≠(cl f.values v:Int))=False:=by simp;omega
  rw[jaj]
  unfold jnb j1u j1t j1s
  simp(disch:=first|omega|rfl) only[go_sem,jac,eq_true hlt,hix,hipx,iv,iu,jat,xF,ji0 hv,ji0 hu,c1,hs]
  exact j12 hl ha hp hcl d (i+1) (by omega) ok xF hQ
theorem qhm {h:Hp} (ok:Ok h) {f:Fc} {e:Ms.Edg} (k:jp0 f.values f.blocks e) (hl:e.args.length<=10000):WC F4 38 [.agg [jae jat f.values,jae ja0 f.blocks],.agg [si e.block,jae jat e.args]] h (fun v h'=>∃ d,jgm true h' d v=some (vi 0)):=by
 obtain⟨k1,k2,t,k3,k4,k5⟩:=k
 refine jba (no4 rfl rfl rfl rfl) qno rfl ?_
 unfold j8f
 obtain⟨hA,eA,okA,nA,xA,gA⟩:=jei ok [jae jat f.values,jae ja0 f.blocks] 26
 obtain⟨hB,eB,okB,nB,xB,gB⟩:=jei okA [si e.block,jae jat e.args] 72
 have yA:=(gB _ (by omega)).trans xA
 rw[nA] at xB
 have hlt:e.block<f.blocks.length:=by
  rcases f0g e.block f.blocks.length with h7 | h7
  .exact h7
  .rw [f0o h7] at k3;cases k3
 have hpl:t.params.length=e.args.length:=by have:=congrArg List.length k4;simpa using this
 have c1:((e.block:Int)<1)=False:=by simp;omega
 have c2:((f.blocks.length:Int)<=(e.block:Int))=False:=by simp;omega
 have c3:((e.args.length:Int)≠(t.params.length:Int))=False:=by simp;omega
 have ix:=jag (enc:=ja0) (size:=3) k3 rfl
 have l1:=jah (enc:=ja0) (l:=f.blocks)
 have l2:=jah (enc:=jat) (l:=e.args)
 have l3:=jah (enc:=jat) (l:=t.params)
 simp(disch:=first|omega|rfl) only[go_sem,eA,eB,nA,yA,xB,c1,c2,l1]
 unfold j1w j1v
 simp(disch:=first|omega|rfl) only[go_sem,yA,xB,ix,ja0,c3,l2,l3]
 refine j12 hl k2 k5 k4 e.args.length 0 (by omega) okB yA (fun hj x3 x4 x5 x6 x8=>?_)
 simp(disch:=first|omega|rfl) only[go_sem]
 exact⟨1,rfl⟩
section
variable {h:Hp} {f:Fc} {m:Nat×Nat} {Q:AV->Hp->Prop}
theorem j8y {op vl lm n kd:Nat} {lt:Bool} {ops:List Ms.Opd} {sp:List (Nat×Nat)} (h1:lm=5->∃ u,ops[n]?=some u/\u.value<f.values.length) (h2:vl<f.values.length):WC F4 75 [.agg [jae jat f.values,jae ja0 f.blocks],.agg [si op,jae ja5 ops,jae jcr sp],.agg [si kd,si vl,.bool lt,si lm,si n]] h Q=Q (qqg (jhm f.values ops ⟨kd,vl,lt,lm,n⟩)) h :=
 jas (jbh rfl (by simp only[jay,ja2,jbc,jcl,ja3,jbd,ja9,jbn,jbe,jbi,if_true]) (qhi (x:=⟨op,ops,sp⟩) (o:=⟨kd,vl,lt,lm,n⟩) jdx h1 h2))
theorem qhn {l:List (Nat×Nat)} {a b:Nat} (hr:(a,b)∉l) (hl:l.length<=10000):WC F4 76 [.s (jae jcr l),.agg [si a,si b]] h Q=Q (vb false) h :=
 jas (jbh rfl (by simp only[jay,ja2,jbc,jcl,ja3,jbd,ja9,jbn,jbe,jbi,if_true]) (qhk (r:=(a,b)) jdx hr hl))
theorem qb5 {kd vl lm n ukd uvl ulm un:Nat} {lt ult:Bool} (ha:kd=1∨kd=2) (hb:ukd=1∨ukd=2):∃ b,∀ h Q,WC F4 77 [.agg [si kd,si vl,.bool lt,si lm,si n],.agg [si ukd,si uvl,.bool ult,si ulm,si un]] h Q=Q (vb b) h:=by
 obtain⟨n1,v,h',h1,b,d,h2⟩:=qb3 (vl:=vl) (lm:=lm) (n:=n) (uvl:=uvl) (ulm:=ulm) (un:=un) (lt:=lt) (ult:=ult) jdx ha hb
 exact⟨b,fun h Q=>jas (jbh rfl (by simp only[jay,ja2,jbc,jcl,ja3,jbd,ja9,jbn,jbe,jbi,if_true]) ⟨n1,v,h',h1,d,h2⟩)⟩
end
def jmt (l:List Ms.Opd) (i:Nat):SV:=.lst ((l.map ja5).take i)
theorem qb6 {l:List Ms.Opd} {i:Nat} (hi:i<l.length):qqf 5 (some (.s (jae ja5 l))) (some (vi (i:Int)))=some (.s (jmt l i)):=by
 cases l with
 | nil=>simp at hi
 | cons a l =>
  show oif (Nat.ble i (jdc ((a::l).map ja5))) (oif (Nat.ble 0 i) (oif (j4o 5 ((a::l).map ja5)) (ob (jby (Nat.sub i 0) (jci 0 ((a::l).map ja5))) (fun r=>some (AV.s (.lst r)))) none) none) none=_
  have h1:jdc ((a::l).map ja5)=(a::l).length:=by rw[jbr,f1c]
  have h2:Nat.ble i (jdc ((a::l).map ja5))=true:=Nat.ble_eq_true_of_le (by rw[h1];omega)
  have h3:jby (Nat.sub i 0) (jci 0 ((a::l).map ja5))=some (((a::l).map ja5).take i):=(ja4 _).2 ⟨by show i<=(jci 0 ((a::l).map ja5)).length;rw[jbz,List.drop_zero,f1c];omega,by rw[jbz];rfl⟩
  rw[h2,h3]
  rfl
theorem j8z {l:List Ms.Opd} {i:Nat} (hi:i<l.length):jxu (.s (jmt l i))=some (vi i):=by
 unfold jmt
 rw[jjy,f1x,f1c,Nat.min_eq_left (by omega)]
theorem j80 {l:List Ms.Opd} {i j:Nat} {o:Ms.Opd} (hj:j<i) (h:l[j]?=some o):jsz 5 (.s (jmt l i)) (vi (j:Int))=some (.s (.cp (ja5 o))):=by
 unfold jmt
 exact j0y (by rw[f2c,if_pos hj,f1b,h];rfl) rfl
def qho:IC->IC
 | .seq a b=>a
 | c=>c
def qhp:IC->IC
 | .seq a b=>b
 | c=>c
def qb7 (i j:Nat) (o p:Ms.Opd):Bool:=(decide (o.limit=5)&&decide (o.n=j))||(decide (p.limit=5)&&decide (p.n=i))
theorem qhq {o p:Ms.Opd} {i j:Nat} (xO:hi.get bO=some (.arr [si o.kind,si o.value,.bool o.late,si o.limit,si o.n] 59)) (xP:hi.get bP=some (.arr [si p.kind,si p.value,.bool p.late,si p.limit,si p.n] 59))
 {x0 x1 x2 x3 x4 x5 x6 x8 x10 x11 x12 x13 x15 x16 x17 x18 x20 x21 x22 x23 x24 x25:AV} {K:Ex->St->Prop} (hK:K .normal (.mk [x0,x1,x2,x3,vb (qb7 i j o p),x5,x6,vi j,x8,.s (.ptr bP 0),x10,x11,x12,x13,vi i,x15,x16,x17,x18,.s (.ptr bO 0),x20,x21,x22,x23,x24,x25] hi)) :
 W F4 (qho jgv) (.mk [x0,x1,x2,x3,x4,x5,x6,vi j,x8,.s (.ptr bP 0),x10,x11,x12,x13,vi i,x15,x16,x17,x18,.s (.ptr bO 0),x20,x21,x22,x23,x24,x25] hi) K:=by
 have right:∀ (c:Prop) [Decidable c],(decide (p.limit=5)&&decide (p.n=i))=decide c->True:=fun _ _ _=>trivial
 unfold jgv
 simp only[qho]
 unfold qb7 at hK
 by_cases e1:o.limit=5
 .have c1:((o.limit:Int)=5)=True:=by simp;omega
  by_cases e2:o.n=j
  .have c2:((o.n:Int)=(j:Int))=True:=by simp;omega
   simp only[e1,e2,decide_true,f3w,Bool.true_or] at hK
   simp(disch:=first|omega|rfl) only[go_sem,xO,xP,c1,c2]
   exact hK
  .have c2:((o.n:Int)=(j:Int))=False:=by simp;omega
   by_cases e3:p.limit=5
   .have c3:((p.limit:Int)=5)=True:=by simp;omega
    by_cases e4:p.n=i
    .have c4:((p.n:Int)=(i:Int))=True:=by simp;omega
     simp only[e1,e2,e3,e4,decide_true,decide_false,f3w,f3x,f3i] at hK
     simp(disch:=first|omega|rfl) only[go_sem,xO,xP,c1,c2,c3,c4]
     exact hK
    .have c4:((p.n:Int)=(i:Int))=False:=by simp;omega
     simp only[e1,e2,e3,e4,decide_true,decide_false,f3w,f3x,f3i] at hK
     simp(disch:=first|omega|rfl) only[go_sem,xO,xP,c1,c2,c3,c4]
     exact hK
   .have c3:((p.limit:Int)=5)=False:=by simp;omega
    simp only[e1,e2,e3,decide_true,decide_false,f3w,f3x,Bool.false_and,f3i] at hK
    simp(disch:=first|omega|rfl) only[go_sem,xO,xP,c1,c2,c3]
    exact hK
 .have c1:((o.limit:Int)=5)=False:=by simp;omega
  by_cases e3:p.limit=5
  .have c3:((p.limit:Int)=5)=True:=by simp;omega
   by_cases e4:p.n=i
   .have c4:((p.n:Int)=(i:Int))=True:=by simp;omega
    simp only[e1,e3,e4,decide_true,decide_false,f3w,f3x,Bool.false_and,f3i] at hK
    simp(disch:=first|omega|rfl) only[go_sem,xO,xP,c1,c3,c4]
    exact hK
   .have c4:((p.n:Int)=(i:Int))=False:=by simp;omega
    simp only[e1,e3,e4,decide_true,decide_false,f3w,f3x,Bool.false_and,f3i] at hK
    simp(disch:=first|omega|rfl) only[go_sem,xO,xP,c1,c3,c4]
    exact hK
  .have c3:((p.limit:Int)=5)=False:=by simp;omega
   simp only[e1,e3,decide_true,decide_false,f3w,f3x,Bool.false_and,f3i] at hK
   simp(disch:=first|omega|rfl) only[go_sem,xO,xP,c1,c3]
   exact hK
def qb8:Option (Nat×Nat)->List SV
 | none=>[si 0,si 0]
 | some r=>[si r.1,si r.2]
theorem j13 (x:Option (Nat×Nat)):∃ a b:Nat,qb8 x=[si a,si b]:=by
 cases x with
 | none=>exact⟨0,0,rfl⟩
 | some r=>exact⟨r.1,r.2,rfl⟩
theorem j81 {x:Option (Nat×Nat)} {a b:Nat} (h:qb8 x=[si a,si b]):qqg x=.tup [(true,[si a,si b]),(false,[.bool x.isSome])]:=by
 rw[←h];cases x<;>rfl
theorem qb9 {o p:Ms.Opd} {fo fp:Option (Nat×Nat)} {same:Bool} {bQ:Nat} (ko:o.kind=1∨o.kind=2) (kp:p.kind=1∨p.kind=2) (hs:∀ r,fo=some r->fp=some r->same=true)
 (xO:hi.get bO=some (.arr [si o.kind,si o.value,.bool o.late,si o.limit,si o.n] 59)) (xP:hi.get bP=some (.arr [si p.kind,si p.value,.bool p.late,si p.limit,si p.n] 59))
 (xQ:hi.get bQ=some (.arr (qb8 fp) 48)) (xR:hi.get bR=some (.arr (qb8 fo) 48))
 {x0 x1 x2 x3 x7 x8 x10 x11 x12 x13 x14 x15 x16 x20 x21 x22 x23 x24 x25:AV} {K:Ex->St->Prop} (hK:K .normal (.mk [x0,x1,x2,vb false,vb same,.s (.ptr bQ 0),vb fp.isSome,x7,x8,.s (.ptr bP 0),x10,x11,x12,x13,x14,x15,x16,.s (.ptr bR 0),vb fo.isSome,.s (.ptr bO 0),x20,x21,x22,x23,x24,x25] hi)) :
 W F4 (qhp jgv) (.mk [x0,x1,x2,x3,vb same,.s (.ptr bQ 0),vb fp.isSome,x7,x8,.s (.ptr bP 0),x10,x11,x12,x13,x14,x15,x16,.s (.ptr bR 0),vb fo.isSome,.s (.ptr bO 0),x20,x21,x22,x23,x24,x25] hi) K:=by
 unfold jgv
 simp only[qhp]
 cases fo with
 | none =>
  simp only[Option.isSome_none] at hK ⊢
  simp(disch:=first|omega|rfl) only[go_sem]
  exact hK
 | some r =>
  cases fp with
  | none =>
   simp only[Option.isSome_none,Option.isSome_some] at hK ⊢
   simp(disch:=first|omega|rfl) only[go_sem]
   exact hK
  | some q =>
   simp only[Option.isSome_some] at hK ⊢
   unfold qb8 at xQ xR
   simp only at xQ xR
   by_cases e:q=r
   .subst e
    have:=hs q rfl rfl
    subst this
    have c1:((q.1:Int)=(q.1:Int)/\(q.2:Int)=(q.2:Int))=True:=by simp
    obtain⟨b,hb⟩:=qb5 (vl:=o.value) (lm:=o.limit) (n:=o.n) (uvl:=p.value) (ulm:=p.limit) (un:=p.n) (lt:=o.late) (ult:=p.late) ko kp
    cases b with
    | true =>
     simp(disch:=first|omega|rfl) only[go_sem,xO,xP,xQ,xR,jfd,qb2,c1,hb]
     exact hK
    | false =>
     simp(disch:=first|omega|rfl) only[go_sem,xO,xP,xQ,xR,jfd,qb2,c1,hb]
     exact hK
   .have c1:((q.1:Int)=(r.1:Int)/\(q.2:Int)=(r.2:Int))=False:=eq_false (fun h=>e (by
     obtain⟨a,b⟩:=q
     obtain⟨c,d⟩:=r
     simp only at h;simp;omega))
    have c2:((r.1:Int)=(q.1:Int)/\(r.2:Int)=(q.2:Int))=False:=eq_false (fun h=>e (by
     obtain⟨a,b⟩:=q
     obtain⟨c,d⟩:=r
     simp only at h;simp;omega))
    simp(disch:=first|omega|rfl) only[go_sem,xO,xP,xQ,xR,jfd,qb2,c1,c2]
    exact hK
theorem qd8 {f:Fc} {x:Ms.Ins} {m:Nat×Nat} (k:InsOk m f.values x) {i:Nat} {o:Ms.Opd} (hio:x.ops[i]?=some o) {x21 x22 x23 x24:AV} {Q:Ex->St->Prop} :
 ∀ (d j:Nat) (_:j+d=i) {hi:Hp} (_:Ok hi) (_:bF<hi.next/\bX<hi.next/\bO<hi.next/\bR<hi.next) (_:hi.get bF=some (.arr [jae jat f.values,jae ja0 f.blocks] 26)) (_:hi.get bX=some (.arr [si x.op,jae ja5 x.ops,jae jcr x.spoils] 57))
  (_:hi.get bO=some (.arr [si o.kind,si o.value,.bool o.late,si o.limit,si o.n] 59)) (_:hi.get bR=some (.arr (qb8 (jhm f.values x.ops o)) 48)) {x3 x4 x5 x6 x7 x8 x9 x11:AV}
  (hQ:∀ hj x3 x4 x5 x6 x7 x8 x9 x11,Ok hj->hi.next<=hj.next->(∀ k,k<hi.next->hj.get k=hi.get k)->Q (.exit 2) (.mk [x0,x1,x2,x3,x4,x5,x6,x7,x8,x9,.s (jmt x.ops i),x11,vi i,vi i,vi i,x15,x16,.s (.ptr bR 0),vb (jhm f.values x.ops o).isSome,.s (.ptr bO 0),.s (.ptr bF 0),x21,x22,x23,x24,.s (.ptr bX 0)] hj)),
  W F4 jp2.loop (.mk [x0,x1,x2,x3,x4,x5,x6,x7,x8,x9,.s (jmt x.ops i),x11,vi i,vi j,vi i,x15,x16,.s (.ptr bR 0),vb (jhm f.values x.ops o).isSome,.s (.ptr bO 0),.s (.ptr bF 0),x21,x22,x23,x24,.s (.ptr bX 0)] hi) Q
 | 0,j,hd,hi,ok,hb,xF,xX,xO,xR,x3,x4,x5,x6,x7,x8,x9,x11,hQ=>by
  obtain rfl:j=i:=by omega
  rw[jaj]
  unfold jp2
  simp(disch:=first|omega|rfl) only[go_sem,f0u]
  exact hQ hi _ _ _ _ _ _ _ _ ok (f0f _) (fun _ _=>rfl)
 | d+1,j,hd,hi,ok,hb,xF,xX,xO,xR,x3,x4,x5,x6,x7,x8,x9,x11,hQ=>by
  have hlt:(j:Int)<(i:Int):=by omega
  have hil:i<x.ops.length:=by
   rcases f0g i x.ops.length with h7 | h7
   .exact h7
   .rw [f0o h7] at hio;cases hio
  have hno:=k.nops
  obtain⟨p,hget⟩:∃ y,x.ops[j]?=some y:=⟨_,f0a (by omega)⟩
  have hpm:=f0c hget
  have ho:=k.opd o (f0c hio)
  have hp:=k.opd p hpm
  have hcl:=k.cla i j o p (by omega) hio hget
  have hix:=j80 (l:=x.ops) (i:=i) (j:=j) (by omega) hget
  have hs:(j:Int)+1=((j+1:Nat):Int):=by omega
  obtain⟨hA,eA,okA,nA,xA,gA⟩:=jbv ok [.int .i64 0,.int .i64 0,.bool false,.int .i64 0,.int .i64 0] (ja5 p) 59
  have yF:=(gA _ hb.1).trans xF
  have yX:=(gA _ hb.2.1).trans xX
  have yO:=(gA _ hb.2.2.1).trans xO
  have yR:=(gA _ hb.2.2.2).trans xR
  obtain⟨hB,eB,okB,nB,xB,gB⟩:=jbv okA [.int .i64 0,.int .i64 0] (qb8 (jhm f.values x.ops p)) 48
  have zF:=(gB _ (by omega)).trans yF
  have zX:=(gB _ (by omega)).trans yX
  have zO:=(gB _ (by omega)).trans yO
  have zR:=(gB _ (by omega)).trans yR
  have zA:=(gB _ (by omega)).trans xA
  obtain⟨a,b,hab⟩:=j13 (jhm f.values x.ops p)
  have wf:=fun {h:Hp} {Q:AV->Hp->Prop}=>(j8y (h:=h) (Q:=Q) (f:=f) (op:=x.op) (vl:=p.value) (lm:=p.limit) (n:=p.n) (kd:=p.kind) (lt:=p.late) (ops:=x.ops) (sp:=x.spoils) (fun e=>by
   obtain⟨u,h1,_⟩:=k.reu p hpm e
   exact⟨u,h1,(k.opd u (f0c h1)).val⟩) hp.val).trans (by rw[j81 hab])
  unfold ja5 at xA eA zA
  rw[nA] at eB xB
  rw[hab] at eB
  have rest:∀ (x3 x4 x8 x11:AV) (K:Ex->St->Prop),K .normal (.mk [x0,x1,x2,vb false,vb (qb7 i j o p),.s (.ptr (hi.next+1) 0),vb (jhm f.values x.ops p).isSome,vi j,x8,.s (.ptr hi.next 0),.s (jmt x.ops i),x11,vi i,vi j,vi i,x15,x16,.s (.ptr bR 0),vb (jhm f.values x.ops o).isSome,.s (.ptr bO 0),.s (.ptr bF 0),x21,x22,x23,x24,.s (.ptr bX 0)] hB) ->
   W F4 jgv (.mk [x0,x1,x2,x3,x4,.s (.ptr (hi.next+1) 0),vb (jhm f.values x.ops p).isSome,vi j,x8,.s (.ptr hi.next 0),.s (jmt x.ops i),x11,vi i,vi j,vi i,x15,x16,.s (.ptr bR 0),vb (jhm f.values x.ops o).isSome,.s (.ptr bO 0),.s (.ptr bF 0),x21,x22,x23,x24,.s (.ptr bX 0)] hB) K:=fun x3 x4 x8 x11 K hK=>by
   rw[show jgv=.seq (qho jgv) (qhp jgv) from rfl,qa9]
   refine qhq zO zA ?_
   rw[jfq]
   refine qb9 ho.kind hp.kind (fun r h1 h2=>?_) zO zA xB zR hK
   unfold qb7
   rcases hcl.2 r h1 h2 with⟨h3,h4⟩ | ⟨h3,h4⟩
   .simp [h3,h4]
   .simp [h3,h4]
  have fin:∀ (x3 x4 x8:AV),W F4 jp2.loop (.mk [x0,x1,x2,x3,x4,.s (.ptr (hi.next+1) 0),vb (jhm f.values x.ops p).isSome,vi j,x8,.s (.ptr hi.next 0),.s (jmt x.ops i),vb true,vi i,vi (j+1:Nat),vi i,x15,x16,.s (.ptr bR 0),vb (jhm f.values x.ops o).isSome,.s (.ptr bO 0),.s (.ptr bF 0),x21,x22,x23,x24,.s (.ptr bX 0)] hB) Q:=fun x3 x4 x8 =>
   qd8 k hio d (j+1) (by omega) okB (by omega) zF zX zO zR (fun hj x3 x4 x5 x6 x7 x8 x9 x11 o n g=>hQ hj x3 x4 x5 x6 x7 x8 x9 x11 o (by omega) (fun k hk=>(g k (by omega)).trans ((gB k (by omega)).trans (gA k hk))))
  rw[jaj]
  unfold jp2 j74
  by_cases e1:o.limit=5
  .have c1:((o.limit:Int)=5)=True:=by simp;omega
   by_cases e2:p.limit=5
   .have c2:((p.limit:Int)=5)=True:=by simp;omega
    have c3:((o.n:Int)=(p.n:Int))=False:=by have:=hcl.1 e1 e2;simp;omega
    simp(disch:=first|omega|rfl) only[go_sem,jac,eq_true hlt,hix,ja5,eA,xA,nA,yF,yX,wf,eB,zO,zA,c1,c2,c3]
    refine rest _ _ _ _ _ ?_
    simp(disch:=first|omega|rfl) only[go_sem,jac,hs]
    exact fin _ _ _
   .have c2:((p.limit:Int)=5)=False:=by simp;omega
    simp(disch:=first|omega|rfl) only[go_sem,jac,eq_true hlt,hix,ja5,eA,xA,nA,yF,yX,wf,eB,zO,zA,c1,c2]
    refine rest _ _ _ _ _ ?_
    simp(disch:=first|omega|rfl) only[go_sem,jac,hs]
    exact fin _ _ _
  .have c1:((o.limit:Int)=5)=False:=by simp;omega
   simp(disch:=first|omega|rfl) only[go_sem,jac,eq_true hlt,hix,ja5,eA,xA,nA,yF,yX,wf,eB,zO,zA,c1]
   refine rest _ _ _ _ _ ?_
   simp(disch:=first|omega|rfl) only[go_sem,jac,hs]
   exact fin _ _ _
theorem j82 {f:Fc} {x:Ms.Ins} {m:Nat×Nat} (k:InsOk m f.values x) {Q:Ex->St->Prop} :
 ∀ (d i:Nat) (_:i+d=x.ops.length) {hi:Hp} (_:Ok hi) (_:bF<hi.next/\bX<hi.next) (_:hi.get bF=some (.arr [jae jat f.values,jae ja0 f.blocks] 26)) (_:hi.get bX=some (.arr [si x.op,jae ja5 x.ops,jae jcr x.spoils] 57))
  {x3 x4 x5 x6 x7 x8 x9 x10 x11 x12 x13 x14 x15 x16 x17 x18 x19 x22:AV}
  (hQ:∀ hj x3 x4 x5 x6 x7 x8 x9 x10 x11 x12 x13 x14 x15 x16 x17 x18 x19 x22,Q (.exit 0) (.mk [x0,x1,x2,x3,x4,x5,x6,x7,x8,x9,x10,x11,x12,x13,x14,x15,x16,x17,x18,x19,.s (.ptr bF 0),.s (jae ja5 x.ops),x22,vi x.ops.length,vi x.ops.length,.s (.ptr bX 0)] hj)),
  W F4 jp3.loop (.mk [x0,x1,x2,x3,x4,x5,x6,x7,x8,x9,x10,x11,x12,x13,x14,x15,x16,x17,x18,x19,.s (.ptr bF 0),.s (jae ja5 x.ops),x22,vi x.ops.length,vi i,.s (.ptr bX 0)] hi) Q
 | 0,i,hd,hi,ok,hb,xF,xX,x3,x4,x5,x6,x7,x8,x9,x10,x11,x12,x13,x14,x15,x16,x17,x18,x19,x22,hQ=>by
  obtain rfl:i=x.ops.length:=by omega
  rw[jaj]
  unfold jp3
  simp(disch:=first|omega|rfl) only[go_sem,f0u]
  exact hQ hi ..
 | d+1,i,hd,hi,ok,hb,xF,xX,x3,x4,x5,x6,x7,x8,x9,x10,x11,x12,x13,x14,x15,x16,x17,x18,x19,x22,hQ=>by
  have hlt:(i:Int)<(x.ops.length:Int):=by omega
  have hil:i<x.ops.length:=by omega
  have hno:=k.nops
  have hns:=k.nsp
  obtain⟨o,hio⟩:∃ y,x.ops[i]?=some y:=⟨_,f0a hil⟩
  have hom:=f0c hio
  have ho:=k.opd o hom
  have hsp:=k.sp o hom
  have hix:=jag (enc:=ja5) (size:=5) hio rfl
  have hs:(i:Int)+1=((i+1:Nat):Int):=by omega
  obtain⟨hA,eA,okA,nA,xA,gA⟩:=jbv ok [.int .i64 0,.int .i64 0,.bool false,.int .i64 0,.int .i64 0] (ja5 o) 59
  have yF:=(gA _ hb.1).trans xF
  have yX:=(gA _ hb.2).trans xX
  obtain⟨hB,eB,okB,nB,xB,gB⟩:=jbv okA [.int .i64 0,.int .i64 0] (qb8 (jhm f.values x.ops o)) 48
  have zF:=(gB _ (by omega)).trans yF
  have zX:=(gB _ (by omega)).trans yX
  have zA:=(gB _ (by omega)).trans xA
  obtain⟨a,b,hab⟩:=j13 (jhm f.values x.ops o)
  have wf:=fun {h:Hp} {Q:AV->Hp->Prop}=>(j8y (h:=h) (Q:=Q) (f:=f) (op:=x.op) (vl:=o.value) (lm:=o.limit) (n:=o.n) (kd:=o.kind) (lt:=o.late) (ops:=x.ops) (sp:=x.spoils) (fun e=>by
   obtain⟨u,h1,_⟩:=k.reu o hom e
   exact⟨u,h1,(k.opd u (f0c h1)).val⟩) ho.val).trans (by rw[j81 hab])
  have xB':=xB
  have nil:(jhm f.values x.ops o).isSome=false∨((jhm f.values x.ops o).isSome=true/\(a,b)∉x.spoils):=by
   cases e:jhm f.values x.ops o with
   | none=>exact .inl rfl
   | some r =>
    right
    refine⟨rfl,?_⟩
    rw[e] at hab
    unfold qb8 at hab
    simp only[List.cons.injEq,and_true] at hab
    have h1:r=(a,b):=by
     obtain⟨c,d⟩:=r
     have h1:=(SV.int.inj hab.1).2
     have h2:=(SV.int.inj hab.2).2
     simp only at h1 h2;simp;omega
    rw[←h1];exact hsp r e
  have sl:=qb6 hil
  have ls:=j8z hil
  unfold ja5 at xA eA zA
  rw[nA] at eB xB
  rw[hab] at eB
  have xB2:=xB
  rw[hab] at xB2
  have fin:∀ (x3 x4 x5 x6 x7 x8 x9 x11 x12 x13:AV) (hj:Hp),Ok hj->hB.next<=hj.next->(∀ k,k<hB.next->hj.get k=hB.get k)->∀ (x14 x15 x16 x17 x18 x19:AV),W F4 jp3.loop (.mk [x0,x1,x2,x3,x4,x5,x6,x7,x8,x9,.s (jmt x.ops i),x11,x12,x13,x14,x15,x16,x17,x18,x19,.s (.ptr bF 0),.s (jae ja5 x.ops),vb true,vi x.ops.length,vi (i+1:Nat),.s (.ptr bX 0)] hj) Q:=fun x3 x4 x5 x6 x7 x8 x9 x11 x12 x13 hj o n g x14 x15 x16 x17 x18 x19 =>
   j82 k d (i+1) (by omega) o ⟨by omega,by omega⟩ ((g _ (by omega)).trans zF) ((g _ (by omega)).trans zX) hQ
  have tail:∀ (x3 x4 x5 x6 x7 x8 x9 x10 x11 x12 x13 x15 x16:AV) (K:Ex->St->Prop),(∀ hj x3 x4 x5 x6 x7 x8 x9 x11,Ok hj->hB.next<=hj.next->(∀ k,k<hB.next->hj.get k=hB.get k)->K .normal (.mk [x0,x1,x2,x3,x4,x5,x6,x7,x8,x9,.s (jmt x.ops i),x11,vi i,vi i,vi i,x15,x16,.s (.ptr (hi.next+1) 0),vb (jhm f.values x.ops o).isSome,.s (.ptr hi.next 0),.s (.ptr bF 0),.s (jae ja5 x.ops),vb true,vi x.ops.length,vi i,.s (.ptr bX 0)] hj)) ->
   W F4 jzt (.mk [x0,x1,x2,x3,x4,x5,x6,x7,x8,x9,x10,x11,x12,x13,vi i,x15,x16,.s (.ptr (hi.next+1) 0),vb (jhm f.values x.ops o).isSome,.s (.ptr hi.next 0),.s (.ptr bF 0),.s (jae ja5 x.ops),vb true,vi x.ops.length,vi i,.s (.ptr bX 0)] hB) K:=fun x3 x4 x5 x6 x7 x8 x9 x10 x11 x12 x13 x15 x16 K hK=>by
   unfold jzt
   simp(disch:=first|omega|rfl) only[go_sem,zX,jhl,sl,ls]
   refine qd8 k hio i 0 (by omega) okB ⟨by omega,by omega,by omega,by omega⟩ zF zX zA xB (fun hj x3 x4 x5 x6 x7 x8 x9 x11 o n g=>?_)
   simp(disch:=first|omega|rfl) only[go_sem]
   exact hK hj x3 x4 x5 x6 x7 x8 x9 x11 o n g
  generalize (jhm f.values x.ops o).isSome=has at *
  have kk:((o.kind:Int)=2)=False∨((o.kind:Int)=2)=True:=by
   rcases ho.kind with h | h
   .left;simp;omega
   .right;simp;omega
  rw[jaj]
  unfold jp3 j76 j75
  rcases nil with hn | ⟨hn,hm⟩
  .subst hn
   simp(disch:=first|omega|rfl) only[go_sem,jac,eq_true hlt,hix,ja5,eA,xA,nA,yF,yX,wf,eB,zA]
   refine tail _ _ _ _ _ _ _ _ _ _ _ _ _ _ (fun hj x3 x4 x5 x6 x7 x8 x9 x11 o n g=>?_)
   simp(disch:=first|omega|rfl) only[go_sem,jac,hs]
   exact fin _ _ _ _ _ _ _ _ _ _ hj o n g _ _ _ _ _ _
  .subst hn
   have wc:=fun {h:Hp} {Q:AV->Hp->Prop}=>qhn (h:=h) (Q:=Q) (l:=x.spoils) (a:=a) (b:=b) hm (by omega)
   cases hlate:o.late with
   | true =>
    rw[hlate] at xA eA zA wf
    rcases kk with c1 | c1
    .simp (disch:=first|omega|rfl) only[go_sem,jac,eq_true hlt,hix,ja5,hlate,eA,xA,nA,yF,yX,wf,eB,zA,zX,xB2,wc,c1]
     refine tail _ _ _ _ _ _ _ _ _ _ _ _ _ _ (fun hj x3 x4 x5 x6 x7 x8 x9 x11 o n g=>?_)
     simp(disch:=first|omega|rfl) only[go_sem,jac,hs]
     exact fin _ _ _ _ _ _ _ _ _ _ hj o n g _ _ _ _ _ _
    .simp (disch:=first|omega|rfl) only[go_sem,jac,eq_true hlt,hix,ja5,hlate,eA,xA,nA,yF,yX,wf,eB,zA,zX,xB2,wc,c1]
     refine tail _ _ _ _ _ _ _ _ _ _ _ _ _ _ (fun hj x3 x4 x5 x6 x7 x8 x9 x11 o n g=>?_)
     simp(disch:=first|omega|rfl) only[go_sem,jac,hs]
     exact fin _ _ _ _ _ _ _ _ _ _ hj o n g _ _ _ _ _ _
   | false =>
    rw[hlate] at xA eA zA wf
    rcases kk with c1 | c1
    .simp (disch:=first|omega|rfl) only[go_sem,jac,eq_true hlt,hix,ja5,hlate,eA,xA,nA,yF,yX,wf,eB,zA,zX,xB2,wc,c1]
     refine tail _ _ _ _ _ _ _ _ _ _ _ _ _ _ (fun hj x3 x4 x5 x6 x7 x8 x9 x11 o n g=>?_)
     simp(disch:=first|omega|rfl) only[go_sem,jac,hs]
     exact fin _ _ _ _ _ _ _ _ _ _ hj o n g _ _ _ _ _ _
    .simp (disch:=first|omega|rfl) only[go_sem,jac,eq_true hlt,hix,ja5,hlate,eA,xA,nA,yF,yX,wf,eB,zA,zX,xB2,wc,c1]
     refine tail _ _ _ _ _ _ _ _ _ _ _ _ _ _ (fun hj x3 x4 x5 x6 x7 x8 x9 x11 o n g=>?_)
     simp(disch:=first|omega|rfl) only[go_sem,jac,hs]
     exact fin _ _ _ _ _ _ _ _ _ _ hj o n g _ _ _ _ _ _
theorem qhr {h:Hp} (ok:Ok h) {f:Fc} {x:Ms.Ins} {m:Nat×Nat} (k:InsOk m f.values x):WC F4 57 [.agg [jae jat f.values,jae ja0 f.blocks],.agg [si x.op,jae ja5 x.ops,jae jcr x.spoils]] h (fun v h'=>∃ d,jgm true h' d v=some (vb false)):=by
 refine jba (no4 rfl rfl rfl rfl) qr1 rfl ?_
 unfold qdw
 obtain⟨hA,eA,okA,nA,xA,gA⟩:=jei ok [jae jat f.values,jae ja0 f.blocks] 26
 obtain⟨hB,eB,okB,nB,xB,gB⟩:=jei okA [si x.op,jae ja5 x.ops,jae jcr x.spoils] 57
 have yA:=(gB _ (by omega)).trans xA
 rw[nA] at xB
 have l1:=jah (enc:=ja5) (l:=x.ops)
 simp(disch:=first|omega|rfl) only[go_sem,eA,eB,nA,xB,l1]
 refine j82 k x.ops.length 0 (by omega) okB ⟨by omega,by omega⟩ yA xB (fun hj x3 x4 x5 x6 x7 x8 x9 x10 x11 x12 x13 x14 x15 x16 x17 x18 x19 x22=>?_)
 simp(disch:=first|omega|rfl) only[go_sem]
 exact⟨1,rfl⟩
end Go.Proofs.Ytalbjjoppndjjaa.Ev
