/- What functions may be: small checks: fixed registers, a register among others, registers that are needed. -/
import Derived.Test.YtdbklpgagdbpiaaDoorSb
namespace Go.Proofs.YtdbklpgagdbpiaaDoor.Ev
open Go Go.RowKit Go.Proofs.YtdbklpgagdbpiaaDoor.Ms
attribute [local go_sem] Int.reduceToNat reduceCtorEq Nat.reduceAdd Nat.reduceMul Nat.reduceEqDiff Int.reduceEq Int.reduceLT Int.reduceLE Int.reduceNeg Int.reduceAdd Int.reduceSub Int.reduceMul Int.reduceNe
attribute [local go_sem ↓] reduceIte
set_option linter.all false
set_option maxRecDepth 100000
set_option maxHeartbeats 2000000
variable {x0 x1 x2 x15 x16:AV} {hi:Hp} {v bF bO bP bR bX:Nat}
def qsu:Option (Nat×Nat)->AV
 | none=>.tup [(true,[si 0,si 0]),(false,[.bool false])]
 | some r=>.tup [(true,[si r.1,si r.2]),(false,[.bool true])]
theorem j37 (ok:Ok hi) {f:Fc} {s:Ms.Opd} (h2:s.value<f.values.length) (p1:1<=bR) (xF:hi.get bF=some (.arr [jae jaz f.values,jae ja3 f.blocks] 29)) (xO:hi.get bO=some (.arr [si s.kind,si s.value,.bool s.late,si s.limit,si s.n] 73)) (xR:hi.get bR=some (.arr [si 0,si 0] 76)) {x6 x7 x8:AV} :
 W F3 jv0 (.mk [x0,x1,x2,vb false,.s (.ptr bF 0),.s (.ptr bR 0),x6,x7,x8,.s (.ptr bO 0)] hi) (qc5 [(.cell 5 2 true),(.tmp 3)] (fun v h'=>∃ d,jhz true h' d v=some (qsu (if s.limit=4 then some (cl f.values s.value,s.n) else none)))):=by
 have ix:=jah (enc:=jaz) (size:=1) (jrh h2) rfl
 unfold jv0
 by_cases e:s.limit=4
 .have c1:((s.limit:Int)≠4)=False:=by simp;omega
  rw[if_pos e]
  simp(disch:=first|omega|rfl) only[go_sem,xO,c1]
  unfold j3x j3w
  simp(disch:=first|omega|rfl) only[go_sem,xF,xO,ix,jaz,xR]
  exact⟨1,rfl⟩
 .have c1:((s.limit:Int)≠4)=True:=by simp;omega
  rw[if_neg e]
  simp(disch:=first|omega|rfl) only[go_sem,xO,c1,xR]
  exact⟨1,rfl⟩
theorem qj6 {h:Hp} (ok:Ok h) {f:Fc} {x:Ms.Ins} {o:Ms.Opd} (h1:o.limit=5->∃ u,x.ops[o.n]?=some u/\u.value<f.values.length) (h2:o.value<f.values.length) :
 WC F3 66 [.agg [jae jaz f.values,jae ja3 f.blocks],.agg [si x.op,jae jbi x.ops,jae jds x.spoils],.agg [si o.kind,si o.value,.bool o.late,si o.limit,si o.n]] h (fun v h'=>∃ d,jhz true h' d v=some (qsu (ji7 f.values x.ops o))):=by
 refine ja9 (no3 rfl rfl rfl) qqg rfl ?_
 unfold j9w
 have hp:=ok.pos
 obtain⟨hA,eA,okA,nA,xA,gA⟩:=je0 ok [jae jaz f.values,jae ja3 f.blocks] 29
 obtain⟨hB,eB,okB,nB,xB,gB⟩:=je0 okA [si x.op,jae jbi x.ops,jae jds x.spoils] 59
 obtain⟨hC,eC,okC,nC,xC,gC⟩:=je0 okB [si o.kind,si o.value,.bool o.late,si o.limit,si o.n] 73
 obtain⟨hD,eD,okD,nD,xD,gD⟩:=je0 okC [.int .i64 0,.int .i64 0] 76
 have yA:=(gD _ (by omega)).trans ((gC _ (by omega)).trans ((gB _ (by omega)).trans xA))
 have yB:=(gD _ (by omega)).trans ((gC _ (by omega)).trans xB)
 have yC:=(gD _ (by omega)).trans xC
 have nb:hB.next=h.next+2:=by omega
 have nc:hC.next=h.next+3:=by omega
 rw[nA] at yB
 rw[nb] at yC
 rw[nc] at xD
 by_cases e:o.limit=5
 .obtain ⟨u,hu,hul⟩:=h1 e
  have c1:((o.limit:Int)=5)=True:=by simp;omega
  have ix:=jah (enc:=jbi) (size:=5) hu rfl
  have es:ji7 f.values x.ops o=if u.limit=4 then some (cl f.values u.value,u.n) else none:=by
   unfold ji7 qfg
   rw[if_pos e,f0f,hu];rfl
  rw[es]
  obtain⟨hE,eE⟩:∃ hE,hD.put (h.next+2) (some (.arr [si u.kind,si u.value,.bool u.late,si u.limit,si u.n] 73))=hE:=⟨_,rfl⟩
  have okE:Ok hE:=by rw[←eE];exact jas okD
  have zA:hE.get h.next=some (.arr [jae jaz f.values,jae ja3 f.blocks] 29):=by rw[←eE,jak okD (by omega),if_neg (by omega)];exact yA
  have zC:hE.get (h.next+2)=some (.arr [si u.kind,si u.value,.bool u.late,si u.limit,si u.n] 73):=by rw[←eE,jak okD (by omega),if_pos rfl]
  have zD:hE.get (h.next+3)=some (.arr [si 0,si 0] 76):=by rw[←eE,jak okD (by omega),if_neg (by omega)];exact xD
  simp(disch:=first|omega|rfl) only[go_sem,eA,eB,eC,eD,nA,nb,nc,yA,yB,yC,c1,ix,jbi,eE]
  exact j37 okE hul (by omega) zA zC zD
 .have c1:((o.limit:Int)=5)=False:=by simp;omega
  have es:ji7 f.values x.ops o=if o.limit=4 then some (cl f.values o.value,o.n) else none:=by
   unfold ji7 qfg
   rw[if_neg e]
  rw[es]
  simp(disch:=first|omega|rfl) only[go_sem,eA,eB,eC,eD,nA,nb,nc,yA,yB,yC,c1]
  exact j37 okD h2 (by omega) yA yC xD
theorem j38 {l:List (Nat×Nat)} {r:Nat×Nat} (hr:r∉l) {br:Nat} {Q:Ex->St->Prop} :
 ∀ (d i:Nat) (_:i+d=l.length) {hi:Hp} (_:Ok hi) (_:l.length<=10000) (_:hi.get br=some (.arr [si r.1,si r.2] 76)) {x2 x3 x4 x6:AV}
  (hQ:∀ hj x2 x3 x4 x6,Q (.exit 0) (.mk [.s (jae jds l),x1,x2,x3,x4,.s (.ptr br 0),x6,vi l.length,vi l.length] hj)),
  W F3 jog.loop (.mk [.s (jae jds l),x1,x2,x3,x4,.s (.ptr br 0),x6,vi l.length,vi i] hi) Q
 | 0,i,hd,hi,ok,hl,xb,x2,x3,x4,x6,hQ=>by
  obtain rfl:i=l.length:=by omega
  rw[jaj]
  unfold jog
  simp(disch:=first|omega|rfl) only[go_sem,f0s]
  exact hQ hi ..
 | d+1,i,hd,hi,ok,hl,xb,x2,x3,x4,x6,hQ=>by
  have hlt:(i:Int)<l.length:=by omega
  obtain⟨⟨c,n⟩,hget⟩:∃ x,l[i]?=some x:=⟨_,f0b (by omega)⟩
  have hix:=jah (enc:=jds) (size:=2) hget rfl
  have hs:(i:Int)+1=((i+1:Nat):Int):=by omega
  have hne:((r.1:Int)=(c:Int)/\(r.2:Int)=(n:Int))=False:=eq_false (fun h=>hr (by
   have e:r=(c,n):=by
    obtain⟨a,b⟩:=r
    simp only at h;simp;omega
   rw[e];exact f0c hget))
  have hne':((c:Int)=(r.1:Int)/\(n:Int)=(r.2:Int))=False:=by
   rw[show((c:Int)=(r.1:Int)/\(n:Int)=(r.2:Int))=((r.1:Int)=(c:Int)/\(r.2:Int)=(n:Int)) from propext ⟨fun h=>⟨h.1.symm,h.2.symm⟩,fun h=>⟨h.1.symm,h.2.symm⟩⟩]
   exact hne
  rw[jaj]
  unfold jog j35 j34
  simp(disch:=first|omega|rfl) only[go_sem,jad,eq_true hlt,hix,jds,xb,jtc,qst,hne,hne',hs]
  exact j38 hr d (i+1) (by omega) ok hl xb hQ
theorem qj7 {h:Hp} (ok:Ok h) {l:List (Nat×Nat)} {r:Nat×Nat} (hr:r∉l) (hl:l.length<=10000):WC F3 74 [.s (jae jds l),.agg [si r.1,si r.2]] h (fun v h'=>v=vi (-1)):=by
 refine ja9 (no3 rfl rfl rfl) qqj rfl ?_
 unfold qao
 obtain⟨hA,eA,okA,nA,xA,gA⟩:=je0 ok [si r.1,si r.2] 76
 have l1:=jag (enc:=jds) (l:=l)
 simp(disch:=first|omega|rfl) only[go_sem,eA,xA,l1]
 refine j38 hr l.length 0 (by omega) okA hl xA (fun hj x2 x3 x4 x6=>?_)
 simp(disch:=first|omega|rfl) only[go_sem]
theorem qj8 {h:Hp} (ok:Ok h) {l:List (Nat×Nat)} {r:Nat×Nat} (hr:r∉l) (hl:l.length<=10000):WC F3 67 [.s (jae jds l),.agg [si r.1,si r.2]] h (fun v h'=>∃ d,jhz true h' d v=some (vb false)):=by
 refine ja9 (no3 rfl rfl rfl) quk rfl ?_
 unfold qf5
 obtain⟨hA,eA,okA,nA,xA,gA⟩:=je0 ok [si r.1,si r.2] 76
 simp(disch:=first|omega|rfl) only[go_sem,eA,xA]
 refine WC.imp (qj7 okA hr hl) (fun v h' e=>?_)
 subst e
 simp(disch:=first|omega|rfl) only[go_sem]
 exact⟨1,rfl⟩
theorem qd6 {l:List (Nat×Nat)} {c:Nat} {x0 x1 x2 x4 x5 x6 x7 x8 x9 x10 x11 x12 x20:AV} {Q:Ex->St->Prop} (hl:l.length<=10000) :
 ∀ (d i:Nat) (_:i+d=l.length) {hi:Hp} (_:Ok hi) {x14 x15 x17:AV}
  (hQ:∀ hj x14 x15 x17,Ok hj->hi.next<=hj.next->(∀ k,k<hi.next->hj.get k=hi.get k)->Q (.exit 0) (.mk [x0,x1,x2,vi c,x4,x5,x6,x7,x8,x9,x10,x11,x12,vi (l.countP (fun r=>decide (r.1=c))),x14,x15,.s (jae jds l),x17,vi l.length,vi l.length,x20] hj)),
  W F3 j3y.loop (.mk [x0,x1,x2,vi c,x4,x5,x6,x7,x8,x9,x10,x11,x12,vi ((l.take i).countP (fun r=>decide (r.1=c))),x14,x15,.s (jae jds l),x17,vi l.length,vi i,x20] hi) Q
 | 0,i,hd,hi,ok,x14,x15,x17,hQ=>by
  obtain rfl:i=l.length:=by omega
  rw[jaj,f2e]
  unfold j3y
  simp(disch:=first|omega|rfl) only[go_sem,f0s]
  exact hQ hi _ _ _ ok (f0d _) (fun _ _=>rfl)
 | d+1,i,hd,hi,ok,x14,x15,x17,hQ=>by
  have hlt:(i:Int)<l.length:=by omega
  have hil:i<l.length:=by omega
  obtain⟨x,hget⟩:∃ x,l[i]?=some x:=⟨_,f0b hil⟩
  have hix:=jah (enc:=jds) (size:=2) hget rfl
  have hs:(i:Int)+1=((i+1:Nat):Int):=by omega
  have hcnt:(l.take (i+1)).countP (fun r=>decide (r.1=c))=(l.take i).countP (fun r=>decide (r.1=c))+if x.1=c then 1 else 0:=by
   rw[f0b hil] at hget
   rw[List.take_succ_eq_append_getElem hil,List.countP_append,Option.some.inj hget,List.countP_singleton]
   by_cases h:x.1=c<;>simp[h]
  have hle:(l.take i).countP (fun r=>decide (r.1=c))<=10000:=f01 List.countP_le_length (by rw[f10];omega)
  obtain⟨hA,eA,okA,nA,xA,gA⟩:=jc2 ok [.int .i64 0,.int .i64 0] (jds x) 76
  unfold jds at xA eA
  rw[jaj]
  unfold j3y qfz
  by_cases e:x.1=c
  .have c1:((x.1:Int)=(c:Int))=True:=by simp;omega
   rw[if_pos e] at hcnt
   have hadd:(((l.take i).countP (fun r=>decide (r.1=c)):Nat):Int)+1=(((l.take (i+1)).countP (fun r=>decide (r.1=c)):Nat):Int):=by omega
   simp(disch:=first|omega|rfl) only[go_sem,jad,eq_true hlt,hix,jds,eA,xA,c1,hadd,hs]
   exact qd6 hl d (i+1) (by omega) okA (fun hj x14 x15 x17 o n g=>hQ hj x14 x15 x17 o (by omega) (fun k hk=>(g k (by omega)).trans (gA k hk)))
  .have c1:((x.1:Int)=(c:Int))=False:=by simp;omega
   rw[if_neg e] at hcnt
   have hadd:(l.take i).countP (fun r=>decide (r.1=c))=(l.take (i+1)).countP (fun r=>decide (r.1=c)):=by omega
   simp(disch:=first|omega|rfl) only[go_sem,jad,eq_true hlt,hix,jds,eA,xA,c1,hs]
   rw[hadd]
   exact qd6 hl d (i+1) (by omega) okA (fun hj x14 x15 x17 o n g=>hQ hj x14 x15 x17 o (by omega) (fun k hk=>(g k (by omega)).trans (gA k hk)))
theorem qf8 {f:Fc} {l:List Ms.Opd} {c n0:Nat} {x4 x5 x14 x17 x18 x19 x20:AV} {Q:Ex->St->Prop} (hl:l.length<=10000) (hn:n0<=10000) (hv:∀ o∈l,o.value<f.values.length) :
 ∀ (d i:Nat) (_:i+d=l.length) {hi:Hp} (_:Ok hi) (_:bF<hi.next) (_:hi.get bF=some (.arr [jae jaz f.values,jae ja3 f.blocks] 29)) {x6 x7 x10:AV}
  (hQ:∀ hj x6 x7 x10,Ok hj->hi.next<=hj.next->(∀ k,k<hi.next->hj.get k=hi.get k)->Q (.exit 2) (.mk [x0,x1,x2,vi c,x4,x5,x6,x7,.s (.ptr bF 0),.s (jae jbi l),x10,vi l.length,vi l.length,vi (n0+l.countP (jc5 f.values c):Nat),x14,x15,x16,x17,x18,x19,x20] hj)),
  W F3 jyo.loop (.mk [x0,x1,x2,vi c,x4,x5,x6,x7,.s (.ptr bF 0),.s (jae jbi l),x10,vi l.length,vi i,vi (n0+(l.take i).countP (jc5 f.values c):Nat),x14,x15,x16,x17,x18,x19,x20] hi) Q
 | 0,i,hd,hi,ok,hb,xF,x6,x7,x10,hQ=>by
  obtain rfl:i=l.length:=by omega
  rw[jaj,f2e]
  unfold jyo
  simp(disch:=first|omega|rfl) only[go_sem,f0s]
  exact hQ hi _ _ _ ok (f0d _) (fun _ _=>rfl)
 | d+1,i,hd,hi,ok,hb,xF,x6,x7,x10,hQ=>by
  have hlt:(i:Int)<l.length:=by omega
  have hil:i<l.length:=by omega
  obtain⟨o,hget⟩:∃ x,l[i]?=some x:=⟨_,f0b hil⟩
  have hov:=hv o (f0c hget)
  have hix:=jah (enc:=jbi) (size:=5) hget rfl
  have iv:=jah (enc:=jaz) (size:=1) (jrh hov) rfl
  have hs:(i:Int)+1=((i+1:Nat):Int):=by omega
  have hcnt:(l.take (i+1)).countP (jc5 f.values c)=(l.take i).countP (jc5 f.values c)+if jc5 f.values c o=true then 1 else 0:=by
   rw[f0b hil] at hget
   rw[List.take_succ_eq_append_getElem hil,List.countP_append,Option.some.inj hget,List.countP_singleton]
  have hle:(l.take i).countP (jc5 f.values c)<=10000:=f01 List.countP_le_length (by rw[f10];omega)
  obtain⟨hA,eA,okA,nA,xA,gA⟩:=jc2 ok [.int .i64 0,.int .i64 0,.bool false,.int .i64 0,.int .i64 0] (jbi o) 73
  have yF:=(gA _ hb).trans xF
  have hrec:∀ {x6 x7 x10:AV},W F3 jyo.loop (.mk [x0,x1,x2,vi c,x4,x5,x6,x7,.s (.ptr bF 0),.s (jae jbi l),x10,vi l.length,vi (i+1:Nat),vi (n0+(l.take (i+1)).countP (jc5 f.values c):Nat),x14,x15,x16,x17,x18,x19,x20] hA) Q:=fun {x6 x7 x10} =>
   qf8 hl hn hv d (i+1) (by omega) okA (by omega) yF (fun hj x6 x7 x10 o n g=>hQ hj x6 x7 x10 o (by omega) (fun k hk=>(g k (by omega)).trans (gA k hk)))
  have hno:jc5 f.values c o=false->n0+(l.take i).countP (jc5 f.values c)=n0+(l.take (i+1)).countP (jc5 f.values c):=fun h=>by rw[hcnt,h];simp
  unfold jbi at xA eA
  rw[jaj]
  unfold jyo qf0
  by_cases e1:cl f.values o.value=c
  .have c1:((cl f.values o.value:Int)=(c:Int))=True:=by simp;omega
   by_cases e2:o.limit=1
   .have c2:((o.limit:Int)≠1)=False:=by simp;omega
    simp(disch:=first|omega|rfl) only[go_sem,jad,eq_true hlt,hix,jbi,eA,xA,yF,iv,jaz,c1,c2,hs]
    rw[hno (by unfold jc5;simp[e2])]
    exact hrec
   .have c2:((o.limit:Int)≠1)=True:=by simp;omega
    by_cases e3:o.limit=3
    .have c3:((o.limit:Int)≠3)=False:=by simp;omega
     simp(disch:=first|omega|rfl) only[go_sem,jad,eq_true hlt,hix,jbi,eA,xA,yF,iv,jaz,c1,c2,c3,hs]
     rw[hno (by unfold jc5;simp[e3])]
     exact hrec
    .have c3:((o.limit:Int)≠3)=True:=by simp;omega
     have hadd:((n0+(l.take i).countP (jc5 f.values c):Nat):Int)+1=((n0+(l.take (i+1)).countP (jc5 f.values c):Nat):Int):=by
      rw[hcnt,if_pos (by unfold jc5;simp[e1,e2,e3])];omega
     simp(disch:=first|omega|rfl) only[go_sem,jad,eq_true hlt,hix,jbi,eA,xA,yF,iv,jaz,c1,c2,c3,hs,hadd]
     exact hrec
  .have c1:((cl f.values o.value:Int)=(c:Int))=False:=by simp;omega
   simp(disch:=first|omega|rfl) only[go_sem,jad,eq_true hlt,hix,jbi,eA,xA,yF,iv,jaz,c1,hs]
   rw[hno (by unfold jc5;simp[e1])]
   exact hrec
theorem qqo {h:Hp} (ok:Ok h) {f:Fc} {m:Nat×Nat} {x:Ms.Ins} {c:Nat} (hc:c<2) (k:InsOk m f.values x):WC F3 55 [.agg [jae jaz f.values,jae ja3 f.blocks],.agg [si m.1,si m.2],.agg [si x.op,jae jbi x.ops,jae jds x.spoils],vi c] h (fun v h'=>∃ d,jhz true h' d v=some (vb true)):=by
 refine ja9 (no3 rfl rfl rfl) qw9 rfl ?_
 unfold qqh
 have k1:=k.nops
 have k2:=k.nsp
 obtain⟨hA,eA,okA,nA,xA,gA⟩:=je0 ok [jae jaz f.values,jae ja3 f.blocks] 29
 obtain⟨hB,eB,okB,nB,xB,gB⟩:=je0 okA [si m.1,si m.2] 25
 obtain⟨hC,eC,okC,nC,xC,gC⟩:=je0 okB [si x.op,jae jbi x.ops,jae jds x.spoils] 59
 have yA:=(gC _ (by omega)).trans ((gB _ (by omega)).trans xA)
 have yB:=(gC _ (by omega)).trans xB
 have nb:hB.next=h.next+2:=by omega
 rw[nA] at yB
 rw[nb] at xC
 have l1:=jag (enc:=jds) (l:=x.spoils)
 have l2:=jag (enc:=jbi) (l:=x.ops)
 simp(disch:=first|omega|rfl) only[go_sem,eA,eB,eC,nA,nb,xC,l1]
 have h1:=@qd6 x.spoils c
 refine qd6 (l:=x.spoils) (c:=c) (by omega) x.spoils.length 0 (by omega) okC (fun hj x14 x15 x17 o n g=>?_)
 have zA:=(g _ (by omega)).trans yA
 have zB:=(g _ (by omega)).trans yB
 have zC:=(g _ (by omega)).trans xC
 simp(disch:=first|omega|rfl) only[go_sem,zC,l2]
 have hcp:x.spoils.countP (fun r=>decide (r.1=c))<=10000:=f01 List.countP_le_length (by omega)
 refine qf8 (f:=f) (l:=x.ops) (c:=c) (n0:=x.spoils.countP (fun r=>decide (r.1=c))) (by omega) hcp (fun o ho=>(k.opd o ho).val) x.ops.length 0 (by omega) o (by omega) zA (fun hj x6 x7 x10 o n g=>?_)
 have wB:=(g _ (by omega)).trans zB
 have hrd:∃ k,rdB (hj.get (h.next+1)) c 1=some [si (k:Nat)]/\g2 m c=k:=by
  rw[wB]
  have:c=0∨c=1:=by omega
  rcases this with rfl | rfl
  .exact ⟨m.1,rfl,rfl⟩
  .exact ⟨m.2,rfl,rfl⟩
 obtain⟨r,hrd,hr⟩:=hrd
 have hxa:=jc4 (n:=2) (size:=1) (b:=h.next+1) (off:=0) (m:=c) (by omega)
 rw[f0z,f2h] at hxa
 have hlt:=k.need c hc
 rw[hr] at hlt
 have c1:(((x.spoils.countP (fun r=>decide (r.1=c))+x.ops.countP (jc5 f.values c):Nat):Int)<(r:Int))=True:=by simp;omega
 simp(disch:=first|omega|rfl) only[go_sem,hxa,hrd,c1]
 exact⟨1,rfl⟩
theorem ja1:jrx []=true:=rfl
theorem jat {a:AV} {l:List AV}:jrx (a::l)=oif (qoj a) (jrx l) false:=rfl
theorem jbd {l:List SV}:qoj (.agg l)=jy8 l:=rfl
theorem jcw {v:SV}:qoj (.s v)=grd v:=rfl
theorem jbe:jy8 []=true:=rfl
theorem ja2 {a:SV} {l:List SV}:jy8 (a::l)=oif (grd a) (jy8 l) false:=rfl
theorem jbq {k:IntKind} {n:Int}:grd (.int k n)=true:=rfl
theorem jbf {b:Bool}:grd (.bool b)=true:=rfl
def S4 (f:FuncId):Bool:=Nat.beq f 36||(Nat.beq f 37||(Nat.beq f 56||(Nat.beq f 52||(Nat.beq f 53||(Nat.beq f 68||(Nat.beq f 66||(Nat.beq f 55||Nat.beq f 67)))))))
noncomputable def F4:Fns:=PX S4 F3
theorem qxa {A:Nat->Int}:Env Tryd.prog A tys F4:=jhx qw6
theorem no4 {f:FuncId} (h1:S1 f=false) (h2:Nat.beq f jg9.f=false) (h3:S3 f=false) (h4:S4 f=false) {vs:List AV} {h:Hp}:jdx F4 f vs h=none:=(jbk h4).trans (no3 h1 h2 h3)
section
variable {h:Hp} {f:Fc} {m:Nat×Nat} {Q:AV->Hp->Prop}
theorem qf9 (hv:v<f.values.length):jdx F4 56 [.agg [jae jaz f.values,jae ja3 f.blocks],vi v] h=some (vb true,h):=jbm rfl (by simp only[jat,ja1,jbd,jcw,ja2,jbe,jbb,jbq,jbf,jbn,if_true]) (qj3 jex hv)
theorem jj1 (hv:v<f.values.length):WC F4 56 [.agg [jae jaz f.values,jae ja3 f.blocks],vi v] h Q=Q (vb true) h:=jaq (qf9 hv)
end
theorem qj9 {h:Hp} (ok:Ok h) {f:Fc} {m:Nat×Nat} {o:Ms.Opd} (hc:∀ v,cl f.values v<2) (k:OpdOk m f.values o):WC F4 51 [.agg [jae jaz f.values,jae ja3 f.blocks],.agg [si m.1,si m.2],.agg [si o.kind,si o.value,.bool o.late,si o.limit,si o.n]] h (fun v h'=>∃ d,jhz true h' d v=some (vi 0)):=by
 refine ja9 (no4 rfl rfl rfl rfl) qqd rfl ?_
 unfold j9t
 obtain⟨hA,eA,okA,nA,xA,gA⟩:=je0 ok [jae jaz f.values,jae ja3 f.blocks] 29
 obtain⟨hB,eB,okB,nB,xB,gB⟩:=je0 okA [si m.1,si m.2] 25
 obtain⟨hC,eC,okC,nC,xC,gC⟩:=je0 okB [si o.kind,si o.value,.bool o.late,si o.limit,si o.n] 73
 have yA:=(gC _ (by omega)).trans ((gB _ (by omega)).trans xA)
 have yB:=(gC _ (by omega)).trans xB
 have nb:hB.next=h.next+2:=by omega
 rw[nA] at yB
 rw[nb] at xC
 have k1:=k.kind
 have k2:=k.lim
 have k3:=k.val
 have c1:((o.limit:Int)<1)=False:=by simp;omega
 have c2:(5<(o.limit:Int))=False:=by simp;omega
 have kk:((o.kind:Int)≠1)=False∨(((o.kind:Int)≠1)=True/\((o.kind:Int)≠2)=False):=by
  rcases k1 with h | h
  .left;simp;omega
  .right;constructor
   .simp;omega
   .simp;omega
 by_cases e3:o.limit<=3
 .have c3:((o.limit:Int)<=3)=True:=by simp;omega
  have c4:((o.limit:Int)=4)=False:=by simp;omega
  have c5:((o.limit:Int)=5)=False:=by simp;omega
  have c6:((o.n:Int)≠0)=False:=by have:=k.zero e3;simp;omega
  rcases kk with d1 | ⟨d1,d2⟩
  .simp (disch:=first|omega|rfl) only[go_sem,eA,eB,eC,nA,nb,yA,yB,xC,d1,c1,c2]
   unfold ji6 ji5 ji4
   simp(disch:=first|omega|rfl) only[go_sem,yA,yB,xC,c3,c4,c5,c6,jj1 k3]
   exact⟨1,rfl⟩
  .simp (disch:=first|omega|rfl) only[go_sem,eA,eB,eC,nA,nb,yA,yB,xC,d1,d2,c1,c2]
   unfold ji6 ji5 ji4
   simp(disch:=first|omega|rfl) only[go_sem,yA,yB,xC,c3,c4,c5,c6,jj1 k3]
   exact⟨1,rfl⟩
 .have c3:((o.limit:Int)<=3)=False:=by simp;omega
  by_cases e4:o.limit=4
  .have c4:((o.limit:Int)=4)=True:=by simp;omega
   have c5:((o.limit:Int)=5)=False:=by simp;omega
   have hn:=k.fix e4
   have hcl:=hc o.value
   have iv:=jah (enc:=jaz) (size:=1) (jrh k3) rfl
   have hrd:∃ k,rdB (hC.get (h.next+1)) (cl f.values o.value) 1=some [si (k:Nat)]/\g2 m (cl f.values o.value)=k:=by
    rw[yB]
    have:cl f.values o.value=0∨cl f.values o.value=1:=by omega
    rcases this with e | e
    .rw [e];exact⟨m.1,rfl,rfl⟩
    .rw [e];exact⟨m.2,rfl,rfl⟩
   obtain⟨r,hrd,hr⟩:=hrd
   have hxa:=jc4 (n:=2) (size:=1) (b:=h.next+1) (off:=0) (m:=cl f.values o.value) (by omega)
   rw[f0z,f2h] at hxa
   rw[hr] at hn
   have c6:((r:Int)<=(o.n:Int))=False:=by simp;omega
   have c7:((o.n:Int)<0)=False:=by simp
   rcases kk with d1 | ⟨d1,d2⟩
   .simp (disch:=first|omega|rfl) only[go_sem,eA,eB,eC,nA,nb,yA,yB,xC,d1,c1,c2]
    unfold ji6 ji5 ji4
    simp(disch:=first|omega|rfl) only[go_sem,yA,xC,c3,c4,c5,c6,c7,iv,jaz,hxa,hrd,jj1 k3]
    exact⟨1,rfl⟩
   .simp (disch:=first|omega|rfl) only[go_sem,eA,eB,eC,nA,nb,yA,yB,xC,d1,d2,c1,c2]
    unfold ji6 ji5 ji4
    simp(disch:=first|omega|rfl) only[go_sem,yA,xC,c3,c4,c5,c6,c7,iv,jaz,hxa,hrd,jj1 k3]
    exact⟨1,rfl⟩
  .have e5:o.limit=5:=by omega
   have c4:((o.limit:Int)=4)=False:=by simp;omega
   have c5:((o.limit:Int)=5)=True:=by simp;omega
   obtain⟨hk,hlt⟩:=k.reu e5
   have d1:((o.kind:Int)≠1)=True:=by simp;omega
   have d2:((o.kind:Int)≠2)=False:=by simp;omega
   rw[hlt] at eC xC ⊢
   simp(disch:=first|omega|rfl) only[go_sem,eA,eB,eC,nA,nb,yA,yB,xC,d1,d2,c1,c2]
   unfold ji6 ji5 ji4
   simp(disch:=first|omega|rfl) only[go_sem,yA,yB,xC,c3,c4,c5,d2,jj1 k3]
   exact⟨1,rfl⟩
theorem j39 {f:Fc} {args ps:List Nat} (hl:args.length<=10000) (ha:∀ v∈args,v<f.values.length) (hp:∀ v∈ps,v<f.values.length) (hcl:ps.map (cl f.values)=args.map (cl f.values)) {x11 x13:AV} {Q:Ex->St->Prop} :
 ∀ (d i:Nat) (_:i+d=args.length) {hi:Hp} (_:Ok hi) (_:hi.get bF=some (.arr [jae jaz f.values,jae ja3 f.blocks] 29)) {x3 x4 x5 x6 x8:AV}
  (hQ:∀ hj x3 x4 x5 x6 x8,Q (.exit 0) (.mk [x0,x1,x2,x3,x4,x5,x6,.s (jae jaz args),x8,vi args.length,vi args.length,x11,.s (jae jaz ps),x13,.s (.ptr bF 0),x15] hj)),
  W F4 jof.loop (.mk [x0,x1,x2,x3,x4,x5,x6,.s (jae jaz args),x8,vi args.length,vi i,x11,.s (jae jaz ps),x13,.s (.ptr bF 0),x15] hi) Q
 | 0,i,hd,hi,ok,xF,x3,x4,x5,x6,x8,hQ=>by
  obtain rfl:i=args.length:=by omega
  rw[jaj]
  unfold jof
  simp(disch:=first|omega|rfl) only[go_sem,f0s]
  exact hQ hi ..
 | d+1,i,hd,hi,ok,xF,x3,x4,x5,x6,x8,hQ=>by
  have hlt:(i:Int)<args.length:=by omega
  have hpl:ps.length=args.length:=by have:=congrArg List.length hcl;simpa using this
  obtain⟨v,hget⟩:∃ x,args[i]?=some x:=⟨_,f0b (by omega)⟩
  obtain⟨u,hpet⟩:∃ x,ps[i]?=some x:=⟨_,f0b (by omega)⟩
  have hv:=ha v (f0c hget)
  have hu:=hp u (f0c hpet)
  have huv:cl f.values u=cl f.values v:=by
   have:=congrArg (fun l=>l[i]?) hcl
   simp only[f09,hget,hpet,f1p,Option.some.injEq] at this
   exact this
  have hix:=jah (enc:=jaz) (size:=1) hget rfl
  have hipx:=jah (enc:=jaz) (size:=1) hpet rfl
  have iv:=jah (enc:=jaz) (size:=1) (jrh hv) rfl
  have iu:=jah (enc:=jaz) (size:=1) (jrh hu) rfl
  have hs:(i:Int)+1=((i+1:Nat):Int):=by omega
  have c1:((cl f.values u:Int)≠(cl f.values v:Int))=False:=by simp;omega
  rw[jaj]
  unfold jof j31 j30 j3z
  simp(disch:=first|omega|rfl) only[go_sem,jad,eq_true hlt,hix,hipx,iv,iu,jaz,xF,jj1 hv,jj1 hu,c1,hs]
  exact j39 hl ha hp hcl d (i+1) (by omega) ok xF hQ
theorem qka {h:Hp} (ok:Ok h) {f:Fc} {e:Ms.Edg} (k:jr3 f.values f.blocks e) (hl:e.args.length<=10000):WC F4 39 [.agg [jae jaz f.values,jae ja3 f.blocks],.agg [si e.block,jae jaz e.args]] h (fun v h'=>∃ d,jhz true h' d v=some (vi 0)):=by
 obtain⟨k1,k2,t,k3,k4,k5⟩:=k
 refine ja9 (no4 rfl rfl rfl rfl) qqi rfl ?_
 unfold j98
 obtain⟨hA,eA,okA,nA,xA,gA⟩:=je0 ok [jae jaz f.values,jae ja3 f.blocks] 29
 obtain⟨hB,eB,okB,nB,xB,gB⟩:=je0 okA [si e.block,jae jaz e.args] 62
 have yA:=(gB _ (by omega)).trans xA
 rw[nA] at xB
 have hlt:e.block<f.blocks.length:=by
  rcases f0h e.block f.blocks.length with h7 | h7
  .exact h7
  .rw [f0p h7] at k3;cases k3
 have hpl:t.params.length=e.args.length:=by have:=congrArg List.length k4;simpa using this
 have c1:((e.block:Int)<1)=False:=by simp;omega
 have c2:((f.blocks.length:Int)<=(e.block:Int))=False:=by simp;omega
 have c3:((e.args.length:Int)≠(t.params.length:Int))=False:=by simp;omega
 have ix:=jah (enc:=ja3) (size:=3) k3 rfl
 have l1:=jag (enc:=ja3) (l:=f.blocks)
 have l2:=jag (enc:=jaz) (l:=e.args)
 have l3:=jag (enc:=jaz) (l:=t.params)
 simp(disch:=first|omega|rfl) only[go_sem,eA,eB,nA,yA,xB,c1,c2,l1]
 unfold j33 j32
 simp(disch:=first|omega|rfl) only[go_sem,yA,xB,ix,ja3,c3,l2,l3]
 refine j39 hl k2 k5 k4 e.args.length 0 (by omega) okB yA (fun hj x3 x4 x5 x6 x8=>?_)
 simp(disch:=first|omega|rfl) only[go_sem]
 exact⟨1,rfl⟩
section
variable {h:Hp} {f:Fc} {m:Nat×Nat} {Q:AV->Hp->Prop}
theorem qar {op vl lm n kd:Nat} {lt:Bool} {ops:List Ms.Opd} {sp:List (Nat×Nat)} (h1:lm=5->∃ u,ops[n]?=some u/\u.value<f.values.length) (h2:vl<f.values.length):WC F4 66 [.agg [jae jaz f.values,jae ja3 f.blocks],.agg [si op,jae jbi ops,jae jds sp],.agg [si kd,si vl,.bool lt,si lm,si n]] h Q=Q (qsu (ji7 f.values ops ⟨kd,vl,lt,lm,n⟩)) h :=
 jaq (jbm rfl (by simp only[jat,ja1,jbd,jcw,ja2,jbe,jbb,jbq,jbf,jbn,if_true]) (qj6 (x:=⟨op,ops,sp⟩) (o:=⟨kd,vl,lt,lm,n⟩) jex h1 h2))
theorem qkb {l:List (Nat×Nat)} {a b:Nat} (hr:(a,b)∉l) (hl:l.length<=10000):WC F4 67 [.s (jae jds l),.agg [si a,si b]] h Q=Q (vb false) h :=
 jaq (jbm rfl (by simp only[jat,ja1,jbd,jcw,ja2,jbe,jbb,jbq,jbf,jbn,if_true]) (qj8 (r:=(a,b)) jex hr hl))
theorem qd7 {kd vl lm n ukd uvl ulm un:Nat} {lt ult:Bool} (ha:kd=1∨kd=2) (hb:ukd=1∨ukd=2):∃ b,∀ h Q,WC F4 68 [.agg [si kd,si vl,.bool lt,si lm,si n],.agg [si ukd,si uvl,.bool ult,si ulm,si un]] h Q=Q (vb b) h:=by
 obtain⟨n1,v,h',h1,b,d,h2⟩:=qd5 (vl:=vl) (lm:=lm) (n:=n) (uvl:=uvl) (ulm:=ulm) (un:=un) (lt:=lt) (ult:=ult) jex ha hb
 exact⟨b,fun h Q=>jaq (jbm rfl (by simp only[jat,ja1,jbd,jcw,ja2,jbe,jbb,jbq,jbf,jbn,if_true]) ⟨n1,v,h',h1,d,h2⟩)⟩
end
def jn2 (l:List Ms.Opd) (i:Nat):SV:=.lst ((l.map jbi).take i)
theorem qd8 {l:List Ms.Opd} {i:Nat} (hi:i<l.length):qss 5 (some (.s (jae jbi l))) (some (vi (i:Int)))=some (.s (jn2 l i)):=by
 cases l with
 | nil=>simp at hi
 | cons a l =>
  show oif (Nat.ble i (jb2 ((a::l).map jbi))) (oif (Nat.ble 0 i) (oif (j6d 5 ((a::l).map jbi)) (ob (jbp (Nat.sub i 0) (jb4 0 ((a::l).map jbi))) (fun r=>some (AV.s (.lst r)))) none) none) none=_
  have h1:jb2 ((a::l).map jbi)=(a::l).length:=by rw[ja7,f1d]
  have h2:Nat.ble i (jb2 ((a::l).map jbi))=true:=f3d (by rw[h1];omega)
  have h3:jbp (Nat.sub i 0) (jb4 0 ((a::l).map jbi))=some (((a::l).map jbi).take i):=(ja5 _).2 ⟨by show i<=(jb4 0 ((a::l).map jbi)).length;rw[jb8,f11,f1d];omega,by rw[jb8];rfl⟩
  rw[h2,h3]
  rfl
theorem qas {l:List Ms.Opd} {i:Nat} (hi:i<l.length):j0b (.s (jn2 l i))=some (vi i):=by
 unfold jn2
 rw[jky,f10,f1d,Nat.min_eq_left (by omega)]
theorem qat {l:List Ms.Opd} {i j:Nat} {o:Ms.Opd} (hj:j<i) (h:l[j]?=some o):jza 5 (.s (jn2 l i)) (vi (j:Int))=some (.s (.cp (jbi o))):=by
 unfold jn2
 exact j2x (by rw[f15,if_pos hj,f09,h];rfl) rfl
def qkc:IC->IC
 | .seq a b=>a
 | c=>c
def qkd:IC->IC
 | .seq a b=>b
 | c=>c
def qd9 (i j:Nat) (o p:Ms.Opd):Bool:=(decide (o.limit=5)&&decide (o.n=j))||(decide (p.limit=5)&&decide (p.n=i))
theorem qke {o p:Ms.Opd} {i j:Nat} (xO:hi.get bO=some (.arr [si o.kind,si o.value,.bool o.late,si o.limit,si o.n] 73)) (xP:hi.get bP=some (.arr [si p.kind,si p.value,.bool p.late,si p.limit,si p.n] 73))
 {x0 x1 x2 x3 x4 x5 x6 x8 x10 x11 x12 x13 x15 x16 x17 x18 x20 x21 x22 x23 x24 x25:AV} {K:Ex->St->Prop} (hK:K .normal (.mk [x0,x1,x2,x3,vb (qd9 i j o p),x5,x6,vi j,x8,.s (.ptr bP 0),x10,x11,x12,x13,vi i,x15,x16,x17,x18,.s (.ptr bO 0),x20,x21,x22,x23,x24,x25] hi)) :
 W F4 (qkc jhs) (.mk [x0,x1,x2,x3,x4,x5,x6,vi j,x8,.s (.ptr bP 0),x10,x11,x12,x13,vi i,x15,x16,x17,x18,.s (.ptr bO 0),x20,x21,x22,x23,x24,x25] hi) K:=by
 have right:∀ (c:Prop) [Decidable c],(decide (p.limit=5)&&decide (p.n=i))=decide c->True:=fun _ _ _=>trivial
 unfold jhs
 simp only[qkc]
 unfold qd9 at hK
 by_cases e1:o.limit=5
 .have c1:((o.limit:Int)=5)=True:=by simp;omega
  by_cases e2:o.n=j
  .have c2:((o.n:Int)=(j:Int))=True:=by simp;omega
   simp only[e1,e2,decide_true,f3f,Bool.true_or] at hK
   simp(disch:=first|omega|rfl) only[go_sem,xO,xP,c1,c2]
   exact hK
  .have c2:((o.n:Int)=(j:Int))=False:=by simp;omega
   by_cases e3:p.limit=5
   .have c3:((p.limit:Int)=5)=True:=by simp;omega
    by_cases e4:p.n=i
    .have c4:((p.n:Int)=(i:Int))=True:=by simp;omega
     simp only[e1,e2,e3,e4,decide_true,decide_false,f3f,f3g,f29] at hK
     simp(disch:=first|omega|rfl) only[go_sem,xO,xP,c1,c2,c3,c4]
     exact hK
    .have c4:((p.n:Int)=(i:Int))=False:=by simp;omega
     simp only[e1,e2,e3,e4,decide_true,decide_false,f3f,f3g,f29] at hK
     simp(disch:=first|omega|rfl) only[go_sem,xO,xP,c1,c2,c3,c4]
     exact hK
   .have c3:((p.limit:Int)=5)=False:=by simp;omega
    simp only[e1,e2,e3,decide_true,decide_false,f3f,f3g,Bool.false_and,f29] at hK
    simp(disch:=first|omega|rfl) only[go_sem,xO,xP,c1,c2,c3]
    exact hK
 .have c1:((o.limit:Int)=5)=False:=by simp;omega
  by_cases e3:p.limit=5
  .have c3:((p.limit:Int)=5)=True:=by simp;omega
   by_cases e4:p.n=i
   .have c4:((p.n:Int)=(i:Int))=True:=by simp;omega
    simp only[e1,e3,e4,decide_true,decide_false,f3f,f3g,Bool.false_and,f29] at hK
    simp(disch:=first|omega|rfl) only[go_sem,xO,xP,c1,c3,c4]
    exact hK
   .have c4:((p.n:Int)=(i:Int))=False:=by simp;omega
    simp only[e1,e3,e4,decide_true,decide_false,f3f,f3g,Bool.false_and,f29] at hK
    simp(disch:=first|omega|rfl) only[go_sem,xO,xP,c1,c3,c4]
    exact hK
  .have c3:((p.limit:Int)=5)=False:=by simp;omega
   simp only[e1,e3,decide_true,decide_false,f3f,f3g,Bool.false_and,f29] at hK
   simp(disch:=first|omega|rfl) only[go_sem,xO,xP,c1,c3]
   exact hK
def qea:Option (Nat×Nat)->List SV
 | none=>[si 0,si 0]
 | some r=>[si r.1,si r.2]
theorem j4a (x:Option (Nat×Nat)):∃ a b:Nat,qea x=[si a,si b]:=by
 cases x with
 | none=>exact⟨0,0,rfl⟩
 | some r=>exact⟨r.1,r.2,rfl⟩
theorem qau {x:Option (Nat×Nat)} {a b:Nat} (h:qea x=[si a,si b]):qsu x=.tup [(true,[si a,si b]),(false,[.bool x.isSome])]:=by
 rw[←h];cases x<;>rfl
theorem qeb {o p:Ms.Opd} {fo fp:Option (Nat×Nat)} {same:Bool} {bQ:Nat} (ko:o.kind=1∨o.kind=2) (kp:p.kind=1∨p.kind=2) (hs:∀ r,fo=some r->fp=some r->same=true)
 (xO:hi.get bO=some (.arr [si o.kind,si o.value,.bool o.late,si o.limit,si o.n] 73)) (xP:hi.get bP=some (.arr [si p.kind,si p.value,.bool p.late,si p.limit,si p.n] 73))
 (xQ:hi.get bQ=some (.arr (qea fp) 76)) (xR:hi.get bR=some (.arr (qea fo) 76))
 {x0 x1 x2 x3 x7 x8 x10 x11 x12 x13 x14 x15 x16 x20 x21 x22 x23 x24 x25:AV} {K:Ex->St->Prop} (hK:K .normal (.mk [x0,x1,x2,vb false,vb same,.s (.ptr bQ 0),vb fp.isSome,x7,x8,.s (.ptr bP 0),x10,x11,x12,x13,x14,x15,x16,.s (.ptr bR 0),vb fo.isSome,.s (.ptr bO 0),x20,x21,x22,x23,x24,x25] hi)) :
 W F4 (qkd jhs) (.mk [x0,x1,x2,x3,vb same,.s (.ptr bQ 0),vb fp.isSome,x7,x8,.s (.ptr bP 0),x10,x11,x12,x13,x14,x15,x16,.s (.ptr bR 0),vb fo.isSome,.s (.ptr bO 0),x20,x21,x22,x23,x24,x25] hi) K:=by
 unfold jhs
 simp only[qkd]
 cases fo with
 | none =>
  simp only[Option.isSome_none] at hK ⊢
  simp(disch:=first|omega|rfl) only[go_sem]
  exact hK
 | some r =>
  cases fp with
  | none =>
   simp only[Option.isSome_none,Option.isSome_some] at hK ⊢
   simp(disch:=first|omega|rfl) only[go_sem]
   exact hK
  | some q =>
   simp only[Option.isSome_some] at hK ⊢
   unfold qea at xQ xR
   simp only at xQ xR
   by_cases e:q=r
   .subst e
    have:=hs q rfl rfl
    subst this
    have c1:((q.1:Int)=(q.1:Int)/\(q.2:Int)=(q.2:Int))=True:=by simp
    obtain⟨b,hb⟩:=qd7 (vl:=o.value) (lm:=o.limit) (n:=o.n) (uvl:=p.value) (ulm:=p.limit) (un:=p.n) (lt:=o.late) (ult:=p.late) ko kp
    cases b with
    | true =>
     simp(disch:=first|omega|rfl) only[go_sem,xO,xP,xQ,xR,jtc,qst,c1,hb]
     exact hK
    | false =>
     simp(disch:=first|omega|rfl) only[go_sem,xO,xP,xQ,xR,jtc,qst,c1,hb]
     exact hK
   .have c1:((q.1:Int)=(r.1:Int)/\(q.2:Int)=(r.2:Int))=False:=eq_false (fun h=>e (by
     obtain⟨a,b⟩:=q
     obtain⟨c,d⟩:=r
     simp only at h;simp;omega))
    have c2:((r.1:Int)=(q.1:Int)/\(r.2:Int)=(q.2:Int))=False:=eq_false (fun h=>e (by
     obtain⟨a,b⟩:=q
     obtain⟨c,d⟩:=r
     simp only at h;simp;omega))
    simp(disch:=first|omega|rfl) only[go_sem,xO,xP,xQ,xR,jtc,qst,c1,c2]
    exact hK
theorem qga {f:Fc} {x:Ms.Ins} {m:Nat×Nat} (k:InsOk m f.values x) {i:Nat} {o:Ms.Opd} (hio:x.ops[i]?=some o) {x21 x22 x23 x24:AV} {Q:Ex->St->Prop} :
 ∀ (d j:Nat) (_:j+d=i) {hi:Hp} (_:Ok hi) (_:bF<hi.next/\bX<hi.next/\bO<hi.next/\bR<hi.next) (_:hi.get bF=some (.arr [jae jaz f.values,jae ja3 f.blocks] 29)) (_:hi.get bX=some (.arr [si x.op,jae jbi x.ops,jae jds x.spoils] 59))
  (_:hi.get bO=some (.arr [si o.kind,si o.value,.bool o.late,si o.limit,si o.n] 73)) (_:hi.get bR=some (.arr (qea (ji7 f.values x.ops o)) 76)) {x3 x4 x5 x6 x7 x8 x9 x11:AV}
  (hQ:∀ hj x3 x4 x5 x6 x7 x8 x9 x11,Ok hj->hi.next<=hj.next->(∀ k,k<hi.next->hj.get k=hi.get k)->Q (.exit 2) (.mk [x0,x1,x2,x3,x4,x5,x6,x7,x8,x9,.s (jn2 x.ops i),x11,vi i,vi i,vi i,x15,x16,.s (.ptr bR 0),vb (ji7 f.values x.ops o).isSome,.s (.ptr bO 0),.s (.ptr bF 0),x21,x22,x23,x24,.s (.ptr bX 0)] hj)),
  W F4 jre.loop (.mk [x0,x1,x2,x3,x4,x5,x6,x7,x8,x9,.s (jn2 x.ops i),x11,vi i,vi j,vi i,x15,x16,.s (.ptr bR 0),vb (ji7 f.values x.ops o).isSome,.s (.ptr bO 0),.s (.ptr bF 0),x21,x22,x23,x24,.s (.ptr bX 0)] hi) Q
 | 0,j,hd,hi,ok,hb,xF,xX,xO,xR,x3,x4,x5,x6,x7,x8,x9,x11,hQ=>by
  obtain rfl:j=i:=by omega
  rw[jaj]
  unfold jre
  simp(disch:=first|omega|rfl) only[go_sem,f0s]
  exact hQ hi _ _ _ _ _ _ _ _ ok (f0d _) (fun _ _=>rfl)
 | d+1,j,hd,hi,ok,hb,xF,xX,xO,xR,x3,x4,x5,x6,x7,x8,x9,x11,hQ=>by
  have hlt:(j:Int)<(i:Int):=by omega
  have hil:i<x.ops.length:=by
   rcases f0h i x.ops.length with h7 | h7
   .exact h7
   .rw [f0p h7] at hio;cases hio
  have hno:=k.nops
  obtain⟨p,hget⟩:∃ y,x.ops[j]?=some y:=⟨_,f0b (by omega)⟩
  have hpm:=f0c hget
  have ho:=k.opd o (f0c hio)
  have hp:=k.opd p hpm
  have hcl:=k.cla i j o p (by omega) hio hget
  have hix:=qat (l:=x.ops) (i:=i) (j:=j) (by omega) hget
  have hs:(j:Int)+1=((j+1:Nat):Int):=by omega
  obtain⟨hA,eA,okA,nA,xA,gA⟩:=jc2 ok [.int .i64 0,.int .i64 0,.bool false,.int .i64 0,.int .i64 0] (jbi p) 73
  have yF:=(gA _ hb.1).trans xF
  have yX:=(gA _ hb.2.1).trans xX
  have yO:=(gA _ hb.2.2.1).trans xO
  have yR:=(gA _ hb.2.2.2).trans xR
  obtain⟨hB,eB,okB,nB,xB,gB⟩:=jc2 okA [.int .i64 0,.int .i64 0] (qea (ji7 f.values x.ops p)) 76
  have zF:=(gB _ (by omega)).trans yF
  have zX:=(gB _ (by omega)).trans yX
  have zO:=(gB _ (by omega)).trans yO
  have zR:=(gB _ (by omega)).trans yR
  have zA:=(gB _ (by omega)).trans xA
  obtain⟨a,b,hab⟩:=j4a (ji7 f.values x.ops p)
  have wf:=fun {h:Hp} {Q:AV->Hp->Prop}=>(qar (h:=h) (Q:=Q) (f:=f) (op:=x.op) (vl:=p.value) (lm:=p.limit) (n:=p.n) (kd:=p.kind) (lt:=p.late) (ops:=x.ops) (sp:=x.spoils) (fun e=>by
   obtain⟨u,h1,_⟩:=k.reu p hpm e
   exact⟨u,h1,(k.opd u (f0c h1)).val⟩) hp.val).trans (by rw[qau hab])
  unfold jbi at xA eA zA
  rw[nA] at eB xB
  rw[hab] at eB
  have rest:∀ (x3 x4 x8 x11:AV) (K:Ex->St->Prop),K .normal (.mk [x0,x1,x2,vb false,vb (qd9 i j o p),.s (.ptr (hi.next+1) 0),vb (ji7 f.values x.ops p).isSome,vi j,x8,.s (.ptr hi.next 0),.s (jn2 x.ops i),x11,vi i,vi j,vi i,x15,x16,.s (.ptr bR 0),vb (ji7 f.values x.ops o).isSome,.s (.ptr bO 0),.s (.ptr bF 0),x21,x22,x23,x24,.s (.ptr bX 0)] hB) ->
   W F4 jhs (.mk [x0,x1,x2,x3,x4,.s (.ptr (hi.next+1) 0),vb (ji7 f.values x.ops p).isSome,vi j,x8,.s (.ptr hi.next 0),.s (jn2 x.ops i),x11,vi i,vi j,vi i,x15,x16,.s (.ptr bR 0),vb (ji7 f.values x.ops o).isSome,.s (.ptr bO 0),.s (.ptr bF 0),x21,x22,x23,x24,.s (.ptr bX 0)] hB) K:=fun x3 x4 x8 x11 K hK=>by
   rw[show jhs=.seq (qkc jhs) (qkd jhs) from rfl,qc1]
   refine qke zO zA ?_
   rw[jgd]
   refine qeb ho.kind hp.kind (fun r h1 h2=>?_) zO zA xB zR hK
   unfold qd9
   rcases hcl.2 r h1 h2 with⟨h3,h4⟩ | ⟨h3,h4⟩
   .simp [h3,h4]
   .simp [h3,h4]
  have fin:∀ (x3 x4 x8:AV),W F4 jre.loop (.mk [x0,x1,x2,x3,x4,.s (.ptr (hi.next+1) 0),vb (ji7 f.values x.ops p).isSome,vi j,x8,.s (.ptr hi.next 0),.s (jn2 x.ops i),vb true,vi i,vi (j+1:Nat),vi i,x15,x16,.s (.ptr bR 0),vb (ji7 f.values x.ops o).isSome,.s (.ptr bO 0),.s (.ptr bF 0),x21,x22,x23,x24,.s (.ptr bX 0)] hB) Q:=fun x3 x4 x8 =>
   qga k hio d (j+1) (by omega) okB (by omega) zF zX zO zR (fun hj x3 x4 x5 x6 x7 x8 x9 x11 o n g=>hQ hj x3 x4 x5 x6 x7 x8 x9 x11 o (by omega) (fun k hk=>(g k (by omega)).trans ((gB k (by omega)).trans (gA k hk))))
  rw[jaj]
  unfold jre j9x
  by_cases e1:o.limit=5
  .have c1:((o.limit:Int)=5)=True:=by simp;omega
   by_cases e2:p.limit=5
   .have c2:((p.limit:Int)=5)=True:=by simp;omega
    have c3:((o.n:Int)=(p.n:Int))=False:=by have:=hcl.1 e1 e2;simp;omega
    simp(disch:=first|omega|rfl) only[go_sem,jad,eq_true hlt,hix,jbi,eA,xA,nA,yF,yX,wf,eB,zO,zA,c1,c2,c3]
    refine rest _ _ _ _ _ ?_
    simp(disch:=first|omega|rfl) only[go_sem,jad,hs]
    exact fin _ _ _
   .have c2:((p.limit:Int)=5)=False:=by simp;omega
    simp(disch:=first|omega|rfl) only[go_sem,jad,eq_true hlt,hix,jbi,eA,xA,nA,yF,yX,wf,eB,zO,zA,c1,c2]
    refine rest _ _ _ _ _ ?_
    simp(disch:=first|omega|rfl) only[go_sem,jad,hs]
    exact fin _ _ _
  .have c1:((o.limit:Int)=5)=False:=by simp;omega
   simp(disch:=first|omega|rfl) only[go_sem,jad,eq_true hlt,hix,jbi,eA,xA,nA,yF,yX,wf,eB,zO,zA,c1]
   refine rest _ _ _ _ _ ?_
   simp(disch:=first|omega|rfl) only[go_sem,jad,hs]
   exact fin _ _ _
theorem qav {f:Fc} {x:Ms.Ins} {m:Nat×Nat} (k:InsOk m f.values x) {Q:Ex->St->Prop} :
 ∀ (d i:Nat) (_:i+d=x.ops.length) {hi:Hp} (_:Ok hi) (_:bF<hi.next/\bX<hi.next) (_:hi.get bF=some (.arr [jae jaz f.values,jae ja3 f.blocks] 29)) (_:hi.get bX=some (.arr [si x.op,jae jbi x.ops,jae jds x.spoils] 59))
  {x3 x4 x5 x6 x7 x8 x9 x10 x11 x12 x13 x14 x15 x16 x17 x18 x19 x22:AV}
  (hQ:∀ hj x3 x4 x5 x6 x7 x8 x9 x10 x11 x12 x13 x14 x15 x16 x17 x18 x19 x22,Q (.exit 0) (.mk [x0,x1,x2,x3,x4,x5,x6,x7,x8,x9,x10,x11,x12,x13,x14,x15,x16,x17,x18,x19,.s (.ptr bF 0),.s (jae jbi x.ops),x22,vi x.ops.length,vi x.ops.length,.s (.ptr bX 0)] hj)),
  W F4 jrf.loop (.mk [x0,x1,x2,x3,x4,x5,x6,x7,x8,x9,x10,x11,x12,x13,x14,x15,x16,x17,x18,x19,.s (.ptr bF 0),.s (jae jbi x.ops),x22,vi x.ops.length,vi i,.s (.ptr bX 0)] hi) Q
 | 0,i,hd,hi,ok,hb,xF,xX,x3,x4,x5,x6,x7,x8,x9,x10,x11,x12,x13,x14,x15,x16,x17,x18,x19,x22,hQ=>by
  obtain rfl:i=x.ops.length:=by omega
  rw[jaj]
  unfold jrf
  simp(disch:=first|omega|rfl) only[go_sem,f0s]
  exact hQ hi ..
 | d+1,i,hd,hi,ok,hb,xF,xX,x3,x4,x5,x6,x7,x8,x9,x10,x11,x12,x13,x14,x15,x16,x17,x18,x19,x22,hQ=>by
  have hlt:(i:Int)<(x.ops.length:Int):=by omega
  have hil:i<x.ops.length:=by omega
  have hno:=k.nops
  have hns:=k.nsp
  obtain⟨o,hio⟩:∃ y,x.ops[i]?=some y:=⟨_,f0b hil⟩
  have hom:=f0c hio
  have ho:=k.opd o hom
  have hsp:=k.sp o hom
  have hix:=jah (enc:=jbi) (size:=5) hio rfl
  have hs:(i:Int)+1=((i+1:Nat):Int):=by omega
  obtain⟨hA,eA,okA,nA,xA,gA⟩:=jc2 ok [.int .i64 0,.int .i64 0,.bool false,.int .i64 0,.int .i64 0] (jbi o) 73
  have yF:=(gA _ hb.1).trans xF
  have yX:=(gA _ hb.2).trans xX
  obtain⟨hB,eB,okB,nB,xB,gB⟩:=jc2 okA [.int .i64 0,.int .i64 0] (qea (ji7 f.values x.ops o)) 76
  have zF:=(gB _ (by omega)).trans yF
  have zX:=(gB _ (by omega)).trans yX
  have zA:=(gB _ (by omega)).trans xA
  obtain⟨a,b,hab⟩:=j4a (ji7 f.values x.ops o)
  have wf:=fun {h:Hp} {Q:AV->Hp->Prop}=>(qar (h:=h) (Q:=Q) (f:=f) (op:=x.op) (vl:=o.value) (lm:=o.limit) (n:=o.n) (kd:=o.kind) (lt:=o.late) (ops:=x.ops) (sp:=x.spoils) (fun e=>by
   obtain⟨u,h1,_⟩:=k.reu o hom e
   exact⟨u,h1,(k.opd u (f0c h1)).val⟩) ho.val).trans (by rw[qau hab])
  have xB':=xB
  have nil:(ji7 f.values x.ops o).isSome=false∨((ji7 f.values x.ops o).isSome=true/\(a,b)∉x.spoils):=by
   cases e:ji7 f.values x.ops o with
   | none=>exact .inl rfl
   | some r =>
    right
    refine⟨rfl,?_⟩
    rw[e] at hab
    unfold qea at hab
    simp only[List.cons.injEq,and_true] at hab
    have h1:r=(a,b):=by
     obtain⟨c,d⟩:=r
     have h1:=(SV.int.inj hab.1).2
     have h2:=(SV.int.inj hab.2).2
     simp only at h1 h2;simp;omega
    rw[←h1];exact hsp r e
  have sl:=qd8 hil
  have ls:=qas hil
  unfold jbi at xA eA zA
  rw[nA] at eB xB
  rw[hab] at eB
  have xB2:=xB
  rw[hab] at xB2
  have fin:∀ (x3 x4 x5 x6 x7 x8 x9 x11 x12 x13:AV) (hj:Hp),Ok hj->hB.next<=hj.next->(∀ k,k<hB.next->hj.get k=hB.get k)->∀ (x14 x15 x16 x17 x18 x19:AV),W F4 jrf.loop (.mk [x0,x1,x2,x3,x4,x5,x6,x7,x8,x9,.s (jn2 x.ops i),x11,x12,x13,x14,x15,x16,x17,x18,x19,.s (.ptr bF 0),.s (jae jbi x.ops),vb true,vi x.ops.length,vi (i+1:Nat),.s (.ptr bX 0)] hj) Q:=fun x3 x4 x5 x6 x7 x8 x9 x11 x12 x13 hj o n g x14 x15 x16 x17 x18 x19 =>
   qav k d (i+1) (by omega) o ⟨by omega,by omega⟩ ((g _ (by omega)).trans zF) ((g _ (by omega)).trans zX) hQ
  have tail:∀ (x3 x4 x5 x6 x7 x8 x9 x10 x11 x12 x13 x15 x16:AV) (K:Ex->St->Prop),(∀ hj x3 x4 x5 x6 x7 x8 x9 x11,Ok hj->hB.next<=hj.next->(∀ k,k<hB.next->hj.get k=hB.get k)->K .normal (.mk [x0,x1,x2,x3,x4,x5,x6,x7,x8,x9,.s (jn2 x.ops i),x11,vi i,vi i,vi i,x15,x16,.s (.ptr (hi.next+1) 0),vb (ji7 f.values x.ops o).isSome,.s (.ptr hi.next 0),.s (.ptr bF 0),.s (jae jbi x.ops),vb true,vi x.ops.length,vi i,.s (.ptr bX 0)] hj)) ->
   W F4 j1o (.mk [x0,x1,x2,x3,x4,x5,x6,x7,x8,x9,x10,x11,x12,x13,vi i,x15,x16,.s (.ptr (hi.next+1) 0),vb (ji7 f.values x.ops o).isSome,.s (.ptr hi.next 0),.s (.ptr bF 0),.s (jae jbi x.ops),vb true,vi x.ops.length,vi i,.s (.ptr bX 0)] hB) K:=fun x3 x4 x5 x6 x7 x8 x9 x10 x11 x12 x13 x15 x16 K hK=>by
   unfold j1o
   simp(disch:=first|omega|rfl) only[go_sem,zX,jip,sl,ls]
   refine qga k hio i 0 (by omega) okB ⟨by omega,by omega,by omega,by omega⟩ zF zX zA xB (fun hj x3 x4 x5 x6 x7 x8 x9 x11 o n g=>?_)
   simp(disch:=first|omega|rfl) only[go_sem]
   exact hK hj x3 x4 x5 x6 x7 x8 x9 x11 o n g
  generalize (ji7 f.values x.ops o).isSome=has at *
  have kk:((o.kind:Int)=2)=False∨((o.kind:Int)=2)=True:=by
   rcases ho.kind with h | h
   .left;simp;omega
   .right;simp;omega
  rw[jaj]
  unfold jrf j9z j9y
  rcases nil with hn | ⟨hn,hm⟩
  .subst hn
   simp(disch:=first|omega|rfl) only[go_sem,jad,eq_true hlt,hix,jbi,eA,xA,nA,yF,yX,wf,eB,zA]
   refine tail _ _ _ _ _ _ _ _ _ _ _ _ _ _ (fun hj x3 x4 x5 x6 x7 x8 x9 x11 o n g=>?_)
   simp(disch:=first|omega|rfl) only[go_sem,jad,hs]
   exact fin _ _ _ _ _ _ _ _ _ _ hj o n g _ _ _ _ _ _
  .subst hn
   have wc:=fun {h:Hp} {Q:AV->Hp->Prop}=>qkb (h:=h) (Q:=Q) (l:=x.spoils) (a:=a) (b:=b) hm (by omega)
   cases hlate:o.late with
   | true =>
    rw[hlate] at xA eA zA wf
    rcases kk with c1 | c1
    .simp (disch:=first|omega|rfl) only[go_sem,jad,eq_true hlt,hix,jbi,hlate,eA,xA,nA,yF,yX,wf,eB,zA,zX,xB2,wc,c1]
     refine tail _ _ _ _ _ _ _ _ _ _ _ _ _ _ (fun hj x3 x4 x5 x6 x7 x8 x9 x11 o n g=>?_)
     simp(disch:=first|omega|rfl) only[go_sem,jad,hs]
     exact fin _ _ _ _ _ _ _ _ _ _ hj o n g _ _ _ _ _ _
    .simp (disch:=first|omega|rfl) only[go_sem,jad,eq_true hlt,hix,jbi,hlate,eA,xA,nA,yF,yX,wf,eB,zA,zX,xB2,wc,c1]
     refine tail _ _ _ _ _ _ _ _ _ _ _ _ _ _ (fun hj x3 x4 x5 x6 x7 x8 x9 x11 o n g=>?_)
     simp(disch:=first|omega|rfl) only[go_sem,jad,hs]
     exact fin _ _ _ _ _ _ _ _ _ _ hj o n g _ _ _ _ _ _
   | false =>
    rw[hlate] at xA eA zA wf
    rcases kk with c1 | c1
    .simp (disch:=first|omega|rfl) only[go_sem,jad,eq_true hlt,hix,jbi,hlate,eA,xA,nA,yF,yX,wf,eB,zA,zX,xB2,wc,c1]
     refine tail _ _ _ _ _ _ _ _ _ _ _ _ _ _ (fun hj x3 x4 x5 x6 x7 x8 x9 x11 o n g=>?_)
     simp(disch:=first|omega|rfl) only[go_sem,jad,hs]
     exact fin _ _ _ _ _ _ _ _ _ _ hj o n g _ _ _ _ _ _
    .simp (disch:=first|omega|rfl) only[go_sem,jad,eq_true hlt,hix,jbi,hlate,eA,xA,nA,yF,yX,wf,eB,zA,zX,xB2,wc,c1]
     refine tail _ _ _ _ _ _ _ _ _ _ _ _ _ _ (fun hj x3 x4 x5 x6 x7 x8 x9 x11 o n g=>?_)
     simp(disch:=first|omega|rfl) only[go_sem,jad,hs]
     exact fin _ _ _ _ _ _ _ _ _ _ hj o n g _ _ _ _ _ _
theorem qkf {h:Hp} (ok:Ok h) {f:Fc} {x:Ms.Ins} {m:Nat×Nat} (k:InsOk m f.values x):WC F4 54 [.agg [jae jaz f.values,jae ja3 f.blocks],.agg [si x.op,jae jbi x.ops,jae jds x.spoils]] h (fun v h'=>∃ d,jhz true h' d v=some (vb false)):=by
 refine ja9 (no4 rfl rfl rfl rfl) quf rfl ?_
 unfold qfy
 obtain⟨hA,eA,okA,nA,xA,gA⟩:=je0 ok [jae jaz f.values,jae ja3 f.blocks] 29
 obtain⟨hB,eB,okB,nB,xB,gB⟩:=je0 okA [si x.op,jae jbi x.ops,jae jds x.spoils] 59
 have yA:=(gB _ (by omega)).trans xA
 rw[nA] at xB
 have l1:=jag (enc:=jbi) (l:=x.ops)
 simp(disch:=first|omega|rfl) only[go_sem,eA,eB,nA,xB,l1]
 refine qav k x.ops.length 0 (by omega) okB ⟨by omega,by omega⟩ yA xB (fun hj x3 x4 x5 x6 x7 x8 x9 x10 x11 x12 x13 x14 x15 x16 x17 x18 x19 x22=>?_)
 simp(disch:=first|omega|rfl) only[go_sem]
 exact⟨1,rfl⟩
end Go.Proofs.YtdbklpgagdbpiaaDoor.Ev
