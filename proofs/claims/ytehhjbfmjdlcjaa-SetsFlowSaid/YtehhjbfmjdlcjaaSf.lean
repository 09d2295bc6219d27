/- What functions may be: small checks: fixed registers, a register among others, registers that are needed. -/
import Derived.Test.YtehhjbfmjdlcjaaSb
namespace Go.Proofs.Ytehhjbfmjdlcjaa.Ev
open Go Go.RowKit Go.Proofs.Ytehhjbfmjdlcjaa.Ms
attribute [local go_sem] f0i f0r f0s decide_eq_true_eq decide_eq_false_iff_not f0f and_true true_and f0m f0o reduceCtorEq decide_true decide_false f00 f0v f0u f0l Option.some.injEq f0j not_true_eq_false not_false_eq_true Hp.next_push Hp.next_put f0t Int.reduceToNat Nat.reduceAdd Nat.reduceMul Nat.reduceEqDiff Int.reduceEq Int.reduceLT Int.reduceLE Int.reduceNeg Int.reduceAdd Int.reduceSub Int.reduceMul Int.reduceNe
attribute [local go_sem ↓] reduceIte
set_option linter.all false
set_option maxRecDepth 100000
set_option maxHeartbeats 2000000
variable {x0 x1 x2 x15 x16:AV} {hi:Hp} {v bF bO bP bR bX:Nat}
def qtk:Option (Nat×Nat)->AV
 | none=>.tup [(true,[si 0,si 0]),(false,[.bool false])]
 | some r=>.tup [(true,[si r.1,si r.2]),(false,[.bool true])]
theorem j2e (ok:Ok hi) {f:Fc} {s:Ms.Opd} (h2:s.value<f.values.length) (p1:1<=bR) (xF:hi.get bF=some (.arr [jah jaq f.values,jah ja1 f.blocks] 30)) (xO:hi.get bO=some (.arr [si s.kind,si s.value,.bool s.late,si s.limit,si s.n] 48)) (xR:hi.get bR=some (.arr [si 0,si 0] 105)) {x6 x7 x8:AV} :
 W F3 jua (.mk [x0,x1,x2,vb false,.s (.ptr bF 0),.s (.ptr bR 0),x6,x7,x8,.s (.ptr bO 0)] hi) (qbh [(.cell 5 2 true),(.tmp 3)] (fun v h'=>∃ d,jgr true h' d v=some (qtk (if s.limit=4 then some (cl f.values s.value,s.n) else none)))):=by
 have ix:=jaj (enc:=jaq) (size:=1) (jpn h2) rfl
 unfold jua
 by_cases e:s.limit=4
 ·have c1:((s.limit:Int)≠4)=False:=by simp;omega
  rw[if_pos e]
  simp(disch:=first|omega|rfl|apply_rules[jaa,jab,jad]) only[go_sem,xO,c1]
  unfold j14 j13
  simp(disch:=first|omega|rfl|apply_rules[jaa,jab,jad]) only[go_sem,xF,xO,ix,jaq,xR]
  exact⟨1,rfl⟩
 ·have c1:((s.limit:Int)≠4)=True:=by simp;omega
  rw[if_neg e]
  simp(disch:=first|omega|rfl|apply_rules[jaa,jab,jad]) only[go_sem,xO,c1,xR]
  exact⟨1,rfl⟩
theorem qi7 {h:Hp} (ok:Ok h) {f:Fc} {x:Ms.Ins} {o:Ms.Opd} (h1:o.limit=5->∃ u,x.ops[o.n]?=some u/\u.value<f.values.length) (h2:o.value<f.values.length) :
 WC F3 77 [.agg [jah jaq f.values,jah ja1 f.blocks],.agg [si x.op,jah jba x.ops,jah jec x.spoils],.agg [si o.kind,si o.value,.bool o.late,si o.limit,si o.n]] h (fun v h'=>∃ d,jgr true h' d v=some (qtk (jia f.values x.ops o))):=by
 refine ja5 (no3 rfl rfl rfl) qp5 rfl ?_
 unfold j70
 have hp:=ok.pos
 obtain⟨hA,eA,okA,nA,xA,gA⟩:=jdr ok [jah jaq f.values,jah ja1 f.blocks] 30
 obtain⟨hB,eB,okB,nB,xB,gB⟩:=jdr okA [si x.op,jah jba x.ops,jah jec x.spoils] 46
 obtain⟨hC,eC,okC,nC,xC,gC⟩:=jdr okB [si o.kind,si o.value,.bool o.late,si o.limit,si o.n] 48
 obtain⟨hD,eD,okD,nD,xD,gD⟩:=jdr okC [.int .i64 0,.int .i64 0] 105
 have yA:=(gD _ (by omega)).trans ((gC _ (by omega)).trans ((gB _ (by omega)).trans xA))
 have yB:=(gD _ (by omega)).trans ((gC _ (by omega)).trans xB)
 have yC:=(gD _ (by omega)).trans xC
 have nb:hB.next=h.next+2:=by omega
 have nc:hC.next=h.next+3:=by omega
 rw[nA] at yB
 rw[nb] at yC
 rw[nc] at xD
 by_cases e:o.limit=5
 ·obtain⟨u,hu,hul⟩:=h1 e
  have c1:((o.limit:Int)=5)=True:=by simp;omega
  have ix:=jaj (enc:=jba) (size:=5) hu rfl
  have es:jia f.values x.ops o=if u.limit=4 then some (cl f.values u.value,u.n) else none:=by
   unfold jia qey
   rw[if_pos e,f0d,hu];rfl
  rw[es]
  obtain⟨hE,eE⟩:∃ hE,hD.put (h.next+2) (some (.arr [si u.kind,si u.value,.bool u.late,si u.limit,si u.n] 48))=hE:=⟨_,rfl⟩
  have okE:Ok hE:=by rw[←eE];exact jad okD
  have zA:hE.get h.next=some (.arr [jah jaq f.values,jah ja1 f.blocks] 30):=by rw[←eE,jam okD (by omega),if_neg (by omega)];exact yA
  have zC:hE.get (h.next+2)=some (.arr [si u.kind,si u.value,.bool u.late,si u.limit,si u.n] 48):=by rw[←eE,jam okD (by omega),if_pos rfl]
  have zD:hE.get (h.next+3)=some (.arr [si 0,si 0] 105):=by rw[←eE,jam okD (by omega),if_neg (by omega)];exact xD
  simp(disch:=first|omega|rfl|apply_rules[jaa,jab,jad]) only[go_sem,eA,eB,eC,eD,nA,nb,nc,yA,yB,yC,c1,ix,jba,eE]
  exact j2e okE hul (by omega) zA zC zD
 ·have c1:((o.limit:Int)=5)=False:=by simp;omega
  have es:jia f.values x.ops o=if o.limit=4 then some (cl f.values o.value,o.n) else none:=by
   unfold jia qey
   rw[if_neg e]
  rw[es]
  simp(disch:=first|omega|rfl|apply_rules[jaa,jab,jad]) only[go_sem,eA,eB,eC,eD,nA,nb,nc,yA,yB,yC,c1]
  exact j2e okD h2 (by omega) yA yC xD
theorem j2f {l:List (Nat×Nat)} {r:Nat×Nat} (hr:r∉l) {br:Nat} {Q:Ex->St->Prop} :
 ∀ (d i:Nat) (_:i+d=l.length) {hi:Hp} (_:Ok hi) (_:l.length<=10000) (_:hi.get br=some (.arr [si r.1,si r.2] 105)) {x2 x3 x4 x6:AV}
  (hQ:∀ hj x2 x3 x4 x6,Q (.exit 0) (.mk [.s (jah jec l),x1,x2,x3,x4,.s (.ptr br 0),x6,vi l.length,vi l.length] hj)),
  W F3 jmw.loop (.mk [.s (jah jec l),x1,x2,x3,x4,.s (.ptr br 0),x6,vi l.length,vi i] hi) Q
 | 0,i,hd,hi,ok,hl,xb,x2,x3,x4,x6,hQ=>by
  obtain rfl:i=l.length:=by omega
  rw[jal]
  unfold jmw
  simp(disch:=first|omega|rfl|apply_rules[jaa,jab,jad]) only[go_sem,f0z]
  exact hQ hi ..
 | d+1,i,hd,hi,ok,hl,xb,x2,x3,x4,x6,hQ=>by
  have hlt:(i:Int)<l.length:=by omega
  obtain⟨⟨c,n⟩,hget⟩:∃ x,l[i]?=some x:=⟨_,f0a (by omega)⟩
  have hix:=jaj (enc:=jec) (size:=2) hget rfl
  have hs:(i:Int)+1=((i+1:Nat):Int):=by omega
  have hne:((r.1:Int)=(c:Int)/\(r.2:Int)=(n:Int))=False:=eq_false (fun h=>hr (by
   have e:r=(c,n):=by
    obtain⟨a,b⟩:=r
    simp only at h;simp;omega
   rw[e];exact f0b hget))
  have hne':((c:Int)=(r.1:Int)/\(n:Int)=(r.2:Int))=False:=by
   rw[show((c:Int)=(r.1:Int)/\(n:Int)=(r.2:Int))=((r.1:Int)=(c:Int)/\(r.2:Int)=(n:Int)) from propext ⟨fun h=>⟨h.1.symm,h.2.symm⟩,fun h=>⟨h.1.symm,h.2.symm⟩⟩]
   exact hne
  rw[jal]
  unfold jmw j2c j2b
  simp(disch:=first|omega|rfl|apply_rules[jaa,jab,jad]) only[go_sem,jag,eq_true hlt,hix,jec,xb,jrk,qtj,hne,hne',hs]
  exact j2f hr d (i+1) (by omega) ok hl xb hQ
theorem qi8 {h:Hp} (ok:Ok h) {l:List (Nat×Nat)} {r:Nat×Nat} (hr:r∉l) (hl:l.length<=10000):WC F3 83 [.s (jah jec l),.agg [si r.1,si r.2]] h (fun v h'=>v=vi (-1)):=by
 refine ja5 (no3 rfl rfl rfl) qp8 rfl ?_
 unfold j8s
 obtain⟨hA,eA,okA,nA,xA,gA⟩:=jdr ok [si r.1,si r.2] 105
 have l1:=jai (enc:=jec) (l:=l)
 simp(disch:=first|omega|rfl|apply_rules[jaa,jab,jad]) only[go_sem,eA,xA,l1]
 refine j2f hr l.length 0 (by omega) okA hl xA (fun hj x2 x3 x4 x6=>?_)
 simp(disch:=first|omega|rfl|apply_rules[jaa,jab,jad]) only[go_sem]
theorem qi9 {h:Hp} (ok:Ok h) {l:List (Nat×Nat)} {r:Nat×Nat} (hr:r∉l) (hl:l.length<=10000):WC F3 78 [.s (jah jec l),.agg [si r.1,si r.2]] h (fun v h'=>∃ d,jgr true h' d v=some (vb false)):=by
 refine ja5 (no3 rfl rfl rfl) quw rfl ?_
 unfold qfh
 obtain⟨hA,eA,okA,nA,xA,gA⟩:=jdr ok [si r.1,si r.2] 105
 simp(disch:=first|omega|rfl|apply_rules[jaa,jab,jad]) only[go_sem,eA,xA]
 refine WC.imp (qi8 okA hr hl) (fun v h' e=>?_)
 subst e
 simp(disch:=first|omega|rfl|apply_rules[jaa,jab,jad]) only[go_sem]
 exact⟨1,rfl⟩
theorem qc7 {l:List (Nat×Nat)} {c:Nat} {x0 x1 x2 x4 x5 x6 x7 x8 x9 x10 x11 x12 x20:AV} {Q:Ex->St->Prop} (hl:l.length<=10000) :
 ∀ (d i:Nat) (_:i+d=l.length) {hi:Hp} (_:Ok hi) {x14 x15 x17:AV}
  (hQ:∀ hj x14 x15 x17,Ok hj->hi.next<=hj.next->(∀ k,k<hi.next->hj.get k=hi.get k)->Q (.exit 0) (.mk [x0,x1,x2,vi c,x4,x5,x6,x7,x8,x9,x10,x11,x12,vi (l.countP (fun r=>decide (r.1=c))),x14,x15,.s (jah jec l),x17,vi l.length,vi l.length,x20] hj)),
  W F3 j15.loop (.mk [x0,x1,x2,vi c,x4,x5,x6,x7,x8,x9,x10,x11,x12,vi ((l.take i).countP (fun r=>decide (r.1=c))),x14,x15,.s (jah jec l),x17,vi l.length,vi i,x20] hi) Q
 | 0,i,hd,hi,ok,x14,x15,x17,hQ=>by
  obtain rfl:i=l.length:=by omega
  rw[jal,f26]
  unfold j15
  simp(disch:=first|omega|rfl|apply_rules[jaa,jab,jad]) only[go_sem,f0z]
  exact hQ hi _ _ _ ok (f0g _) (fun _ _=>rfl)
 | d+1,i,hd,hi,ok,x14,x15,x17,hQ=>by
  have hlt:(i:Int)<l.length:=by omega
  have hil:i<l.length:=by omega
  obtain⟨x,hget⟩:∃ x,l[i]?=some x:=⟨_,f0a hil⟩
  have hix:=jaj (enc:=jec) (size:=2) hget rfl
  have hs:(i:Int)+1=((i+1:Nat):Int):=by omega
  have hcnt:(l.take (i+1)).countP (fun r=>decide (r.1=c))=(l.take i).countP (fun r=>decide (r.1=c))+if x.1=c then 1 else 0:=by
   rw[f0a hil] at hget
   rw[f17 hil,List.countP_append,Option.some.inj hget,List.countP_singleton]
   by_cases h:x.1=c<;>simp[h]
  have hle:(l.take i).countP (fun r=>decide (r.1=c))<=10000:=f1c f3n (by rw[f1w];omega)
  obtain⟨hA,eA,okA,nA,xA,gA⟩:=jbo ok [.int .i64 0,.int .i64 0] (jec x) 105
  unfold jec at xA eA
  rw[jal]
  unfold j15 qfb
  by_cases e:x.1=c
  ·have c1:((x.1:Int)=(c:Int))=True:=by simp;omega
   rw[if_pos e] at hcnt
   have hadd:(((l.take i).countP (fun r=>decide (r.1=c)):Nat):Int)+1=(((l.take (i+1)).countP (fun r=>decide (r.1=c)):Nat):Int):=by omega
   simp(disch:=first|omega|rfl|apply_rules[jaa,jab,jad]) only[go_sem,jag,eq_true hlt,hix,jec,eA,xA,c1,hadd,hs]
   exact qc7 hl d (i+1) (by omega) okA (fun hj x14 x15 x17 o n g=>hQ hj x14 x15 x17 o (by omega) (fun k hk=>(g k (by omega)).trans (gA k hk)))
  ·have c1:((x.1:Int)=(c:Int))=False:=by simp;omega
   rw[if_neg e] at hcnt
   have hadd:(l.take i).countP (fun r=>decide (r.1=c))=(l.take (i+1)).countP (fun r=>decide (r.1=c)):=by omega
   simp(disch:=first|omega|rfl|apply_rules[jaa,jab,jad]) only[go_sem,jag,eq_true hlt,hix,jec,eA,xA,c1,hs]
   rw[hadd]
   exact qc7 hl d (i+1) (by omega) okA (fun hj x14 x15 x17 o n g=>hQ hj x14 x15 x17 o (by omega) (fun k hk=>(g k (by omega)).trans (gA k hk)))
theorem qfk {f:Fc} {l:List Ms.Opd} {c n0:Nat} {x4 x5 x14 x17 x18 x19 x20:AV} {Q:Ex->St->Prop} (hl:l.length<=10000) (hn:n0<=10000) (hv:∀ o∈l,o.value<f.values.length) :
 ∀ (d i:Nat) (_:i+d=l.length) {hi:Hp} (_:Ok hi) (_:bF<hi.next) (_:hi.get bF=some (.arr [jah jaq f.values,jah ja1 f.blocks] 30)) {x6 x7 x10:AV}
  (hQ:∀ hj x6 x7 x10,Ok hj->hi.next<=hj.next->(∀ k,k<hi.next->hj.get k=hi.get k)->Q (.exit 2) (.mk [x0,x1,x2,vi c,x4,x5,x6,x7,.s (.ptr bF 0),.s (jah jba l),x10,vi l.length,vi l.length,vi (n0+l.countP (jct f.values c):Nat),x14,x15,x16,x17,x18,x19,x20] hj)),
  W F3 jw3.loop (.mk [x0,x1,x2,vi c,x4,x5,x6,x7,.s (.ptr bF 0),.s (jah jba l),x10,vi l.length,vi i,vi (n0+(l.take i).countP (jct f.values c):Nat),x14,x15,x16,x17,x18,x19,x20] hi) Q
 | 0,i,hd,hi,ok,hb,xF,x6,x7,x10,hQ=>by
  obtain rfl:i=l.length:=by omega
  rw[jal,f26]
  unfold jw3
  simp(disch:=first|omega|rfl|apply_rules[jaa,jab,jad]) only[go_sem,f0z]
  exact hQ hi _ _ _ ok (f0g _) (fun _ _=>rfl)
 | d+1,i,hd,hi,ok,hb,xF,x6,x7,x10,hQ=>by
  have hlt:(i:Int)<l.length:=by omega
  have hil:i<l.length:=by omega
  obtain⟨o,hget⟩:∃ x,l[i]?=some x:=⟨_,f0a hil⟩
  have hov:=hv o (f0b hget)
  have hix:=jaj (enc:=jba) (size:=5) hget rfl
  have iv:=jaj (enc:=jaq) (size:=1) (jpn hov) rfl
  have hs:(i:Int)+1=((i+1:Nat):Int):=by omega
  have hcnt:(l.take (i+1)).countP (jct f.values c)=(l.take i).countP (jct f.values c)+if jct f.values c o=true then 1 else 0:=by
   rw[f0a hil] at hget
   rw[f17 hil,List.countP_append,Option.some.inj hget,List.countP_singleton]
  have hle:(l.take i).countP (jct f.values c)<=10000:=f1c f3n (by rw[f1w];omega)
  obtain⟨hA,eA,okA,nA,xA,gA⟩:=jbo ok [.int .i64 0,.int .i64 0,.bool false,.int .i64 0,.int .i64 0] (jba o) 48
  have yF:=(gA _ hb).trans xF
  have hrec:∀ {x6 x7 x10:AV},W F3 jw3.loop (.mk [x0,x1,x2,vi c,x4,x5,x6,x7,.s (.ptr bF 0),.s (jah jba l),x10,vi l.length,vi (i+1:Nat),vi (n0+(l.take (i+1)).countP (jct f.values c):Nat),x14,x15,x16,x17,x18,x19,x20] hA) Q:=fun {x6 x7 x10} =>
   qfk hl hn hv d (i+1) (by omega) okA (by omega) yF (fun hj x6 x7 x10 o n g=>hQ hj x6 x7 x10 o (by omega) (fun k hk=>(g k (by omega)).trans (gA k hk)))
  have hno:jct f.values c o=false->n0+(l.take i).countP (jct f.values c)=n0+(l.take (i+1)).countP (jct f.values c):=fun h=>by rw[hcnt,h];simp
  unfold jba at xA eA
  rw[jal]
  unfold jw3 qfc
  by_cases e1:cl f.values o.value=c
  ·have c1:((cl f.values o.value:Int)=(c:Int))=True:=by simp;omega
   by_cases e2:o.limit=1
   ·have c2:((o.limit:Int)≠1)=False:=by simp;omega
    simp(disch:=first|omega|rfl|apply_rules[jaa,jab,jad]) only[go_sem,jag,eq_true hlt,hix,jba,eA,xA,yF,iv,jaq,c1,c2,hs]
    rw[hno (by unfold jct;simp[e2])]
    exact hrec
   ·have c2:((o.limit:Int)≠1)=True:=by simp;omega
    by_cases e3:o.limit=3
    ·have c3:((o.limit:Int)≠3)=False:=by simp;omega
     simp(disch:=first|omega|rfl|apply_rules[jaa,jab,jad]) only[go_sem,jag,eq_true hlt,hix,jba,eA,xA,yF,iv,jaq,c1,c2,c3,hs]
     rw[hno (by unfold jct;simp[e3])]
     exact hrec
    ·have c3:((o.limit:Int)≠3)=True:=by simp;omega
     have hadd:((n0+(l.take i).countP (jct f.values c):Nat):Int)+1=((n0+(l.take (i+1)).countP (jct f.values c):Nat):Int):=by
      rw[hcnt,if_pos (by unfold jct;simp[e1,e2,e3])];omega
     simp(disch:=first|omega|rfl|apply_rules[jaa,jab,jad]) only[go_sem,jag,eq_true hlt,hix,jba,eA,xA,yF,iv,jaq,c1,c2,c3,hs,hadd]
     exact hrec
  ·have c1:((cl f.values o.value:Int)=(c:Int))=False:=by simp;omega
   simp(disch:=first|omega|rfl|apply_rules[jaa,jab,jad]) only[go_sem,jag,eq_true hlt,hix,jba,eA,xA,yF,iv,jaq,c1,hs]
   rw[hno (by unfold jct;simp[e1])]
   exact hrec
theorem qqd {h:Hp} (ok:Ok h) {f:Fc} {m:Nat×Nat} {x:Ms.Ins} {c:Nat} (hc:c<2) (k:InsOk m f.values x):WC F3 71 [.agg [jah jaq f.values,jah ja1 f.blocks],.agg [si m.1,si m.2],.agg [si x.op,jah jba x.ops,jah jec x.spoils],vi c] h (fun v h'=>∃ d,jgr true h' d v=some (vb true)):=by
 refine ja5 (no3 rfl rfl rfl) qxo rfl ?_
 unfold qp6
 have k1:=k.nops
 have k2:=k.nsp
 obtain⟨hA,eA,okA,nA,xA,gA⟩:=jdr ok [jah jaq f.values,jah ja1 f.blocks] 30
 obtain⟨hB,eB,okB,nB,xB,gB⟩:=jdr okA [si m.1,si m.2] 25
 obtain⟨hC,eC,okC,nC,xC,gC⟩:=jdr okB [si x.op,jah jba x.ops,jah jec x.spoils] 46
 have yA:=(gC _ (by omega)).trans ((gB _ (by omega)).trans xA)
 have yB:=(gC _ (by omega)).trans xB
 have nb:hB.next=h.next+2:=by omega
 rw[nA] at yB
 rw[nb] at xC
 have l1:=jai (enc:=jec) (l:=x.spoils)
 have l2:=jai (enc:=jba) (l:=x.ops)
 simp(disch:=first|omega|rfl|apply_rules[jaa,jab,jad]) only[go_sem,eA,eB,eC,nA,nb,xC,l1]
 have h1:=@qc7 x.spoils c
 refine qc7 (l:=x.spoils) (c:=c) (by omega) x.spoils.length 0 (by omega) okC (fun hj x14 x15 x17 o n g=>?_)
 have zA:=(g _ (by omega)).trans yA
 have zB:=(g _ (by omega)).trans yB
 have zC:=(g _ (by omega)).trans xC
 simp(disch:=first|omega|rfl|apply_rules[jaa,jab,jad]) only[go_sem,zC,l2]
 have hcp:x.spoils.countP (fun r=>decide (r.1=c))<=10000:=f1c f3n (by omega)
 refine qfk (f:=f) (l:=x.ops) (c:=c) (n0:=x.spoils.countP (fun r=>decide (r.1=c))) (by omega) hcp (fun o ho=>(k.opd o ho).val) x.ops.length 0 (by omega) o (by omega) zA (fun hj x6 x7 x10 o n g=>?_)
 have wB:=(g _ (by omega)).trans zB
 have hrd:∃ k,rdB (hj.get (h.next+1)) c 1=some [si (k:Nat)]/\g2 m c=k:=by
  rw[wB]
  have:c=0∨c=1:=by omega
  rcases this with rfl | rfl
  ·exact⟨m.1,rfl,rfl⟩
  ·exact⟨m.2,rfl,rfl⟩
 obtain⟨r,hrd,hr⟩:=hrd
 have hxa:=jcs (n:=2) (size:=1) (b:=h.next+1) (off:=0) (m:=c) (by omega)
 rw[f0l,f3v] at hxa
 have hlt:=k.need c hc
 rw[hr] at hlt
 have c1:(((x.spoils.countP (fun r=>decide (r.1=c))+x.ops.countP (jct f.values c):Nat):Int)<(r:Int))=True:=by simp;omega
 simp(disch:=first|omega|rfl|apply_rules[jaa,jab,jad]) only[go_sem,hxa,hrd,c1]
 exact⟨1,rfl⟩
theorem jaz:jl9 []=true:=rfl
theorem jat {a:AV} {l:List AV}:jl9 (a::l)=oif (qoh a) (jl9 l) false:=rfl
theorem ja6 {l:List SV}:qoh (.agg l)=qbg l:=rfl
theorem jb0 {v:SV}:qoh (.s v)=grd v:=rfl
theorem ja7:qbg []=true:=rfl
theorem ja0 {a:SV} {l:List SV}:qbg (a::l)=oif (grd a) (qbg l) false:=rfl
theorem jbk {k:IntKind} {n:Int}:grd (.int k n)=true:=rfl
theorem ja8 {b:Bool}:grd (.bool b)=true:=rfl
def S4 (f:FuncId):Bool:=Nat.beq f 46||(Nat.beq f 47||(Nat.beq f 72||(Nat.beq f 68||(Nat.beq f 69||(Nat.beq f 79||(Nat.beq f 77||(Nat.beq f 71||Nat.beq f 78)))))))
noncomputable def F4:Fns:=PX S4 F3
theorem qxp {A:Nat->Int}:Env Try.prog A tys F4:=jgg qxl
theorem no4 {f:FuncId} (h1:S1 f=false) (h2:Nat.beq f jfg.f=false) (h3:S3 f=false) (h4:S4 f=false) {vs:List AV} {h:Hp}:jcm F4 f vs h=none:=(jbi h4).trans (no3 h1 h2 h3)
section
variable {h:Hp} {f:Fc} {m:Nat×Nat} {Q:AV->Hp->Prop}
theorem qfl (hv:v<f.values.length):jcm F4 72 [.agg [jah jaq f.values,jah ja1 f.blocks],vi v] h=some (vb true,h):=jbd rfl (by simp only[jat,jaz,ja6,jb0,ja0,ja7,ja4,jbk,ja8,jbe,if_true]) (qi4 jdo hv)
theorem ji1 (hv:v<f.values.length):WC F4 72 [.agg [jah jaq f.values,jah ja1 f.blocks],vi v] h Q=Q (vb true) h:=jau (qfl hv)
end
theorem qja {h:Hp} (ok:Ok h) {f:Fc} {m:Nat×Nat} {o:Ms.Opd} (hc:∀ v,cl f.values v<2) (k:OpdOk m f.values o):WC F4 67 [.agg [jah jaq f.values,jah ja1 f.blocks],.agg [si m.1,si m.2],.agg [si o.kind,si o.value,.bool o.late,si o.limit,si o.n]] h (fun v h'=>∃ d,jgr true h' d v=some (vi 0)):=by
 refine ja5 (no4 rfl rfl rfl rfl) qp2 rfl ?_
 unfold j7x
 obtain⟨hA,eA,okA,nA,xA,gA⟩:=jdr ok [jah jaq f.values,jah ja1 f.blocks] 30
 obtain⟨hB,eB,okB,nB,xB,gB⟩:=jdr okA [si m.1,si m.2] 25
 obtain⟨hC,eC,okC,nC,xC,gC⟩:=jdr okB [si o.kind,si o.value,.bool o.late,si o.limit,si o.n] 48
 have yA:=(gC _ (by omega)).trans ((gB _ (by omega)).trans xA)
 have yB:=(gC _ (by omega)).trans xB
 have nb:hB.next=h.next+2:=by omega
 rw[nA] at yB
 rw[nb] at xC
 have k1:=k.kind
 have k2:=k.lim
 have k3:=k.val
 have c1:((o.limit:Int)<1)=False:=by simp;omega
 have c2:(5<(o.limit:Int))=False:=by simp;omega
 have kk:((o.kind:Int)≠1)=False∨(((o.kind:Int)≠1)=True/\((o.kind:Int)≠2)=False):=by
  rcases k1 with h | h
  ·left;simp;omega
  ·right;constructor
   ·simp;omega
   ·simp;omega
 by_cases e3:o.limit<=3
 ·have c3:((o.limit:Int)<=3)=True:=by simp;omega
  have c4:((o.limit:Int)=4)=False:=by simp;omega
  have c5:((o.limit:Int)=5)=False:=by simp;omega
  have c6:((o.n:Int)≠0)=False:=by have:=k.zero e3;simp;omega
  rcases kk with d1 | ⟨d1,d2⟩
  ·simp(disch:=first|omega|rfl|apply_rules[jaa,jab,jad]) only[go_sem,eA,eB,eC,nA,nb,yA,yB,xC,d1,c1,c2]
   unfold jh7 jh6 jh5
   simp(disch:=first|omega|rfl|apply_rules[jaa,jab,jad]) only[go_sem,yA,yB,xC,c3,c4,c5,c6,ji1 k3]
   exact⟨1,rfl⟩
  ·simp(disch:=first|omega|rfl|apply_rules[jaa,jab,jad]) only[go_sem,eA,eB,eC,nA,nb,yA,yB,xC,d1,d2,c1,c2]
   unfold jh7 jh6 jh5
   simp(disch:=first|omega|rfl|apply_rules[jaa,jab,jad]) only[go_sem,yA,yB,xC,c3,c4,c5,c6,ji1 k3]
   exact⟨1,rfl⟩
 ·have c3:((o.limit:Int)<=3)=False:=by simp;omega
  by_cases e4:o.limit=4
  ·have c4:((o.limit:Int)=4)=True:=by simp;omega
   have c5:((o.limit:Int)=5)=False:=by simp;omega
   have hn:=k.fix e4
   have hcl:=hc o.value
   have iv:=jaj (enc:=jaq) (size:=1) (jpn k3) rfl
   have hrd:∃ k,rdB (hC.get (h.next+1)) (cl f.values o.value) 1=some [si (k:Nat)]/\g2 m (cl f.values o.value)=k:=by
    rw[yB]
    have:cl f.values o.value=0∨cl f.values o.value=1:=by omega
    rcases this with e | e
    ·rw[e];exact⟨m.1,rfl,rfl⟩
    ·rw[e];exact⟨m.2,rfl,rfl⟩
   obtain⟨r,hrd,hr⟩:=hrd
   have hxa:=jcs (n:=2) (size:=1) (b:=h.next+1) (off:=0) (m:=cl f.values o.value) (by omega)
   rw[f0l,f3v] at hxa
   rw[hr] at hn
   have c6:((r:Int)<=(o.n:Int))=False:=by simp;omega
   have c7:((o.n:Int)<0)=False:=by simp
   rcases kk with d1 | ⟨d1,d2⟩
   ·simp(disch:=first|omega|rfl|apply_rules[jaa,jab,jad]) only[go_sem,eA,eB,eC,nA,nb,yA,yB,xC,d1,c1,c2]
    unfold jh7 jh6 jh5
    simp(disch:=first|omega|rfl|apply_rules[jaa,jab,jad]) only[go_sem,yA,xC,c3,c4,c5,c6,c7,iv,jaq,hxa,hrd,ji1 k3]
    exact⟨1,rfl⟩
   ·simp(disch:=first|omega|rfl|apply_rules[jaa,jab,jad]) only[go_sem,eA,eB,eC,nA,nb,yA,yB,xC,d1,d2,c1,c2]
    unfold jh7 jh6 jh5
    simp(disch:=first|omega|rfl|apply_rules[jaa,jab,jad]) only[go_sem,yA,xC,c3,c4,c5,c6,c7,iv,jaq,hxa,hrd,ji1 k3]
    exact⟨1,rfl⟩
  ·have e5:o.limit=5:=by omega
   have c4:((o.limit:Int)=4)=False:=by simp;omega
   have c5:((o.limit:Int)=5)=True:=by simp;omega
   obtain⟨hk,hlt⟩:=k.reu e5
   have d1:((o.kind:Int)≠1)=True:=by simp;omega
   have d2:((o.kind:Int)≠2)=False:=by simp;omega
   rw[hlt] at eC xC ⊢
   simp(disch:=first|omega|rfl|apply_rules[jaa,jab,jad]) only[go_sem,eA,eB,eC,nA,nb,yA,yB,xC,d1,d2,c1,c2]
   unfold jh7 jh6 jh5
   simp(disch:=first|omega|rfl|apply_rules[jaa,jab,jad]) only[go_sem,yA,yB,xC,c3,c4,c5,d2,ji1 k3]
   exact⟨1,rfl⟩
theorem j2g {f:Fc} {args ps:List Nat} (hl:args.length<=10000) (ha:∀ v∈args,v<f.values.length) (hp:∀ v∈ps,v<f.values.length) (hcl:ps.map (cl f.values)=args.map (cl f.values)) {x11 x13:AV} {Q:Ex->St->Prop} :
 ∀ (d i:Nat) (_:i+d=args.length) {hi:Hp} (_:Ok hi) (_:hi.get bF=some (.arr [jah jaq f.values,jah ja1 f.blocks] 30)) {x3 x4 x5 x6 x8:AV}
  (hQ:∀ hj x3 x4 x5 x6 x8,Q (.exit 0) (.mk [x0,x1,x2,x3,x4,x5,x6,.s (jah jaq args),x8,vi args.length,vi args.length,x11,.s (jah jaq ps),x13,.s (.ptr bF 0),x15] hj)),
  W F4 jmv.loop (.mk [x0,x1,x2,x3,x4,x5,x6,.s (jah jaq args),x8,vi args.length,vi i,x11,.s (jah jaq ps),x13,.s (.ptr bF 0),x15] hi) Q
 | 0,i,hd,hi,ok,xF,x3,x4,x5,x6,x8,hQ=>by
  obtain rfl:i=args.length:=by omega
  rw[jal]
  unfold jmv
  simp(disch:=first|omega|rfl|apply_rules[jaa,jab,jad]) only[go_sem,f0z]
  exact hQ hi ..
 | d+1,i,hd,hi,ok,xF,x3,x4,x5,x6,x8,hQ=>by
  have hlt:(i:Int)<args.length:=by omega
  have hpl:ps.length=args.length:=by have:=congrArg List.length hcl;simpa using this
  obtain⟨v,hget⟩:∃ x,args[i]?=some x:=⟨_,f0a (by omega)⟩
  obtain⟨u,hpet⟩:∃ x,ps[i]?=some x:=⟨_,f0a (by omega)⟩
  have hv:=ha v (f0b hget)
  have hu:=hp u (f0b hpet)
  have huv:cl f.values u=cl f.values v:=by
   have:=congrArg (fun l=>l[i]?) hcl
   simp only[f09,hget,hpet,f2a,Option.some.injEq] at this
   exact this
  have hix:=jaj (enc:=jaq) (size:=1) hget rfl
  have hipx:=jaj (enc:=jaq) (size:=1) hpet rfl
  have iv:=jaj (enc:=jaq) (size:=1) (jpn hv) rfl
  have iu:=jaj (enc:=jaq) (size:=1) (jpn hu) rfl
  have hs:(i:Int)+1=((i+1:Nat):Int):=by omega
  have c1:((cl f.values u:Int)≠(cl f.values v:Int))=False:=by simp;omega
  rw[jal]
  unfold jmv j18 j17 j16
  simp(disch:=first|omega|rfl|apply_rules[jaa,jab,jad]) only[go_sem,jag,eq_true hlt,hix,hipx,iv,iu,jaq,xF,ji1 hv,ji1 hu,c1,hs]
  exact j2g hl ha hp hcl d (i+1) (by omega) ok xF hQ
theorem qjb {h:Hp} (ok:Ok h) {f:Fc} {e:Ms.Edg} (k:jqg f.values f.blocks e) (hl:e.args.length<=10000):WC F4 49 [.agg [jah jaq f.values,jah ja1 f.blocks],.agg [si e.block,jah jaq e.args]] h (fun v h'=>∃ d,jgr true h' d v=some (vi 0)):=by
 obtain⟨k1,k2,t,k3,k4,k5⟩:=k
 refine ja5 (no4 rfl rfl rfl rfl) qp7 rfl ?_
 unfold j8c
 obtain⟨hA,eA,okA,nA,xA,gA⟩:=jdr ok [jah jaq f.values,jah ja1 f.blocks] 30
 obtain⟨hB,eB,okB,nB,xB,gB⟩:=jdr okA [si e.block,jah jaq e.args] 56
 have yA:=(gB _ (by omega)).trans xA
 rw[nA] at xB
 have hlt:e.block<f.blocks.length:=by
  rcases f0k e.block f.blocks.length with h7 | h7
  ·exact h7
  ·rw[f0p h7] at k3;cases k3
 have hpl:t.params.length=e.args.length:=by have:=congrArg List.length k4;simpa using this
 have c1:((e.block:Int)<1)=False:=by simp;omega
 have c2:((f.blocks.length:Int)<=(e.block:Int))=False:=by simp;omega
 have c3:((e.args.length:Int)≠(t.params.length:Int))=False:=by simp;omega
 have ix:=jaj (enc:=ja1) (size:=3) k3 rfl
 have l1:=jai (enc:=ja1) (l:=f.blocks)
 have l2:=jai (enc:=jaq) (l:=e.args)
 have l3:=jai (enc:=jaq) (l:=t.params)
 simp(disch:=first|omega|rfl|apply_rules[jaa,jab,jad]) only[go_sem,eA,eB,nA,yA,xB,c1,c2,l1]
 unfold j2a j19
 simp(disch:=first|omega|rfl|apply_rules[jaa,jab,jad]) only[go_sem,yA,xB,ix,ja1,c3,l2,l3]
 refine j2g hl k2 k5 k4 e.args.length 0 (by omega) okB yA (fun hj x3 x4 x5 x6 x8=>?_)
 simp(disch:=first|omega|rfl|apply_rules[jaa,jab,jad]) only[go_sem]
 exact⟨1,rfl⟩
section
variable {h:Hp} {f:Fc} {m:Nat×Nat} {Q:AV->Hp->Prop}
theorem j8v {op vl lm n kd:Nat} {lt:Bool} {ops:List Ms.Opd} {sp:List (Nat×Nat)} (h1:lm=5->∃ u,ops[n]?=some u/\u.value<f.values.length) (h2:vl<f.values.length):WC F4 77 [.agg [jah jaq f.values,jah ja1 f.blocks],.agg [si op,jah jba ops,jah jec sp],.agg [si kd,si vl,.bool lt,si lm,si n]] h Q=Q (qtk (jia f.values ops ⟨kd,vl,lt,lm,n⟩)) h :=
 jau (jbd rfl (by simp only[jat,jaz,ja6,jb0,ja0,ja7,ja4,jbk,ja8,jbe,if_true]) (qi7 (x:=⟨op,ops,sp⟩) (o:=⟨kd,vl,lt,lm,n⟩) jdo h1 h2))
theorem qjc {l:List (Nat×Nat)} {a b:Nat} (hr:(a,b)∉l) (hl:l.length<=10000):WC F4 78 [.s (jah jec l),.agg [si a,si b]] h Q=Q (vb false) h :=
 jau (jbd rfl (by simp only[jat,jaz,ja6,jb0,ja0,ja7,ja4,jbk,ja8,jbe,if_true]) (qi9 (r:=(a,b)) jdo hr hl))
theorem qc8 {kd vl lm n ukd uvl ulm un:Nat} {lt ult:Bool} (ha:kd=1∨kd=2) (hb:ukd=1∨ukd=2):∃ b,∀ h Q,WC F4 79 [.agg [si kd,si vl,.bool lt,si lm,si n],.agg [si ukd,si uvl,.bool ult,si ulm,si un]] h Q=Q (vb b) h:=by
 obtain⟨n1,v,h',h1,b,d,h2⟩:=qc6 (vl:=vl) (lm:=lm) (n:=n) (uvl:=uvl) (ulm:=ulm) (un:=un) (lt:=lt) (ult:=ult) jdo ha hb
 exact⟨b,fun h Q=>jau (jbd rfl (by simp only[jat,jaz,ja6,jb0,ja0,ja7,ja4,jbk,ja8,jbe,if_true]) ⟨n1,v,h',h1,d,h2⟩)⟩
end
def jme (l:List Ms.Opd) (i:Nat):SV:=.lst ((l.map jba).take i)
theorem qc9 {l:List Ms.Opd} {i:Nat} (hi:i<l.length):qti 5 (some (.s (jah jba l))) (some (vi (i:Int)))=some (.s (jme l i)):=by
 cases l with
 | nil=>simp at hi
 | cons a l =>
  show oif (Nat.ble i (jd4 ((a::l).map jba))) (oif (Nat.ble 0 i) (oif (j4w 5 ((a::l).map jba)) (ob (jb5 (Nat.sub i 0) (jcj 0 ((a::l).map jba))) (fun r=>some (AV.s (.lst r)))) none) none) none=_
  have h1:jd4 ((a::l).map jba)=(a::l).length:=by rw[jbu,f1d]
  have h2:Nat.ble i (jd4 ((a::l).map jba))=true:=f2u (by rw[h1];omega)
  have h3:jb5 (Nat.sub i 0) (jcj 0 ((a::l).map jba))=some (((a::l).map jba).take i):=(jbc _).2 ⟨by show i<=(jcj 0 ((a::l).map jba)).length;rw[jb4,List.drop_zero,f1d];omega,by rw[jb4];rfl⟩
  rw[h2,h3]
  rfl
theorem j8w {l:List Ms.Opd} {i:Nat} (hi:i<l.length):jxv (.s (jme l i))=some (vi i):=by
 unfold jme
 rw[jjw,f1w,f1d,Nat.min_eq_left (by omega)]
theorem j8x {l:List Ms.Opd} {i j:Nat} {o:Ms.Opd} (hj:j<i) (h:l[j]?=some o):jwg 5 (.s (jme l i)) (vi (j:Int))=some (.s (.cp (jba o))):=by
 unfold jme
 exact j1c (by rw[f2l,if_pos hj,f09,h];rfl) rfl
def qjd:IC->IC
 | .seq a b=>a
 | c=>c
def qje:IC->IC
 | .seq a b=>b
 | c=>c
def qda (i j:Nat) (o p:Ms.Opd):Bool:=(decide (o.limit=5)&&decide (o.n=j))||(decide (p.limit=5)&&decide (p.n=i))
theorem qjf {o p:Ms.Opd} {i j:Nat} (xO:hi.get bO=some (.arr [si o.kind,si o.value,.bool o.late,si o.limit,si o.n] 48)) (xP:hi.get bP=some (.arr [si p.kind,si p.value,.bool p.late,si p.limit,si p.n] 48))
 {x0 x1 x2 x3 x4 x5 x6 x8 x10 x11 x12 x13 x15 x16 x17 x18 x20 x21 x22 x23 x24 x25:AV} {K:Ex->St->Prop} (hK:K .normal (.mk [x0,x1,x2,x3,vb (qda i j o p),x5,x6,vi j,x8,.s (.ptr bP 0),x10,x11,x12,x13,vi i,x15,x16,x17,x18,.s (.ptr bO 0),x20,x21,x22,x23,x24,x25] hi)) :
 W F4 (qjd jgz) (.mk [x0,x1,x2,x3,x4,x5,x6,vi j,x8,.s (.ptr bP 0),x10,x11,x12,x13,vi i,x15,x16,x17,x18,.s (.ptr bO 0),x20,x21,x22,x23,x24,x25] hi) K:=by
 have right:∀ (c:Prop) [Decidable c],(decide (p.limit=5)&&decide (p.n=i))=decide c->True:=fun _ _ _=>trivial
 unfold jgz
 simp only[qjd]
 unfold qda at hK
 by_cases e1:o.limit=5
 ·have c1:((o.limit:Int)=5)=True:=by simp;omega
  by_cases e2:o.n=j
  ·have c2:((o.n:Int)=(j:Int))=True:=by simp;omega
   simp only[e1,e2,decide_true,f3o,Bool.true_or] at hK
   simp(disch:=first|omega|rfl|apply_rules[jaa,jab,jad]) only[go_sem,xO,xP,c1,c2]
   exact hK
  ·have c2:((o.n:Int)=(j:Int))=False:=by simp;omega
   by_cases e3:p.limit=5
   ·have c3:((p.limit:Int)=5)=True:=by simp;omega
    by_cases e4:p.n=i
    ·have c4:((p.n:Int)=(i:Int))=True:=by simp;omega
     simp only[e1,e2,e3,e4,decide_true,decide_false,f3o,f3r,f3g] at hK
     simp(disch:=first|omega|rfl|apply_rules[jaa,jab,jad]) only[go_sem,xO,xP,c1,c2,c3,c4]
     exact hK
    ·have c4:((p.n:Int)=(i:Int))=False:=by simp;omega
     simp only[e1,e2,e3,e4,decide_true,decide_false,f3o,f3r,f3g] at hK
     simp(disch:=first|omega|rfl|apply_rules[jaa,jab,jad]) only[go_sem,xO,xP,c1,c2,c3,c4]
     exact hK
   ·have c3:((p.limit:Int)=5)=False:=by simp;omega
    simp only[e1,e2,e3,decide_true,decide_false,f3o,f3r,Bool.false_and,f3g] at hK
    simp(disch:=first|omega|rfl|apply_rules[jaa,jab,jad]) only[go_sem,xO,xP,c1,c2,c3]
    exact hK
 ·have c1:((o.limit:Int)=5)=False:=by simp;omega
  by_cases e3:p.limit=5
  ·have c3:((p.limit:Int)=5)=True:=by simp;omega
   by_cases e4:p.n=i
   ·have c4:((p.n:Int)=(i:Int))=True:=by simp;omega
    simp only[e1,e3,e4,decide_true,decide_false,f3o,f3r,Bool.false_and,f3g] at hK
    simp(disch:=first|omega|rfl|apply_rules[jaa,jab,jad]) only[go_sem,xO,xP,c1,c3,c4]
    exact hK
   ·have c4:((p.n:Int)=(i:Int))=False:=by simp;omega
    simp only[e1,e3,e4,decide_true,decide_false,f3o,f3r,Bool.false_and,f3g] at hK
    simp(disch:=first|omega|rfl|apply_rules[jaa,jab,jad]) only[go_sem,xO,xP,c1,c3,c4]
    exact hK
  ·have c3:((p.limit:Int)=5)=False:=by simp;omega
   simp only[e1,e3,decide_true,decide_false,f3o,f3r,Bool.false_and,f3g] at hK
   simp(disch:=first|omega|rfl|apply_rules[jaa,jab,jad]) only[go_sem,xO,xP,c1,c3]
   exact hK
def qdb:Option (Nat×Nat)->List SV
 | none=>[si 0,si 0]
 | some r=>[si r.1,si r.2]
theorem j2h (x:Option (Nat×Nat)):∃ a b:Nat,qdb x=[si a,si b]:=by
 cases x with
 | none=>exact⟨0,0,rfl⟩
 | some r=>exact⟨r.1,r.2,rfl⟩
theorem j8y {x:Option (Nat×Nat)} {a b:Nat} (h:qdb x=[si a,si b]):qtk x=.tup [(true,[si a,si b]),(false,[.bool x.isSome])]:=by
 rw[←h];cases x<;>rfl
theorem qdc {o p:Ms.Opd} {fo fp:Option (Nat×Nat)} {same:Bool} {bQ:Nat} (ko:o.kind=1∨o.kind=2) (kp:p.kind=1∨p.kind=2) (hs:∀ r,fo=some r->fp=some r->same=true)
 (xO:hi.get bO=some (.arr [si o.kind,si o.value,.bool o.late,si o.limit,si o.n] 48)) (xP:hi.get bP=some (.arr [si p.kind,si p.value,.bool p.late,si p.limit,si p.n] 48))
 (xQ:hi.get bQ=some (.arr (qdb fp) 105)) (xR:hi.get bR=some (.arr (qdb fo) 105))
 {x0 x1 x2 x3 x7 x8 x10 x11 x12 x13 x14 x15 x16 x20 x21 x22 x23 x24 x25:AV} {K:Ex->St->Prop} (hK:K .normal (.mk [x0,x1,x2,vb false,vb same,.s (.ptr bQ 0),vb fp.isSome,x7,x8,.s (.ptr bP 0),x10,x11,x12,x13,x14,x15,x16,.s (.ptr bR 0),vb fo.isSome,.s (.ptr bO 0),x20,x21,x22,x23,x24,x25] hi)) :
 W F4 (qje jgz) (.mk [x0,x1,x2,x3,vb same,.s (.ptr bQ 0),vb fp.isSome,x7,x8,.s (.ptr bP 0),x10,x11,x12,x13,x14,x15,x16,.s (.ptr bR 0),vb fo.isSome,.s (.ptr bO 0),x20,x21,x22,x23,x24,x25] hi) K:=by
 unfold jgz
 simp only[qje]
 cases fo with
 | none =>
  simp only[Option.isSome_none] at hK ⊢
  simp(disch:=first|omega|rfl|apply_rules[jaa,jab,jad]) only[go_sem]
  exact hK
 | some r =>
  cases fp with
  | none =>
   simp only[Option.isSome_none,Option.isSome_some] at hK ⊢
   simp(disch:=first|omega|rfl|apply_rules[jaa,jab,jad]) only[go_sem]
   exact hK
  | some q =>
   simp only[Option.isSome_some] at hK ⊢
   unfold qdb at xQ xR
   simp only at xQ xR
   by_cases e:q=r
   ·subst e
    have:=hs q rfl rfl
    subst this
    have c1:((q.1:Int)=(q.1:Int)/\(q.2:Int)=(q.2:Int))=True:=by simp
    obtain⟨b,hb⟩:=qc8 (vl:=o.value) (lm:=o.limit) (n:=o.n) (uvl:=p.value) (ulm:=p.limit) (un:=p.n) (lt:=o.late) (ult:=p.late) ko kp
    cases b with
    | true =>
     simp(disch:=first|omega|rfl|apply_rules[jaa,jab,jad]) only[go_sem,xO,xP,xQ,xR,jrk,qtj,c1,hb]
     exact hK
    | false =>
     simp(disch:=first|omega|rfl|apply_rules[jaa,jab,jad]) only[go_sem,xO,xP,xQ,xR,jrk,qtj,c1,hb]
     exact hK
   ·have c1:((q.1:Int)=(r.1:Int)/\(q.2:Int)=(r.2:Int))=False:=eq_false (fun h=>e (by
     obtain⟨a,b⟩:=q
     obtain⟨c,d⟩:=r
     simp only at h;simp;omega))
    have c2:((r.1:Int)=(q.1:Int)/\(r.2:Int)=(q.2:Int))=False:=eq_false (fun h=>e (by
     obtain⟨a,b⟩:=q
     obtain⟨c,d⟩:=r
     simp only at h;simp;omega))
    simp(disch:=first|omega|rfl|apply_rules[jaa,jab,jad]) only[go_sem,xO,xP,xQ,xR,jrk,qtj,c1,c2]
    exact hK
theorem qfm {f:Fc} {x:Ms.Ins} {m:Nat×Nat} (k:InsOk m f.values x) {i:Nat} {o:Ms.Opd} (hio:x.ops[i]?=some o) {x21 x22 x23 x24:AV} {Q:Ex->St->Prop} :
 ∀ (d j:Nat) (_:j+d=i) {hi:Hp} (_:Ok hi) (_:bF<hi.next/\bX<hi.next/\bO<hi.next/\bR<hi.next) (_:hi.get bF=some (.arr [jah jaq f.values,jah ja1 f.blocks] 30)) (_:hi.get bX=some (.arr [si x.op,jah jba x.ops,jah jec x.spoils] 46))
  (_:hi.get bO=some (.arr [si o.kind,si o.value,.bool o.late,si o.limit,si o.n] 48)) (_:hi.get bR=some (.arr (qdb (jia f.values x.ops o)) 105)) {x3 x4 x5 x6 x7 x8 x9 x11:AV}
  (hQ:∀ hj x3 x4 x5 x6 x7 x8 x9 x11,Ok hj->hi.next<=hj.next->(∀ k,k<hi.next->hj.get k=hi.get k)->Q (.exit 2) (.mk [x0,x1,x2,x3,x4,x5,x6,x7,x8,x9,.s (jme x.ops i),x11,vi i,vi i,vi i,x15,x16,.s (.ptr bR 0),vb (jia f.values x.ops o).isSome,.s (.ptr bO 0),.s (.ptr bF 0),x21,x22,x23,x24,.s (.ptr bX 0)] hj)),
  W F4 jpk.loop (.mk [x0,x1,x2,x3,x4,x5,x6,x7,x8,x9,.s (jme x.ops i),x11,vi i,vi j,vi i,x15,x16,.s (.ptr bR 0),vb (jia f.values x.ops o).isSome,.s (.ptr bO 0),.s (.ptr bF 0),x21,x22,x23,x24,.s (.ptr bX 0)] hi) Q
 | 0,j,hd,hi,ok,hb,xF,xX,xO,xR,x3,x4,x5,x6,x7,x8,x9,x11,hQ=>by
  obtain rfl:j=i:=by omega
  rw[jal]
  unfold jpk
  simp(disch:=first|omega|rfl|apply_rules[jaa,jab,jad]) only[go_sem,f0z]
  exact hQ hi _ _ _ _ _ _ _ _ ok (f0g _) (fun _ _=>rfl)
 | d+1,j,hd,hi,ok,hb,xF,xX,xO,xR,x3,x4,x5,x6,x7,x8,x9,x11,hQ=>by
  have hlt:(j:Int)<(i:Int):=by omega
  have hil:i<x.ops.length:=by
   rcases f0k i x.ops.length with h7 | h7
   ·exact h7
   ·rw[f0p h7] at hio;cases hio
  have hno:=k.nops
  obtain⟨p,hget⟩:∃ y,x.ops[j]?=some y:=⟨_,f0a (by omega)⟩
  have hpm:=f0b hget
  have ho:=k.opd o (f0b hio)
  have hp:=k.opd p hpm
  have hcl:=k.cla i j o p (by omega) hio hget
  have hix:=j8x (l:=x.ops) (i:=i) (j:=j) (by omega) hget
  have hs:(j:Int)+1=((j+1:Nat):Int):=by omega
  obtain⟨hA,eA,okA,nA,xA,gA⟩:=jbo ok [.int .i64 0,.int .i64 0,.bool false,.int .i64 0,.int .i64 0] (jba p) 48
  have yF:=(gA _ hb.1).trans xF
  have yX:=(gA _ hb.2.1).trans xX
  have yO:=(gA _ hb.2.2.1).trans xO
  have yR:=(gA _ hb.2.2.2).trans xR
  obtain⟨hB,eB,okB,nB,xB,gB⟩:=jbo okA [.int .i64 0,.int .i64 0] (qdb (jia f.values x.ops p)) 105
  have zF:=(gB _ (by omega)).trans yF
  have zX:=(gB _ (by omega)).trans yX
  have zO:=(gB _ (by omega)).trans yO
  have zR:=(gB _ (by omega)).trans yR
  have zA:=(gB _ (by omega)).trans xA
  obtain⟨a,b,hab⟩:=j2h (jia f.values x.ops p)
  have wf:=fun {h:Hp} {Q:AV->Hp->Prop}=>(j8v (h:=h) (Q:=Q) (f:=f) (op:=x.op) (vl:=p.value) (lm:=p.limit) (n:=p.n) (kd:=p.kind) (lt:=p.late) (ops:=x.ops) (sp:=x.spoils) (fun e=>by
   obtain⟨u,h1,_⟩:=k.reu p hpm e
   exact⟨u,h1,(k.opd u (f0b h1)).val⟩) hp.val).trans (by rw[j8y hab])
  unfold jba at xA eA zA
  rw[nA] at eB xB
  rw[hab] at eB
  have rest:∀ (x3 x4 x8 x11:AV) (K:Ex->St->Prop),K .normal (.mk [x0,x1,x2,vb false,vb (qda i j o p),.s (.ptr (hi.next+1) 0),vb (jia f.values x.ops p).isSome,vi j,x8,.s (.ptr hi.next 0),.s (jme x.ops i),x11,vi i,vi j,vi i,x15,x16,.s (.ptr bR 0),vb (jia f.values x.ops o).isSome,.s (.ptr bO 0),.s (.ptr bF 0),x21,x22,x23,x24,.s (.ptr bX 0)] hB) ->
   W F4 jgz (.mk [x0,x1,x2,x3,x4,.s (.ptr (hi.next+1) 0),vb (jia f.values x.ops p).isSome,vi j,x8,.s (.ptr hi.next 0),.s (jme x.ops i),x11,vi i,vi j,vi i,x15,x16,.s (.ptr bR 0),vb (jia f.values x.ops o).isSome,.s (.ptr bO 0),.s (.ptr bF 0),x21,x22,x23,x24,.s (.ptr bX 0)] hB) K:=fun x3 x4 x8 x11 K hK=>by
   rw[show jgz=.seq (qjd jgz) (qje jgz) from rfl,qcg]
   refine qjf zO zA ?_
   rw[jfw]
   refine qdc ho.kind hp.kind (fun r h1 h2=>?_) zO zA xB zR hK
   unfold qda
   rcases hcl.2 r h1 h2 with⟨h3,h4⟩ | ⟨h3,h4⟩
   ·simp[h3,h4]
   ·simp[h3,h4]
  have fin:∀ (x3 x4 x8:AV),W F4 jpk.loop (.mk [x0,x1,x2,x3,x4,.s (.ptr (hi.next+1) 0),vb (jia f.values x.ops p).isSome,vi j,x8,.s (.ptr hi.next 0),.s (jme x.ops i),vb true,vi i,vi (j+1:Nat),vi i,x15,x16,.s (.ptr bR 0),vb (jia f.values x.ops o).isSome,.s (.ptr bO 0),.s (.ptr bF 0),x21,x22,x23,x24,.s (.ptr bX 0)] hB) Q:=fun x3 x4 x8 =>
   qfm k hio d (j+1) (by omega) okB (by omega) zF zX zO zR (fun hj x3 x4 x5 x6 x7 x8 x9 x11 o n g=>hQ hj x3 x4 x5 x6 x7 x8 x9 x11 o (by omega) (fun k hk=>(g k (by omega)).trans ((gB k (by omega)).trans (gA k hk))))
  rw[jal]
  unfold jpk j71
  by_cases e1:o.limit=5
  ·have c1:((o.limit:Int)=5)=True:=by simp;omega
   by_cases e2:p.limit=5
   ·have c2:((p.limit:Int)=5)=True:=by simp;omega
    have c3:((o.n:Int)=(p.n:Int))=False:=by have:=hcl.1 e1 e2;simp;omega
    simp(disch:=first|omega|rfl|apply_rules[jaa,jab,jad]) only[go_sem,jag,eq_true hlt,hix,jba,eA,xA,nA,yF,yX,wf,eB,zO,zA,c1,c2,c3]
    refine rest _ _ _ _ _ ?_
    simp(disch:=first|omega|rfl|apply_rules[jaa,jab,jad]) only[go_sem,jag,hs]
    exact fin _ _ _
   ·have c2:((p.limit:Int)=5)=False:=by simp;omega
    simp(disch:=first|omega|rfl|apply_rules[jaa,jab,jad]) only[go_sem,jag,eq_true hlt,hix,jba,eA,xA,nA,yF,yX,wf,eB,zO,zA,c1,c2]
    refine rest _ _ _ _ _ ?_
    simp(disch:=first|omega|rfl|apply_rules[jaa,jab,jad]) only[go_sem,jag,hs]
    exact fin _ _ _
  ·have c1:((o.limit:Int)=5)=False:=by simp;omega
   simp(disch:=first|omega|rfl|apply_rules[jaa,jab,jad]) only[go_sem,jag,eq_true hlt,hix,jba,eA,xA,nA,yF,yX,wf,eB,zO,zA,c1]
   refine rest _ _ _ _ _ ?_
   simp(disch:=first|omega|rfl|apply_rules[jaa,jab,jad]) only[go_sem,jag,hs]
   exact fin _ _ _
theorem j8z {f:Fc} {x:Ms.Ins} {m:Nat×Nat} (k:InsOk m f.values x) {Q:Ex->St->Prop} :
 ∀ (d i:Nat) (_:i+d=x.ops.length) {hi:Hp} (_:Ok hi) (_:bF<hi.next/\bX<hi.next) (_:hi.get bF=some (.arr [jah jaq f.values,jah ja1 f.blocks] 30)) (_:hi.get bX=some (.arr [si x.op,jah jba x.ops,jah jec x.spoils] 46))
  {x3 x4 x5 x6 x7 x8 x9 x10 x11 x12 x13 x14 x15 x16 x17 x18 x19 x22:AV}
  (hQ:∀ hj x3 x4 x5 x6 x7 x8 x9 x10 x11 x12 x13 x14 x15 x16 x17 x18 x19 x22,Q (.exit 0) (.mk [x0,x1,x2,x3,x4,x5,x6,x7,x8,x9,x10,x11,x12,x13,x14,x15,x16,x17,x18,x19,.s (.ptr bF 0),.s (jah jba x.ops),x22,vi x.ops.length,vi x.ops.length,.s (.ptr bX 0)] hj)),
  W F4 jpl.loop (.mk [x0,x1,x2,x3,x4,x5,x6,x7,x8,x9,x10,x11,x12,x13,x14,x15,x16,x17,x18,x19,.s (.ptr bF 0),.s (jah jba x.ops),x22,vi x.ops.length,vi i,.s (.ptr bX 0)] hi) Q
 | 0,i,hd,hi,ok,hb,xF,xX,x3,x4,x5,x6,x7,x8,x9,x10,x11,x12,x13,x14,x15,x16,x17,x18,x19,x22,hQ=>by
  obtain rfl:i=x.ops.length:=by omega
  rw[jal]
  unfold jpl
  simp(disch:=first|omega|rfl|apply_rules[jaa,jab,jad]) only[go_sem,f0z]
  exact hQ hi ..
 | d+1,i,hd,hi,ok,hb,xF,xX,x3,x4,x5,x6,x7,x8,x9,x10,x11,x12,x13,x14,x15,x16,x17,x18,x19,x22,hQ=>by
  have hlt:(i:Int)<(x.ops.length:Int):=by omega
  have hil:i<x.ops.length:=by omega
  have hno:=k.nops
  have hns:=k.nsp
  obtain⟨o,hio⟩:∃ y,x.ops[i]?=some y:=⟨_,f0a hil⟩
  have hom:=f0b hio
  have ho:=k.opd o hom
  have hsp:=k.sp o hom
  have hix:=jaj (enc:=jba) (size:=5) hio rfl
  have hs:(i:Int)+1=((i+1:Nat):Int):=by omega
  obtain⟨hA,eA,okA,nA,xA,gA⟩:=jbo ok [.int .i64 0,.int .i64 0,.bool false,.int .i64 0,.int .i64 0] (jba o) 48
  have yF:=(gA _ hb.1).trans xF
  have yX:=(gA _ hb.2).trans xX
  obtain⟨hB,eB,okB,nB,xB,gB⟩:=jbo okA [.int .i64 0,.int .i64 0] (qdb (jia f.values x.ops o)) 105
  have zF:=(gB _ (by omega)).trans yF
  have zX:=(gB _ (by omega)).trans yX
  have zA:=(gB _ (by omega)).trans xA
  obtain⟨a,b,hab⟩:=j2h (jia f.values x.ops o)
  have wf:=fun {h:Hp} {Q:AV->Hp->Prop}=>(j8v (h:=h) (Q:=Q) (f:=f) (op:=x.op) (vl:=o.value) (lm:=o.limit) (n:=o.n) (kd:=o.kind) (lt:=o.late) (ops:=x.ops) (sp:=x.spoils) (fun e=>by
   obtain⟨u,h1,_⟩:=k.reu o hom e
   exact⟨u,h1,(k.opd u (f0b h1)).val⟩) ho.val).trans (by rw[j8y hab])
  have xB':=xB
  have nil:(jia f.values x.ops o).isSome=false∨((jia f.values x.ops o).isSome=true/\(a,b)∉x.spoils):=by
   cases e:jia f.values x.ops o with
   | none=>exact .inl rfl
   | some r =>
    right
    refine⟨rfl,?_⟩
    rw[e] at hab
    unfold qdb at hab
    simp only[List.cons.injEq,and_true] at hab
    have h1:r=(a,b):=by
     obtain⟨c,d⟩:=r
     have h1:=(SV.int.inj hab.1).2
     have h2:=(SV.int.inj hab.2).2
     simp only at h1 h2;simp;omega
    rw[←h1];exact hsp r e
  have sl:=qc9 hil
  have ls:=j8w hil
  unfold jba at xA eA zA
  rw[nA] at eB xB
  rw[hab] at eB
  have xB2:=xB
  rw[hab] at xB2
  have fin:∀ (x3 x4 x5 x6 x7 x8 x9 x11 x12 x13:AV) (hj:Hp),Ok hj->hB.next<=hj.next->(∀ k,k<hB.next->hj.get k=hB.get k)->∀ (x14 x15 x16 x17 x18 x19:AV),W F4 jpl.loop (.mk [x0,x1,x2,x3,x4,x5,x6,x7,x8,x9,.s (jme x.ops i),x11,x12,x13,x14,x15,x16,x17,x18,x19,.s (.ptr bF 0),.s (jah jba x.ops),vb true,vi x.ops.length,vi (i+1:Nat),.s (.ptr bX 0)] hj) Q:=fun x3 x4 x5 x6 x7 x8 x9 x11 x12 x13 hj o n g x14 x15 x16 x17 x18 x19 =>
   j8z k d (i+1) (by omega) o ⟨by omega,by omega⟩ ((g _ (by omega)).trans zF) ((g _ (by omega)).trans zX) hQ
  have tail:∀ (x3 x4 x5 x6 x7 x8 x9 x10 x11 x12 x13 x15 x16:AV) (K:Ex->St->Prop),(∀ hj x3 x4 x5 x6 x7 x8 x9 x11,Ok hj->hB.next<=hj.next->(∀ k,k<hB.next->hj.get k=hB.get k)->K .normal (.mk [x0,x1,x2,x3,x4,x5,x6,x7,x8,x9,.s (jme x.ops i),x11,vi i,vi i,vi i,x15,x16,.s (.ptr (hi.next+1) 0),vb (jia f.values x.ops o).isSome,.s (.ptr hi.next 0),.s (.ptr bF 0),.s (jah jba x.ops),vb true,vi x.ops.length,vi i,.s (.ptr bX 0)] hj)) ->
   W F4 jzv (.mk [x0,x1,x2,x3,x4,x5,x6,x7,x8,x9,x10,x11,x12,x13,vi i,x15,x16,.s (.ptr (hi.next+1) 0),vb (jia f.values x.ops o).isSome,.s (.ptr hi.next 0),.s (.ptr bF 0),.s (jah jba x.ops),vb true,vi x.ops.length,vi i,.s (.ptr bX 0)] hB) K:=fun x3 x4 x5 x6 x7 x8 x9 x10 x11 x12 x13 x15 x16 K hK=>by
   unfold jzv
   simp(disch:=first|omega|rfl|apply_rules[jaa,jab,jad]) only[go_sem,zX,jhn,sl,ls]
   refine qfm k hio i 0 (by omega) okB ⟨by omega,by omega,by omega,by omega⟩ zF zX zA xB (fun hj x3 x4 x5 x6 x7 x8 x9 x11 o n g=>?_)
   simp(disch:=first|omega|rfl|apply_rules[jaa,jab,jad]) only[go_sem]
   exact hK hj x3 x4 x5 x6 x7 x8 x9 x11 o n g
  generalize (jia f.values x.ops o).isSome=has at *
  have kk:((o.kind:Int)=2)=False∨((o.kind:Int)=2)=True:=by
   rcases ho.kind with h | h
   ·left;simp;omega
   ·right;simp;omega
  rw[jal]
  unfold jpl j73 j72
  rcases nil with hn | ⟨hn,hm⟩
  ·subst hn
   simp(disch:=first|omega|rfl|apply_rules[jaa,jab,jad]) only[go_sem,jag,eq_true hlt,hix,jba,eA,xA,nA,yF,yX,wf,eB,zA]
   refine tail _ _ _ _ _ _ _ _ _ _ _ _ _ _ (fun hj x3 x4 x5 x6 x7 x8 x9 x11 o n g=>?_)
   simp(disch:=first|omega|rfl|apply_rules[jaa,jab,jad]) only[go_sem,jag,hs]
   exact fin _ _ _ _ _ _ _ _ _ _ hj o n g _ _ _ _ _ _
  ·subst hn
   have wc:=fun {h:Hp} {Q:AV->Hp->Prop}=>qjc (h:=h) (Q:=Q) (l:=x.spoils) (a:=a) (b:=b) hm (by omega)
   cases hlate:o.late with
   | true =>
    rw[hlate] at xA eA zA wf
    rcases kk with c1 | c1
    ·simp(disch:=first|omega|rfl|apply_rules[jaa,jab,jad]) only[go_sem,jag,eq_true hlt,hix,jba,hlate,eA,xA,nA,yF,yX,wf,eB,zA,zX,xB2,wc,c1]
     refine tail _ _ _ _ _ _ _ _ _ _ _ _ _ _ (fun hj x3 x4 x5 x6 x7 x8 x9 x11 o n g=>?_)
     simp(disch:=first|omega|rfl|apply_rules[jaa,jab,jad]) only[go_sem,jag,hs]
     exact fin _ _ _ _ _ _ _ _ _ _ hj o n g _ _ _ _ _ _
    ·simp(disch:=first|omega|rfl|apply_rules[jaa,jab,jad]) only[go_sem,jag,eq_true hlt,hix,jba,hlate,eA,xA,nA,yF,yX,wf,eB,zA,zX,xB2,wc,c1]
     refine tail _ _ _ _ _ _ _ _ _ _ _ _ _ _ (fun hj x3 x4 x5 x6 x7 x8 x9 x11 o n g=>?_)
     simp(disch:=first|omega|rfl|apply_rules[jaa,jab,jad]) only[go_sem,jag,hs]
     exact fin _ _ _ _ _ _ _ _ _ _ hj o n g _ _ _ _ _ _
   | false =>
    rw[hlate] at xA eA zA wf
    rcases kk with c1 | c1
    ·simp(disch:=first|omega|rfl|apply_rules[jaa,jab,jad]) only[go_sem,jag,eq_true hlt,hix,jba,hlate,eA,xA,nA,yF,yX,wf,eB,zA,zX,xB2,wc,c1]
     refine tail _ _ _ _ _ _ _ _ _ _ _ _ _ _ (fun hj x3 x4 x5 x6 x7 x8 x9 x11 o n g=>?_)
     simp(disch:=first|omega|rfl|apply_rules[jaa,jab,jad]) only[go_sem,jag,hs]
     exact fin _ _ _ _ _ _ _ _ _ _ hj o n g _ _ _ _ _ _
    ·simp(disch:=first|omega|rfl|apply_rules[jaa,jab,jad]) only[go_sem,jag,eq_true hlt,hix,jba,hlate,eA,xA,nA,yF,yX,wf,eB,zA,zX,xB2,wc,c1]
     refine tail _ _ _ _ _ _ _ _ _ _ _ _ _ _ (fun hj x3 x4 x5 x6 x7 x8 x9 x11 o n g=>?_)
     simp(disch:=first|omega|rfl|apply_rules[jaa,jab,jad]) only[go_sem,jag,hs]
     exact fin _ _ _ _ _ _ _ _ _ _ hj o n g _ _ _ _ _ _
theorem qjg {h:Hp} (ok:Ok h) {f:Fc} {x:Ms.Ins} {m:Nat×Nat} (k:InsOk m f.values x):WC F4 70 [.agg [jah jaq f.values,jah ja1 f.blocks],.agg [si x.op,jah jba x.ops,jah jec x.spoils]] h (fun v h'=>∃ d,jgr true h' d v=some (vb false)):=by
 refine ja5 (no4 rfl rfl rfl rfl) qur rfl ?_
 unfold qfa
 obtain⟨hA,eA,okA,nA,xA,gA⟩:=jdr ok [jah jaq f.values,jah ja1 f.blocks] 30
 obtain⟨hB,eB,okB,nB,xB,gB⟩:=jdr okA [si x.op,jah jba x.ops,jah jec x.spoils] 46
 have yA:=(gB _ (by omega)).trans xA
 rw[nA] at xB
 have l1:=jai (enc:=jba) (l:=x.ops)
 simp(disch:=first|omega|rfl|apply_rules[jaa,jab,jad]) only[go_sem,eA,eB,nA,xB,l1]
 refine j8z k x.ops.length 0 (by omega) okB ⟨by omega,by omega⟩ yA xB (fun hj x3 x4 x5 x6 x7 x8 x9 x10 x11 x12 x13 x14 x15 x16 x17 x18 x19 x22=>?_)
 simp(disch:=first|omega|rfl|apply_rules[jaa,jab,jad]) only[go_sem]
 exact⟨1,rfl⟩
end Go.Proofs.Ytehhjbfmjdlcjaa.Ev
