/- What functions may be: small checks: fixed registers, a register among others, registers that are needed. -/
import Derived.Test.YtaljcpoopmedmaaSb
namespace Go.Proofs.Ytaljcpoopmedmaa.Ev
open Go Go.RowKit Go.Proofs.Ytaljcpoopmedmaa.Ms
attribute [local go_sem] Int.cast_ofNat_Int Int.natCast_zero Int.natCast_one decide_eq_true_eq decide_eq_false_iff_not Bool.false_eq_true and_true true_and List.cons_append List.nil_append reduceCtorEq decide_true decide_false Bool.not_true Bool.not_false Nat.add_zero Nat.zero_add Option.some.injEq Bool.true_eq_false not_true_eq_false not_false_eq_true Hp.next_push Hp.next_put Nat.add_assoc Int.reduceToNat Nat.reduceAdd Nat.reduceMul Nat.reduceEqDiff Int.reduceEq Int.reduceLT Int.reduceLE Int.reduceNeg Int.reduceAdd Int.reduceSub Int.reduceMul Int.reduceNe
attribute [local go_sem ↓] reduceIte
set_option linter.all false
set_option maxRecDepth 100000
set_option maxHeartbeats 2000000
def qji:Option (Nat×Nat)->AV
 | none=>.tup [(true,[si 0,si 0]),(false,[.bool false])]
 | some r=>.tup [(true,[si r.1,si r.2]),(false,[.bool true])]
theorem j1j {hi:Hp} (ok:Ok hi) {f:Fc} {s:Ms.Opd} (h2:s.value<f.values.length) {bF bO bR:Nat} (p1:1<=bR) (xF:hi.get bF=some (.arr [jak ja5 f.values,jak ja7 f.blocks] 26)) (xO:hi.get bO=some (.arr [si s.kind,si s.value,.bool s.late,si s.limit,si s.n] 48)) (xR:hi.get bR=some (.arr [si 0,si 0] 118)) {x0 x1 x2 x6 x7 x8:AV} :
 W F3 jt9 (.mk [x0,x1,x2,vb false,.s (.ptr bF 0),.s (.ptr bR 0),x6,x7,x8,.s (.ptr bO 0)] hi) (qbk [(.cell 5 2 true),(.tmp 3)] (fun v h'=>∃ d,jhf true h' d v=some (qji (if s.limit=4 then some (cl f.values s.value,s.n) else none)))):=by
 have ix:=jap (enc:=ja5) (size:=1) (jp0 h2) rfl
 unfold jt9
 by_cases e:s.limit=4
 ·have c1:((s.limit:Int)≠4)=False:=by simp;omega
  rw [if_pos e]
  simp (disch:=first|omega|simp only[List.length]|apply_rules[jaa,jac,jad]) only [go_sem,xO,c1]
  unfold j09 j08
  simp (disch:=first|omega|simp only[List.length]|apply_rules[jaa,jac,jad]) only [go_sem,xF,xO,ix,ja5,xR]
  exact ⟨1,rfl⟩
 ·have c1:((s.limit:Int)≠4)=True:=by simp;omega
  rw [if_neg e]
  simp (disch:=first|omega|simp only[List.length]|apply_rules[jaa,jac,jad]) only [go_sem,xO,c1,xR]
  exact ⟨1,rfl⟩
theorem qfh {h:Hp} (ok:Ok h) {f:Fc} {x:Ms.Ins} {o:Ms.Opd} (h1:o.limit=5->∃ u,x.ops[o.n]?=some u/\u.value<f.values.length) (h2:o.value<f.values.length) :
 WC F3 70 [.agg [jak ja5 f.values,jak ja7 f.blocks],.agg [si x.op,jak jbj x.ops,jak jdw x.spoils],.agg [si o.kind,si o.value,.bool o.late,si o.limit,si o.n]] h (fun v h'=>∃ d,jhf true h' d v=some (qji (jis f.values x.ops o))):=by
 refine ja9 (no3 rfl rfl rfl) qh8 rfl ?_
 unfold j6t
 have hp:=ok.pos
 obtain ⟨hA,eA,okA,nA,xA,gA⟩:=je5 ok [jak ja5 f.values,jak ja7 f.blocks] 26
 obtain ⟨hB,eB,okB,nB,xB,gB⟩:=je5 okA [si x.op,jak jbj x.ops,jak jdw x.spoils] 46
 obtain ⟨hC,eC,okC,nC,xC,gC⟩:=je5 okB [si o.kind,si o.value,.bool o.late,si o.limit,si o.n] 48
 obtain ⟨hD,eD,okD,nD,xD,gD⟩:=je5 okC [.int .i64 0,.int .i64 0] 118
 have yA:=(gD _ (by omega)).trans ((gC _ (by omega)).trans ((gB _ (by omega)).trans xA))
 have yB:=(gD _ (by omega)).trans ((gC _ (by omega)).trans xB)
 have yC:=(gD _ (by omega)).trans xC
 have nb:hB.next=h.next+2:=by omega
 have nc:hC.next=h.next+3:=by omega
 rw [nA] at yB
 rw [nb] at yC
 rw [nc] at xD
 by_cases e:o.limit=5
 ·obtain ⟨u,hu,hul⟩:=h1 e
  have c1:((o.limit:Int)=5)=True:=by simp;omega
  have ix:=jap (enc:=jbj) (size:=5) hu rfl
  have es:jis f.values x.ops o=if u.limit=4 then some (cl f.values u.value,u.n) else none:=by
   unfold jis qbu
   rw [if_pos e,List.getD_eq_getElem?_getD,hu];rfl
  rw [es]
  obtain ⟨hE,eE⟩:∃ hE,hD.put (h.next+2) (some (.arr [si u.kind,si u.value,.bool u.late,si u.limit,si u.n] 48))=hE:=⟨_,rfl⟩
  have okE:Ok hE:=by rw [←eE];exact jad okD
  have zA:hE.get h.next=some (.arr [jak ja5 f.values,jak ja7 f.blocks] 26):=by rw [←eE,jai okD (by omega),if_neg (by omega)];exact yA
  have zC:hE.get (h.next+2)=some (.arr [si u.kind,si u.value,.bool u.late,si u.limit,si u.n] 48):=by rw [←eE,jai okD (by omega),if_pos rfl]
  have zD:hE.get (h.next+3)=some (.arr [si 0,si 0] 118):=by rw [←eE,jai okD (by omega),if_neg (by omega)];exact xD
  simp (disch:=first|omega|simp only[List.length]|apply_rules[jaa,jac,jad]) only [go_sem,eA,eB,eC,eD,nA,nb,nc,yA,yB,yC,c1,ix,jbj,eE]
  exact j1j okE hul (by omega) zA zC zD
 ·have c1:((o.limit:Int)=5)=False:=by simp;omega
  have es:jis f.values x.ops o=if o.limit=4 then some (cl f.values o.value,o.n) else none:=by
   unfold jis qbu
   rw [if_neg e]
  rw [es]
  simp (disch:=first|omega|simp only[List.length]|apply_rules[jaa,jac,jad]) only [go_sem,eA,eB,eC,eD,nA,nb,nc,yA,yB,yC,c1]
  exact j1j okD h2 (by omega) yA yC xD
theorem j1k {l:List (Nat×Nat)} {r:Nat×Nat} (hr:r∉l) {br:Nat} {x1:AV} {Q:Ex->St->Prop} :
 ∀ (d i:Nat) (_:i+d=l.length) {hi:Hp} (_:Ok hi) (_:l.length<=10000) (_:hi.get br=some (.arr [si r.1,si r.2] 118)) {x2 x3 x4 x6:AV}
  (hQ:∀ hj x2 x3 x4 x6,Q (.exit 0) (.mk [.s (jak jdw l),x1,x2,x3,x4,.s (.ptr br 0),x6,vi l.length,vi l.length] hj)),
  W F3 jm4.loop (.mk [.s (jak jdw l),x1,x2,x3,x4,.s (.ptr br 0),x6,vi l.length,vi i] hi) Q
 | 0,i,hd,hi,ok,hl,xb,x2,x3,x4,x6,hQ=>by
  obtain rfl:i=l.length:=by omega
  rw [jao]
  unfold jm4
  simp (disch:=first|omega|simp only[List.length]|apply_rules[jaa,jac,jad]) only [go_sem,Int.lt_irrefl]
  exact hQ hi ..
 | d+1,i,hd,hi,ok,hl,xb,x2,x3,x4,x6,hQ=>by
  have hlt:(i:Int)<l.length:=by omega
  obtain ⟨⟨c,n⟩,hget⟩:∃ x,l[i]?=some x:=⟨_,List.getElem?_eq_getElem (by omega)⟩
  have hix:=jap (enc:=jdw) (size:=2) hget rfl
  have hs:(i:Int)+1=((i+1:Nat):Int):=by omega
  have hne:((r.1:Int)=(c:Int)/\(r.2:Int)=(n:Int))=False:=eq_false (fun h=>hr (by
   have e:r=(c,n):=by
    obtain ⟨a,b⟩:=r
    simp only at h;simp;omega
   rw [e];exact List.mem_of_getElem? hget))
  have hne':((c:Int)=(r.1:Int)/\(n:Int)=(r.2:Int))=False:=by
   rw [show ((c:Int)=(r.1:Int)/\(n:Int)=(r.2:Int))=((r.1:Int)=(c:Int)/\(r.2:Int)=(n:Int)) from propext ⟨fun h=>⟨h.1.symm,h.2.symm⟩,fun h=>⟨h.1.symm,h.2.symm⟩⟩]
   exact hne
  rw [jao]
  unfold jm4 j1h j1g
  simp (disch:=first|omega|simp only[List.length]|apply_rules[jaa,jac,jad]) only [go_sem,jah,eq_true hlt,hix,jdw,xb,jro,qjh,hne,hne',hs]
  exact j1k hr d (i+1) (by omega) ok hl xb hQ
theorem qfi {h:Hp} (ok:Ok h) {l:List (Nat×Nat)} {r:Nat×Nat} (hr:r∉l) (hl:l.length<=10000):WC F3 80 [.s (jak jdw l),.agg [si r.1,si r.2]] h (fun v h'=>v=vi (-1)):=by
 refine ja9 (no3 rfl rfl rfl) qic rfl ?_
 unfold j7l
 obtain ⟨hA,eA,okA,nA,xA,gA⟩:=je5 ok [si r.1,si r.2] 118
 have l1:=jan (enc:=jdw) (l:=l)
 simp (disch:=first|omega|simp only[List.length]|apply_rules[jaa,jac,jad]) only [go_sem,eA,xA,l1]
 refine j1k hr l.length 0 (by omega) okA hl xA (fun hj x2 x3 x4 x6=>?_)
 simp (disch:=first|omega|simp only[List.length]|apply_rules[jaa,jac,jad]) only [go_sem]
theorem qfj {h:Hp} (ok:Ok h) {l:List (Nat×Nat)} {r:Nat×Nat} (hr:r∉l) (hl:l.length<=10000):WC F3 71 [.s (jak jdw l),.agg [si r.1,si r.2]] h (fun v h'=>∃ d,jhf true h' d v=some (vb false)):=by
 refine ja9 (no3 rfl rfl rfl) qkr rfl ?_
 unfold qcc
 obtain ⟨hA,eA,okA,nA,xA,gA⟩:=je5 ok [si r.1,si r.2] 118
 simp (disch:=first|omega|simp only[List.length]|apply_rules[jaa,jac,jad]) only [go_sem,eA,xA]
 refine WC.imp (qfi okA hr hl) (fun v h' e=>?_)
 subst e
 simp (disch:=first|omega|simp only[List.length]|apply_rules[jaa,jac,jad]) only [go_sem]
 exact ⟨1,rfl⟩
theorem qam {l:List (Nat×Nat)} {c:Nat} {x0 x1 x2 x4 x5 x6 x7 x8 x9 x10 x11 x12 x20:AV} {Q:Ex->St->Prop} (hl:l.length<=10000) :
 ∀ (d i:Nat) (_:i+d=l.length) {hi:Hp} (_:Ok hi) {x14 x15 x17:AV}
  (hQ:∀ hj x14 x15 x17,Ok hj->hi.next<=hj.next->(∀ k,k<hi.next->hj.get k=hi.get k)->Q (.exit 0) (.mk [x0,x1,x2,vi c,x4,x5,x6,x7,x8,x9,x10,x11,x12,vi (l.countP (fun r=>decide (r.1=c))),x14,x15,.s (jak jdw l),x17,vi l.length,vi l.length,x20] hj)),
  W F3 j1a.loop (.mk [x0,x1,x2,vi c,x4,x5,x6,x7,x8,x9,x10,x11,x12,vi ((l.take i).countP (fun r=>decide (r.1=c))),x14,x15,.s (jak jdw l),x17,vi l.length,vi i,x20] hi) Q
 | 0,i,hd,hi,ok,x14,x15,x17,hQ=>by
  obtain rfl:i=l.length:=by omega
  rw [jao,List.take_length]
  unfold j1a
  simp (disch:=first|omega|simp only[List.length]|apply_rules[jaa,jac,jad]) only [go_sem,Int.lt_irrefl]
  exact hQ hi _ _ _ ok (Nat.le_refl _) (fun _ _=>rfl)
 | d+1,i,hd,hi,ok,x14,x15,x17,hQ=>by
  have hlt:(i:Int)<l.length:=by omega
  have hil:i<l.length:=by omega
  obtain ⟨x,hget⟩:∃ x,l[i]?=some x:=⟨_,List.getElem?_eq_getElem hil⟩
  have hix:=jap (enc:=jdw) (size:=2) hget rfl
  have hs:(i:Int)+1=((i+1:Nat):Int):=by omega
  have hcnt:(l.take (i+1)).countP (fun r=>decide (r.1=c))=(l.take i).countP (fun r=>decide (r.1=c))+if x.1=c then 1 else 0:=by
   rw [List.getElem?_eq_getElem hil] at hget
   rw [List.take_succ_eq_append_getElem hil,List.countP_append,Option.some.inj hget,List.countP_singleton]
   by_cases h:x.1=c<;>simp [h]
  have hle:(l.take i).countP (fun r=>decide (r.1=c))<=10000:=Nat.le_trans List.countP_le_length (by rw [List.length_take];omega)
  obtain ⟨hA,eA,okA,nA,xA,gA⟩:=jda ok [.int .i64 0,.int .i64 0] (jdw x) 118
  unfold jdw at xA eA
  rw [jao]
  unfold j1a qb7
  by_cases e:x.1=c
  ·have c1:((x.1:Int)=(c:Int))=True:=by simp;omega
   rw [if_pos e] at hcnt
   have hadd:(((l.take i).countP (fun r=>decide (r.1=c)):Nat):Int)+1=(((l.take (i+1)).countP (fun r=>decide (r.1=c)):Nat):Int):=by omega
   simp (disch:=first|omega|simp only[List.length]|apply_rules[jaa,jac,jad]) only [go_sem,jah,eq_true hlt,hix,jdw,eA,xA,c1,hadd,hs]
   exact qam hl d (i+1) (by omega) okA (fun hj x14 x15 x17 o n g=>hQ hj x14 x15 x17 o (by omega) (fun k hk=>(g k (by omega)).trans (gA k hk)))
  ·have c1:((x.1:Int)=(c:Int))=False:=by simp;omega
   rw [if_neg e] at hcnt
   have hadd:(l.take i).countP (fun r=>decide (r.1=c))=(l.take (i+1)).countP (fun r=>decide (r.1=c)):=by omega
   simp (disch:=first|omega|simp only[List.length]|apply_rules[jaa,jac,jad]) only [go_sem,jah,eq_true hlt,hix,jdw,eA,xA,c1,hs]
   rw [hadd]
   exact qam hl d (i+1) (by omega) okA (fun hj x14 x15 x17 o n g=>hQ hj x14 x15 x17 o (by omega) (fun k hk=>(g k (by omega)).trans (gA k hk)))
theorem qcf {f:Fc} {l:List Ms.Opd} {c n0 bF:Nat} {x0 x1 x2 x4 x5 x14 x15 x16 x17 x18 x19 x20:AV} {Q:Ex->St->Prop} (hl:l.length<=10000) (hn:n0<=10000) (hv:∀ o∈l,o.value<f.values.length) :
 ∀ (d i:Nat) (_:i+d=l.length) {hi:Hp} (_:Ok hi) (_:bF<hi.next) (_:hi.get bF=some (.arr [jak ja5 f.values,jak ja7 f.blocks] 26)) {x6 x7 x10:AV}
  (hQ:∀ hj x6 x7 x10,Ok hj->hi.next<=hj.next->(∀ k,k<hi.next->hj.get k=hi.get k)->Q (.exit 2) (.mk [x0,x1,x2,vi c,x4,x5,x6,x7,.s (.ptr bF 0),.s (jak jbj l),x10,vi l.length,vi l.length,vi (n0+l.countP (jcr f.values c):Nat),x14,x15,x16,x17,x18,x19,x20] hj)),
  W F3 jwk.loop (.mk [x0,x1,x2,vi c,x4,x5,x6,x7,.s (.ptr bF 0),.s (jak jbj l),x10,vi l.length,vi i,vi (n0+(l.take i).countP (jcr f.values c):Nat),x14,x15,x16,x17,x18,x19,x20] hi) Q
 | 0,i,hd,hi,ok,hb,xF,x6,x7,x10,hQ=>by
  obtain rfl:i=l.length:=by omega
  rw [jao,List.take_length]
  unfold jwk
  simp (disch:=first|omega|simp only[List.length]|apply_rules[jaa,jac,jad]) only [go_sem,Int.lt_irrefl]
  exact hQ hi _ _ _ ok (Nat.le_refl _) (fun _ _=>rfl)
 | d+1,i,hd,hi,ok,hb,xF,x6,x7,x10,hQ=>by
  have hlt:(i:Int)<l.length:=by omega
  have hil:i<l.length:=by omega
  obtain ⟨o,hget⟩:∃ x,l[i]?=some x:=⟨_,List.getElem?_eq_getElem hil⟩
  have hov:=hv o (List.mem_of_getElem? hget)
  have hix:=jap (enc:=jbj) (size:=5) hget rfl
  have iv:=jap (enc:=ja5) (size:=1) (jp0 hov) rfl
  have hs:(i:Int)+1=((i+1:Nat):Int):=by omega
  have hcnt:(l.take (i+1)).countP (jcr f.values c)=(l.take i).countP (jcr f.values c)+if jcr f.values c o=true then 1 else 0:=by
   rw [List.getElem?_eq_getElem hil] at hget
   rw [List.take_succ_eq_append_getElem hil,List.countP_append,Option.some.inj hget,List.countP_singleton]
  have hle:(l.take i).countP (jcr f.values c)<=10000:=Nat.le_trans List.countP_le_length (by rw [List.length_take];omega)
  obtain ⟨hA,eA,okA,nA,xA,gA⟩:=jda ok [.int .i64 0,.int .i64 0,.bool false,.int .i64 0,.int .i64 0] (jbj o) 48
  have yF:=(gA _ hb).trans xF
  have hrec:∀ {x6 x7 x10:AV},W F3 jwk.loop (.mk [x0,x1,x2,vi c,x4,x5,x6,x7,.s (.ptr bF 0),.s (jak jbj l),x10,vi l.length,vi (i+1:Nat),vi (n0+(l.take (i+1)).countP (jcr f.values c):Nat),x14,x15,x16,x17,x18,x19,x20] hA) Q:=fun {x6 x7 x10} =>
   qcf hl hn hv d (i+1) (by omega) okA (by omega) yF (fun hj x6 x7 x10 o n g=>hQ hj x6 x7 x10 o (by omega) (fun k hk=>(g k (by omega)).trans (gA k hk)))
  have hno:jcr f.values c o=false->n0+(l.take i).countP (jcr f.values c)=n0+(l.take (i+1)).countP (jcr f.values c):=fun h=>by rw [hcnt,h];simp
  unfold jbj at xA eA
  rw [jao]
  unfold jwk qb8
  by_cases e1:cl f.values o.value=c
  ·have c1:((cl f.values o.value:Int)=(c:Int))=True:=by simp;omega
   by_cases e2:o.limit=1
   ·have c2:((o.limit:Int)≠1)=False:=by simp;omega
    simp (disch:=first|omega|simp only[List.length]|apply_rules[jaa,jac,jad]) only [go_sem,jah,eq_true hlt,hix,jbj,eA,xA,yF,iv,ja5,c1,c2,hs]
    rw [hno (by unfold jcr;simp [e2])]
    exact hrec
   ·have c2:((o.limit:Int)≠1)=True:=by simp;omega
    by_cases e3:o.limit=3
    ·have c3:((o.limit:Int)≠3)=False:=by simp;omega
     simp (disch:=first|omega|simp only[List.length]|apply_rules[jaa,jac,jad]) only [go_sem,jah,eq_true hlt,hix,jbj,eA,xA,yF,iv,ja5,c1,c2,c3,hs]
     rw [hno (by unfold jcr;simp [e3])]
     exact hrec
    ·have c3:((o.limit:Int)≠3)=True:=by simp;omega
     have hadd:((n0+(l.take i).countP (jcr f.values c):Nat):Int)+1=((n0+(l.take (i+1)).countP (jcr f.values c):Nat):Int):=by
      rw [hcnt,if_pos (by unfold jcr;simp [e1,e2,e3])];omega
     simp (disch:=first|omega|simp only[List.length]|apply_rules[jaa,jac,jad]) only [go_sem,jah,eq_true hlt,hix,jbj,eA,xA,yF,iv,ja5,c1,c2,c3,hs,hadd]
     exact hrec
  ·have c1:((cl f.values o.value:Int)=(c:Int))=False:=by simp;omega
   simp (disch:=first|omega|simp only[List.length]|apply_rules[jaa,jac,jad]) only [go_sem,jah,eq_true hlt,hix,jbj,eA,xA,yF,iv,ja5,c1,hs]
   rw [hno (by unfold jcr;simp [e1])]
   exact hrec
theorem qih {h:Hp} (ok:Ok h) {f:Fc} {m:Nat×Nat} {x:Ms.Ins} {c:Nat} (hc:c<2) (k:InsOk m f.values x):WC F3 55 [.agg [jak ja5 f.values,jak ja7 f.blocks],.agg [si m.1,si m.2],.agg [si x.op,jak jbj x.ops,jak jdw x.spoils],vi c] h (fun v h'=>∃ d,jhf true h' d v=some (vb true)):=by
 refine ja9 (no3 rfl rfl rfl) qma rfl ?_
 unfold qh9
 have k1:=k.nops
 have k2:=k.nsp
 obtain ⟨hA,eA,okA,nA,xA,gA⟩:=je5 ok [jak ja5 f.values,jak ja7 f.blocks] 26
 obtain ⟨hB,eB,okB,nB,xB,gB⟩:=je5 okA [si m.1,si m.2] 30
 obtain ⟨hC,eC,okC,nC,xC,gC⟩:=je5 okB [si x.op,jak jbj x.ops,jak jdw x.spoils] 46
 have yA:=(gC _ (by omega)).trans ((gB _ (by omega)).trans xA)
 have yB:=(gC _ (by omega)).trans xB
 have nb:hB.next=h.next+2:=by omega
 rw [nA] at yB
 rw [nb] at xC
 have l1:=jan (enc:=jdw) (l:=x.spoils)
 have l2:=jan (enc:=jbj) (l:=x.ops)
 simp (disch:=first|omega|simp only[List.length]|apply_rules[jaa,jac,jad]) only [go_sem,eA,eB,eC,nA,nb,xC,l1]
 have h1:=@qam x.spoils c
 refine qam (l:=x.spoils) (c:=c) (by omega) x.spoils.length 0 (by omega) okC (fun hj x14 x15 x17 o n g=>?_)
 have zA:=(g _ (by omega)).trans yA
 have zB:=(g _ (by omega)).trans yB
 have zC:=(g _ (by omega)).trans xC
 simp (disch:=first|omega|simp only[List.length]|apply_rules[jaa,jac,jad]) only [go_sem,zC,l2]
 have hcp:x.spoils.countP (fun r=>decide (r.1=c))<=10000:=Nat.le_trans List.countP_le_length (by omega)
 refine qcf (f:=f) (l:=x.ops) (c:=c) (n0:=x.spoils.countP (fun r=>decide (r.1=c))) (by omega) hcp (fun o ho=>(k.opd o ho).val) x.ops.length 0 (by omega) o (by omega) zA (fun hj x6 x7 x10 o n g=>?_)
 have wB:=(g _ (by omega)).trans zB
 have hrd:∃ k,rdB (hj.get (h.next+1)) c 1=some [si (k:Nat)]/\g2 m c=k:=by
  rw [wB]
  have:c=0∨c=1:=by omega
  rcases this with rfl | rfl
  ·exact ⟨m.1,rfl,rfl⟩
  ·exact ⟨m.2,rfl,rfl⟩
 obtain ⟨r,hrd,hr⟩:=hrd
 have hxa:=jcv (n:=2) (size:=1) (b:=h.next+1) (off:=0) (m:=c) (by omega)
 rw [Nat.zero_add,Nat.mul_one] at hxa
 have hlt:=k.need c hc
 rw [hr] at hlt
 have c1:(((x.spoils.countP (fun r=>decide (r.1=c))+x.ops.countP (jcr f.values c):Nat):Int)<(r:Int))=True:=by simp;omega
 simp (disch:=first|omega|simp only[List.length]|apply_rules[jaa,jac,jad]) only [go_sem,hxa,hrd,c1]
 exact ⟨1,rfl⟩
theorem jbb:jka []=true:=rfl
theorem ja2 {a:AV} {l:List AV}:jka (a::l)=oif (qgm a) (jka l) false:=rfl
theorem jbr {l:List SV}:qgm (.agg l)=jw0 l:=rfl
theorem jdz {v:SV}:qgm (.s v)=grd v:=rfl
theorem jbs:jw0 []=true:=rfl
theorem jbc {a:SV} {l:List SV}:jw0 (a::l)=oif (grd a) (jw0 l) false:=rfl
theorem jcu {k:IntKind} {n:Int}:grd (.int k n)=true:=rfl
theorem jbt {b:Bool}:grd (.bool b)=true:=rfl
def S4 (f:FuncId):Bool:=Nat.beq f 33||(Nat.beq f 34||(Nat.beq f 56||(Nat.beq f 52||(Nat.beq f 53||(Nat.beq f 72||(Nat.beq f 70||(Nat.beq f 55||Nat.beq f 71)))))))
noncomputable def F4:Fns:=PX S4 F3
theorem qmb {A:Nat->Int}:Env Try.prog A tys F4:=jh3 ql8
theorem no4 {f:FuncId} (h1:S1 f=false) (h2:Nat.beq f jf7.f=false) (h3:S3 f=false) (h4:S4 f=false) {vs:List AV} {h:Hp}:jdy F4 f vs h=none:=(ja4 h4).trans (no3 h1 h2 h3)
section
variable {h:Hp} {f:Fc} {m:Nat×Nat} {Q:AV->Hp->Prop}
theorem qcg {v:Nat} (hv:v<f.values.length):jdy F4 56 [.agg [jak ja5 f.values,jak ja7 f.blocks],vi v] h=some (vb true,h):=jb7 rfl (by simp only [ja2,jbb,jbr,jdz,jbc,jbs,jbn,jcu,jbt,jb8,if_true]) (qfe jem hv)
theorem jjh {v:Nat} (hv:v<f.values.length):WC F4 56 [.agg [jak ja5 f.values,jak ja7 f.blocks],vi v] h Q=Q (vb true) h:=jau (qcg hv)
end
theorem qfk {h:Hp} (ok:Ok h) {f:Fc} {m:Nat×Nat} {o:Ms.Opd} (hc:∀ v,cl f.values v<2) (k:OpdOk m f.values o):WC F4 51 [.agg [jak ja5 f.values,jak ja7 f.blocks],.agg [si m.1,si m.2],.agg [si o.kind,si o.value,.bool o.late,si o.limit,si o.n]] h (fun v h'=>∃ d,jhf true h' d v=some (vi 0)):=by
 refine ja9 (no4 rfl rfl rfl rfl) qh5 rfl ?_
 unfold j6q
 obtain ⟨hA,eA,okA,nA,xA,gA⟩:=je5 ok [jak ja5 f.values,jak ja7 f.blocks] 26
 obtain ⟨hB,eB,okB,nB,xB,gB⟩:=je5 okA [si m.1,si m.2] 30
 obtain ⟨hC,eC,okC,nC,xC,gC⟩:=je5 okB [si o.kind,si o.value,.bool o.late,si o.limit,si o.n] 48
 have yA:=(gC _ (by omega)).trans ((gB _ (by omega)).trans xA)
 have yB:=(gC _ (by omega)).trans xB
 have nb:hB.next=h.next+2:=by omega
 rw [nA] at yB
 rw [nb] at xC
 have k1:=k.kind
 have k2:=k.lim
 have k3:=k.val
 have c1:((o.limit:Int)<1)=False:=by simp;omega
 have c2:(5<(o.limit:Int))=False:=by simp;omega
 have kk:((o.kind:Int)≠1)=False∨(((o.kind:Int)≠1)=True/\((o.kind:Int)≠2)=False):=by
  rcases k1 with h | h
  ·left;simp;omega
  ·right;constructor
   ·simp;omega
   ·simp;omega
 by_cases e3:o.limit<=3
 ·have c3:((o.limit:Int)<=3)=True:=by simp;omega
  have c4:((o.limit:Int)=4)=False:=by simp;omega
  have c5:((o.limit:Int)=5)=False:=by simp;omega
  have c6:((o.n:Int)≠0)=False:=by have:=k.zero e3;simp;omega
  rcases kk with d1 | ⟨d1,d2⟩
  ·simp (disch:=first|omega|simp only[List.length]|apply_rules[jaa,jac,jad]) only [go_sem,eA,eB,eC,nA,nb,yA,yB,xC,d1,c1,c2]
   unfold jip jio jin
   simp (disch:=first|omega|simp only[List.length]|apply_rules[jaa,jac,jad]) only [go_sem,yA,yB,xC,c3,c4,c5,c6,jjh k3]
   exact ⟨1,rfl⟩
  ·simp (disch:=first|omega|simp only[List.length]|apply_rules[jaa,jac,jad]) only [go_sem,eA,eB,eC,nA,nb,yA,yB,xC,d1,d2,c1,c2]
   unfold jip jio jin
   simp (disch:=first|omega|simp only[List.length]|apply_rules[jaa,jac,jad]) only [go_sem,yA,yB,xC,c3,c4,c5,c6,jjh k3]
   exact ⟨1,rfl⟩
 ·have c3:((o.limit:Int)<=3)=False:=by simp;omega
  by_cases e4:o.limit=4
  ·have c4:((o.limit:Int)=4)=True:=by simp;omega
   have c5:((o.limit:Int)=5)=False:=by simp;omega
   have hn:=k.fix e4
   have hcl:=hc o.value
   have iv:=jap (enc:=ja5) (size:=1) (jp0 k3) rfl
   have hrd:∃ k,rdB (hC.get (h.next+1)) (cl f.values o.value) 1=some [si (k:Nat)]/\g2 m (cl f.values o.value)=k:=by
    rw [yB]
    have:cl f.values o.value=0∨cl f.values o.value=1:=by omega
    rcases this with e | e
    ·rw [e];exact ⟨m.1,rfl,rfl⟩
    ·rw [e];exact ⟨m.2,rfl,rfl⟩
   obtain ⟨r,hrd,hr⟩:=hrd
   have hxa:=jcv (n:=2) (size:=1) (b:=h.next+1) (off:=0) (m:=cl f.values o.value) (by omega)
   rw [Nat.zero_add,Nat.mul_one] at hxa
   rw [hr] at hn
   have c6:((r:Int)<=(o.n:Int))=False:=by simp;omega
   have c7:((o.n:Int)<0)=False:=by simp
   rcases kk with d1 | ⟨d1,d2⟩
   ·simp (disch:=first|omega|simp only[List.length]|apply_rules[jaa,jac,jad]) only [go_sem,eA,eB,eC,nA,nb,yA,yB,xC,d1,c1,c2]
    unfold jip jio jin
    simp (disch:=first|omega|simp only[List.length]|apply_rules[jaa,jac,jad]) only [go_sem,yA,xC,c3,c4,c5,c6,c7,iv,ja5,hxa,hrd,jjh k3]
    exact ⟨1,rfl⟩
   ·simp (disch:=first|omega|simp only[List.length]|apply_rules[jaa,jac,jad]) only [go_sem,eA,eB,eC,nA,nb,yA,yB,xC,d1,d2,c1,c2]
    unfold jip jio jin
    simp (disch:=first|omega|simp only[List.length]|apply_rules[jaa,jac,jad]) only [go_sem,yA,xC,c3,c4,c5,c6,c7,iv,ja5,hxa,hrd,jjh k3]
    exact ⟨1,rfl⟩
  ·have e5:o.limit=5:=by omega
   have c4:((o.limit:Int)=4)=False:=by simp;omega
   have c5:((o.limit:Int)=5)=True:=by simp;omega
   obtain ⟨hk,hlt⟩:=k.reu e5
   have d1:((o.kind:Int)≠1)=True:=by simp;omega
   have d2:((o.kind:Int)≠2)=False:=by simp;omega
   rw [hlt] at eC xC ⊢
   simp (disch:=first|omega|simp only[List.length]|apply_rules[jaa,jac,jad]) only [go_sem,eA,eB,eC,nA,nb,yA,yB,xC,d1,d2,c1,c2]
   unfold jip jio jin
   simp (disch:=first|omega|simp only[List.length]|apply_rules[jaa,jac,jad]) only [go_sem,yA,yB,xC,c3,c4,c5,d2,jjh k3]
   exact ⟨1,rfl⟩
theorem j1l {f:Fc} {args ps:List Nat} {bF:Nat} (hl:args.length<=10000) (ha:∀ v∈args,v<f.values.length) (hp:∀ v∈ps,v<f.values.length) (hcl:ps.map (cl f.values)=args.map (cl f.values)) {x0 x1 x2 x11 x13 x15:AV} {Q:Ex->St->Prop} :
 ∀ (d i:Nat) (_:i+d=args.length) {hi:Hp} (_:Ok hi) (_:hi.get bF=some (.arr [jak ja5 f.values,jak ja7 f.blocks] 26)) {x3 x4 x5 x6 x8:AV}
  (hQ:∀ hj x3 x4 x5 x6 x8,Q (.exit 0) (.mk [x0,x1,x2,x3,x4,x5,x6,.s (jak ja5 args),x8,vi args.length,vi args.length,x11,.s (jak ja5 ps),x13,.s (.ptr bF 0),x15] hj)),
  W F4 jm3.loop (.mk [x0,x1,x2,x3,x4,x5,x6,.s (jak ja5 args),x8,vi args.length,vi i,x11,.s (jak ja5 ps),x13,.s (.ptr bF 0),x15] hi) Q
 | 0,i,hd,hi,ok,xF,x3,x4,x5,x6,x8,hQ=>by
  obtain rfl:i=args.length:=by omega
  rw [jao]
  unfold jm3
  simp (disch:=first|omega|simp only[List.length]|apply_rules[jaa,jac,jad]) only [go_sem,Int.lt_irrefl]
  exact hQ hi ..
 | d+1,i,hd,hi,ok,xF,x3,x4,x5,x6,x8,hQ=>by
  have hlt:(i:Int)<args.length:=by omega
  have hpl:ps.length=args.length:=by have:=congrArg List.length hcl;simpa using this
  obtain ⟨v,hget⟩:∃ x,args[i]?=some x:=⟨_,List.getElem?_eq_getElem (by omega)⟩
  obtain ⟨u,hpet⟩:∃ x,ps[i]?=some x:=⟨_,List.getElem?_eq_getElem (by omega)⟩
  have hv:=ha v (List.mem_of_getElem? hget)
  have hu:=hp u (List.mem_of_getElem? hpet)
  have huv:cl f.values u=cl f.values v:=by
   have:=congrArg (fun l=>l[i]?) hcl
   simp only [List.getElem?_map,hget,hpet,Option.map_some,Option.some.injEq] at this
   exact this
  have hix:=jap (enc:=ja5) (size:=1) hget rfl
  have hipx:=jap (enc:=ja5) (size:=1) hpet rfl
  have iv:=jap (enc:=ja5) (size:=1) (jp0 hv) rfl
  have iu:=jap (enc:=ja5) (size:=1) (jp0 hu) rfl
  have hs:(i:Int)+1=((i+1:Nat):Int):=by omega
  have c1:((cl f.values u:Int)≠(cl f.values v:Int))=False:=by simp;omega
  rw [jao]
  unfold jm3 j1d j1c j1b
  simp (disch:=first|omega|simp only[List.length]|apply_rules[jaa,jac,jad]) only [go_sem,jah,eq_true hlt,hix,hipx,iv,iu,ja5,xF,jjh hv,jjh hu,c1,hs]
  exact j1l hl ha hp hcl d (i+1) (by omega) ok xF hQ
theorem qfl {h:Hp} (ok:Ok h) {f:Fc} {e:Ms.Edg} (k:jpw f.values f.blocks e) (hl:e.args.length<=10000):WC F4 36 [.agg [jak ja5 f.values,jak ja7 f.blocks],.agg [si e.block,jak ja5 e.args]] h (fun v h'=>∃ d,jhf true h' d v=some (vi 0)):=by
 obtain ⟨k1,k2,t,k3,k4,k5⟩:=k
 refine ja9 (no4 rfl rfl rfl rfl) qia rfl ?_
 unfold j65
 obtain ⟨hA,eA,okA,nA,xA,gA⟩:=je5 ok [jak ja5 f.values,jak ja7 f.blocks] 26
 obtain ⟨hB,eB,okB,nB,xB,gB⟩:=je5 okA [si e.block,jak ja5 e.args] 51
 have yA:=(gB _ (by omega)).trans xA
 rw [nA] at xB
 have hlt:e.block<f.blocks.length:=by
  rcases Nat.lt_or_ge e.block f.blocks.length with h7 | h7
  ·exact h7
  ·rw [List.getElem?_eq_none h7] at k3;cases k3
 have hpl:t.params.length=e.args.length:=by have:=congrArg List.length k4;simpa using this
 have c1:((e.block:Int)<1)=False:=by simp;omega
 have c2:((f.blocks.length:Int)<=(e.block:Int))=False:=by simp;omega
 have c3:((e.args.length:Int)≠(t.params.length:Int))=False:=by simp;omega
 have ix:=jap (enc:=ja7) (size:=3) k3 rfl
 have l1:=jan (enc:=ja7) (l:=f.blocks)
 have l2:=jan (enc:=ja5) (l:=e.args)
 have l3:=jan (enc:=ja5) (l:=t.params)
 simp (disch:=first|omega|simp only[List.length]|apply_rules[jaa,jac,jad]) only [go_sem,eA,eB,nA,yA,xB,c1,c2,l1]
 unfold j1f j1e
 simp (disch:=first|omega|simp only[List.length]|apply_rules[jaa,jac,jad]) only [go_sem,yA,xB,ix,ja7,c3,l2,l3]
 refine j1l hl k2 k5 k4 e.args.length 0 (by omega) okB yA (fun hj x3 x4 x5 x6 x8=>?_)
 simp (disch:=first|omega|simp only[List.length]|apply_rules[jaa,jac,jad]) only [go_sem]
 exact ⟨1,rfl⟩
end Go.Proofs.Ytaljcpoopmedmaa.Ev
