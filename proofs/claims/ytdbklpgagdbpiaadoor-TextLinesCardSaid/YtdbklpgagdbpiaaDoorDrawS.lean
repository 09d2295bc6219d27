/- A region that draws its order is sound. No program in sight. -/
import Derived.Test.YtdbklpgagdbpiaaDoorDraw
namespace Go.Proofs.YtdbklpgagdbpiaaDoor.Ev
open Go
set_option linter.all false
variable {d i j m t:Nat}
section
variable {P:Program} {A:Nat->Int} {T:Tr TI} {π:List Nat} {nt:Nat} {ops:Array Oper} {cl:FuncId->List AV->Hp->R} {V:Nat->AV} {H:Nat->Hp} {E:Nat->Ent} {F:Nat->List AV}
 {φ φ0:Phi} {w w0:World} {L:Nat->Prop} {a a0:Act}
theorem jl9 {loc:List (Option Nat)} {o:Oper} {ip:IOper} (h:j4s T π nt loc i o=some ip) :
 jjf nt o.dst=true/\∃ op g,ip=.mk (jfx π o.dst) op g/\cOp T π loc o.op=some op/\joy loc i o.guard=some g:=by
 unfold j4s at h
 cases hd:jjf nt o.dst with
 | false=>rw[hd] at h;cases h
 | true =>
  rw[hd] at h
  simp only[cond_true] at h
  split at h
  .rename_i op g h1 h2
   cases h
   exact⟨rfl,op,g,rfl,h1,h2⟩
  .cases h
theorem DCtx.frame (c:DCtx T π nt ops cl V H E F) (hj:idx t π 0=some j):∀ i,i<=ops.size->(∀ k,k<i->dD ops k≠some t)->(F i)[j]?=(F 0)[j]?
 | 0,_,_=>rfl
 | i+1,hi,h=>by
  obtain⟨op,g,b,_,_,_,_,_,_,h6⟩:=c.kind (show i<ops.size by omega)
  have ih:=DCtx.frame c hj i (by omega) (fun k hk=>h k (by omega))
  rw[h6,←ih]
  cases hd:dD ops i with
  | none=>rfl
  | some d =>
   have hne:d≠t:=fun e=>h i (by omega) (by rw[hd,e])
   cases hc:jfx π (some d) with
   | none=>rfl
   | some j' =>
    have hj':idx d π 0=some j':=hc
    show(jr8 (F i) j' (V i))[j]?=_
    rw[jgj]
    have:j'≠j:=by
     rintro rfl
     have h1:=jcp hj
     rw[jcp hj'] at h1
     cases h1
     exact hne rfl
    rw[f1s this]
theorem jgc {loc:List (Option Nat)} {k:Nat}:∀ {os:List Operand},jh5 loc k m os=true->∀ t,Operand.tmp t∈os->∀ i,jne t loc 0=some i->tb m (k - 1 - i)=true
 | [],_,t,ht,_,_=>by simp at ht
 | o::os,h,t,ht,i,hi=>by
  cases o with
  | tmp u =>
   simp only[jh5,f0y] at h
   rcases f0j.1 ht with e | ht
   .cases e
    rw[hi] at h
    exact h.1
   .exact jgc h.2 t ht i hi
  | _ =>
   simp only[jh5] at h
   rcases f0j.1 ht with e | ht
   .cases e
   .exact jgc h t ht i hi
theorem jxj {x:Nat}:∀ {l:List Nat},x∈l->qsl x l=true
 | [],h=>by simp at h
 | a::l,h=>by
  simp only[qsl,f2v,jgt]
  rcases f0j.1 h with rfl | h
  .exact .inl rfl
  .exact .inr (jxj h)
theorem jiy:∀ {os:List Operand},Operand.tmp t∈os->t∈joz os
 | [],h=>by simp at h
 | o::os,h=>by
  cases o with
  | tmp u =>
   simp only[joz,f0j]
   rcases f0j.1 h with e | h
   .cases e;exact .inl rfl
   .exact .inr (jiy h)
  | _ =>
   simp only[joz]
   rcases f0j.1 h with e | h
   .cases e
   .exact jiy h
theorem qcw (l:List (List Nat)):qcj l=l.length:=by
 induction l with
 | nil=>rfl
 | cons a l ih=>simp[qcj,ih]
theorem jpq {f:Nat->List Nat}:∀ {i:Nat},qsm d m (jal f i)=true->∀ j,j<i->d∈f j->tb m j=true
 | 0,_,j,hj,_=>by omega
 | i+1,h,j,hj,hd=>by
  simp only[jal,qsm,f0y,f2v,f18,qcw,jpl] at h
  rcases f1y.1 hj with h1 | h1
  .exact jpq h.2 j h1 hd
  .subst h1
   rcases h.1 with h2 | h2
   .rw [jxj hd] at h2;cases h2
   .exact h2
theorem DCtx.distinct (c:DCtx T π nt ops cl V H E F) (hi:i<ops.size) (hj:j<i) (hd:dD ops i=some d):dD ops j≠some d:=by
 intro h
 have h1:=(c.opf i hi).fresh
 rw[hd] at h1
 simp only[jw2] at h1
 have h2:=jbj (dD ops) hj
 rw[h] at h2
 have:∀ (l:List (Option Nat)) (k:Nat),l[k]?=some (some d)->∃ q,jne d l 0=some q:=by
  intro l
  induction l with
  | nil=>intro k h;simp at h
  | cons x l ih =>
   intro k h
   rw[jes]
   by_cases e:x=some d
   .exact ⟨0,by rw[if_pos e]⟩
   .rw [if_neg e]
    cases k with
    | zero=>simp at h;exact absurd h e
    | succ k =>
     obtain⟨q,hq⟩:=ih k (by simpa using h)
     exact⟨q+1,by rw[hq];rfl⟩
 obtain⟨q,hq⟩:=this _ _ h2
 rw[hq] at h1
 cases h1
structure RInv (A:Nat->Int) (T:Tr TI) (π:List Nat) (nt:Nat) (ops:Array Oper) (V:Nat->AV) (H:Nat->Hp) (E:Nat->Ent) (φ0:Phi) (a0:Act) (w0:World) (L:Nat->Prop) (a:Act) (w:World):Prop where
 lt:∀ k,L k->k<ops.size
 closed:jsp ops L
 defers:a.defers=a0.defers
 size:a.tmps.size=a0.tmps.size
 slots:∀ t,(∀ j,j<ops.size->L j->dD ops j≠some t)->a.tmps.getD t undef=a0.tmps.getD t undef
 heap:∃ φ,(∀ n,n<(H 0).next->φ n=φ0 n)/\(∀ i d,L i->dD ops i=some d->cV A (cut φ (H (i+1)).next) (V i) (a.tmps.getD d undef)) /\
  (((∀ k,L k->¬ (aO T π nt ops k=true/\md T π nt ops k=none))/\HInv A ops H E φ0 w0 L φ w) ∨
   ∃ t,L t/\(aO T π nt ops t=true/\md T π nt ops t=none)/\(∀ k,L k->(aO T π nt ops k=true/\md T π nt ops k=none)->k<=t)/\Step (fun n=>(H 0).lo<=n) φ0 φ (H 0) (H (t+1)) w0 w/\Rel A φ (H (t+1)) w)
theorem j7d (c:DCtx T π nt ops cl V H E F) (k:RInv A T π nt ops V H E φ0 a0 w0 L a w) (k0:Rel A φ0 (H 0) w0) (hf:FrR A φ0 π (F 0) a0) (hi:i<ops.size) (hni:¬ L i)
 (hd:∀ e∈(jc1 ops i).after.toList,Region.binds .any e=true->L e.on) {φ:Phi} (hag:∀ n,n<(H 0).next->φ n=φ0 n) (hkk:∀ b cs,φ0.k b=some cs->φ.k b=some cs) (hval:∀ i d,L i->dD ops i=some d->cV A (cut φ (H (i+1)).next) (V i) (a.tmps.getD d undef)) :
 jkh A (cut φ (H i).next) π (jal (dD ops) i) (jal V i) (F i) (jc1 ops i).op.operands.toList a.eval:=by
 intro x hx y v hy hv
 have φ0le:φ0.le (cut φ (H i).next):=by
  refine⟨fun n l e=>?_,hkk⟩
  have hn:n<(H 0).next:=by
   rcases f0h n (H 0).next with h | h
   .exact h
   .rw [k0.dom n h] at e;cases e
  rw[qe8 (f0m hn (c.mono i (by omega) (by omega))),hag n hn]
  exact e
 cases x with
 | tmp t =>
  simp only[cO] at hy
  split at hy
  .rename_i q hq
   cases hy
   have hv':jec (jal V i) q=some v:=hv
   rw[jcl] at hv'
   obtain⟨h1,h2⟩:=jiw hv'
   obtain⟨h3,h4⟩:=jiw (jiu hq)
   have hL:=c.maskIn k.closed i (i - 1 - q) hi hd (jgc (c.opf i hi).reads t hx q hq)
   have:=hval (i - 1 - q) t hL h4
   rw[h2] at this
   exact this.mono (jix (Phi.le_refl _) (c.mono i (by omega) (by omega)))
  .rename_i hnone
   split at hy
   .rename_i j hj
    cases hy
    have hv':jec (F i) j=some v:=hv
    rw[jcl] at hv'
    have hearly:∀ q,q<i->dD ops q≠some t:=by
     intro q hq e
     have h2:=jbj (dD ops) hq
     rw[e] at h2
     have:∀ (l:List (Option Nat)) (k:Nat),l[k]?=some (some t)->jne t l 0≠none:=by
      intro l
      induction l with
      | nil=>intro k h;simp at h
      | cons x l ih =>
       intro k h
       rw[jes]
       by_cases e:x=some t
       .rw [if_pos e];simp
       .rw [if_neg e]
        cases k with
        | zero=>simp at h;exact absurd h e
        | succ k =>
         have:=ih k (by simpa using h)
         simpa using this
     exact this _ _ h2 hnone
    rw[c.frame hj i (by omega) hearly] at hv'
    have h0:=hf t j v hj hv'
    have hsl:a.tmps.getD t undef=a0.tmps.getD t undef:=k.slots t (fun q hq hl e=>by
     rcases f0h q i with h | h
     .exact hearly q h e
     .have hqi:i<q:=by
       rcases f0h i q with h' | h'
       .exact h'
       .obtain rfl:q=i:=by omega
        exact absurd hl hni
      have hw:=(c.opf q hq).wr
      rw[e] at hw
      have hmem:t∈rD ops i:=jiy hx
      exact hni (c.maskIn k.closed q i hq (k.closed q hq hl) (jpq hw i hqi hmem)))
    show cV A _ v (a.tmps.getD t undef)
    rw[hsl]
    exact h0.mono φ0le
   .cases hy
 | const u =>
  obtain⟨z,hz,rfl⟩:=f0a.1 (show(jsa u).map .c=some y from hy)
  cases hv
  exact jie hz
 | func f =>
  cases hy
  cases hv
  exact⟨[],rfl,.nil⟩
 | global g =>
  simp only[cO] at hy
  cases hg:qhp g with
  | none=>rw[hg] at hy;cases hy
  | some cs =>
   rw[hg] at hy
   cases hy
   cases hv
   exact jzt _ hg
theorem RInv.put (c:DCtx T π nt ops cl V H E F) (k:RInv A T π nt ops V H E φ0 a0 w0 L a w) (hi:i<ops.size) (hni:¬ L i) (hd:∀ e∈(jc1 ops i).after.toList,Region.binds .any e=true->L e.on)
 (hnt:nt<=a0.tmps.size) (hds:jjf nt (dD ops i)=true) {φ φ':Phi} (hag:∀ n,n<(H 0).next->φ' n=φ0 n) (hle:φ.le φ') (hval:∀ i d,L i->dD ops i=some d->cV A (cut φ (H (i+1)).next) (V i) (a.tmps.getD d undef)) {rv:Value} {w':World}
 (hrv:cV A (cut φ' (H (i+1)).next) (V i) rv)
 (hh:((∀ k,(L k∨k=i)->¬ (aO T π nt ops k=true/\md T π nt ops k=none))/\HInv A ops H E φ0 w0 (fun j=>L j∨j=i) φ' w') ∨
  ∃ t,(L t∨t=i)/\(aO T π nt ops t=true/\md T π nt ops t=none)/\(∀ k,(L k∨k=i)->(aO T π nt ops k=true/\md T π nt ops k=none)->k<=t)/\Step (fun n=>(H 0).lo<=n) φ0 φ' (H 0) (H (t+1)) w0 w'/\Rel A φ' (H (t+1)) w') :
 RInv A T π nt ops V H E φ0 a0 w0 (fun j=>L j∨j=i) (a.put (jc1 ops i).dst rv) w':=by
 have hdst:∀ d,dD ops i=some d->d<a.tmps.size:=fun d h=>by
  rw[h] at hds
  have:Nat.ble (d+1) nt=true:=hds
  exact f0m (f0g this) (by rw[k.size];exact hnt)
 have get:∀ t,(a.put (jc1 ops i).dst rv).tmps.getD t undef=if dD ops i=some t then rv else a.tmps.getD t undef:=by
  intro t
  show(a.put (dD ops i) rv).tmps.getD t undef=_
  cases hdd:dD ops i with
  | none=>rfl
  | some d =>
   rw[jga (hdst d hdd)]
   by_cases e:t=d
   .subst e;simp
   .rw [if_neg e,if_neg (fun h=>e (by cases h;rfl))]
 refine⟨fun j hj=>?_,fun j hj hl e he hb=>?_,(jeh _ _).trans k.defers,(jck _ _).trans k.size,fun t ht=>?_,φ',hag,fun j d hj hdj=>?_,hh⟩
 .rcases hj with hj | rfl
  .exact k.lt j hj
  .exact hi
 .rcases hl with hl | rfl
  .exact .inl (k.closed j hj hl e he hb)
  .exact .inl (hd e he hb)
 .rw [get t,if_neg (ht i hi (.inr rfl))]
  exact k.slots t (fun j hj hl=>ht j hj (.inl hl))
 .rw [get d]
  rcases hj with hj | rfl
  .have hne:dD ops i≠some d:=by
    intro h
    have hji:j≠i:=fun e=>by subst e;exact hni hj
    rcases Nat.lt_or_gt_of_ne hji with h1 | h1
    .exact c.distinct hi h1 h hdj
    .exact c.distinct (k.lt j hj) h1 hdj h
   rw[if_neg hne]
   exact(hval j d hj hdj).mono (jix hle (f0d _))
  .rw [if_pos hdj]
   exact hrv
theorem RInv.step (hT:Tys P T) (hclk:qcu P A cl) (c:DCtx T π nt ops cl V H E F) (k0:Rel A φ0 (H 0) w0) (hf:FrR A φ0 π (F 0) a0) (hnt:nt<=a0.tmps.size) (k:RInv A T π nt ops V H E φ0 a0 w0 L a w) (hi:i<ops.size) (hni:¬ L i)
 (hd:∀ e∈(jc1 ops i).after.toList,Region.binds .any e=true->L e.on) {Q:Exit->Act->World->Prop} :
 if Region.wanted (jc1 ops i) (yielded ops a.tmps)=true then (jc1 ops i).wp P a w (fun a' w'=>RInv A T π nt ops V H E φ0 a0 w0 (fun j=>L j∨j=i) a' w') Q
 else RInv A T π nt ops V H E φ0 a0 w0 (fun j=>L j∨j=i) (a.put (jc1 ops i).dst undef) w:=by
 obtain⟨φ,hag,hval,hheap⟩:=k.heap
 obtain⟨op,g,b,hpO,hop,hgd,hds,hgo,hk,hF⟩:=c.kind hi
 have hkk:∀ b cs,φ0.k b=some cs->φ.k b=some cs:=by
  rcases hheap with⟨_,hv⟩ | ⟨_,_,_,_,sv,_⟩
  .exact hv.kle
  .exact sv.kle
 have hE:=j7d c k k0 hf hi hni hd hag hkk hval
 have hopAt:ops[i]?=some (jc1 ops i):=by simp[jc1,f0n,hi]
 have hwant:Region.wanted (jc1 ops i) (yielded ops a.tmps)=b:=by
  refine jjk (φ:=φ) (A:=A) (loc:=jal (dD ops) i) (st:=jal V i) (k:=i) (fun j hj=>?_) (fun j d hj hjd=>?_) (fun j want d v hgj hjd hjv=>?_) hgd hgo
  .rw [jbj (dD ops) hj]
   have:ops[j]?=some (jc1 ops j):=by simp[jc1,f0n,show j<ops.size by omega]
   rw[this];rfl
  .rw [jbj (dD ops) hj] at hjd
   obtain⟨_,_,_,_,_,_,hds',_,_,_⟩:=c.kind (show j<ops.size by omega)
   have:dD ops j=some d:=Option.some.inj hjd
   rw[this] at hds'
   have h2:Nat.ble (d+1) nt=true:=hds'
   exact f0m (f0g h2) (by rw[k.size];exact hnt)
  .have hg:=(c.opf i hi).grd
   rw[hgj] at hg
   have hji:=c.maskLt i j hi hg
   have hLj:=c.maskIn k.closed i j hi hd hg
   rw[jbj V hji] at hjv
   cases hjv
   have h3:=jiu hjd
   rw[jbj (dD ops) hji] at h3
   exact(hval j d hLj (Option.some.inj h3)).mono j2o
 have quiet:∀ rv,cV A (cut φ (H (i+1)).next) (V i) rv->H (i+1)=H i->E i=.mk [] (some [])->RInv A T π nt ops V H E φ0 a0 w0 (fun j=>L j∨j=i) (a.put (jc1 ops i).dst rv) w:=by
  intro rv hrv e1 e2
  refine k.put c hi hni hd hnt hds hag (Phi.le_refl _) hval hrv ?_
  have hno:∀ n,¬ Tch E i n:=fun n h=>by
   have h':jao (j47 (E i)) n=true:=h
   rw[e2] at h';cases h'
  by_cases hTi:aO T π nt ops i=true/\md T π nt ops i=none
  ·
   obtain⟨t1,t2⟩:=jl8 hi hTi.1 hTi.2
   have before:∀ j,j<i->aO T π nt ops j=true->L j:=fun j hj ha=>c.maskIn k.closed i j hi hd (t1 j hj ha)
   have notafter:∀ j,L j->aO T π nt ops j=true->j<i:=by
    intro j hj ha
    rcases f0h j i with h | h
    .exact h
    .have hij:i<j:=by
      rcases f0h i j with h' | h'
      .exact h'
      .obtain rfl:j=i:=by omega
       exact absurd hj hni
     exact absurd (c.maskIn k.closed j i (k.lt j hj) (k.closed j (k.lt j hj) hj) ((t2 j (by omega) (k.lt j hj) ha).2 i hij hTi.1)) hni
   refine .inr ⟨i,.inr rfl,hTi,fun q hq hT'=>?_,?_⟩
   .rcases hq with hq | rfl
    .have:=notafter q hq hT'.1;omega
    .exact f0d _
   .rw [e1]
    rcases hheap with⟨hn,hv⟩ | ⟨t,ht1,ht2,ht3,ht4,ht5⟩
    .obtain ⟨r,s⟩:=hv.full c (by omega) (fun j hj h=>hn j (before j hj h.1) h) before (fun j hj hl ha=>notafter j hl ha)
     exact⟨s,r⟩
    .have hti:=notafter t ht1 ht2.1
     have same:∀ j,t+1<=j->j<=i->H j=H (t+1):=by
      intro j
      induction j with
      | zero=>intro h _;omega
      | succ j ih =>
       intro h1 h2
       rcases f0h t j with h3 | h3
       .rw [←ih (by omega) (by omega)]
        have hna:aO T π nt ops j=false:=by
         cases ha:aO T π nt ops j with
         | false=>rfl
         | true =>
          have:=(jl8 (k.lt t ht1) ht2.1 ht2.2).2 j (by omega) (by omega) ha
          have:=ht3 j (before j (by omega) ha) ⟨ha,this.1⟩
          omega
        obtain⟨op',g',b',hpO',_,_,_,_,hk',_⟩:=c.kind (show j<ops.size by omega)
        cases hk' with
        | skip _ e _=>exact e
        | pure _ _ _ e _ _=>exact e
        | head js _ _ hm _ _ _=>rw[(jl7 hm).1] at hna;cases hna
        | tail _ ha _ _=>rw[ha] at hna;cases hna
       .obtain rfl:t=j:=by omega
        rfl
     rw[same i (by omega) (f0d _)]
     exact⟨ht4,ht5⟩
  .rcases hheap with⟨hn,hv⟩ | ⟨t,ht1,ht2,ht3,ht4,ht5⟩
   .refine .inl ⟨fun q hq=>?_,hv.quiet hno⟩
    rcases hq with hq | rfl
    .exact hn q hq
    .exact hTi
   .refine .inr ⟨t,.inl ht1,ht2,fun q hq hT'=>?_,ht4,ht5⟩
    rcases hq with hq | rfl
    .exact ht3 q hq hT'
    .exact absurd hT' hTi
 rw[hwant]
 have hdd:(jc1 ops i).dst=dD ops i:=rfl
 cases hk with
 | skip e1 e2 e3 =>
  simp only[f0v,if_false]
  exact quiet undef (by rw[e1];rfl) e2 e3
 | pure po e1 e2 e3 e4 e5 =>
  simp only[if_true]
  subst e1
  obtain⟨rv,hr,hcv⟩:=jkl (w:=w) hT hE hop e2
  exact jdd hr rfl (quiet rv (by rw[e3];exact hcv) e3 e4)
 | head js hid' h1 hm hs hr he =>
  simp only[if_true]
  have hmh:=jl7 hm
  have hnt':∀ q,L q->¬ (aO T π nt ops q=true/\md T π nt ops q=none):=by
   intro q hq hTq
   rcases f0h q i with h | h
   .exact hmh.2 q h hTq
   .have hiq:i<q:=by
     rcases f0h i q with h' | h'
     .exact h'
     .obtain rfl:q=i:=by omega
      exact absurd hq hni
    exact hni (c.maskIn k.closed q i (k.lt q hq) (k.closed q (k.lt q hq) hq) ((jl8 (k.lt q hq) hTq.1 hTq.2).1 i hiq hmh.1))
  rcases hheap with⟨hn,hv⟩ | ⟨t,ht1,ht2,_⟩
  .have hact:jth (.mk none op none)=true:=by
    have h2:aO T π nt ops i=jth (.mk (jfx π (dD ops i)) op g):=by unfold aO;rw[hpO]
    rw[hmh.1] at h2
    exact h2.symm
   refine j7c hT hclk c k.closed hi hni hd hv hop hact hm hs hr he hE (fun φ' rv w' hv' hle hcv=>?_)
   refine k.put c hi hni hd hnt hds (fun n hn'=>?_) hle hval hcv (.inl ⟨fun q hq=>?_,hv'⟩)
   .exact hv'.agree n hn'
   .rcases hq with hq | rfl
    .exact hn q hq
    .intro h;rw[hm] at h;cases h.2
  .exact absurd ht2 (hnt' t ht1)
 | tail hm ha hiop he =>
  simp only[if_true]
  obtain⟨t1,t2⟩:=jl8 hi ha hm
  have before:∀ j,j<i->aO T π nt ops j=true->L j:=fun j hj ha=>c.maskIn k.closed i j hi hd (t1 j hj ha)
  have notafter:∀ j,L j->aO T π nt ops j=true->j<i:=by
   intro j hj ha'
   rcases f0h j i with h | h
   .exact h
   .have hij:i<j:=by
     rcases f0h i j with h' | h'
     .exact h'
     .obtain rfl:j=i:=by omega
      exact absurd hj hni
    exact absurd (c.maskIn k.closed j i (k.lt j hj) (k.closed j (k.lt j hj) hj) ((t2 j (by omega) (k.lt j hj) ha').2 i hij ha)) hni
  have hmain:Rel A φ (H i) w/\Step (fun n=>(H 0).lo<=n) φ0 φ (H 0) (H i) w0 w:=by
   rcases hheap with⟨hn,hv⟩ | ⟨t,ht1,ht2,ht3,ht4,ht5⟩
   .exact hv.full c (by omega) (fun j hj h=>hn j (before j hj h.1) h) before (fun j hj hl ha=>notafter j hl ha)
   .have hti:=notafter t ht1 ht2.1
    have same:∀ j,t+1<=j->j<=i->H j=H (t+1):=by
     intro j
     induction j with
     | zero=>intro h _;omega
     | succ j ih =>
      intro h1 h2
      rcases f0h t j with h3 | h3
      .rw [←ih (by omega) (by omega)]
       have hna:aO T π nt ops j=false:=by
        cases ha':aO T π nt ops j with
        | false=>rfl
        | true =>
         have:=(jl8 (k.lt t ht1) ht2.1 ht2.2).2 j (by omega) (by omega) ha'
         have:=ht3 j (before j (by omega) ha') ⟨ha',this.1⟩
         omega
       obtain⟨op',g',b',hpO',_,_,_,_,hk',_⟩:=c.kind (show j<ops.size by omega)
       cases hk' with
       | skip _ e _=>exact e
       | pure _ _ _ e _ _=>exact e
       | head js _ _ hm _ _ _=>rw[(jl7 hm).1] at hna;cases hna
       | tail _ ha _ _=>rw[ha] at hna;cases hna
      .obtain rfl:t=j:=by omega
       rfl
    rw[same i (by omega) (f0d _)]
    exact⟨ht5,ht4⟩
  obtain⟨r,s⟩:=hmain
  have hE':jkh A φ π (jal (dD ops) i) (jal V i) (F i) (jc1 ops i).op.operands.toList a.eval:=fun x hx y v hy hv=>(hE x hx y v hy hv).mono j2o
  refine jiv (cl:=cl) hT hclk hE' r hop hiop _ (.inr rfl) (fun φ' rv w' s' r' hcv=>?_)
  have hlo:=(c.wfs i (by omega)).2.1
  have s'':Step (fun n=>(H 0).lo<=n) φ φ' (H i) (H (i+1)) w w':=by rw[hlo] at s';exact s'
  have st:=s.trans s''
  refine k.put c hi hni hd hnt hds (fun n hn'=>st.ext n hn') (s'.le r) hval ?_ (.inr ⟨i,.inr rfl,⟨ha,hm⟩,fun q hq hT'=>?_,st,r'⟩)
  .have:cut φ' (H (i+1)).next=φ':=by
    refine Phi.ext (fun n=>?_) rfl
    rw[jnq]
    split
    .rfl
    .rename_i h;exact(r'.dom n (by omega)).symm
   rw[this];exact hcv
  .rcases hq with hq | rfl
   .have:=notafter q hq hT'.1;omega
   .exact f0d _
theorem j48 (hmix:P.follows .mixedOrders=true) (hT:Tys P T) (hclk:qcu P A cl) (hcla:jkq cl) {l:List (IOper×Option (List Nat))} (hc:j6n T π nt ops.toList=some l) {fr:List AV} {h:Hp} {s:St} (hr:jzd cl l [] [] fr h=some s)
 (k:Rel A φ0 h w) (hf:FrR A φ0 π fr a) (hnt:nt<=a.tmps.size) {id:Nat} {Q:Exit->Act->World->Prop}
 (hQ:∀ φ' fr' h' a' w',s=.mk fr' h'->Step (fun n=>h.lo<=n) φ0 φ' h h' w w'->Rel A φ' h' w'->FrR A φ' π fr' a'->a'.defers=a.defers->a'.tmps.size=a.tmps.size->Q .normal a' w') :
 (Code.region id ops true).wp P Q a w:=by
 obtain⟨hlen,hspec⟩:=j46 T π nt ops hc
 obtain⟨V,H,E,F,_,p2,p3,p4⟩:=jsn l 0 (fun _=>.undef) (fun _=>h) (fun _=>.mk [] none) (fun _=>fr) s hr
 have hH0:H 0=h:=(p2 0 (f0d _)).1
 have hF0:F 0=fr:=(p2 0 (f0d _)).2
 have c:DCtx T π nt ops cl V H E F:=by
  refine⟨fun i hi=>(hspec i hi).1,fun i hi=>?_,by rw[hH0];exact k.wf,hcla⟩
  obtain⟨ho,hl⟩:=hspec i hi
  obtain⟨hds,op,g,e1,e2,e3⟩:=jl9 ho.oper
  have hl':l[i]?=some (.mk (jfx π (dD ops i)) op g,md T π nt ops i):=by rw[hl,e1];rfl
  have:=p3 i _ op g _ hl'
  rw[f0z] at this
  exact⟨op,g,e1,e2,e3,hds,this.1,this.2⟩
 have k1:Rel A φ0 (H 0) { w with drawn:=w.drawn+1 }:=by rw[hH0];exact k.heap rfl
 have opAt_of:∀ (i:Nat) o,ops[i]?=some o->i<ops.size/\jc1 ops i=o:=fun i o ho =>
  ⟨(f05.1 ho).1,by simp[jc1,f0n,ho]⟩
 refine jja hmix (fun L a' w'=>RInv A T π nt ops V H E φ0 a { w with drawn:=w.drawn+1 } L a' w') ?_ ?_ ?_ ?_
 .intro i o ho e he hb
  obtain⟨hi,rfl⟩:=opAt_of i o ho
  exact c.back hi (by simpa using he) hb
 .refine ⟨fun _ h=>h.elim,fun _ _ h=>h.elim,rfl,rfl,fun _ _=>rfl,φ0,fun _ _=>rfl,fun _ _ h=>h.elim,.inl ⟨fun _ h=>h.elim,?_⟩⟩
  refine⟨fun _ _=>rfl,fun n lc hl=>?_,fun n x _ hx=>?_,fun _ _ _ _ h=>h.elim,fun n n' lc lc' hn hn'=>?_,rfl,rfl,rfl,f0d _,fun _ _ _=>rfl,k1.con,fun n lc hn hl=>?_,fun _ _ e=>e,fun _ _ e=>.inl e,fun n lc hn hp hl=>?_⟩
  .rcases f0h n (H 0).next with h1 | h1
   .exact .inl h1
   .rw [k1.dom n h1] at hl;cases hl
  .have:=k1.blk n x hx
   have e:cut φ0 (H 0).next=φ0:=by
    refine Phi.ext (fun m=>?_) rfl
    rw[jnq]
    split
    .rfl
    .rename_i h;exact(k1.dom m (by omega)).symm
   rw[e];exact this
  .rcases hn with⟨_,hn⟩ | ⟨_,_,h,_⟩
   .rcases hn' with⟨_,hn'⟩ | ⟨_,_,h,_⟩
    .exact k1.inj n n' lc lc' hn hn'
    .exact h.elim
   .exact h.elim
  .rcases hn with⟨_,hn⟩ | ⟨_,_,h,_⟩
   .exact k1.sep n lc hn hl
   .exact h.elim
  .rw [k1.dom n hn] at hl;cases hl
 .intro L a' w' i o hI hni ho hdeps
  obtain⟨hi,rfl⟩:=opAt_of i o ho
  exact hI.step hT hclk c k1 (by rw[hF0];exact hf) hnt hi hni (fun e he hb=>hdeps e (by simpa using he) hb)
 .intro L a' w' hI hall
  obtain⟨φ,hag,hval,hheap⟩:=hI.heap
  have hend:Rel A φ (H ops.size) w'/\Step (fun n=>(H 0).lo<=n) φ0 φ (H 0) (H ops.size) { w with drawn:=w.drawn+1 } w':=by
   rcases hheap with⟨hn,hv⟩ | ⟨t,ht1,ht2,ht3,ht4,ht5⟩
   .exact hv.full c (f0d _) (fun j hj h=>hn j (hall j hj) h) (fun j hj _=>hall j hj) (fun j hj _ _=>hj)
   .have same:∀ j,t+1<=j->j<=ops.size->H j=H (t+1):=by
     intro j
     induction j with
     | zero=>intro h _;omega
     | succ j ih =>
      intro h1 h2
      rcases f0h t j with h3 | h3
      .rw [←ih (by omega) (by omega)]
       have hna:aO T π nt ops j=false:=by
        cases ha':aO T π nt ops j with
        | false=>rfl
        | true =>
         have:=(jl8 (hI.lt t ht1) ht2.1 ht2.2).2 j (by omega) (by omega) ha'
         have:=ht3 j (hall j (by omega)) ⟨ha',this.1⟩
         omega
       obtain⟨op',g',b',hpO',_,_,_,_,hk',_⟩:=c.kind (show j<ops.size by omega)
       cases hk' with
       | skip _ e _=>exact e
       | pure _ _ _ e _ _=>exact e
       | head js _ _ hm _ _ _=>rw[(jl7 hm).1] at hna;cases hna
       | tail _ ha _ _=>rw[ha] at hna;cases hna
      .obtain rfl:t=j:=by omega
       rfl
    rw[same ops.size (hI.lt t ht1) (f0d _)]
    exact⟨ht5,ht4⟩
  obtain⟨r,st⟩:=hend
  rw[hH0] at st
  have st0:Step (fun n=>h.lo<=n) φ0 φ0 h h w { w with drawn:=w.drawn+1 }:=Step.refl _ k rfl rfl rfl rfl
  refine hQ φ (F ops.size) (H ops.size) a' w' ?_ (st0.trans st) r ?_ hI.defers hI.size
  .rw [p4,hlen,f0z]
  .intro t j v hj hv
   by_cases hex:∃ i,i<ops.size/\dD ops i=some t
   .obtain ⟨i,hi,hdi⟩:=hex
    have later:∀ m,i+1<=m->m<=ops.size->(F m)[j]?=(F (i+1))[j]?:=by
     intro m
     induction m with
     | zero=>intro h _;omega
     | succ m ih =>
      intro h1 h2
      rcases f0h i m with h3 | h3
      .rw [←ih (by omega) (by omega)]
       obtain⟨_,_,_,_,_,_,_,_,_,h6⟩:=c.kind (show m<ops.size by omega)
       rw[h6]
       cases hd:dD ops m with
       | none=>rfl
       | some d =>
        have hne:d≠t:=fun e=>by subst e;exact c.distinct (show m<ops.size by omega) h3 hd hdi
        cases hcd:jfx π (some d) with
        | none=>rfl
        | some j' =>
         have hj':idx d π 0=some j':=hcd
         show(jr8 (F m) j' (V m))[j]?=_
         rw[jgj]
         have:j'≠j:=by
          rintro rfl
          have h1:=jcp hj
          rw[jcp hj'] at h1
          cases h1
          exact hne rfl
         rw[f1s this]
      .obtain rfl:i=m:=by omega
       rfl
    rw[later ops.size (by omega) (f0d _)] at hv
    obtain⟨_,_,_,_,_,_,_,_,_,h6⟩:=c.kind hi
    rw[h6,hdi] at hv
    have hcd:jfx π (some t)=some j:=hj
    rw[hcd] at hv
    have hv':(jr8 (F i) j (V i))[j]?=some v:=hv
    rw[jgj,f24] at hv'
    simp only[if_true] at hv'
    split at hv'
    .cases hv'
     exact(hval i t (hall i hi) hdi).mono j2o
    .cases hv'
   .have hno:∀ i,i<ops.size->dD ops i≠some t:=fun i hi e=>hex ⟨i,hi,e⟩
    rw[c.frame hj ops.size (f0d _) hno,hF0] at hv
    have:=hf t j v hj hv
    rw[hI.slots t (fun i hi _=>hno i hi)]
    have hkk:∀ b cs,φ0.k b=some cs->φ.k b=some cs:=by
     rcases hheap with⟨_,hv⟩ | ⟨_,_,_,_,sv,_⟩
     .exact hv.kle
     .exact sv.kle
    have hle:φ0.le φ:=by
     refine⟨fun n lc e=>?_,hkk⟩
     have hn:n<(H 0).next:=by
      rcases f0h n (H 0).next with h1 | h1
      .exact h1
      .rw [k1.dom n h1] at e;cases e
     rw[hag n hn];exact e
    exact this.mono hle
end
end Go.Proofs.YtdbklpgagdbpiaaDoor.Ev
