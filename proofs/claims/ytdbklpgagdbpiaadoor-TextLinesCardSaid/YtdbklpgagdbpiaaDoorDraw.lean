/- A region that draws its order: whichever order is drawn, the world comes to agree with the interpreter's heap. No program in sight. -/
import Derived.Test.YtdbklpgagdbpiaaDoorDrA
namespace Go.Proofs.YtdbklpgagdbpiaaDoor.Ev
open Go
set_option linter.all false
variable {v:AV} {h1:Hp} {fr st:List AV} {js:List Nat} {k m n:Nat}
def cut (φ:Phi) (m:Nat):Phi:=⟨fun n=>if n<m then φ n else none,φ.k,φ.g⟩
theorem jnq (φ:Phi) (m n:Nat):cut φ m n=if n<m then φ n else none:=rfl
theorem Phi.ext {φ ψ:Phi} (h:∀ n,φ n=ψ n) (k:φ.k=ψ.k):φ=ψ:=by
 obtain⟨a,b,_⟩:=φ
 obtain⟨c,d,_⟩:=ψ
 have h':a=c:=funext h
 have k':b=d:=k
 subst h' k'
 rfl
theorem j2o {φ:Phi}:(cut φ m).le φ:=by
 refine⟨fun n L h=>?_,fun _ _ h=>h⟩
 rw[jnq] at h;split at h
 .exact h
 .cases h
theorem jix {φ ψ:Phi} {m':Nat} (h:φ.le ψ) (hm:m<=m'):(cut φ m).le (cut ψ m'):=by
 refine⟨fun n L e=>?_,h.con⟩
 rw[jnq] at e ⊢
 split at e
 .rw [if_pos (by omega)];exact h.nm n L e
 .cases e
theorem jdm {φ:Phi} {L:Lc} (h:cut φ m n=some L):n<m/\φ n=some L:=by
 rw[jnq] at h;split at h
 .rename_i h1;exact⟨h1,h⟩
 .cases h
theorem qe8 {φ:Phi} (h:n<m):cut φ m n=φ n:=by rw[jnq,if_pos h]
theorem NmR.loc {A:Nat->Int} {φ:Phi} {x:AB} {w:World} (k:NmR A φ n x w):∃ L,φ n=some L/\L.b<w.heap.size:=k.some_loc
def jrw (ops:Array Oper) (H:Nat->Hp) (E:Nat->Ent) (L:Nat->Prop) (n:Nat):Prop :=
 ((∀ k,k<ops.size->L k->¬ Tch E k n)/\((H 0).get n).isSome=true)∨∃ k,k<ops.size/\L k/\Tch E k n/\(∀ k',k'<ops.size->L k'->k<k'->¬ Tch E k' n)/\((H (k+1)).get n).isSome=true
structure HInv (A:Nat->Int) (ops:Array Oper) (H:Nat->Hp) (E:Nat->Ent) (φ0:Phi) (w0:World) (L:Nat->Prop) (φ:Phi) (w:World):Prop where
 agree:∀ n,n<(H 0).next->φ n=φ0 n
 dom:∀ n l,φ n=some l->n<(H 0).next∨∃ k,k<ops.size/\L k/\(H k).next<=n/\n<(H (k+1)).next
 unt:∀ n x,(∀ k,k<ops.size->L k->¬ Tch E k n)->(H 0).get n=some x->NmR A (cut φ (H 0).next) n x w
 tch:∀ k n x,k<ops.size->L k->Tch E k n->(∀ k',k'<ops.size->L k'->k<k'->¬ Tch E k' n)->(H (k+1)).get n=some x->NmR A (cut φ (H (k+1)).next) n x w
 inj:∀ n n' l l',jrw ops H E L n->jrw ops H E L n'->φ n=some l->φ n'=some l'->l.b=l'.b->n=n'
 os:w.os=w0.os
 tape:w.tape=w0.tape
 output:w.output=w0.output
 size:w0.heap.size<=w.heap.size
 old:∀ b,b<w0.heap.size->(∀ n l,(H 0).lo<=n->((H 0).get n).isSome=true->φ0 n=some l->l.b≠b)->w.heap[b]?=w0.heap[b]?
 con:∀ b cs,φ.k b=some cs->∃ ty:TypeId×Nat×Nat,w.heap[b]?=some (.cells cs ty.1 ty.2)
 sep:∀ n l,jrw ops H E L n->φ n=some l->φ.k l.b=none
 kle:∀ b cs,φ0.k b=some cs->φ.k b=some cs
 knew:∀ b cs,φ.k b=some cs->φ0.k b=some cs∨w0.heap.size<=b
 new:∀ n l,(H 0).next<=n->jrw ops H E L n->φ n=some l->w0.heap.size<=l.b∨∃ m M,(H 0).lo<=m/\((H 0).get m).isSome=true/\φ0 m=some M/\M.b=l.b
section
variable {P:Program} {A:Nat->Int} {T:Tr TI} {π:List Nat} {nt:Nat} {ops:Array Oper} {cl:FuncId->List AV->Hp->R} {V:Nat->AV} {H:Nat->Hp} {E:Nat->Ent} {F:Nat->List AV}
 {φ φ0:Phi} {w w0:World} {L:Nat->Prop}
theorem jdi {α:Type} {o:Option α} (h:o.isSome=true):∃ x,o=some x:=by
 cases o with
 | none=>cases h
 | some x=>exact⟨x,rfl⟩
theorem HInv.pres_loc (k:HInv A ops H E φ0 w0 L φ w) (h:jrw ops H E L n):∃ l,φ n=some l/\l.b<w.heap.size:=by
 rcases h with⟨h1,h2⟩ | ⟨j,h1,h2,h3,h4,h5⟩
 .obtain ⟨x,hx⟩:=jdi h2
  obtain⟨l,h3,h4⟩:=(k.unt n x h1 hx).some_loc
  exact⟨l,(jdm h3).2,h4⟩
 .obtain ⟨x,hx⟩:=jdi h5
  obtain⟨l,h6,h7⟩:=(k.tch j n x h1 h2 h3 h4 hx).some_loc
  exact⟨l,(jdm h6).2,h7⟩
theorem jtw (c:DCtx T π nt ops cl V H E F) (hk:k<ops.size) (h:Tch E k n):aO T π nt ops k=true/\md T π nt ops k≠none:=by
 obtain⟨op,g,b,_,_,_,_,_,hk',_⟩:=c.kind hk
 have h':jao (j47 (E k)) n=true:=h
 cases hk' with
 | skip _ _ e=>rw[e] at h';cases h'
 | pure _ _ _ _ e _=>rw[e] at h';cases h'
 | head js _ _ hm _ _ _=>exact⟨(jl7 hm).1,by rw[hm];intro e;cases e⟩
 | tail _ _ _ e=>rw[e] at h';cases h'
theorem jxi (c:DCtx T π nt ops cl V H E F) (hn:n<(H 0).next) (h:jrw ops H E L n):((H 0).get n).isSome=true:=by
 rcases h with⟨_,h⟩ | ⟨k,h1,_,_,_,h5⟩
 .exact h
 .obtain ⟨g1,g2⟩:=Hp.get_isSome h5
  rw[(c.wfs (k+1) (by omega)).2.2] at g1
  exact Hp.isSome_get g1 (c.live hn (k+1) (by omega) g2)
theorem HInv.vis (c:DCtx T π nt ops cl V H E F) (k:HInv A ops H E φ0 w0 L φ w) {i:Nat} (hi:i<=ops.size) (ht:j2n T π nt ops i) {x:AB} (hx:(H i).tr.get n=some x) (hh:jao (H 0).hid n=false)
 (h1:∀ j,j<i->Tch E j n->L j) (h2:∀ j,j<ops.size->L j->i<=j->¬ Tch E j n):jrw ops H E L n/\NmR A (cut φ (H i).next) n x w:=by
 rcases c.last n i hi ht with⟨h3,h4⟩ | ⟨j,h3,h4,h5,h6⟩
 .have hall:∀ j,j<ops.size->L j->¬ Tch E j n:=fun j hj hl=>by
   rcases f0h j i with h | h
   .exact h3 j h
   .exact h2 j hj hl h
  have hg:(H 0).get n=some x:=by rw[Hp.get_eq,if_neg (by rw[hh];simp),←h4];exact hx
  exact⟨.inl ⟨hall,by rw[hg];rfl⟩,(k.unt n x hall hg).mono (jix (Phi.le_refl _) (c.mono i (by omega) hi))⟩
 .have hl:=h1 j h3 h4
  have hlast:∀ j',j'<ops.size->L j'->j<j'->¬ Tch E j' n:=fun j' hj' hl' hlt=>by
   rcases f0h j' i with h | h
   .exact h5 j' hlt h
   .exact h2 j' hj' hl' h
  have hg:(H (j+1)).get n=some x:=by
   rw[Hp.get_eq,(c.wfs (j+1) (by omega)).2.2,if_neg (by rw[hh];simp),←h6];exact hx
  exact⟨.inr ⟨j,by omega,hl,h4,hlast,by rw[hg];rfl⟩,(k.tch j n x (by omega) hl h4 hlast hg).mono (jix (Phi.le_refl _) (c.mono i (by omega) hi))⟩
theorem HInv.quiet (k:HInv A ops H E φ0 w0 L φ w) {i:Nat} (hi:∀ n,¬ Tch E i n):HInv A ops H E φ0 w0 (fun j=>L j∨j=i) φ w:=by
 have pr:∀ n,jrw ops H E (fun j=>L j∨j=i) n->jrw ops H E L n:=by
  rintro n (⟨h1,h2⟩ | ⟨j,h1,h2,h3,h4,h5⟩)
  .exact .inl ⟨fun j hj hl=>h1 j hj (.inl hl),h2⟩
  .rcases h2 with h2 | rfl
   .exact .inr ⟨j,h1,h2,h3,fun j' hj' hl'=>h4 j' hj' (.inl hl'),h5⟩
   .exact absurd h3 (hi n)
 refine⟨k.agree,fun n l h=>?_,fun n x h=>k.unt n x (fun j hj hl=>h j hj (.inl hl)),fun j n x h1 h2 h3 h4=>?_,fun n n' l l' h h'=>k.inj n n' l l' (pr n h) (pr n' h'),k.os,k.tape,k.output,k.size,k.old,k.con,fun n l h=>k.sep n l (pr n h),k.kle,k.knew,fun n l h h'=>k.new n l h (pr n h')⟩
 .rcases k.dom n l h with h | ⟨j,h1,h2,h3⟩
  .exact .inl h
  .exact .inr ⟨j,h1,.inl h2,h3⟩
 .rcases h2 with h2 | rfl
  .exact k.tch j n x h1 h2 h3 (fun j' hj' hl'=>h4 j' hj' (.inl hl'))
  .exact absurd h3 (hi n)
theorem HInv.full (c:DCtx T π nt ops cl V H E F) (k:HInv A ops H E φ0 w0 L φ w) {i:Nat} (hi:i<=ops.size) (ht:j2n T π nt ops i) (h1:∀ j,j<i->aO T π nt ops j=true->L j) (h2:∀ j,j<ops.size->L j->aO T π nt ops j=true->j<i) :
 Rel A φ (H i) w/\Step (fun n=>(H 0).lo<=n) φ0 φ (H 0) (H i) w0 w:=by
 obtain⟨wf,hlo,hhid⟩:=c.wfs i hi
 have vis:∀ n x,(H i).get n=some x->jrw ops H E L n/\NmR A (cut φ (H i).next) n x w:=fun n x hx=>by
  obtain⟨g1,g2⟩:=Hp.get_some hx
  rw[hhid] at g1
  exact k.vis c hi ht g2 g1 (fun j hj h=>h1 j hj (jtw c (by omega) h).1) (fun j hj hl hij h=>by have:=h2 j hj hl (jtw c hj h).1;omega)
 have pres:∀ n,((H i).get n).isSome=true->jrw ops H E L n:=fun n hn=>by
  obtain⟨x,hx⟩:=jdi hn
  exact(vis n x hx).1
 have mono0:=c.mono (i:=0) i (by omega) hi
 refine⟨⟨wf,fun n hn=>?_,fun n x hx=>(vis n x hx).2.mono j2o,fun n m l l' hn hm=>k.inj n m l l' (pres n hn) (pres m hm),k.con,fun n l hn hl=>k.sep n l (pres n hn) hl⟩,
  ⟨⟨wf,mono0,hlo,hhid,fun n hn hv=>?_,fun n hn=>c.live hn i hi,fun n hn hlt=>?_⟩,k.agree,k.kle,k.knew,k.os,k.tape,k.output,k.size,k.old,fun n l hn hs hL=>k.new n l hn (pres n hs) hL⟩⟩
 .cases e:φ n with
  | none=>rfl
  | some l =>
   rcases k.dom n l e with h3 | ⟨j,h3,h4,h5,h6⟩
   .omega
   .have ha:aO T π nt ops j=true:=by
     have s:=c.step h3
     by_cases hT:aO T π nt ops j=true/\md T π nt ops j=none
     .exact hT.1
     .exact (jtw c h3 ((s.seen n h5 h6).2 hT)).1
    have:=c.mono (i:=j+1) i (by have:=h2 j h3 h4 ha;omega) hi
    omega
 .rcases c.last n i hi ht with⟨_,h4⟩ | ⟨j,h3,h4,_,_⟩
  .exact h4
  .exfalso
   have s:=c.step (show j<ops.size by omega)
   obtain⟨_,jlo,jhid⟩:=c.wfs j (by omega)
   rcases s.tch n h4 with⟨h5,_⟩ | ⟨h5,_,h6,_⟩
   .have:=c.mono (i:=0) j (by omega) (by omega)
    omega
   .rcases hv with hv | hv
    .exact hv (by rw[←jlo];exact h5)
    .rw [jhid,hv] at h6;cases h6
 ·
  have key:∀ j,j<=i->n<(H j).next->jao (H 0).hid n=false:=by
   intro j
   induction j with
   | zero=>intro _ h;omega
   | succ j ih =>
    intro hj h
    rcases f0h n (H j).next with h3 | h3
    .exact ih (by omega) h3
    .have:=((c.step (show j<ops.size by omega)).seen n h3 h).1
     rwa [(c.wfs j (by omega)).2.2] at this
  exact key i (f0d _) hlt
theorem jzu {es:List Ent} {h:Hp} {op:IOp} {hid':List (Nat×Nat)} {e:Ent} (hr:HeadR cl st fr es h op js hid' v h1 e) (hc:jcj st fr op=.app n):jka es js n=true:=by
 cases hr with
 | fresh _ hc' _=>rw[hc] at hc';cases hc'
 | load x _ hc' _=>rw[hc] at hc';cases hc'
 | quiet _ hc' _=>rw[hc] at hc';cases hc'
 | other _ hc' _=>rw[hc] at hc';cases hc'
 | app b' _ hc' hu _ _ _=>rw[hc] at hc';cases hc';exact hu
theorem later (c:DCtx T π nt ops cl V H E F) (hL:jsp ops L) {i:Nat} (hk:k<ops.size) (hlk:L k) (hni:¬ L i) (hik:i<k) (ha:aO T π nt ops i=true) (h:Tch E k n) :
 (H (i+1)).next<=n∨(¬ Tch E i n/\∃ ns,qpc (E i)=some ns/\n∉ns):=by
 obtain⟨op,g,b,_,_,_,_,_,hk',_⟩:=c.kind hk
 have h':jao (j47 (E k)) n=true:=h
 cases hk' with
 | skip _ _ e=>rw[e] at h';cases h'
 | pure _ _ _ _ e _=>rw[e] at h';cases h'
 | tail _ _ _ e=>rw[e] at h';cases h'
 | head js hid' h1' hm hs hr he =>
  have hjs:(k - 1 - i)∈js:=(qe7 hm hik).2 ⟨ha,by
   cases hb:tb (mM ops k) i with
   | false=>rfl
   | true=>exact absurd (c.maskIn hL k i hk (hL k hk hlk) hb) hni⟩
  obtain⟨_,_,_,a4,_,_⟩:=jn7 hr (c.wfs k (by omega)).1 c.cla (fun n hn=>(jgb hs n).2 (.inl hn))
  rcases a4 n h' with⟨h3,_⟩ | ⟨_,_,h3,_,h4⟩
  .exact .inl (f01 (c.mono (i:=i+1) k (by omega) (by omega)) h3)
  .refine .inr ⟨fun h5=>?_,?_⟩
   .have:=(jgb hs n).2 (.inr ⟨_,hjs,_,jbj E hik,h5⟩)
    rw[h3] at this;cases this
   .obtain ⟨e,ns,h5,h6,h7⟩:=jpo (jzu hr h4) _ hjs
    rw[jbj E hik] at h5
    cases h5
    exact⟨ns,h6,h7⟩
theorem j7b {es:List Ent} {h:Hp} {op:IOp} {hid':List (Nat×Nat)} {e:Ent} (hr:HeadR cl st fr es h op js hid' v h1 e) (wf:WF h) (hcl:jkq cl) (ha:jth (.mk none op none)=true) :
 ∃ lo'' hid'' h2,lo''<=h.next/\iop cl st fr (.mk h.next h.tr lo'' hid'') op=some (v,h2)/\h2.tr=h1.tr/\h2.next=h1.next/\h2.hid=hid'' /\
  (∀ n,(h.tr.get n).isSome=true->jao hid'' n=false->jao hid' n=false/\(qpc e=none∨qpc e=some [n])) /\
  (∀ n,n<h.next->jzk (.mk h.next h.tr lo'' hid'') (jcj st fr op) n->jcj st fr op=.app n) /\
  (∀ n,h.next<=n->n<h1.next->jao hid' n=false->jao hid'' n=false)/\(∀ n,jcj st fr op=.app n->jao hid'' n=false):=by
 cases hr with
 | fresh _ hc hi =>
  cases op with
  | p po=>cases ha
  | a ao =>
  obtain⟨cs,ty,g,hg⟩:=j7a hc hi
  rw[hg] at hi
  obtain⟨n1,n2,n3⟩:=jtm hi
  refine⟨h.next,[(0,h.next)],(Hp.mk h.next h.tr h.next [(0,h.next)]).push (.arr cs ty),f0d _,?_,?_,?_,rfl,fun n hn hh=>?_,fun n hn hw=>?_,fun n h3 _ _=>?_,fun n h3=>?_⟩
  .rw [hg]
   have n1':0<=h.next:=n1
   show oif (Nat.ble 0 h.next) (oif (jao [(0,h.next)] h.next) none _) none=_
   have e1:jao [(0,h.next)] h.next=false:=by
    cases e:jao [(0,h.next)] h.next with
    | false=>rfl
    | true=>rw[jb7] at e;rw[jd4] at e;simp at e
   rw[e1,show Nat.ble 0 h.next=true from (jtj _ _).symm▸n1']
   have:g h.next=v:=by
    have:=n3
    simp only[ok,Option.some.injEq,Prod.mk.injEq] at this
    exact this.1
   rw[←this]
   rfl
  .have:(Hp.mk h.next h.tr h.next hid').push (.arr cs ty)=h1:=by
    simp only[ok,Option.some.injEq,Prod.mk.injEq] at n3
    exact n3.2
   rw[←this];rfl
  .have:(Hp.mk h.next h.tr h.next hid').push (.arr cs ty)=h1:=by
    simp only[ok,Option.some.injEq,Prod.mk.injEq] at n3
    exact n3.2
   rw[←this];rfl
  .have hlt:=wf.lt hn
   have:jao [(0,h.next)] n=true:=by rw[jb7];exact .inl ⟨by simp,hlt⟩
   rw[this] at hh;cases hh
  .rw [hc] at hw;exact hw.elim
  .cases e:jao [(0,h.next)] n with
   | false=>rfl
   | true=>rw[jb7] at e;rw[jd4] at e;simp at e;omega
  .rw [hc] at h3;cases h3
 | load x _ hc hi =>
  obtain⟨n',agg,y,off,rfl,hy⟩:=j2l hc
  obtain⟨rfl,hx,hall⟩:=j2m hy hi
  obtain⟨g1,g2⟩:=Hp.get_isSome hx
  have hxl:x<h.next:=wf.lt g2
  have hin:∀ n,n<h.next->(jao [(0,x),(x+1,h.next)] n=false↔n=x):=by
   intro n hn
   cases e:jao [(0,x),(x+1,h.next)] n with
   | false =>
    refine⟨fun _=>?_,fun _=>rfl⟩
    have hne:¬ ((0<=n/\n<x)∨((x+1<=n/\n<h.next)∨False)):=fun hh=>by
     have:jao [(0,x),(x+1,h.next)] n=true:=by rw[jb7,jb7,jd4];simpa using hh
     rw[this] at e;cases e
    omega
   | true =>
    refine⟨(fun h=>by cases h),fun h=>?_⟩
    rw[jb7,jb7,jd4] at e
    simp at e
    omega
  refine⟨h.next,[(0,x),(x+1,h.next)],_,f0d _,hall (.mk h.next h.tr h.next [(0,x),(x+1,h.next)]) ?_,rfl,rfl,rfl,fun n hn hh=>?_,fun n hn hw=>?_,fun n h3 h4=>by
   have h4':n<h.next:=h4
   omega,fun n h3=>?_⟩
  .have e1:jao (Hp.mk h.next h.tr h.next [(0,x),(x+1,h.next)]).hid x=false:=(hin x hxl).2 rfl
   rw[Hp.get_eq,Hp.get_eq,e1,g1]
   rfl
  .have hlt:=wf.lt hn
   have:n=x:=(hin n hlt).1 hh
   subst this
   exact⟨g1,.inr rfl⟩
  .rw [hc] at hw;exact hw.elim
  .rw [hc] at h3;cases h3
 | quiet _ hc hi =>
  obtain⟨rfl,hall⟩:=jxh hc hi
  have hin:∀ n,n<h.next->jao [(0,h.next)] n=true:=fun n hn=>by rw[jb7];exact .inl ⟨by simp,hn⟩
  refine⟨h.next,[(0,h.next)],.mk h.next h.tr h.next [(0,h.next)],f0d _,hall _,rfl,rfl,rfl,fun n hn hh=>?_,fun n hn hw=>?_,fun n h3 h4=>by
   have h4':n<h.next:=h4
   omega,fun n h3=>?_⟩
  .rw [hin n (wf.lt hn)] at hh;cases hh
  .rw [hc] at hw;exact hw.elim
  .rw [hc] at h3;cases h3
 | other _ hc hi =>
  have a:h1.hid=hid':=(jew (h:=.mk h.next h.tr h.next hid') ⟨wf.pos,wf.top,f0d _,wf.fresh⟩ hcl hi).2.hid
  refine⟨h.next,hid',h1,f0d _,hi,rfl,rfl,a,fun n hn hh=>⟨hh,.inl rfl⟩,fun n hn hw=>?_,fun n _ _ h3=>h3,fun n h3=>?_⟩
  .rw [hc] at hw
   exact absurd (show h.next<=n from hw) (by omega)
  .rw [hc] at h3;cases h3
 | app b _ hc hu hlo hg hi =>
  have a:h1.hid=hid':=(jew (h:=.mk h.next h.tr h.lo hid') ⟨wf.pos,wf.top,wf.lo,wf.fresh⟩ hcl hi).2.hid
  refine⟨h.lo,hid',h1,wf.lo,hi,rfl,rfl,a,fun n hn hh=>⟨hh,.inl rfl⟩,fun n hn hw=>?_,fun n _ _ h3=>h3,fun n h3=>?_⟩
  .rw [hc] at hw ⊢
   rw[show n=b from hw]
  .rw [hc] at h3
   cases h3
   exact(Hp.get_isSome hg).1
theorem j7c (hT:Tys P T) (hclk:qcu P A cl) (c:DCtx T π nt ops cl V H E F) (hL:jsp ops L) {i:Nat} (hi:i<ops.size) (hni:¬ L i)
 (hd:∀ e∈(jc1 ops i).after.toList,Region.binds .any e=true->L e.on) (k:HInv A ops H E φ0 w0 L φ w) {op:IOp} {js:List Nat} {hid':List (Nat×Nat)} {h1:Hp} (hop:cOp T π (jal (dD ops) i) (jc1 ops i).op=some op) (hact:jth (.mk none op none)=true)
 (hm:md T π nt ops i=some js) (hs:sel (jal E i) js (H i).hid=some hid') (hr:HeadR cl (jal V i) (F i) (jal E i) (H i) op js hid' (V i) h1 (E i)) (he:H (i+1)=.mk h1.next h1.tr (H i).lo (H i).hid) {a:Act}
 (hE:jkh A (cut φ (H i).next) π (jal (dD ops) i) (jal V i) (F i) (jc1 ops i).op.operands.toList a.eval) {K:Act->World->Prop} {Q:Exit->Act->World->Prop}
 (hK:∀ φ' rv w',HInv A ops H E φ0 w0 (fun j=>L j∨j=i) φ' w'->φ.le φ'->cV A (cut φ' (H (i+1)).next) (V i) rv->K (a.put (jc1 ops i).dst rv) w'):(jc1 ops i).wp P a w K Q:=by
 obtain⟨wf,hlo,hhid⟩:=c.wfs i (by omega)
 obtain⟨hai,hnt⟩:=jl7 hm
 have en:(H (i+1)).next=h1.next:=by rw[he];rfl
 have et:(H (i+1)).tr=h1.tr:=by rw[he];rfl
 have eh:(H (i+1)).hid=(H 0).hid:=(c.wfs (i+1) (by omega)).2.2
 have hsub:∀ n,jao (H i).hid n=true->jao hid' n=true:=fun n hn=>(jgb hs n).2 (.inl hn)
 obtain⟨a1,a2,a3,a4,a5,a6⟩:=jn7 hr wf c.cla hsub
 obtain⟨lo'',hid'',h2,b1,b2,b3,b4,b5,b6,b7,b8,b9⟩:=j7b hr wf c.cla hact
 have stp:=c.step hi
 have n0:(H 0).next<=(H i).next:=c.mono i (by omega) (by omega)
 have vis:∀ n x,(Hp.mk (H i).next (H i).tr lo'' hid'').get n=some x->jrw ops H E L n/\NmR A (cut φ (H i).next) n x w:=by
  intro n x hx
  obtain⟨g1,g2⟩:=Hp.get_some hx
  have g2':(H i).tr.get n=some x:=g2
  have hlt:n<(H i).next:=wf.lt (by rw[g2'];rfl)
  obtain⟨g3,g4⟩:=b6 n (by rw[g2'];rfl) g1
  have g5:jao (H 0).hid n=false:=by
   cases e:jao (H 0).hid n with
   | false=>rfl
   | true=>have:=hsub n (by rw[hhid];exact e);rw[g3] at this;cases this
  refine k.vis c (by omega) hnt g2' g5 (fun j hj hTj=>?_) (fun j hj hlj hij hTj=>?_)
  .have haj:=(jtw c (by omega) hTj).1
   cases hb:tb (mM ops i) j with
   | true=>exact c.maskIn hL i j hi hd hb
   | false =>
    exfalso
    have:=(jgb hs n).2 (.inr ⟨_,(qe7 hm hj).2 ⟨haj,hb⟩,_,jbj E hj,hTj⟩)
    rw[g3] at this;cases this
  .rcases f0h i j with hlt' | hge
   .rcases later c hL hj hlj hni hlt' hai hTj with h3 | ⟨_,ns,h4,h5⟩
    .have:=stp.nx;omega
    .rcases g4 with g4 | g4
     .rw [g4] at h4;cases h4
     .rw [g4] at h4;cases h4;exact h5 (by simp)
   .obtain rfl:j=i:=by omega
    exact hni hlj
 have presv:∀ n,((Hp.mk (H i).next (H i).tr lo'' hid'').get n).isSome=true->jrw ops H E L n:=fun n hn=>by
  obtain⟨x,hx⟩:=jdi hn
  exact(vis n x hx).1
 have rel:Rel A (cut φ (H i).next) (.mk (H i).next (H i).tr lo'' hid'') w:=by
  refine⟨⟨wf.pos,wf.top,b1,wf.fresh⟩,fun n hn=>?_,fun n x hx=>(vis n x hx).2,fun n m l l' hn hm' hl hl' e=>k.inj n m l l' (presv n hn) (presv m hm') (jdm hl).2 (jdm hl').2 e,k.con,fun n l hn hl=>k.sep n l (presv n hn) (jdm hl).2⟩
  rw[jnq,if_neg (show ¬ n<(H i).next by have:(H i).next<=n:=hn;omega)]
 refine jiv (cl:=cl) hT hclk hE rel hop b2 _ (.inl rfl) ?_
 intro φ' rv w' s r hcv
 have dom':∀ n,(H (i+1)).next<=n->φ' n=none:=fun n hn=>r.dom n (by rw[b4,←en];exact hn)
 have ext':∀ n,n<(H i).next->φ' n=φ n:=fun n hn=>by rw[s.ext n hn,qe8 hn]
 have newnone:∀ n,(H i).next<=n->n<(H (i+1)).next->φ n=none:=by
  intro n h3 h4
  cases e:φ n with
  | none=>rfl
  | some l =>
   exfalso
   rcases k.dom n l e with h5 | ⟨j,h5,h6,h7,h8⟩
   .omega
   .rcases f0h j i with h9 | h9
    .have:=c.mono (i:=j+1) i (by omega) (by omega);omega
    .rcases f0h i j with h10 | h10
     .have:=c.mono (i:=i+1) j (by omega) (by omega);omega
     .obtain rfl:j=i:=by omega
      exact hni h6
 let ψ:Phi:=⟨fun n=>if (H i).next<=n/\n<(H (i+1)).next then φ' n else φ n,φ'.k,φ'.g⟩
 have ψnew:∀ n,(H i).next<=n->n<(H (i+1)).next->ψ n=φ' n:=fun n h3 h4=>if_pos ⟨h3,h4⟩
 have ψold:∀ n,¬ ((H i).next<=n/\n<(H (i+1)).next)->ψ n=φ n:=fun n h3=>if_neg h3
 have φψ:φ.le ψ:=by
  refine⟨fun n l h3=>?_,s.kle⟩
  by_cases h4:(H i).next<=n/\n<(H (i+1)).next
  .rw [newnone n h4.1 h4.2] at h3;cases h3
  .rw [ψold n h4];exact h3
 have φ'ψ:φ'=cut ψ (H (i+1)).next:=by
  refine Phi.ext (fun n=>?_) rfl
  rw[jnq]
  by_cases h3:n<(H (i+1)).next
  .rw [if_pos h3]
   rcases f0h n (H i).next with h4 | h4
   .rw [ext' n h4,ψold n (by omega)]
   .rw [ψnew n h4 h3]
  .rw [if_neg h3];exact dom' n (by omega)
 have wapp:∀ m M,jzk (.mk (H i).next (H i).tr lo'' hid'') (jcj (jal V i) (F i) op) m->((Hp.mk (H i).next (H i).tr lo'' hid'').get m).isSome=true->cut φ (H i).next m=some M->jrw ops H E L m/\Tch E i m/\φ m=some M/\m<(H i).next/\(H i).lo<=m:=by
  intro m M h3 h4 h5
  obtain⟨h6,h7⟩:=jdm h5
  have hcls:=b7 m h6 h3
  have htch:Tch E i m:=by
   have h8:qpc (E i)=none/\jao (j47 (E i)) m=true:=by
    clear hK b2 s
    generalize E i=e at hr
    cases hr with
    | fresh _ hc _=>rw[hc] at hcls;cases hcls
    | load x _ hc _=>rw[hc] at hcls;cases hcls
    | quiet _ hc _=>rw[hc] at hcls;cases hcls
    | other _ hc _=>rw[hc] at hcls;cases hcls
    | app b _ hc _ _ _ _ =>
     rw[hc] at hcls;cases hcls
     refine⟨rfl,?_⟩
     show jao [(m,m+1),((H i).next,h1.next)] m=true
     rw[jb7];exact .inl ⟨by simp,by simp⟩
   exact h8.2
  refine⟨presv m h4,htch,h7,h6,?_⟩
  rcases a4 m htch with⟨h8,_⟩ | ⟨h8,_⟩
  .omega
  .exact h8
 have keepw:∀ n l,jrw ops H E L n->¬ Tch E i n->φ n=some l->l.b<w.heap.size->w'.heap[l.b]?=w.heap[l.b]?:=by
  intro n l h3 h4 h5 h6
  refine s.old l.b h6 (fun m M h7 h8 h9 e=>?_)
  obtain⟨p1,p2,p3,_,_⟩:=wapp m M h7 h8 h9
  exact h4 (by have:=k.inj m n M l p1 h3 p3 h5 e;subst this;exact p2)
 have h2get:∀ n x,Tch E i n->(H (i+1)).get n=some x->h2.get n=some x:=by
  intro n x h3 h4
  obtain⟨g1,g2⟩:=Hp.get_some h4
  rw[et] at g2
  rw[Hp.get_eq,b5,b3,if_neg ?_]
  .exact g2
  .rcases a4 n h3 with⟨h5,h6⟩ | ⟨_,_,_,_,h6⟩
   .rw [b8 n h5 h6 (a6 n h5 h6).1];simp
   .rw [b9 n h6];simp
 have φ'at:∀ n,Tch E i n->ψ n=φ' n:=by
  intro n h3
  rcases a4 n h3 with⟨h5,h6⟩ | ⟨_,h5,_⟩
  .exact ψnew n h5 (by rw[en];exact h6)
  .rw [ψold n (by omega),ext' n h5]
 have untouched:∀ j n,j<ops.size->L j->Tch E j n->(∀ k',k'<ops.size->(L k'∨k'=i)->j<k'->¬ Tch E k' n)->¬ Tch E i n:=by
  intro j n h3 h4 h5 h6 h7
  rcases f0h j i with h8 | h8
  .exact h6 i hi (.inr rfl) h8 h7
  .have hij:i<j:=by
    rcases f0h i j with h | h
    .exact h
    .obtain rfl:j=i:=by omega
     exact absurd h4 hni
   rcases later c hL h3 h4 hni hij hai h5 with h9 | ⟨h9,_⟩
   .rcases a4 n h7 with⟨_,h10⟩ | ⟨_,h10,_⟩
    .rw [en] at h9;omega
    .have:=stp.nx;omega
   .exact h9 h7
 have presOr:∀ n,jrw ops H E (fun j=>L j∨j=i) n->(Tch E i n/\(h2.get n).isSome=true/\ψ n=φ' n)∨(¬ Tch E i n/\jrw ops H E L n/\ψ n=φ n):=by
  have old:∀ n,¬ Tch E i n->ψ n=φ n:=fun n h3=>ψold n (fun h4=>h3 ((stp.seen n h4.1 h4.2).2 (fun h=>by rw[hm] at h;exact absurd h.2 (by simp))))
  rintro n (⟨h3,h4⟩ | ⟨j,h3,h4,h5,h6,h7⟩)
  .have h8:=h3 i hi (.inr rfl)
   exact .inr ⟨h8,.inl ⟨fun j hj hl=>h3 j hj (.inl hl),h4⟩,old n h8⟩
  .rcases h4 with h4 | rfl
   .have h8:=untouched j n h3 h4 h5 h6
    exact .inr ⟨h8,.inr ⟨j,h3,h4,h5,fun j' hj' hl'=>h6 j' hj' (.inl hl'),h7⟩,old n h8⟩
   .obtain ⟨x,hx⟩:=jdi h7
    exact .inl ⟨h5,by rw[h2get n x h5 hx];rfl,φ'at n h5⟩
 have jtf:∀ n n' l l',Tch E i n->(h2.get n).isSome=true->φ' n=some l->¬ Tch E i n'->jrw ops H E L n'->φ n'=some l'->l.b≠l'.b:=by
  intro n n' l l' h3 h4 h5 h6 h7 h8 e
  obtain⟨l'',h9,h10⟩:=k.pres_loc h7
  rw[h8] at h9
  cases h9
  rcases a4 n h3 with⟨h11,h12⟩ | ⟨_,h11,_,h12,h13⟩
  .rcases s.new n l h11 h4 h5 with h14 | ⟨m,M,h14,h15,h16,h17⟩
   .omega
   .obtain ⟨p1,p2,p3,_,_⟩:=wapp m M h14 h15 h16
    exact h6 (by have:=k.inj m n' M l' p1 h7 p3 h8 (by omega);subst this;exact p2)
  .have hv:((Hp.mk (H i).next (H i).tr lo'' hid'').get n).isSome=true:=Hp.isSome_get (show jao hid'' n=false from b9 n h13) h12
   rw[ext' n h11] at h5
   exact h6 (by have:=k.inj n n' l l' (presv n hv) h7 h5 h8 e;subst this;exact h3)
 refine hK ψ rv w' ⟨fun n hn=>?_,fun n l hl=>?_,fun n x h3 h4=>?_,fun j n x h3 h4 h5 h6 h7=>?_,fun n n' l l' h3 h4 h5 h6 h7=>?_,s.os.trans k.os,s.tape.trans k.tape,s.output.trans k.output,f01 k.size s.size,fun b hb hv=>?_,r.con,fun n l h3 h5=>?_,fun b cs e=>s.kle b cs (k.kle b cs e),fun b cs e=>(s.knew b cs e).elim (k.knew b cs) (fun h=>.inr (f01 k.size h)),fun n l h3 h4 h5=>?_⟩ φψ (by rw[←φ'ψ];exact hcv)
 .rw [ψold n (by omega)];exact k.agree n hn
 .by_cases h3:(H i).next<=n/\n<(H (i+1)).next
  .exact .inr ⟨i,hi,.inr rfl,h3⟩
  .rw [ψold n h3] at hl
   rcases k.dom n l hl with h4 | ⟨j,h4,h5,h6⟩
   .exact .inl h4
   .exact .inr ⟨j,h4,.inl h5,h6⟩
 .have h5:=k.unt n x (fun j hj hl=>h3 j hj (.inl hl)) h4
  have hp:jrw ops H E L n:=.inl ⟨fun j hj hl=>h3 j hj (.inl hl),by rw[h4];rfl⟩
  refine(h5.mono (jix φψ (f0d _))).world (fun l hl=>?_)
  obtain⟨l',hl1,hl2⟩:=h5.some_loc
  have e1:=φψ.nm n l' (jdm hl1).2
  rw[(jdm hl).2] at e1
  cases e1
  exact keepw n l hp (h3 i hi (.inr rfl)) (jdm hl1).2 hl2
 .rcases h4 with h4 | rfl
  .have hnt':=untouched j n h3 h4 h5 h6
   have h8:=k.tch j n x h3 h4 h5 (fun k' hk' hl'=>h6 k' hk' (.inl hl')) h7
   have hp:jrw ops H E L n:=.inr ⟨j,h3,h4,h5,fun k' hk' hl'=>h6 k' hk' (.inl hl'),by rw[h7];rfl⟩
   refine(h8.mono (jix φψ (f0d _))).world (fun l hl=>?_)
   obtain⟨l',hl1,hl2⟩:=h8.some_loc
   have e1:=φψ.nm n l' (jdm hl1).2
   rw[(jdm hl).2] at e1
   cases e1
   exact keepw n l hp hnt' (jdm hl1).2 hl2
  .rw [←φ'ψ]
   exact r.blk n x (h2get n x h5 h7)
 .rcases presOr n h3 with⟨p1,p2,p3⟩ | ⟨p1,p2,p3⟩<;>rcases presOr n' h4 with⟨q1,q2,q3⟩ | ⟨q1,q2,q3⟩<;>rw[p3] at h5<;>rw[q3] at h6
  .exact r.inj n n' l l' p2 q2 h5 h6 h7
  .exact absurd h7 (jtf n n' l l' p1 p2 h5 q1 q2 h6)
  .exact absurd h7.symm (jtf n' n l' l q1 q2 h6 p1 p2 h5)
  .exact k.inj n n' l l' p2 q2 h5 h6 h7
 .rw [←k.old b hb hv]
  refine s.old b (f0m hb k.size) (fun m M h3 h4 h5 e=>?_)
  obtain⟨p1,p2,p3,p4,p5⟩:=wapp m M h3 h4 h5
  rw[hlo] at p5
  rcases f0h m (H 0).next with h6 | h6
  .exact hv m M p5 (jxi c h6 p1) (by rw[←k.agree m h6];exact p3) e
  .rcases k.new m M h6 p1 p3 with h7 | ⟨m',M',h7,h8,h9,h10⟩
   .omega
   .exact hv m' M' h7 h8 h9 (by omega)
 .show φ'.k l.b=none
  rcases presOr n h3 with⟨p1,p2,p3⟩ | ⟨p1,p2,p3⟩
  .rw [p3] at h5
   exact r.sep n l p2 h5
  .rw [p3] at h5
   obtain⟨l',hl1,hl2⟩:=k.pres_loc p2
   rw[h5] at hl1
   cases hl1
   cases e:φ'.k l.b with
   | none=>rfl
   | some cs =>
    rcases s.knew _ _ e with h6 | h6
    .have h7:=k.sep n l p2 h5
     rw[show(cut φ (H i).next).k=φ.k from rfl,h7] at h6
     cases h6
    .omega
 .rcases presOr n h4 with⟨p1,p2,p3⟩ | ⟨p1,p2,p3⟩
  .rw [p3] at h5
   have old:∀ m M,(H 0).lo<=m->jrw ops H E L m->φ m=some M->M.b=l.b->w0.heap.size<=l.b∨∃ m M,(H 0).lo<=m/\((H 0).get m).isSome=true/\φ0 m=some M/\M.b=l.b:=by
    intro m M h6 h7 h8 h9
    rcases f0h m (H 0).next with h10 | h10
    .exact .inr ⟨m,M,h6,jxi c h10 h7,by rw[←k.agree m h10];exact h8,h9⟩
    .rw [←h9];exact k.new m M h10 h7 h8
   rcases a4 n p1 with⟨h6,h7⟩ | ⟨h6,h7,_,h8,h9⟩
   .rcases s.new n l h6 p2 h5 with h10 | ⟨m,M,h10,h11,h12,h13⟩
    .exact .inl (f01 k.size h10)
    .obtain ⟨q1,q2,q3,q4,q5⟩:=wapp m M h10 h11 h12
     exact old m M (by rw[←hlo];exact q5) q1 q3 h13
   .have hv:((Hp.mk (H i).next (H i).tr lo'' hid'').get n).isSome=true:=Hp.isSome_get (show jao hid'' n=false from b9 n h9) h8
    rw[ext' n h7] at h5
    exact old n l (by rw[←hlo];exact h6) (presv n hv) h5 rfl
  .rw [p3] at h5
   exact k.new n l h3 p2 h5
end
end Go.Proofs.YtdbklpgagdbpiaaDoor.Ev
