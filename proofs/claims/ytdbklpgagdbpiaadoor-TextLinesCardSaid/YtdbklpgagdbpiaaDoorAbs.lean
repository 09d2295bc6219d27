/- Slots, guards, one operation at its place, a region in its text's order. No program in sight. -/
import Derived.Test.YtdbklpgagdbpiaaDoorMem
namespace Go.Proofs.YtdbklpgagdbpiaaDoor.Ev
open Go
set_option linter.all false
variable {cs:List SV} {x nt size bytes:Nat}
theorem jpk (x:Nat):∀ (l:List Nat) (k:Nat),idx x l (k+1)=(idx x l k).map (·+1)
 | [],k=>rfl
 | a::l,k=>by
  simp only[idx]
  cases Nat.beq a x with
  | true=>rfl
  | false=>exact jpk x l (k+1)
theorem jcp:∀ {l:List Nat} {j:Nat},idx x l 0=some j->l[j]?=some x
 | [],j,h=>by cases h
 | a::l,j,h=>by
  simp only[idx] at h
  cases hb:Nat.beq a x with
  | true=>rw[hb] at h;cases h;rw[f0i hb];rfl
  | false =>
   rw[hb] at h
   simp only[cond_false] at h
   rw[jpk] at h
   obtain⟨i,hi,rfl⟩:=f0a.1 h
   simpa using jcp hi
theorem jfd (x:Nat):∀ (l:List (Option Nat)) (k:Nat),jne x l (k+1)=(jne x l k).map (·+1)
 | [],k=>rfl
 | some a::l,k=>by
  simp only[jne]
  cases Nat.beq a x with
  | true=>rfl
  | false=>exact jfd x l (k+1)
 | none::l,k=>by
  simp only[jne]
  exact jfd x l (k+1)
theorem jiu:∀ {l:List (Option Nat)} {j:Nat},jne x l 0=some j->l[j]?=some (some x)
 | [],j,h=>by cases h
 | some a::l,j,h=>by
  simp only[jne] at h
  cases hb:Nat.beq a x with
  | true=>rw[hb] at h;cases h;rw[f0i hb];rfl
  | false =>
   rw[hb] at h
   simp only[cond_false] at h
   rw[jfd] at h
   obtain⟨i,hi,rfl⟩:=f0a.1 h
   simpa using jiu hi
 | none::l,j,h=>by
  simp only[jne] at h
  rw[jfd] at h
  obtain⟨i,hi,rfl⟩:=f0a.1 h
  simpa using jiu hi
theorem jes (x:Nat) (d:Option Nat) (l:List (Option Nat)):jne x (d::l) 0=if d=some x then some 0 else (jne x l 0).map (·+1):=by
 cases d with
 | none =>
  simp only[jne]
  rw[jfd]
  simp
 | some a =>
  simp only[jne]
  cases hb:Nat.beq a x with
  | true=>rw[f0i hb];simp
  | false =>
   have:a≠x:=fun e=>by subst e;rw[f1l] at hb;cases hb
   simp only[cond_false,Option.some.injEq,this,if_false]
   exact jfd x l 0
section
variable (A:Nat->Int)
def FrR (φ:Phi) (π:List Nat) (fr:List AV) (a:Act):Prop:=∀ t j v,idx t π 0=some j->fr[j]?=some v->cV A φ v (a.tmps.getD t undef)
def LoR (φ:Phi) (loc:List (Option Nat)) (st:List AV) (a:Act):Prop:=∀ t i v,jne t loc 0=some i->st[i]?=some v->cV A φ v (a.tmps.getD t undef)
end
section
variable {P:Program} {T:Tr TI} {w w':World} {A:Nat->Int} {φ ψ:Phi} {h h':Hp} {π:List Nat} {loc:List (Option Nat)} {st fr:List AV} {a:Act} {W:Nat->Prop}
theorem FrR.mono (hle:φ.le ψ) (k:FrR A φ π fr a):FrR A ψ π fr a:=fun t j v h1 h2=>(k t j v h1 h2).mono hle
theorem LoR.mono (hle:φ.le ψ) (k:LoR A φ loc st a):LoR A ψ loc st a:=fun t j v h1 h2=>(k t j v h1 h2).mono hle
theorem jie {v:Value} {x:AV} (h:jsa v=some x):cV A φ x v:=by
 unfold jsa at h
 split at h<;>first | (cases h;rfl) | (cases h;exact .inr ⟨rfl,rfl⟩) | cases h
theorem j2i:∀ {l:List SV} {r:List Value},qoh l r=true->∀ (j:Nat) (x:SV),l[j]?=some x->∃ u,r[j]?=some u/\sv1 x u=true
 | [],r,h,j,x,e=>by cases j<;>cases e
 | s::l,[],h,j,x,e=>by cases h
 | s::l,v::r,h,j,x,e=>by
  simp only[qoh,f0y] at h
  cases j with
  | zero=>cases e;exact⟨v,rfl,h.1⟩
  | succ j=>exact j2i h.2 j x e
theorem qct {k k':IntKind} (h:Nat.beq k.ctorIdx k'.ctorIdx=true):k=k':=by
 cases k<;>cases k'<;>first | rfl | exact absurd h (by decide)
theorem qpa {k:Nat->Option (Array Value)} {x:SV} {u:Value} (h:sv1 x u=true):cD A k x u:=by
 unfold sv1 at h
 split at h
 .rename_i k n k' m
  rw[f0y,beq_iff_eq] at h
  obtain⟨h1,rfl⟩:=h
  obtain rfl:=qct h1
  exact .int _ _
 .rename_i l b
  rw[beq_iff_eq] at h
  subst h
  exact .str _
 .cases h
theorem jzt (φ:Phi) {g:Nat} (hg:qhp g=some cs):cS A φ (.cp cs) (.pointer (some ⟨g,0,none⟩)):=by
 obtain⟨c,h1,h2⟩:=φ.g.con g cs hg
 refine⟨g,0,c,h1,rfl,fun j x hx=>?_⟩
 obtain⟨u,h3,h4⟩:=j2i h2 j x hx
 exact⟨u,by rw[f0z,←f02];exact h3,qpa h4⟩
theorem jhj (hf:FrR A φ π fr a) (hl:LoR A φ loc st a) (os:List Operand):jkh A φ π loc st fr os a.eval:=by
 intro x _ y v hy hv
 cases x with
 | tmp t =>
  simp only[cO] at hy
  split at hy
  .rename_i i hi
   cases hy
   have hv':jec st i=some v:=hv
   rw[jcl] at hv'
   exact hl t i v hi hv'
  .split at hy
   .rename_i j hj
    cases hy
    have hv':jec fr j=some v:=hv
    rw[jcl] at hv'
    exact hf t j v hj hv'
   .cases hy
 | const c =>
  obtain⟨z,hz,rfl⟩:=f0a.1 (show(jsa c).map .c=some y from hy)
  cases hv
  exact jie hz
 | func f =>
  cases hy
  cases hv
  exact⟨[],rfl,.nil⟩
 | global g =>
  simp only[cO] at hy
  cases hg:qhp g with
  | none=>rw[hg] at hy;cases hy
  | some cs =>
   rw[hg] at hy
   cases hy
   cases hv
   exact jzt φ hg
theorem jga {d:Nat} (hd:d<a.tmps.size) (rv:Value) (t:Nat):(a.put (some d) rv).tmps.getD t undef=if t=d then rv else a.tmps.getD t undef:=by
 simp only[Act.put,f0n,Array.getElem?_setIfInBounds]
 by_cases e:d=t
 .subst e;simp[hd]
 .rw [if_neg e,if_neg (fun h=>e h.symm)]
theorem jck (dst:Option Tmp) (rv:Value):(a.put dst rv).tmps.size=a.tmps.size:=by
 cases dst<;>simp[Act.put]
theorem jeh (dst:Option Tmp) (rv:Value):(a.put dst rv).defers=a.defers:=by
 cases dst<;>simp[Act.put]
theorem FrR.put (k:FrR A φ π fr a) (hnt:nt<=a.tmps.size) {dst:Option Tmp} (hd:jjf nt dst=true) {v:AV} {rv:Value} (hv:cV A φ v rv):FrR A φ π (jcn fr (jfx π dst) v) (a.put dst rv):=by
 cases dst with
 | none=>exact k
 | some d =>
  have hd':d<a.tmps.size:=by
   have:Nat.ble (d+1) nt=true:=hd
   exact f0m (f0g this) hnt
  intro t j u hj hu
  rw[jga hd']
  cases hc:jfx π (some d) with
  | none =>
   rw[hc] at hu
   have:t≠d:=fun e=>by subst e;rw[show idx t π 0=none from hc] at hj;cases hj
   rw[if_neg this]
   exact k t j u hj hu
  | some i =>
   rw[hc] at hu
   have hu':(jr8 fr i v)[j]?=some u:=hu
   rw[jgj] at hu'
   have hi:idx d π 0=some i:=hc
   by_cases e:t=d
   .subst e
    rw[hi] at hj
    cases hj
    rw[if_pos rfl]
    rw[f24] at hu'
    simp only[if_true] at hu'
    split at hu'
    .cases hu';exact hv
    .cases hu'
   .rw [if_neg e]
    have:i≠j:=by
     rintro rfl
     have h1:=jcp hj
     have h2:=jcp hi
     rw[h1] at h2
     cases h2
     exact e rfl
    rw[f1s this] at hu'
    exact k t j u hj hu'
theorem LoR.put (k:LoR A φ loc st a) (hnt:nt<=a.tmps.size) {dst:Option Tmp} (hd:jjf nt dst=true) {v:AV} {rv:Value} (hv:cV A φ v rv):LoR A φ (dst::loc) (v::st) (a.put dst rv):=by
 intro t i u hi hu
 rw[jes] at hi
 cases dst with
 | none =>
  simp only[reduceCtorEq,if_false] at hi
  obtain⟨i',hi',rfl⟩:=f0a.1 hi
  exact k t i' u hi' (by simpa using hu)
 | some d =>
  have hd':d<a.tmps.size:=by
   have:Nat.ble (d+1) nt=true:=hd
   exact f0m (f0g this) hnt
  rw[jga hd']
  by_cases e:d=t
  .subst e
   simp only[if_true] at hi
   cases hi
   cases hu
   rw[if_pos rfl]
   exact hv
  .rw [if_neg (fun h=>e h.symm)]
   simp only[Option.some.injEq,e,if_false] at hi
   obtain⟨i',hi',rfl⟩:=f0a.1 hi
   exact k t i' u hi' (by simpa using hu)
theorem jjk {ops:Array Oper} {k:Nat} (hloc:∀ j,j<k->loc[k - 1 - j]?=(ops[j]?).map (·.dst)) (hsz:∀ j d,j<k->loc[k - 1 - j]?=some (some d)->d<a.tmps.size) {o:Oper} (hl:∀ j want d v,o.guard=some (j,want)->jne d loc 0=some (k - 1 - j)->st[k - 1 - j]?=some v->cV A φ v (a.tmps.getD d undef)) {g:Option (Nat×Bool)} (hg:joy loc k o.guard=some g) {b:Bool} (hb:j6i st g=some b) :
 Region.wanted o (yielded ops a.tmps)=b:=by
 cases hgd:o.guard with
 | none =>
  rw[hgd] at hg
  cases hg
  cases hb
  simp[Region.wanted,hgd]
 | some p =>
  obtain⟨j,want⟩:=p
  rw[hgd] at hg
  simp only[joy] at hg
  cases hj:Nat.blt j k with
  | false=>rw[hj] at hg;cases hg
  | true =>
   rw[hj] at hg
   simp only[cond_true] at hg
   have hjk:j<k:=f0g hj
   split at hg
   .rename_i d hd
    split at hg
    .rename_i i hi
     cases hbe:Nat.beq i (k - 1 - j) with
     | false=>rw[hbe] at hg;cases hg
     | true =>
      rw[hbe] at hg
      cases hg
      obtain rfl:=f0i hbe
      obtain⟨v,hv,h2⟩:=jaa.1 (show ob (jec st (k - 1 - j)) (fun v=>svc (some false) v (fun s=>jnu s (fun c=>some (oif want c (jhd c)))))=some b from hb)
      rw[jcl] at hv
      have hc:=hl j want d v hgd hi hv
      have hlt:=hsz j d hjk hd
      have hop:((ops[j]?).bind (·.dst))=some d:=by
       have:=hloc j hjk
       rw[hd] at this
       cases h3:ops[j]? with
       | none=>rw[h3] at this;cases this
       | some o'=>rw[h3] at this;simp at this;simp[←this]
      have hget:a.tmps[d]?=some (a.tmps.getD d undef):=by
       rw[f0n,f2j hlt];rfl
      have hy:yielded ops a.tmps j=match a.tmps.getD d undef with | .bool b=>some b | _=>none:=by
       simp only[yielded,hop,Option.bind_some,hget]
       cases a.tmps.getD d undef<;>rfl
      rcases jhf h2 with⟨s,rfl,h4⟩ | ⟨rfl,h4⟩
      .obtain ⟨c,rfl,h5⟩:=jgw h4
       cases h5
       have hc':a.tmps.getD d undef=.bool c:=hc
       simp only[Region.wanted,hgd,hy,hc']
       cases want<;>cases c<;>rfl
      .cases h4
       have hc':a.tmps.getD d undef=undef:=hc
       simp only[Region.wanted,hgd]
       rw[hy,hc']
       cases want<;>rfl
    .cases hg
   .cases hg
def qe5 (P:Program) (f:FuncId):Prop:=∃ fn,P.funcs[f]?=some fn/\fn.body.isNone=false/\(fn.name == "runtime.NumGoroutine")=false
def qte (P:Program) (A:Nat->Int) (f:FuncId) (vs:List AV) (h:Hp) (v:AV) (h':Hp):Prop :=
 qe5 P f/\∀ φ w (args:Array Value),Rel A φ h w->All2 (cV A φ) vs args.toList ->
  Calls P f args w (fun e w'=>∃ rv φ',e=.returned rv/\Step (fun n=>h.lo<=n) φ φ' h h' w w'/\Rel A φ' h' w'/\cV A φ' v rv)
def qcu (P:Program) (A:Nat->Int) (cl:FuncId->List AV->Hp->R):Prop:=∀ f vs h v h',cl f vs h=some (v,h')->qte P A f vs h v h'
theorem jif {f:FuncId} (hf:qe5 P f) (args:Array Value):(callFunc f args).run P w=.ok (.enter f args) w:=by
 obtain⟨fn,h1,h2,h3⟩:=hf
 simp only[callFunc,Sem.run_bind,run_program,Result.andThen_ok,h1,h3,f0v,if_false,h2,Sem.run_pure]
theorem jdd {o:Oper} {n:Next} {rv:Value} (hr:(execOp a.eval o).run P w=.ok n w') (hn:qo9 n rv) {K:Act->World->Prop} {Q:Exit->Act->World->Prop} (h:K (a.put o.dst rv) w'):o.wp P a w K Q:=by
 unfold Oper.wp
 rw[hr]
 cases n<;>first | (cases hn;exact h) | exact(show False from hn).elim
theorem jnm:∀ {l:List (Nat×Nat)} {vs:List Value},All2 (fun p x=>jnf φ p.1 p.2 x) l vs->All2 (cV A φ) (jgq l) vs
 | _,_,.nil=>.nil
 | _,_,.cons h k=>.cons h (jnm k)
theorem j2j {op:Op} {ao:AO} (hc:cOp T π loc op=some (.a ao)) (hn:j66 ao):∃ c,op=.call c:=by
 cases op with
 | call c=>exact⟨c,rfl⟩
 | alloc e=>obtain⟨_,_,e⟩:=f0a.1 hc;cases e;exact hn.elim
 | box e x=>obtain⟨_,_,e⟩:=f0a.1 hc;cases e;exact hn.elim
 | buildSlice t n ps =>
  simp only[cOp] at hc
  split at hc
  .rename_i z hz
   cases hb:Nat.ble (n*z.2.size) 16777216 with
   | true=>rw[hb] at hc;obtain⟨_,_,e⟩:=f0a.1 hc;cases e;exact hn.elim
   | false=>rw[hb] at hc;cases hc
  .cases hc
 | makeSlice t l c=>simp only[cOp] at hc;split at hc<;>cases hc;exact hn.elim
 | load t x =>
  simp only[cOp] at hc
  split at hc
  .rename_i ti y hti hy
   cases hb:ti1 ti with
   | true=>rw[hb] at hc;cases hc;exact hn.elim
   | false=>rw[hb] at hc;cases hc
  .cases hc
 | store t x y=>simp only[cOp] at hc;split at hc<;>cases hc;exact hn.elim
 | move x=>obtain⟨_,_,e⟩:=f0a.1 hc;cases e
 | assign x=>obtain⟨_,_,e⟩:=f0a.1 hc;cases e
 | pick c a b=>simp only[cOp] at hc;split at hc<;>cases hc
 | build t ps =>
  simp only[cOp] at hc
  split at hc
  .split at hc
   .obtain ⟨_,_,e⟩:=f0a.1 hc;cases e
   .split at hc
    .obtain ⟨_,_,e⟩:=f0a.1 hc;cases e
    .cases hc
   .cases hc
  .cases hc
 | binOp op t x y yt =>
  simp only[cOp] at hc
  split at hc
  .cases hi:j17 T t with
   | true=>rw[hi] at hc;obtain⟨_,_,e⟩:=f0a.1 hc;cases e
   | false =>
    rw[hi] at hc
    simp only[cond_false] at hc
    cases hsl:(jbw T t).isSome with
    | true=>rw[hsl] at hc;obtain⟨_,_,e⟩:=f0a.1 hc;cases e
    | false =>
     rw[hsl] at hc
     simp only[cond_false] at hc
     split at hc
     .cases hc
     .cases hpt:jov T t with
      | true=>rw[hpt] at hc;cases hc;exact hn.elim
      | false =>
       rw[hpt] at hc
       cases hst:jc7 T t with
       | true=>rw[hst] at hc;cases hc;exact hn.elim
       | false =>
        rw[hst] at hc
        simp only[cond_false] at hc
        rename_i y' _ _ _ _ _ _ _
        cases hif:(jox T t&&jow y') with
        | true=>rw[hif] at hc;cases hc;exact hn.elim
        | false=>rw[hif] at hc;cases hc
     .split at hc
      .cases hst:jc7 T t with
       | true=>rw[hst] at hc;cases hc;exact hn.elim
       | false=>rw[hst] at hc;cases hc
      .cases hc
  .cases hc
 | unOp op t x=>cases op<;>first | (obtain⟨_,_,e⟩:=f0a.1 hc;cases e;done) | (cases hc;exact hn.elim)
 | makeFunc fn fst caps =>
  cases fn<;>first | (cases hc;exact hn.elim) | skip
  simp only[cOp] at hc
  cases hb:Nat.beq fst.size 0 with
  | true=>rw[hb] at hc;obtain⟨_,_,e⟩:=f0a.1 hc;cases e
  | false=>rw[hb] at hc;cases hc
 | convert s d x =>
  simp only[cOp] at hc
  split at hc
  .split at hc
   .cases hc
   .cases hb:jen T s with
    | true=>rw[hb] at hc;cases hc;exact hn.elim
    | false=>rw[hb] at hc;cases hc
   .cases hc
  .cases hc
 | nilCheck x=>obtain⟨_,_,e⟩:=f0a.1 hc;cases e
 | slice t x lo hi mx =>
  cases mx with
  | some m=>cases hi with
   | none=>cases hc;exact hn.elim
   | some h=>simp only[cOp] at hc;split at hc<;>cases hc
  | none =>
   simp only[cOp] at hc
   split at hc
   .cases hc
   .obtain ⟨_,_,e⟩:=f0a.1 hc;cases e;exact hn.elim
   .cases hc
 | fieldAddr t x f=>simp only[cOp] at hc;split at hc<;>cases hc
 | field t x f =>
  simp only[cOp] at hc
  split at hc
  .rename_i p _ _ _
   cases hb:ti1 p.2 with
   | true=>rw[hb] at hc;cases hc
   | false=>rw[hb] at hc;cases hc
  .cases hc
 | indexAddr t x i=>simp only[cOp] at hc;split at hc<;>cases hc
 | index t x i =>
  simp only[cOp] at hc
  cases hst:jc7 T t with
  | true =>
   rw[hst] at hc
   simp only[cond_true] at hc
   split at hc<;>cases hc
  | false =>
  rw[hst] at hc
  simp only[cond_false] at hc
  split at hc
  .rename_i z _ _ _ _ _
   cases hb:ti1 z.2 with
   | true=>rw[hb] at hc;cases hc
   | false=>rw[hb] at hc;cases hc
  .cases hc
 | extract x i=>obtain⟨_,_,e⟩:=f0a.1 hc;cases e
 | makeMap t r=>cases r with
  | none=>obtain⟨_,_,e⟩:=f0a.1 hc;cases e;exact hn.elim
  | some _=>cases hc;exact hn.elim
 | lookup t x k okf=>simp only[cOp] at hc;split at hc<;>cases hc;exact hn.elim
 | mapUpdate t x k v=>simp only[cOp] at hc;split at hc<;>cases hc;exact hn.elim
 | _=>cases hc;exact hn.elim
theorem jiv (hT:Tys P T) {cl:FuncId->List AV->Hp->R} (hcl:qcu P A cl) {o:Oper} (hE:jkh A φ π loc st fr o.op.operands.toList a.eval) (k:Rel A φ h w) {op:IOp} (hc:cOp T π loc o.op=some op) {v:AV} (hv:iop cl st fr h op=some (v,h')) (W:Nat->Prop)
 (hW:W=jzk h (jcj st fr op)∨W=fun n=>h.lo<=n) {K:Act->World->Prop} {Q:Exit->Act->World->Prop}
 (hK:∀ φ' rv w',Step W φ φ' h h' w w'->Rel A φ' h' w'->cV A φ' v rv->K (a.put o.dst rv) w'):o.wp P a w K Q:=by
 cases op with
 | p po =>
  obtain⟨v',hv',h2⟩:=jaa.1 (show ob (pop st fr po) (fun v=>ok v h)=some (v,h') from hv)
  cases h2
  obtain⟨rv,hr,hcv⟩:=jkl (w:=w) hT hE hc hv'
  exact jdd hr rfl (hK φ rv w (Step.refl _ k rfl rfl rfl rfl) k hcv)
 | a ao =>
  by_cases hn:j66 ao
  .have hWl:W=fun n=>h.lo<=n:=by
    rcases hW with rfl | rfl
    .funext n
     cases ao<;>first | (exact(show False from hn).elim) | rfl
    .rfl
   subst hWl
   have call:∀ f (args:Array Value) vs,(execOp a.eval o).run P w=.ok (.enter f args) w->All2 (cV A φ) vs args.toList->cl f vs h=some (v,h')->o.wp P a w K Q:=by
    intro f args vs hr hvs hv
    unfold Oper.wp
    rw[hr,Oper.upon_enter]
    refine Calls.mono ((hcl f vs h v h' hv).2 φ w args k hvs) ?_
    rintro e w' ⟨rv,φ',rfl,s,r,hcv⟩
    exact hK φ' rv w' s r hcv
   cases ao with
   | call f as =>
    obtain⟨vs,hvs,hv1⟩:=jaa.1 (show ob (evs st fr as) (fun vs=>cl f vs h)=some (v,h') from hv)
    obtain⟨c,hop⟩:=j2j hc hn
    .obtain ⟨callee,args,ts⟩:=c
     rw[hop] at hc
     simp only[cOp,j6k] at hc
     split at hc
     .rename_i as' has
      split at hc
      .rename_i f'
       cases hc
       have hE':=jkk hE _ _ _ (fun x hx=>by rw[hop];exact jb0 hx) has hvs
       refine call f (args.map a.eval) vs ?_ (by simpa using hE') hv1
       have hok:=(hcl f vs h v h' hv1).1
       simp only[execOp,hop,resolve,Act.eval,Deferred.ofValue,Sem.run_bind,Sem.run_pure,Result.andThen_ok,invoke,Array.append_empty,Array.empty_append]
       exact jif hok _
      .obtain ⟨y,_,e⟩:=f0a.1 hc
       cases e
      .split at hc
       all_goals first
        | (cases hc;done)
        | (split at hc<;>first | (cases hc;done) | (obtain⟨_,_,e⟩:=f0a.1 hc;cases e;done) | (rename_i t _;cases hst:jc7 T t<;>rw[hst] at hc<;>first | (cases hc;done) | (obtain⟨_,_,e⟩:=f0a.1 hc;cases e;done)) | (obtain⟨_,_,_,⟨_,e⟩ | ⟨_,_,_,_,e⟩⟩:=jkb hc<;>cases e))
      .cases hc
     .cases hc
   | callv x as =>
    obtain⟨u,hu,hv1⟩:=jaa.1 (show ob (ev st fr x) (fun v=>jwu v (fun f caps=>ob (evs st fr as) (fun vs=>cl f (jgp vs (jgq caps)) h)))=some (v,h') from hv)
    obtain⟨f,caps,rfl,hv2⟩:=jee hv1
    obtain⟨vs,hvs,hv3⟩:=jaa.1 hv2
    obtain⟨c,hop⟩:=j2j hc hn
    .obtain ⟨callee,args,ts⟩:=c
     rw[hop] at hc
     simp only[cOp,j6k] at hc
     split at hc
     .rename_i as' has
      split at hc
      .cases hc
      .rename_i _ x' _
       obtain⟨y,hy,e⟩:=f0a.1 hc
       cases e
       have hE':=jkk hE _ _ _ (fun x hx=>by rw[hop];exact jb0 hx) has hvs
       obtain⟨us,hfv,hcaps⟩:=(show ∃ vs:List Value,a.eval x'=.func (.func f) #[] vs.toArray/\All2 (fun p x=>jnf φ p.1 p.2 x) caps vs from hE _ (by rw[hop];exact j4v) _ _ hy hu)
       rw[jc8] at hv3
       refine call f (args.map a.eval++us.toArray) (vs++jgq caps) ?_ (by simpa using hE'.append (jnm hcaps)) hv3
       have hok:=(hcl f _ h v h' hv3).1
       simp only[execOp,hop,resolve,hfv,Deferred.ofValue,Sem.run_bind,Sem.run_pure,Result.andThen_ok,invoke,Array.empty_append]
       exact jif hok _
      .split at hc
       all_goals first
        | (cases hc;done)
        | (split at hc<;>first | (cases hc;done) | (obtain⟨_,_,e⟩:=f0a.1 hc;cases e;done) | (rename_i t _;cases hst:jc7 T t<;>rw[hst] at hc<;>first | (cases hc;done) | (obtain⟨_,_,e⟩:=f0a.1 hc;cases e;done)) | (obtain⟨_,_,_,⟨_,e⟩ | ⟨_,_,_,_,e⟩⟩:=jkb hc<;>cases e))
      .cases hc
     .cases hc
   | _=>exact(show False from hn).elim
  .have h2:=j67 (cl:=cl) hT hE k hc hn hv
   have h3:jb3 A W φ h w v h' ((execOp a.eval o).run P w):=by
    rcases hW with rfl | rfl
    .exact h2.1
    .exact h2.2
   obtain⟨n,rv,w',φ',hr,hnv,s,r,hcv⟩:=h3
   exact jdd hr hnv (hK φ' rv w' s r hcv)
end
section
variable {h h':Hp} {st fr:List AV} {W V:Nat->Prop}
def jkq (cl:FuncId->List AV->Hp->R):Prop:=∀ f vs h v h',WF h->cl f vs h=some (v,h')->Abs (fun n=>h.lo<=n) h h'
theorem Abs.any (k:Abs (fun _=>False) h h'):Abs W h h':=k.mono (fun _ h=>h.elim)
theorem jnn (k:WF h) {ty:TypeId} {g:Nat->AV} {v:AV} (hv:nw h cs ty (fun n h=>ok (g n) h)=some (v,h')):Abs (fun _=>False) h h':=by
 obtain⟨h1,h2,h3⟩:=jtm hv
 cases h3
 exact Abs.push _ k h1 h2 _
theorem jsm (k:WF h) {b off:Nat} {xs:List SV} (hw:wr h b off xs=some h'):Abs (fun n=>n=b) h h'/\h.lo<=b:=by
 obtain⟨hlo,cs,ty,hg,_,rfl⟩:=jjh hw
 exact⟨Abs.put k (by rw[hg];rfl) _,hlo⟩
theorem jxc (k:WF h) {e:TypeId} {m:Nat} {u v:AV} {new:List SV} (hv5:jlx h e size bytes m u new=some (v,h')):Abs (fun n=>slB u=some n) h h'/\Abs (fun n=>h.lo<=n) h h':=by
 have stay:ok u h=some (v,h')->Abs ((fun n=>slB u=some n)) h h'/\Abs (fun n=>h.lo<=n) h h':=by
  intro hv2
  cases hv2
  exact⟨Abs.refl _ k,Abs.refl _ k⟩
 have fresh:Nat.casesOn (motive:=fun _=>R) m (ok u h) (fun _=>jj9 bytes m (nw h new e (fun k h=>ok (.s (.slice k 0 m m false size)) h)))=some (v,h')->Abs ((fun n=>slB u=some n)) h h'/\Abs (fun n=>h.lo<=n) h h':=by
  intro hv6
  cases m with
  | zero=>exact stay hv6
  | succ m =>
   obtain⟨_,hv7⟩:=jab.1 (show oif (Nat.ble (Nat.mul (m+1) bytes) 140737488355328) (oif (Nat.ble (m+1) 140737488355328) (nw h new e (fun k h=>ok (.s (.slice k 0 (m+1) (m+1) false size)) h)) none) none=some (v,h') from hv6)
   obtain⟨_,hv8⟩:=jab.1 hv7
   have a:=jnn k hv8
   exact⟨a.any,a.any⟩
 rcases jay hv5 with⟨rfl,hv6⟩ | ⟨b,off,n,mc,ex,sz,rfl,hv6⟩ | ⟨_,_,hv6⟩ | ⟨rfl,hv6⟩
 .exact fresh hv6
 rotate_left
 .cases hv6
 .exact fresh hv6
 .have hcls:slB (.s (.slice b off n mc ex sz))=some b:=rfl
  rw[hcls]
  obtain⟨_,hv9⟩:=jab.1 hv6
  rw[jap] at hv9
  split at hv9
  .obtain ⟨h1,hw,hv10⟩:=jaa.1 hv9
   cases hv10
   obtain⟨a,hlo⟩:=jsm k hw
   exact⟨a.mono (fun n e=>congrArg some e.symm),a.mono (fun n e=>by subst e;exact hlo)⟩
  .obtain ⟨_,hv11⟩:=jab.1 (show oif (Nat.ble (Nat.mul (Nat.add n m) bytes) 140737488355328) (oif (Nat.ble (Nat.add n m) 140737488355328) (jlw h e size b off n m ex new) none) none=some (v,h') from hv9)
   obtain⟨_,hv12⟩:=jab.1 hv11
   obtain⟨ab,hab,hv13⟩:=jaa.1 hv12
   cases ab with
   | map va es=>cases hv13
   | arr cs ty =>
   obtain⟨old,hold,hv14⟩:=jaa.1 (show ob (jbp (Nat.mul n size) (jb4 off cs)) (fun old=>Bool.rec (motive:=fun _=>R)
    (oif (Nat.ble h.lo b) (oif (Nat.beq ty e) (nw (h.put b none) (jgp old new) e (fun k h=>ok (.s (.slice k 0 (Nat.add n m) (Nat.add n m) false size)) h)) none) none)
    (nw h (jgp old new) e (fun k h=>ok (.s (.slice k 0 (Nat.add n m) (Nat.add n m) false size)) h)) ex)=some (v,h') from hv13)
   cases ex with
   | true =>
    have a:=jnn k (show nw h (jgp old new) e (fun k h=>ok (.s (.slice k 0 (Nat.add n m) (Nat.add n m) false size)) h)=some (v,h') from hv14)
    exact⟨a.any,a.any⟩
   | false =>
    obtain⟨hlo,hv15⟩:=jab.1 (show oif (Nat.ble h.lo b) (oif (Nat.beq ty e) (nw (h.put b none) (jgp old new) e (fun k h=>ok (.s (.slice k 0 (Nat.add n m) (Nat.add n m) false size)) h)) none) none=some (v,h') from hv14)
    obtain⟨_,hv16⟩:=jab.1 hv15
    have hlo':h.lo<=b:=f0g hlo
    have a1:=Abs.put k (show(h.get b).isSome=true by rw[hab];rfl) none
    have a2:=(jnn a1.wf hv16).any (W:=fun n=>n=b)
    have a:=a1.trans a2
    exact⟨a.mono (fun n e=>congrArg some e.symm),a.mono (fun n e=>by subst e;exact hlo')⟩
theorem qh1 (k:WF h) {e:TypeId} {x y:Od} {v:AV} (hv:qhm st fr h e size bytes x y=some (v,h')) :
 Abs (jzk h (jcj st fr (.a (.app e size bytes x y)))) h h'/\Abs (fun n=>h.lo<=n) h h':=by
 obtain⟨u,hu,hv1⟩:=jaa.1 hv
 obtain⟨u',hu',hv2⟩:=jaa.1 hv1
 have stay:ok u h=some (v,h')->Abs (jzk h (jcj st fr (.a (.app e size bytes x y)))) h h'/\Abs (fun n=>h.lo<=n) h h':=by
  intro hv2
  cases hv2
  exact⟨Abs.refl _ k,Abs.refl _ k⟩
 have any:qb7 u (ok u h)=some (v,h')->Abs (jzk h (jcj st fr (.a (.app e size bytes x y)))) h h'/\Abs (fun n=>h.lo<=n) h h':=by
  intro hv3
  rcases jay hv3 with⟨_,hv4⟩ | ⟨_,_,_,_,_,_,_,hv4⟩ | ⟨_,_,hv4⟩ | ⟨_,hv4⟩<;>exact stay hv4
 have core:∀ (m:Nat) (new:List SV),jlx h e size bytes m u new=some (v,h')->Abs (jzk h (jcj st fr (.a (.app e size bytes x y)))) h h'/\Abs (fun n=>h.lo<=n) h h':=by
  intro m new hv5
  obtain⟨a1,a2⟩:=jxc k hv5
  refine⟨a1.mono (fun n hn=>?_),a2⟩
  have hcls:jcj st fr (.a (.app e size bytes x y))=.app n:=by
   show jtg (ob (ev st fr x) (fun v=>jhv v none (fun b _ _ _ _ _=>some b))) .app=_
   rw[hu]
   show jtg (slB u) .app=_
   rw[hn];rfl
  rw[hcls]
  rfl
 rcases jay hv2 with⟨_,hv3⟩ | ⟨b',off',m,mc',ex',sz',rfl,hv3⟩ | ⟨rows,_,hv3⟩ | ⟨_,hv3⟩
 .exact any hv3
 .obtain ⟨new,hnew,hv5⟩:=jaa.1 hv3
  exact core m new hv5
 .obtain ⟨new,hnew,hv5⟩:=jaa.1 hv3
  exact core (jb2 rows) new hv5
 .exact any hv3
theorem jew (k:WF h) {cl:FuncId->List AV->Hp->R} (hcl:jkq cl) {op:IOp} {v:AV} (hv:iop cl st fr h op=some (v,h')) :
 Abs (jzk h (jcj st fr op)) h h'/\Abs (fun n=>h.lo<=n) h h':=by
 have jfy:Abs (fun _=>False) h h'->Abs (jzk h (jcj st fr op)) h h'/\Abs (fun n=>h.lo<=n) h h':=fun a=>⟨a.any,a.any⟩
 cases op with
 | p po =>
  obtain⟨v',hv',h2⟩:=jaa.1 (show ob (pop st fr po) (fun v=>ok v h)=some (v,h') from hv)
  cases h2
  exact jfy (Abs.refl _ k)
 | a ao =>
  cases ao with
  | new e z=>exact jfy (jnn k (show nw h z e (fun n h=>ok (.s (.ptr n 0)) h)=some (v,h') from hv))
  | box e x =>
   obtain⟨u,hu,hv1⟩:=jaa.1 (show ob (ev st fr x) (fun v=>cel v (fun cs=>nw h cs e (fun n h=>ok (.s (.ptr n 0)) h)))=some (v,h') from hv)
   cases u with
   | s x=>exact jfy (jnn k (show nw h [x] e (fun n h=>ok (.s (.ptr n 0)) h)=some (v,h') from hv1))
   | agg l=>exact jfy (jnn k (show nw h l e (fun n h=>ok (.s (.ptr n 0)) h)=some (v,h') from hv1))
   | _=>cases hv1
  | bslice e size z len ps =>
   obtain⟨u,hu,hv1⟩:=jaa.1 (show ob (fill st fr ps z) (fun cs=>nw h cs e (fun n h=>ok (.s (.slice n 0 len len true size)) h))=some (v,h') from hv)
   exact jfy (jnn k hv1)
  | mkslice e size bytes z l c =>
   obtain⟨u,hu,hv1⟩:=jaa.1 (show jgr st fr h e size bytes z l c=some (v,h') from hv)
   obtain⟨u',hu',hv2⟩:=jaa.1 hv1
   obtain⟨m,_,hv3⟩:=jfi hv2
   obtain⟨n,_,hv4⟩:=jfi hv3
   obtain⟨_,hv5⟩:=jab.1 hv4
   obtain⟨_,hv6⟩:=jab.1 hv5
   obtain⟨_,hv7⟩:=jab.1 hv6
   exact jfy (jnn k hv7)
  | load n agg x =>
   obtain⟨u,hu,hv1⟩:=jaa.1 (show jj8 st fr h n agg x=some (v,h') from hv)
   rcases jb6 hv1 with⟨b,off,_,hv2⟩ | ⟨cs0,_,hv2⟩
   .obtain ⟨cs,hcs,hv3⟩:=jaa.1 hv2
    obtain⟨v',hv',hv4⟩:=jaa.1 hv3
    cases hv4
    exact jfy (Abs.refl _ k)
   .obtain ⟨cs,hcs,hv3⟩:=jaa.1 hv2
    obtain⟨v',hv',hv4⟩:=jaa.1 hv3
    cases hv4
    exact jfy (Abs.refl _ k)
  | store n x y =>
   obtain⟨p,hp,hv1⟩:=jaa.1 (show jzb st fr h n x y=some (v,h') from hv)
   obtain⟨u,hu,hv2⟩:=jaa.1 hv1
   obtain⟨b,off,hpb,hv3⟩:=jkf hv2
   have:∃ cs,oif (Nat.beq (jb2 cs) n) (ob (wr h b off cs) (fun h=>ok .undef h)) none=some (v,h'):=by
    cases u with
    | s x=>exact⟨_,hv3⟩
    | agg l=>exact⟨_,hv3⟩
    | _=>cases hv3
   obtain⟨cs,hv4⟩:=this
   obtain⟨_,hv5⟩:=jab.1 hv4
   obtain⟨h1,hw,hv6⟩:=jaa.1 hv5
   cases hv6
   obtain⟨a,hlo⟩:=jsm k hw
   have a':=a.mono (V:=fun n=>h.lo<=n) (fun n e=>by subst e;exact hlo)
   subst hpb
   have hcls:jcj st fr (.a (.store n x y))=.app b:=by
    show jtg (ob (ev st fr x) (fun v=>jws v (fun b _=>some b))) .app=_
    rw[hp];rfl
   rw[hcls]
   exact⟨a,a'⟩
  | call f as =>
   obtain⟨vs,hvs,hv1⟩:=jaa.1 (show ob (evs st fr as) (fun vs=>cl f vs h)=some (v,h') from hv)
   have a:=hcl _ _ _ _ _ k hv1
   exact⟨a,a⟩
  | callv x as =>
   obtain⟨u,hu,hv1⟩:=jaa.1 (show ob (ev st fr x) (fun v=>jwu v (fun f caps=>ob (evs st fr as) (fun vs=>cl f (jgp vs (jgq caps)) h)))=some (v,h') from hv)
   obtain⟨f,caps,_,hv2⟩:=jee hv1
   obtain⟨vs,hvs,hv3⟩:=jaa.1 hv2
   have a:=hcl _ _ _ _ _ k hv3
   exact⟨a,a⟩
  | app e size bytes x y=>exact qh1 k hv
  | copy size x y =>
   obtain⟨u,hu,hv1⟩:=jaa.1 (show j6f st fr h size x y=some (v,h') from hv)
   obtain⟨u',hu',hv2⟩:=jaa.1 hv1
   have stay:ok (.s (.int .i64 0)) h=some (v,h')->Abs (fun n=>h.lo<=n) h h':=by
    intro hv
    cases hv
    exact Abs.refl _ k
   have any:∀ w,qb7 w (ok (.s (.int .i64 0)) h)=some (v,h')->Abs (fun n=>h.lo<=n) h h':=by
    intro w hv3
    rcases jay hv3 with⟨_,hv4⟩ | ⟨_,_,_,_,_,_,_,hv4⟩ | ⟨_,_,hv4⟩ | ⟨_,hv4⟩<;>exact stay hv4
   rcases jay hv2 with⟨_,hv3⟩ | ⟨b,off,n,mc,ex,sz,_,hv3⟩ | ⟨_,_,hv3⟩ | ⟨_,hv3⟩
   .exact ⟨any _ hv3,any _ hv3⟩
   rotate_left
   .cases hv3
   .exact ⟨any _ hv3,any _ hv3⟩
   .rcases jay hv3 with⟨_,hv4⟩ | ⟨b',off',m,mc',ex',sz',_,hv4⟩ | ⟨rows,_,hv4⟩ | ⟨_,hv4⟩
    .exact ⟨stay hv4,stay hv4⟩
    .obtain ⟨cs,hcs,hv5⟩:=jaa.1 hv4
     obtain⟨h1,hw,hv6⟩:=jaa.1 hv5
     cases hv6
     obtain⟨a,hlo⟩:=jsm k hw
     have a':=a.mono (V:=fun n=>h.lo<=n) (fun n e=>by subst e;exact hlo)
     exact⟨a',a'⟩
    .obtain ⟨al,hal,hv5⟩:=jaa.1 hv4
     obtain⟨cs,hcs,hv5⟩:=jaa.1 hv5
     obtain⟨h1,hw,hv6⟩:=jaa.1 hv5
     cases hv6
     obtain⟨a,hlo⟩:=jsm k hw
     have a':=a.mono (V:=fun n=>h.lo<=n) (fun n e=>by subst e;exact hlo)
     exact⟨a',a'⟩
    .exact ⟨stay hv4,stay hv4⟩
  | clear z x =>
   obtain⟨u,hu,hv1⟩:=jaa.1 (show jzc st fr h z x=some (v,h') from hv)
   have stay:ok (.tup []) h=some (v,h')->Abs (fun n=>h.lo<=n) h h':=by
    intro hv
    cases hv
    exact Abs.refl _ k
   rcases jo4 hv1 with⟨_,hv2⟩ | ⟨b,off,n,mc,ex,sz,_,hv2⟩
   .exact ⟨stay hv2,stay hv2⟩
   .cases n with
    | zero=>exact⟨stay hv2,stay hv2⟩
    | succ n =>
     obtain⟨h1,hw,hv3⟩:=jaa.1 (show ob (wr h b off (rep z (n+1))) (fun h=>ok (.tup []) h)=some (v,h') from hv2)
     cases hv3
     obtain⟨a,hlo⟩:=jsm k hw
     have a':=a.mono (V:=fun n=>h.lo<=n) (fun n e=>by subst e;exact hlo)
     exact⟨a',a'⟩
  | mkmap va =>
   obtain⟨h1,h2,h3⟩:=j2f (show nwx h (.map va []) (fun n h=>ok (.s (.map n)) h)=some (v,h') from hv)
   cases h3
   have a:=Abs.push (fun _=>False) k h1 h2 (.map va [])
   exact jfy a
  | look sig va z okf x y =>
   obtain rfl:=jw7 (show jwx st fr h sig va z okf x y=some (v,h') from hv)
   exact jfy (Abs.refl _ k)
  | mupd sig va x y u =>
   obtain⟨b,es,es',hlo,hg,rfl,_⟩:=j6z (show jwy st fr h sig va x y u=some (v,h') from hv)
   have a:=Abs.put k (show(h.get b).isSome=true by rw[hg];rfl) (some (.map va es'))
   have a':=a.mono (V:=fun n=>h.lo<=n) (fun n e=>by subst e;exact hlo)
   exact⟨a',a'⟩
  | slicea n size x =>
   obtain⟨u,hu,hv1⟩:=jaa.1 (show jn4 st fr h n size x=some (v,h') from hv)
   rcases jb6 hv1 with⟨b,off,_,hv2⟩ | ⟨cells,_,hv2⟩
   .obtain ⟨xs,hxs,hv3⟩:=jaa.1 hv2
    cases hv3
    exact jfy (Abs.refl _ k)
   .obtain ⟨xs,hxs,hv3⟩:=jaa.1 hv2
    cases hv3
    exact jfy (Abs.refl _ k)
  | boxc e x =>
   obtain⟨u,hu,hv1⟩:=jaa.1 (show jnc st fr h e x=some (v,h') from hv)
   have:h'=h:=by
    cases u with
    | s y=>obtain⟨_,hv2⟩:=jab.1 (show oif (Nat.beq (jb2 [y]) e) (oif (jy8 [y]) (ok (.s (.cp [y])) h) none) none=some (v,h') from hv1);obtain⟨_,hv3⟩:=jab.1 hv2;cases hv3;rfl
    | agg l=>obtain⟨_,hv2⟩:=jab.1 (show oif (Nat.beq (jb2 l) e) (oif (jy8 l) (ok (.s (.cp l)) h) none) none=some (v,h') from hv1);obtain⟨_,hv3⟩:=jab.1 hv2;cases hv3;rfl
    | _=>cases hv1
   subst this
   exact jfy (Abs.refl _ k)
  | peq neg x y =>
   obtain⟨rfl,_⟩:=jsk (show qcf st fr h neg x y=some (v,h') from hv)
   exact jfy (Abs.refl _ k)
  | strop n x y =>
   rcases f0h n 7 with hn | hn
   .obtain rfl:=jc9 (by omega) (show jd1 st fr h n x y=some (v,h') from hv)
    exact jfy (Abs.refl _ k)
   .obtain ⟨e,rfl⟩:∃ e,n=e+7:=⟨n - 7,by omega⟩
    obtain⟨u,hu,hv1⟩:=jaa.1 (show j15 st fr h e x y=some (v,h') from hv)
    obtain⟨u',hu',hv2⟩:=jaa.1 hv1
    obtain⟨s',rfl,hv3⟩:=jca hv2
    obtain⟨l,rfl,hv4⟩:=jic hv3
    have a:=(jxc k hv4).2
    exact⟨a,a⟩
  | bad=>cases hv
theorem qcv (k:WF h) {cl:FuncId->List AV->Hp->R} (hcl:jkq cl) {op:IOp} {g:Option (Nat×Bool)} {v:AV} (hv:j4r cl st fr h op g=some (v,h')):Abs (fun n=>h.lo<=n) h h':=by
 obtain⟨b,hb,hv1⟩:=jaa.1 hv
 cases b with
 | false=>cases hv1;exact Abs.refl _ k
 | true=>exact(jew k hcl hv1).2
theorem j2k {cl:FuncId->List AV->Hp->R} (hcl:jkq cl):∀ (l:List IOper) (st fr:List AV) (h:Hp) (s:St),WF h->jru cl l st fr h=some s->∃ fr' h',s=.mk fr' h'/\Abs (fun n=>h.lo<=n) h h'
 | [],st,fr,h,s,k,hv=>by cases hv;exact⟨fr,h,rfl,Abs.refl _ k⟩
 | .mk dst op g::l,st,fr,h,s,k,hv=>by
  obtain⟨p,hp,hv1⟩:=jaa.1 (show ob (j4r cl st fr h op g) (fun p=>jru cl l (p.1::st) (jcn fr dst p.1) p.2)=some s from hv)
  have a:=qcv k hcl (v:=p.1) (h':=p.2) hp
  obtain⟨fr',h',e,a'⟩:=j2k hcl l _ _ _ s a.wf hv1
  have a'':Abs (fun n=>h.lo<=n) p.2 h':=by rw[←a.lo];exact a'
  exact⟨fr',h',e,a.trans a''⟩
theorem jig {cl:FuncId->List AV->Hp->R} {n:Nat} {t:Tr AB} {lo lo':Nat} {hid hid':List (Nat×Nat)} {op:IOp} {e:Nat->Ent} {d:DR} (hv:jnw cl st fr n t lo lo' hid hid' op e=some d) :
 ∃ v h1,iop cl st fr (.mk n t lo' hid') op=some (v,h1)/\d=.mk v (.mk h1.next h1.tr lo hid) (e h1.next):=by
 obtain⟨p,hp,hv1⟩:=jaa.1 hv
 obtain⟨v,h1⟩:=p
 cases h1 with
 | mk n' t' a b =>
  cases hv1
  exact⟨v,_,hp,rfl⟩
end
end Go.Proofs.YtdbklpgagdbpiaaDoor.Ev
