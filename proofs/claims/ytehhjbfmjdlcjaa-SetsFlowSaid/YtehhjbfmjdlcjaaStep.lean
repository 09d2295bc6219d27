/- Slots, guards, one operation at its place, a region in its text's order. No program in sight. -/
import Derived.Test.YtehhjbfmjdlcjaaMem
namespace Go.Proofs.Ytehhjbfmjdlcjaa.Ev
open Go
set_option linter.all false
variable {v:AV} {x nt:Nat}
theorem jnp (x:Nat):∀ (l:List Nat) (k:Nat),idx x l (k+1)=(idx x l k).map (·+1)
 | [],k=>rfl
 | a::l,k=>by
  simp only[idx]
  cases Nat.beq a x with
  | true=>rfl
  | false=>exact jnp x l (k+1)
theorem jcv:∀ {l:List Nat} {j:Nat},idx x l 0=some j->l[j]?=some x
 | [],j,h=>by cases h
 | a::l,j,h=>by
  simp only[idx] at h
  cases hb:Nat.beq a x with
  | true=>rw[hb] at h;cases h;rw[f07 hb];rfl
  | false =>
   rw[hb] at h
   simp only[cond_false] at h
   rw[jnp] at h
   obtain⟨i,hi,rfl⟩:=f0c.1 h
   simpa using jcv hi
theorem je0 (x:Nat):∀ (l:List (Option Nat)) (k:Nat),jmj x l (k+1)=(jmj x l k).map (·+1)
 | [],k=>rfl
 | some a::l,k=>by
  simp only[jmj]
  cases Nat.beq a x with
  | true=>rfl
  | false=>exact je0 x l (k+1)
 | none::l,k=>by
  simp only[jmj]
  exact je0 x l (k+1)
theorem jhs:∀ {l:List (Option Nat)} {j:Nat},jmj x l 0=some j->l[j]?=some (some x)
 | [],j,h=>by cases h
 | some a::l,j,h=>by
  simp only[jmj] at h
  cases hb:Nat.beq a x with
  | true=>rw[hb] at h;cases h;rw[f07 hb];rfl
  | false =>
   rw[hb] at h
   simp only[cond_false] at h
   rw[je0] at h
   obtain⟨i,hi,rfl⟩:=f0c.1 h
   simpa using jhs hi
 | none::l,j,h=>by
  simp only[jmj] at h
  rw[je0] at h
  obtain⟨i,hi,rfl⟩:=f0c.1 h
  simpa using jhs hi
theorem jjk (x:Nat) (d:Option Nat) (l:List (Option Nat)):jmj x (d::l) 0=if d=some x then some 0 else (jmj x l 0).map (·+1):=by
 cases d with
 | none =>
  simp only[jmj]
  rw[je0]
  simp
 | some a =>
  simp only[jmj]
  cases hb:Nat.beq a x with
  | true=>rw[f07 hb];simp
  | false =>
   have:a≠x:=fun e=>by subst e;rw[f18] at hb;cases hb
   simp only[cond_false,Option.some.injEq,this,if_false]
   exact je0 x l 0
section
variable (A:Nat->Int)
def FrR (φ:Phi) (π:List Nat) (fr:List AV) (a:Act):Prop:=∀ t j v,idx t π 0=some j->fr[j]?=some v->cV A φ v (a.tmps.getD t undef)
def LoR (φ:Phi) (loc:List (Option Nat)) (st:List AV) (a:Act):Prop:=∀ t i v,jmj t loc 0=some i->st[i]?=some v->cV A φ v (a.tmps.getD t undef)
end
section
variable {P:Program} {T:Tr TI} {w w':World} {A:Nat->Int} {φ ψ:Phi} {h h':Hp} {π:List Nat} {loc:List (Option Nat)} {st fr:List AV} {a:Act} {W:Nat->Prop}
theorem FrR.mono (hle:φ.le ψ) (k:FrR A φ π fr a):FrR A ψ π fr a:=fun t j v h1 h2=>(k t j v h1 h2).mono hle
theorem LoR.mono (hle:φ.le ψ) (k:LoR A φ loc st a):LoR A ψ loc st a:=fun t j v h1 h2=>(k t j v h1 h2).mono hle
theorem jhc {v:Value} {x:AV} (h:jqj v=some x):cV A φ x v:=by
 unfold jqj at h
 split at h<;>first | (cases h;rfl) | cases h
theorem jr5 (hf:FrR A φ π fr a) (hl:LoR A φ loc st a) (os:List Operand):jvh A φ π loc st fr os a.eval:=by
 intro x _ y v hy hv
 cases x with
 | tmp t =>
  simp only[cO] at hy
  split at hy
  ·rename_i i hi
   cases hy
   have hv':jel st i=some v:=hv
   rw[jca] at hv'
   exact hl t i v hi hv'
  ·split at hy
   ·rename_i j hj
    cases hy
    have hv':jel fr j=some v:=hv
    rw[jca] at hv'
    exact hf t j v hj hv'
   ·cases hy
 | const c =>
  obtain⟨z,hz,rfl⟩:=f0c.1 (show(jqj c).map .c=some y from hy)
  cases hv
  exact jhc hz
 | func f =>
  cases hy
  cases hv
  exact⟨[],rfl,.nil⟩
 | global g=>cases hy
theorem jjl {d:Nat} (hd:d<a.tmps.size) (rv:Value) (t:Nat):(a.put (some d) rv).tmps.getD t undef=if t=d then rv else a.tmps.getD t undef:=by
 simp only[Act.put,f02,Array.getElem?_setIfInBounds]
 by_cases e:d=t
 ·subst e;simp[hd]
 ·rw[if_neg e,if_neg (fun h=>e h.symm)]
theorem jht (dst:Option Tmp) (rv:Value):(a.put dst rv).tmps.size=a.tmps.size:=by
 cases dst<;>simp[Act.put]
theorem jko (dst:Option Tmp) (rv:Value):(a.put dst rv).defers=a.defers:=by
 cases dst<;>simp[Act.put]
theorem FrR.put (k:FrR A φ π fr a) (hnt:nt<=a.tmps.size) {dst:Option Tmp} (hd:jp7 nt dst=true) {rv:Value} (hv:cV A φ v rv):FrR A φ π (jc0 fr (jml π dst) v) (a.put dst rv):=by
 cases dst with
 | none=>exact k
 | some d =>
  have hd':d<a.tmps.size:=by
   have:Nat.ble (d+1) nt=true:=hd
   exact f0y (f0w this) hnt
  intro t j u hj hu
  rw[jjl hd']
  cases hc:jml π (some d) with
  | none =>
   rw[hc] at hu
   have:t≠d:=fun e=>by subst e;rw[show idx t π 0=none from hc] at hj;cases hj
   rw[if_neg this]
   exact k t j u hj hu
  | some i =>
   rw[hc] at hu
   have hu':(jp5 fr i v)[j]?=some u:=hu
   rw[jg7] at hu'
   have hi:idx d π 0=some i:=hc
   by_cases e:t=d
   ·subst e
    rw[hi] at hj
    cases hj
    rw[if_pos rfl]
    rw[f2d] at hu'
    simp only[if_true] at hu'
    split at hu'
    ·cases hu';exact hv
    ·cases hu'
   ·rw[if_neg e]
    have:i≠j:=by
     rintro rfl
     have h1:=jcv hj
     have h2:=jcv hi
     rw[h1] at h2
     cases h2
     exact e rfl
    rw[f15 this] at hu'
    exact k t j u hj hu'
theorem LoR.put (k:LoR A φ loc st a) (hnt:nt<=a.tmps.size) {dst:Option Tmp} (hd:jp7 nt dst=true) {rv:Value} (hv:cV A φ v rv):LoR A φ (dst::loc) (v::st) (a.put dst rv):=by
 intro t i u hi hu
 rw[jjk] at hi
 cases dst with
 | none =>
  simp only[reduceCtorEq,if_false] at hi
  obtain⟨i',hi',rfl⟩:=f0c.1 hi
  exact k t i' u hi' (by simpa using hu)
 | some d =>
  have hd':d<a.tmps.size:=by
   have:Nat.ble (d+1) nt=true:=hd
   exact f0y (f0w this) hnt
  rw[jjl hd']
  by_cases e:d=t
  ·subst e
   simp only[if_true] at hi
   cases hi
   cases hu
   rw[if_pos rfl]
   exact hv
  ·rw[if_neg (fun h=>e h.symm)]
   simp only[Option.some.injEq,e,if_false] at hi
   obtain⟨i',hi',rfl⟩:=f0c.1 hi
   exact k t i' u hi' (by simpa using hu)
theorem jin {ops:Array Oper} {k:Nat} (hloc:∀ j,j<k->loc[k - 1 - j]?=(ops[j]?).map (·.dst)) (hsz:∀ j d,j<k->loc[k - 1 - j]?=some (some d)->d<a.tmps.size) {o:Oper} (hl:∀ j want d v,o.guard=some (j,want)->jmj d loc 0=some (k - 1 - j)->st[k - 1 - j]?=some v->cV A φ v (a.tmps.getD d undef)) {g:Option (Nat×Bool)} (hg:jna loc k o.guard=some g) {b:Bool} (hb:j4z st g=some b) :
 Region.wanted o (yielded ops a.tmps)=b:=by
 cases hgd:o.guard with
 | none =>
  rw[hgd] at hg
  cases hg
  cases hb
  simp[Region.wanted,hgd]
 | some p =>
  obtain⟨j,want⟩:=p
  rw[hgd] at hg
  simp only[jna] at hg
  cases hj:Nat.blt j k with
  | false=>rw[hj] at hg;cases hg
  | true =>
   rw[hj] at hg
   simp only[cond_true] at hg
   have hjk:j<k:=f0w hj
   split at hg
   ·rename_i d hd
    split at hg
    ·rename_i i hi
     cases hbe:Nat.beq i (k - 1 - j) with
     | false=>rw[hbe] at hg;cases hg
     | true =>
      rw[hbe] at hg
      cases hg
      obtain rfl:=f07 hbe
      obtain⟨v,hv,h2⟩:=jac.1 (show ob (jel st (k - 1 - j)) (fun v=>svc (some false) v (fun s=>jp6 s (fun c=>some (oif want c (ji4 c)))))=some b from hb)
      rw[jca] at hv
      have hc:=hl j want d v hgd hi hv
      have hlt:=hsz j d hjk hd
      have hop:((ops[j]?).bind (·.dst))=some d:=by
       have:=hloc j hjk
       rw[hd] at this
       cases h3:ops[j]? with
       | none=>rw[h3] at this;cases this
       | some o'=>rw[h3] at this;simp at this;simp[←this]
      have hget:a.tmps[d]?=some (a.tmps.getD d undef):=by
       rw[f02,f2q hlt];rfl
      have hy:yielded ops a.tmps j=match a.tmps.getD d undef with | .bool b=>some b | _=>none:=by
       simp only[yielded,hop,Option.bind_some,hget]
       cases a.tmps.getD d undef<;>rfl
      rcases j0m h2 with⟨s,rfl,h4⟩ | ⟨rfl,h4⟩
      ·obtain⟨c,rfl,h5⟩:=jhp h4
       cases h5
       have hc':a.tmps.getD d undef=.bool c:=hc
       simp only[Region.wanted,hgd,hy,hc']
       cases want<;>cases c<;>rfl
      ·cases h4
       have hc':a.tmps.getD d undef=undef:=hc
       simp only[Region.wanted,hgd]
       rw[hy,hc']
       cases want<;>rfl
    ·cases hg
   ·cases hg
def qog (P:Program) (f:FuncId):Prop:=∃ fn,P.funcs[f]?=some fn/\fn.body.isNone=false/\(fn.name == "runtime.NumGoroutine")=false
def qt1 (P:Program) (A:Nat->Int) (f:FuncId) (vs:List AV) (h:Hp) (v:AV) (h':Hp):Prop :=
 qog P f/\∀ φ w (args:Array Value),Rel A φ h w->All2 (cV A φ) vs args.toList ->
  Calls P f args w (fun e w'=>∃ rv φ',e=.returned rv/\Step (fun n=>h.lo<=n) φ φ' h h' w w'/\Rel A φ' h' w'/\cV A φ' v rv)
def qeh (P:Program) (A:Nat->Int) (cl:FuncId->List AV->Hp->R):Prop:=∀ f vs h v h',cl f vs h=some (v,h')->qt1 P A f vs h v h'
theorem jhd {f:FuncId} (hf:qog P f) (args:Array Value):(callFunc f args).run P w=.ok (.enter f args) w:=by
 obtain⟨fn,h1,h2,h3⟩:=hf
 simp only[callFunc,Sem.run_bind,run_program,Result.andThen_ok,h1,h3,f0f,if_false,h2,Sem.run_pure]
theorem jgb {o:Oper} {n:Next} {rv:Value} (hr:(execOp a.eval o).run P w=.ok n w') (hn:qpc n rv) {K:Act->World->Prop} {Q:Exit->Act->World->Prop} (h:K (a.put o.dst rv) w'):o.wp P a w K Q:=by
 unfold Oper.wp
 rw[hr]
 cases n<;>first | (cases hn;exact h) | exact(show False from hn).elim
theorem jlz:∀ {l:List (Nat×Nat)} {vs:List Value},All2 (fun p x=>jvg φ p.1 p.2 x) l vs->All2 (cV A φ) (jf7 l) vs
 | _,_,.nil=>.nil
 | _,_,.cons h k=>.cons h (jlz k)
theorem j0r {op:Op} {ao:AO} (hc:cOp T π loc op=some (.a ao)) (hn:j5g ao):∃ c,op=.call c:=by
 cases op with
 | call c=>exact⟨c,rfl⟩
 | alloc e=>obtain⟨_,_,e⟩:=f0c.1 hc;cases e;exact hn.elim
 | box e x=>obtain⟨_,_,e⟩:=f0c.1 hc;cases e;exact hn.elim
 | buildSlice t n ps =>
  simp only[cOp] at hc
  split at hc
  ·rename_i z hz
   cases hb:Nat.ble (n*z.2.size) 16777216 with
   | true=>rw[hb] at hc;obtain⟨_,_,e⟩:=f0c.1 hc;cases e;exact hn.elim
   | false=>rw[hb] at hc;cases hc
  ·cases hc
 | makeSlice t l c=>simp only[cOp] at hc;split at hc<;>cases hc;exact hn.elim
 | load t x =>
  simp only[cOp] at hc
  split at hc
  ·rename_i ti y hti hy
   cases hb:ti1 ti with
   | true=>rw[hb] at hc;cases hc;exact hn.elim
   | false=>rw[hb] at hc;cases hc
  ·cases hc
 | store t x y=>simp only[cOp] at hc;split at hc<;>cases hc;exact hn.elim
 | move x=>obtain⟨_,_,e⟩:=f0c.1 hc;cases e
 | assign x=>obtain⟨_,_,e⟩:=f0c.1 hc;cases e
 | pick c a b=>simp only[cOp] at hc;split at hc<;>cases hc
 | build t ps =>
  simp only[cOp] at hc
  split at hc
  ·split at hc
   ·obtain⟨_,_,e⟩:=f0c.1 hc;cases e
   ·split at hc
    ·obtain⟨_,_,e⟩:=f0c.1 hc;cases e
    ·cases hc
   ·cases hc
  ·cases hc
 | binOp op t x y yt =>
  simp only[cOp] at hc
  split at hc
  ·cases hi:j0i T t with
   | true=>rw[hi] at hc;obtain⟨_,_,e⟩:=f0c.1 hc;cases e
   | false =>
    rw[hi] at hc
    simp only[cond_false] at hc
    cases hsl:(jb9 T t).isSome with
    | true=>rw[hsl] at hc;obtain⟨_,_,e⟩:=f0c.1 hc;cases e
    | false =>
     rw[hsl] at hc
     simp only[cond_false] at hc
     split at hc
     ·cases hc
     ·cases hpt:j0h T t with
      | true=>rw[hpt] at hc;cases hc;exact hn.elim
      | false=>rw[hpt] at hc;cases hc
     ·cases hc
  ·cases hc
 | unOp op t x=>cases op<;>first | (obtain⟨_,_,e⟩:=f0c.1 hc;cases e;done) | (cases hc;exact hn.elim)
 | makeFunc fn fst caps =>
  cases fn<;>first | (cases hc;exact hn.elim) | skip
  simp only[cOp] at hc
  cases hb:Nat.beq fst.size 0 with
  | true=>rw[hb] at hc;obtain⟨_,_,e⟩:=f0c.1 hc;cases e
  | false=>rw[hb] at hc;cases hc
 | convert s d x =>
  simp only[cOp] at hc
  split at hc
  ·split at hc<;>cases hc
  ·cases hc
 | nilCheck x=>obtain⟨_,_,e⟩:=f0c.1 hc;cases e
 | slice t x lo hi mx =>
  cases mx with
  | some m=>cases hi with
   | none=>cases hc;exact hn.elim
   | some h=>simp only[cOp] at hc;split at hc<;>cases hc
  | none =>
   simp only[cOp] at hc
   split at hc
   ·cases hc
   ·obtain⟨_,_,e⟩:=f0c.1 hc;cases e;exact hn.elim
   ·cases hc
 | fieldAddr t x f=>simp only[cOp] at hc;split at hc<;>cases hc
 | field t x f =>
  simp only[cOp] at hc
  split at hc
  ·rename_i p _ _ _
   cases hb:ti1 p.2 with
   | true=>rw[hb] at hc;cases hc
   | false=>rw[hb] at hc;cases hc
  ·cases hc
 | indexAddr t x i=>simp only[cOp] at hc;split at hc<;>cases hc
 | index t x i =>
  simp only[cOp] at hc
  cases hst:j0j T t with
  | true =>
   rw[hst] at hc
   simp only[cond_true] at hc
   split at hc<;>cases hc
  | false =>
  rw[hst] at hc
  simp only[cond_false] at hc
  split at hc
  ·rename_i z _ _ _ _ _
   cases hb:ti1 z.2 with
   | true=>rw[hb] at hc;cases hc
   | false=>rw[hb] at hc;cases hc
  ·cases hc
 | extract x i=>obtain⟨_,_,e⟩:=f0c.1 hc;cases e
 | makeMap t r=>cases r with
  | none=>obtain⟨_,_,e⟩:=f0c.1 hc;cases e;exact hn.elim
  | some _=>cases hc;exact hn.elim
 | lookup t x k okf=>simp only[cOp] at hc;split at hc<;>cases hc;exact hn.elim
 | mapUpdate t x k v=>simp only[cOp] at hc;split at hc<;>cases hc;exact hn.elim
 | _=>cases hc;exact hn.elim
theorem jjm (hT:Tys P T) {cl:FuncId->List AV->Hp->R} (hcl:qeh P A cl) {o:Oper} (hE:jvh A φ π loc st fr o.op.operands.toList a.eval) (k:Rel A φ h w) {op:IOp} (hc:cOp T π loc o.op=some op) (hv:iop cl st fr h op=some (v,h')) (W:Nat->Prop)
 (hW:W=jxu h (jb2 st fr op)∨W=fun n=>h.lo<=n) {K:Act->World->Prop} {Q:Exit->Act->World->Prop}
 (hK:∀ φ' rv w',Step W φ φ' h h' w w'->Rel A φ' h' w'->cV A φ' v rv->K (a.put o.dst rv) w'):o.wp P a w K Q:=by
 cases op with
 | p po =>
  obtain⟨v',hv',h2⟩:=jac.1 (show ob (pop st fr po) (fun v=>ok v h)=some (v,h') from hv)
  cases h2
  obtain⟨rv,hr,hcv⟩:=jno (w:=w) hT hE hc hv'
  exact jgb hr rfl (hK φ rv w (Step.refl _ k rfl rfl rfl rfl) k hcv)
 | a ao =>
  by_cases hn:j5g ao
  ·have hWl:W=fun n=>h.lo<=n:=by
    rcases hW with rfl | rfl
    ·funext n
     cases ao<;>first | (exact(show False from hn).elim) | rfl
    ·rfl
   subst hWl
   have call:∀ f (args:Array Value) vs,(execOp a.eval o).run P w=.ok (.enter f args) w->All2 (cV A φ) vs args.toList->cl f vs h=some (v,h')->o.wp P a w K Q:=by
    intro f args vs hr hvs hv
    unfold Oper.wp
    rw[hr,Oper.upon_enter]
    refine Calls.mono ((hcl f vs h v h' hv).2 φ w args k hvs) ?_
    rintro e w' ⟨rv,φ',rfl,s,r,hcv⟩
    exact hK φ' rv w' s r hcv
   cases ao with
   | call f as =>
    obtain⟨vs,hvs,hv1⟩:=jac.1 (show ob (evs st fr as) (fun vs=>cl f vs h)=some (v,h') from hv)
    obtain⟨c,hop⟩:=j0r hc hn
    ·obtain⟨callee,args,ts⟩:=c
     rw[hop] at hc
     simp only[cOp,j41] at hc
     split at hc
     ·rename_i as' has
      split at hc
      ·rename_i f'
       cases hc
       have hE':=jji hE _ _ _ (fun x hx=>by rw[hop];exact jcr hx) has hvs
       refine call f (args.map a.eval) vs ?_ (by simpa using hE') hv1
       have hok:=(hcl f vs h v h' hv1).1
       simp only[execOp,hop,resolve,Act.eval,Deferred.ofValue,Sem.run_bind,Sem.run_pure,Result.andThen_ok,invoke,Array.append_empty,Array.empty_append]
       exact jhd hok _
      ·obtain⟨y,_,e⟩:=f0c.1 hc
       cases e
      ·split at hc
       all_goals first
        | (cases hc;done)
        | (split at hc<;>first | (cases hc;done) | (obtain⟨_,_,e⟩:=f0c.1 hc;cases e;done) | (rename_i t u _;cases hb:Nat.beq t u<;>rw[hb] at hc<;>first | (cases hc;done) | (obtain⟨_,_,e⟩:=f0c.1 hc;cases e)))
      ·cases hc
     ·cases hc
   | callv x as =>
    obtain⟨u,hu,hv1⟩:=jac.1 (show ob (ev st fr x) (fun v=>jvl v (fun f caps=>ob (evs st fr as) (fun vs=>cl f (jgo vs (jf7 caps)) h)))=some (v,h') from hv)
    obtain⟨f,caps,rfl,hv2⟩:=jd6 hv1
    obtain⟨vs,hvs,hv3⟩:=jac.1 hv2
    obtain⟨c,hop⟩:=j0r hc hn
    ·obtain⟨callee,args,ts⟩:=c
     rw[hop] at hc
     simp only[cOp,j41] at hc
     split at hc
     ·rename_i as' has
      split at hc
      ·cases hc
      ·rename_i _ x' _
       obtain⟨y,hy,e⟩:=f0c.1 hc
       cases e
       have hE':=jji hE _ _ _ (fun x hx=>by rw[hop];exact jcr hx) has hvs
       obtain⟨us,hfv,hcaps⟩:=(show ∃ vs:List Value,a.eval x'=.func (.func f) #[] vs.toArray/\All2 (fun p x=>jvg φ p.1 p.2 x) caps vs from hE _ (by rw[hop];exact j3m) _ _ hy hu)
       rw[jdd] at hv3
       refine call f (args.map a.eval++us.toArray) (vs++jf7 caps) ?_ (by simpa using hE'.append (jlz hcaps)) hv3
       have hok:=(hcl f _ h v h' hv3).1
       simp only[execOp,hop,resolve,hfv,Deferred.ofValue,Sem.run_bind,Sem.run_pure,Result.andThen_ok,invoke,Array.empty_append]
       exact jhd hok _
      ·split at hc
       all_goals first
        | (cases hc;done)
        | (split at hc<;>first | (cases hc;done) | (obtain⟨_,_,e⟩:=f0c.1 hc;cases e;done) | (rename_i t u _;cases hb:Nat.beq t u<;>rw[hb] at hc<;>first | (cases hc;done) | (obtain⟨_,_,e⟩:=f0c.1 hc;cases e)))
      ·cases hc
     ·cases hc
   | _=>exact(show False from hn).elim
  ·have h2:=j5h (cl:=cl) hT hE k hc hn hv
   have h3:jd1 A W φ h w v h' ((execOp a.eval o).run P w):=by
    rcases hW with rfl | rfl
    ·exact h2.1
    ·exact h2.2
   obtain⟨n,rv,w',φ',hr,hnv,s,r,hcv⟩:=h3
   exact jgb hr hnv (hK φ' rv w' s r hcv)
end
end Go.Proofs.Ytehhjbfmjdlcjaa.Ev
