/- The table of types looked at by the kernel; calls of 'picked' that are answered at once. No program in sight. -/
import Derived.Test.YtdbklpgagdbpiaaDoorRun
import Derived.Test.YtdbklpgagdbpiaaDoorTy
import Derived.Test.YtdbklpgagdbpiaaDoorPick
import Derived.Test.YtdbklpgagdbpiaaDoorKit
namespace Go.Proofs.YtdbklpgagdbpiaaDoor.Ev
noncomputable section
open Go Go.RowKit
set_option linter.all false
variable {v:AV}
def svB:SV->Value->Bool
 | .bool b,.bool c=>b == c
 | .int k n,.int k' m=>Nat.beq k.ctorIdx k'.ctorIdx&&(n == m)
 | .nilPtr,.pointer none=>true
 | .nilSlice,.slice none 0 0=>true
 | .nilFunc,.nilFunc=>true
 | .ifc false,.nilIface=>true
 | .nilMap,.map none=>true
 | .str l,.string b=>l == b.data.toList
 | _,_=>false
theorem j2u {k k':IntKind} (h:Nat.beq k.ctorIdx k'.ctorIdx=true):k=k':=by
 cases k<;>cases k'<;>first | rfl | exact absurd h (by decide)
theorem j7w {s:SV} {v:Value} (h:svB s v=true) (A:Nat->Int) (φ:Phi):cS A φ s v:=by
 unfold svB at h
 split at h
 .rename_i b c;rw[beq_iff_eq] at h;subst h;rfl
 .rename_i k n k' m
  rw[f0y,beq_iff_eq] at h
  obtain⟨h1,rfl⟩:=h
  obtain rfl:=j2u h1
  rfl
 all_goals first | rfl | exact .inr ⟨rfl,rfl⟩ | (cases h;done) | skip
 rename_i l b
 rw[beq_iff_eq] at h
 subst h
 rfl
def qsn:List SV->List Value->Bool
 | [],[]=>true
 | s::l,v::r=>svB s v&&qsn l r
 | _,_=>false
theorem jsv:∀ {l:List SV} {r:List Value},qsn l r=true->∀ A φ,All2 (cS A φ) l r
 | [],[],_,_,_=>.nil
 | s::l,v::r,h,A,φ=>by
  simp only[qsn,f0y] at h
  exact .cons (j7w h.1 A φ) (jsv h.2 A φ)
 | [],_::_,h,_,_=>by cases h
 | _::_,[],h,_,_=>by cases h
def jt1 (P:Program):List (Nat×TypeId)->List Field->Bool
 | [],[]=>true
 | (o,t)::l,f::r=>Nat.beq o f.offset&&(Nat.beq t f.type&&((P.info? f.type).isSome&&jt1 P l r))
 | _,_=>false
theorem jkw {P:Program}:∀ {l:List (Nat×TypeId)} {r:List Field},jt1 P l r=true->l=r.map (fun f=>(f.offset,f.type))/\∀ f∈r,∃ i,P.info? f.type=some i
 | [],[],_=>⟨rfl,fun f h=>by simp at h⟩
 | (o,t)::l,f::r,h=>by
  simp only[jt1,f0y] at h
  obtain⟨h1,h2,h3,h4⟩:=h
  obtain⟨h5,h6⟩:=jkw h4
  refine⟨by rw[f0i h1,f0i h2,h5];rfl,fun g hg=>?_⟩
  rcases f0j.1 hg with rfl | hg
  .exact Option.isSome_iff_exists.1 h3
  .exact h6 g hg
 | [],_::_,h=>by cases h
 | _::_,[],h=>by cases h
def qie (P:Program):TypeDesc->TK->Bool
 | .int k,.int k'=>Nat.beq k.ctorIdx k'.ctorIdx
 | .bool,.bool=>true
 | .slice e,.slice e'=>Nat.beq e e'
 | .array n e,.array n' e'=>Nat.beq n n'&&Nat.beq e e'
 | .struct fs,.struct l=>jt1 P l fs.toList
 | .map k e,.map k' e'=>Nat.beq k k'&&Nat.beq e e'
 | .pointer e,.ptr e'=>Nat.beq e e'
 | .string,.str=>true
 | .interface _,.ifc=>true
 | _,.other=>true
 | _,_=>false
theorem jz3 {P:Program} {d:TypeDesc} {k:TK} (h:qie P d k=true):j6r P d k:=by
 unfold qie at h
 split at h
 .exact congrArg _ (j2u h)
 .rfl
 .exact congrArg _ (f0i h)
 .rw [f0y] at h
  obtain⟨h1,h2⟩:=h
  obtain rfl:=f0i h1
  obtain rfl:=f0i h2
  rfl
 .rename_i fs l
  obtain⟨h1,h2⟩:=jkw h
  exact⟨fs,rfl,h1,h2⟩
 .rw [f0y] at h
  obtain⟨h1,h2⟩:=h
  obtain rfl:=f0i h1
  obtain rfl:=f0i h2
  rfl
 .exact congrArg _ (f0i h)
 .rfl
 .exact ⟨_,rfl⟩
 .trivial
 .cases h
def j2v:List Bool->List Bool->Bool
 | [],[]=>true
 | a::l,b::r=>(a == b)&&j2v l r
 | _,_=>false
theorem jnr:∀ {l r:List Bool},j2v l r=true->l=r
 | [],[],_=>rfl
 | a::l,b::r,h=>by
  simp only[j2v,f0y,beq_iff_eq] at h
  rw[h.1,jnr h.2]
 | [],_::_,h=>by cases h
 | _::_,[],h=>by cases h
def eqB (P:Program) (t:TypeId):Option (List Bool)->Bool
 | none=>true
 | some s=>(match jgl P 10000 t with | some s'=>j2v s s' | none=>false) && !P.eqGuardType P.depth t
def tyB (P:Program) (t:TypeId) (ti:TI):Bool :=
 match P.info? t with
 | none=>false
 | some i=>match i.zero with
  | none=>false
  | some z=>match P.underlying t with
   | none=>false
   | some d=>Nat.beq i.size ti.size&&(Nat.beq i.bytes ti.bytes&&(qsn ti.zero z.cells.toList&&((ti.agg == qtd d)&&(qie P d ti.kind&&(Nat.beq ti.zero.length ti.size&&(eqB P t ti.eq&&(j19 z == ti.agg)))))))
theorem j7x {P:Program} {t:TypeId} {ti:TI} (h:tyB P t ti=true):TIok P t ti:=by
 unfold tyB at h
 split at h
 .cases h
 rename_i i hi
 split at h
 .cases h
 rename_i z hz
 split at h
 .cases h
 rename_i d hd
 simp only[f0y,beq_iff_eq] at h
 obtain⟨h1,h2,h3,h4,h5,h6,h7,h10⟩:=h
 have hsh:∀ i' z',P.info? t=some i'->i'.zero=some z'->j19 z'=ti.agg:=by
  intro i' z' hi' hz'
  obtain rfl:=Option.some.inj (hi.symm.trans hi')
  obtain rfl:=Option.some.inj (hz.symm.trans hz')
  exact h10
 refine⟨⟨i,z,d,hi,hz,f0i h1,f0i h2,jsv h3,hd,h4,jz3 h5,f0i h6⟩,fun sig hs=>?_,hsh⟩
 rw[hs] at h7
 simp only[eqB,f0y,f18] at h7
 obtain⟨h8,h9⟩:=h7
 split at h8
 .rename_i s' hs'
  rw[jnr h8]
  exact⟨hs',h9⟩
 .cases h8
def j7y {α:Type} (f:Nat->α->Bool):Tr α->Nat->Nat->Bool
 | .leaf,_,_=>true
 | .node l v r,a,p=>j7y f l a (2*p)&&((match v with | some x=>f (a+p) x | none=>true)&&j7y f r (a+p) (2*p))
theorem jjo {α:Type} {f:Nat->α->Bool}:∀ (t:Tr α) (a p k:Nat) (x:α),j7y f t a p=true->t.get k=some x->f (a+p*k) x=true
 | .leaf,a,p,k,x,_,h=>by rw[jo0] at h;cases h
 | .node l v r,a,p,k,x,h,hx=>by
  simp only[j7y,f0y] at h
  obtain⟨h1,h2,h3⟩:=h
  rw[ja8] at hx
  split at hx
  .rename_i hk
   subst hk
   rw[hx] at h2
   rw[f2h]
   exact h2
  .split at hx
   .rename_i hk
    have:=jjo r (a+p) (2*p) (k / 2) x h3 hx
    have e:a+p+2*p*(k / 2)=a+p*k:=by
     have h4:k=2*(k / 2)+1:=by omega
     have h5:p*k=p*(2*(k / 2))+p:=by rw[←Nat.mul_succ];congr 1
     rw[h5,←Nat.mul_assoc,Nat.mul_comm p 2]
     omega
    rw[e] at this
    exact this
   .rename_i hk
    have:=jjo l a (2*p) (k / 2) x h1 hx
    have e:a+2*p*(k / 2)=a+p*k:=by
     have h4:k=2*(k / 2):=by omega
     have h5:p*k=p*(2*(k / 2)):=by rw[←h4]
     rw[h5,←Nat.mul_assoc,Nat.mul_comm p 2]
    rw[e] at this
    exact this
def qwl (P:Program) (T:Tr TI):Bool:=j7y (fun k ti=>tyB P (k - 1) ti) T 0 1
theorem j5e {P:Program} {T:Tr TI} (h:qwl P T=true):Tys P T:=by
 intro t ti ht
 have:=jjo T 0 1 (t+1) ti h ht
 rw[f0z,Nat.one_mul] at this
 exact j7x this
def qok (e:Sx):SV:=Sx.casesOn (motive:=fun _=>SV) e (fun i=>.sym (.arg i)) (fun n=>.int .i64 n) (fun o a b=>.sym (.op o a b)) (fun i m=>.sym (.bnd i m))
theorem qif (A:Nat->Int) (φ:Phi) (e:Sx):cS A φ (qok e) (.int .i64 (den A e)):=by cases e<;>rfl
def lk (l:List ((Nat×Int)×Sx)) (j:Nat) (n:Int):Option AV :=
 List.rec (motive:=fun _=>Option AV) none (fun p _ ih=>oif (Nat.beq p.1.1 j) (oif (ieq p.1.2 n) (some (.s (qok p.2))) ih) ih) l
theorem j7z {j:Nat} {n:Int}:∀ {l:List ((Nat×Int)×Sx)},lk l j n=some v->∃ r,((j,n),r)∈l/\v=.s (qok r)
 | [],h=>by cases h
 | p::l,h=>by
  have h':oif (Nat.beq p.1.1 j) (oif (ieq p.1.2 n) (some (.s (qok p.2))) (lk l j n)) (lk l j n)=some v:=h
  have rest:lk l j n=some v->∃ r,((j,n),r)∈p::l/\v=.s (qok r):=fun h=>by
   obtain⟨r,h1,h2⟩:=j7z h
   exact⟨r,by simp[h1],h2⟩
  rw[jap,jap] at h'
  split at h'
  .rename_i h1
   split at h'
   .rename_i h2
    rw[jgt] at h1
    rw[jc0,decide_eq_true_eq] at h2
    refine⟨p.2,?_,(Option.some.inj h').symm⟩
    obtain⟨⟨a,b⟩,c⟩:=p
    simp only at h1 h2
    subst h1 h2
    simp
   .exact rest h'
  .exact rest h'
def qig (pk:FuncId) (ps:List ((Nat×Int)×Sx)) (f:FuncId) (vs:List AV):Option AV :=
 oif (Nat.beq f pk) (List.casesOn (motive:=fun _=>Option AV) vs none (fun a r=>List.casesOn (motive:=fun _=>Option AV) r none (fun b r=>List.casesOn (motive:=fun _=>Option AV) r
  (svc none a (fun s=>SV.casesOn (motive_1:=fun _=>Option AV) s (fun _=>none) (fun _ _=>none) (fun e=>Sx.casesOn (motive:=fun _=>Option AV) e (fun i=>qe2 b (fun m=>lk ps i (.ofNat m))) (fun _=>none) (fun _ _ _=>none) (fun _ _=>none)) (fun _ _=>none) none (fun _ _ _ _ _ _=>none) none (fun _ _=>none) none none (fun _=>none) (fun _=>none) (fun _=>none) (fun _=>none) none (fun _=>none)))
  (fun _ _=>none)))) none
theorem j5f {pk:FuncId} {ps:List ((Nat×Int)×Sx)} {f:FuncId} {vs:List AV} (h:qig pk ps f vs=some v) :
 f=pk/\∃ (i m:Nat) (r:Sx),vs=[.s (.sym (.arg i)),.s (.int .i64 (m:Int))]/\((i,(m:Int)),r)∈ps/\v=.s (qok r):=by
 obtain⟨h1,h2⟩:=jab.1 h
 rw[jgt] at h1
 refine⟨h1,?_⟩
 match vs,h2 with
 | [a,b],h2 =>
  obtain⟨s,rfl,h3⟩:=jca (show svc none a (fun s=>SV.casesOn (motive_1:=fun _=>Option AV) s (fun _=>none) (fun _ _=>none) (fun e=>Sx.casesOn (motive:=fun _=>Option AV) e (fun i=>qe2 b (fun m=>lk ps i (.ofNat m))) (fun _=>none) (fun _ _ _=>none) (fun _ _=>none)) (fun _ _=>none) none (fun _ _ _ _ _ _=>none) none (fun _ _=>none) none none (fun _=>none) (fun _=>none) (fun _=>none) (fun _=>none) none (fun _=>none))=some v from h2)
  cases s with
  | sym e =>
   cases e with
   | arg i =>
    obtain⟨m,rfl,h4⟩:=jfi (show qe2 b (fun m=>lk ps i (.ofNat m))=some v from h3)
    obtain⟨r,h5,h6⟩:=j7z h4
    exact⟨i,m,r,rfl,h5,h6⟩
   | _=>cases h3
  | _=>cases h3
 | [],h2=>cases h2
 | [_],h2=>cases h2
 | _::_::_::_,h2=>cases h2
set_option maxRecDepth 100000
theorem qpm:Tys Tryd.prog tys:=j5e (by kernel_rfl)
def T (f:FuncId):Option IF:=ob (Tryd.prog.funcs[f]?) (qo6 tys)
theorem qpn:Tryd.prog.funcs.toList.all (fun fn => !(fn.name == "runtime.NumGoroutine"))=true:=by kernel_rfl
def F (ps:List ((Nat×Int)×Sx)):Fns:=.mk T (fun f vs h=>ob (qig 8 ps f vs) (fun v=>ok v h))
theorem qc9:qe5 Tryd.prog 8:=⟨_,Tryd.func8,by kernel_rfl,by kernel_rfl⟩
theorem env {A:Nat->Int} {ps:List ((Nat×Int)×Sx)} (h0:∀ i m r,((i,m),r)∈ps->qpl (A i)/\0<m/\m<=9223372036854775807/\pick (A i) m=den A r):Env Tryd.prog A tys (F ps) where
 tys:=qpm
 mix:=by kernel_rfl
 fn:=fun f i hf=>by
  obtain⟨fn,h1,h2⟩:=jaa.1 (show ob (Tryd.prog.funcs[f]?) (qo6 tys)=some i from hf)
  refine⟨fn,[],qo5 fn,h1,h2,?_⟩
  have:=f3b.1 qpn fn (by
   rw[←f02] at h1
   exact f0c h1)
  simpa using this
 ext:=fun f vs h v h' hx=>by
  obtain⟨u,hu,h5⟩:=jaa.1 (show ob (qig 8 ps f vs) (fun v=>ok v h)=some (v,h') from hx)
  cases h5
  obtain⟨rfl,i,m,r,rfl,hm,rfl⟩:=j5f hu
  obtain⟨h1,h2,h3,h4⟩:=h0 i m r hm
  refine⟨qc9,fun k=>Abs.refl _ k,fun φ w args rel ha=>?_⟩
  obtain⟨l⟩:=args
  simp only at ha
  cases ha with
  | @cons _ x _ l1 hx1 h5 =>
   cases h5 with
   | @cons _ y _ l2 hy1 h6 =>
    cases h6
    have e1:x=.int .i64 (A i):=hx1
    have e2:y=.int .i64 (m:Int):=hy1
    subst e1 e2
    refine Calls.mono (j5d (A i) m w h1.1 h1.2 h2 h3) ?_
    rintro e w' ⟨rfl,rfl⟩
    exact⟨_,φ,rfl,Step.refl _ rel rfl rfl rfl rfl,rel,by rw[h4];exact qif A _ _⟩
def up (n:Nat) (f:Nat->Bool):Bool:=Nat.rec (motive:=fun _=>Bool) true (fun k ih=>oif (f k) ih false) n
def jfy (f:Bool->Bool):Bool:=oif (f true) (f false) false
abbrev qP (o:PO):IOper:=.mk none (.p o) none
abbrev qA (o:AO):IOper:=.mk none (.a o) none
abbrev qQ (d:Nat) (o:PO):IOper:=.mk (some d) (.p o) none
abbrev qB (d:Nat) (o:AO):IOper:=.mk (some d) (.a o) none
abbrev qR (i:Nat) (t:Bool) (o:PO):IOper:=.mk none (.p o) (some (i,t))
abbrev qS (i:Nat) (t:Bool) (o:AO):IOper:=.mk none (.a o) (some (i,t))
abbrev qC (n:Int):Od:=.c (.s (.int .i64 n))
abbrev qa:Od:=.l 0
abbrev qb:Od:=.l 1
abbrev qc:Od:=.l 2
abbrev qd:Od:=.l 3
abbrev qM (i:Nat):IOper:=qP (.mv (.g i))
abbrev qL:IOper:=qA (.load 1 false qa)
abbrev qK (n:Nat):IOper:=qA (.load n true qa)
abbrev qT (d:Nat):IOper:=qQ d (.mv qa)
abbrev qF (k i:Nat):IOper:=qP (.fld k (.g i))
abbrev qG (k:Nat):IOper:=qP (.fld k qa)
abbrev qN:IOper:=qP (.nchk qa)
abbrev qI (n:Nat):IOper:=qP (.bin .add (.g n) (qC 1))
abbrev qr (l:List IOper) (c:IC):IC:=.seq (.region l) c
abbrev qX (i k:Nat):IC:=.cond (.g i) .skip (.exit k)
end
end Go.Proofs.YtdbklpgagdbpiaaDoor.Ev
