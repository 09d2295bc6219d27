/- The table of types looked at by the kernel. -/
import Derived.Test.YtkpadfebkaangaaGreatDoorRun
import Derived.Test.YtkpadfebkaangaaGreatDoorTy
import Derived.Test.YtkpadfebkaangaaGreatDoorRec
import Derived.Test.YtkpadfebkaangaaGreatDoorBack3
namespace Go.Proofs.YtkpadfebkaangaaGreatDoor.Ev
noncomputable section
open Go Go.RowKit
set_option linter.all false
variable {v:AV}
def svB:SV->Value->Bool
 | .bool b,.bool c=>b == c
 | .int k n,.int k' m=>Nat.beq k.ctorIdx k'.ctorIdx&&(n == m)
 | .nilPtr,.pointer none=>true
 | .nilSlice,.slice none 0 0=>true
 | .nilFunc,.nilFunc=>true
 | .ifc false,.nilIface=>true
 | .nilMap,.map none=>true
 | .str l,.string b=>l == b.data.toList
 | _,_=>false
theorem j0t {k k':IntKind} (h:Nat.beq k.ctorIdx k'.ctorIdx=true):k=k':=by
 cases k<;>cases k'<;>first | rfl | exact absurd h (by decide)
theorem j8y {s:SV} {v:Value} (h:svB s v=true) (A:Nat->Int) (φ:Phi):cS A φ s v:=by
 unfold svB at h
 split at h
 .rename_i b c;rw[beq_iff_eq] at h;subst h;rfl
 .rename_i k n k' m
  rw[f05,beq_iff_eq] at h
  obtain⟨h1,rfl⟩:=h
  obtain rfl:=j0t h1
  rfl
 all_goals first | rfl | exact .inr ⟨rfl,rfl⟩ | (cases h;done) | skip
 rename_i l b
 rw[beq_iff_eq] at h
 subst h
 rfl
def quv:List SV->List Value->Bool
 | [],[]=>true
 | s::l,v::r=>svB s v&&quv l r
 | _,_=>false
theorem jri:∀ {l:List SV} {r:List Value},quv l r=true->∀ A φ,All2 (cS A φ) l r
 | [],[],_,_,_=>.nil
 | s::l,v::r,h,A,φ=>by
  simp only[quv,f05] at h
  exact .cons (j8y h.1 A φ) (jri h.2 A φ)
 | [],_::_,h,_,_=>by cases h
 | _::_,[],h,_,_=>by cases h
def jsu (P:Program):List (Nat×TypeId)->List Field->Bool
 | [],[]=>true
 | (o,t)::l,f::r=>Nat.beq o f.offset&&(Nat.beq t f.type&&((P.info? f.type).isSome&&jsu P l r))
 | _,_=>false
theorem jka {P:Program}:∀ {l:List (Nat×TypeId)} {r:List Field},jsu P l r=true->l=r.map (fun f=>(f.offset,f.type))/\∀ f∈r,∃ i,P.info? f.type=some i
 | [],[],_=>⟨rfl,fun f h=>by simp at h⟩
 | (o,t)::l,f::r,h=>by
  simp only[jsu,f05] at h
  obtain⟨h1,h2,h3,h4⟩:=h
  obtain⟨h5,h6⟩:=jka h4
  refine⟨by rw[f0k h1,f0k h2,h5];rfl,fun g hg=>?_⟩
  rcases f0f.1 hg with rfl | hg
  .exact Option.isSome_iff_exists.1 h3
  .exact h6 g hg
 | [],_::_,h=>by cases h
 | _::_,[],h=>by cases h
def qmh (P:Program):TypeDesc->TK->Bool
 | .int k,.int k'=>Nat.beq k.ctorIdx k'.ctorIdx
 | .bool,.bool=>true
 | .slice e,.slice e'=>Nat.beq e e'
 | .array n e,.array n' e'=>Nat.beq n n'&&Nat.beq e e'
 | .struct fs,.struct l=>jsu P l fs.toList
 | .map k e,.map k' e'=>Nat.beq k k'&&Nat.beq e e'
 | .pointer e,.ptr e'=>Nat.beq e e'
 | .string,.str=>true
 | .interface _,.ifc=>true
 | _,.other=>true
 | _,_=>false
theorem jy5 {P:Program} {d:TypeDesc} {k:TK} (h:qmh P d k=true):j6o P d k:=by
 unfold qmh at h
 split at h
 .exact congrArg _ (j0t h)
 .rfl
 .exact congrArg _ (f0k h)
 .rw [f05] at h
  obtain⟨h1,h2⟩:=h
  obtain rfl:=f0k h1
  obtain rfl:=f0k h2
  rfl
 .rename_i fs l
  obtain⟨h1,h2⟩:=jka h
  exact⟨fs,rfl,h1,h2⟩
 .rw [f05] at h
  obtain⟨h1,h2⟩:=h
  obtain rfl:=f0k h1
  obtain rfl:=f0k h2
  rfl
 .exact congrArg _ (f0k h)
 .rfl
 .exact ⟨_,rfl⟩
 .trivial
 .cases h
def j0u:List Bool->List Bool->Bool
 | [],[]=>true
 | a::l,b::r=>(a == b)&&j0u l r
 | _,_=>false
theorem jml:∀ {l r:List Bool},j0u l r=true->l=r
 | [],[],_=>rfl
 | a::l,b::r,h=>by
  simp only[j0u,f05,beq_iff_eq] at h
  rw[h.1,jml h.2]
 | [],_::_,h=>by cases h
 | _::_,[],h=>by cases h
def eqB (P:Program) (t:TypeId):Option (List Bool)->Bool
 | none=>true
 | some s=>(match jqk P 10000 t with | some s'=>j0u s s' | none=>false) && !P.eqGuardType P.depth t
def tyB (P:Program) (t:TypeId) (ti:TI):Bool :=
 match P.info? t with
 | none=>false
 | some i=>match i.zero with
  | none=>false
  | some z=>match P.underlying t with
   | none=>false
   | some d=>Nat.beq i.size ti.size&&(Nat.beq i.bytes ti.bytes&&(quv ti.zero z.cells.toList&&((ti.agg == qvm d)&&(qmh P d ti.kind&&(Nat.beq ti.zero.length ti.size&&(eqB P t ti.eq&&(j6p z == ti.agg)))))))
theorem j8z {P:Program} {t:TypeId} {ti:TI} (h:tyB P t ti=true):TIok P t ti:=by
 unfold tyB at h
 split at h
 .cases h
 rename_i i hi
 split at h
 .cases h
 rename_i z hz
 split at h
 .cases h
 rename_i d hd
 simp only[f05,beq_iff_eq] at h
 obtain⟨h1,h2,h3,h4,h5,h6,h7,h10⟩:=h
 have hsh:∀ i' z',P.info? t=some i'->i'.zero=some z'->j6p z'=ti.agg:=by
  intro i' z' hi' hz'
  obtain rfl:=Option.some.inj (hi.symm.trans hi')
  obtain rfl:=Option.some.inj (hz.symm.trans hz')
  exact h10
 refine⟨⟨i,z,d,hi,hz,f0k h1,f0k h2,jri h3,hd,h4,jy5 h5,f0k h6⟩,fun sig hs=>?_,hsh⟩
 rw[hs] at h7
 simp only[eqB,f05,f2p] at h7
 obtain⟨h8,h9⟩:=h7
 split at h8
 .rename_i s' hs'
  rw[jml h8]
  exact⟨hs',h9⟩
 .cases h8
def j80 {α:Type} (f:Nat->α->Bool):Tr α->Nat->Nat->Bool
 | .leaf,_,_=>true
 | .node l v r,a,p=>j80 f l a (2*p)&&((match v with | some x=>f (a+p) x | none=>true)&&j80 f r (a+p) (2*p))
theorem jjc {α:Type} {f:Nat->α->Bool}:∀ (t:Tr α) (a p k:Nat) (x:α),j80 f t a p=true->t.get k=some x->f (a+p*k) x=true
 | .leaf,a,p,k,x,_,h=>by rw[jn8] at h;cases h
 | .node l v r,a,p,k,x,h,hx=>by
  simp only[j80,f05] at h
  obtain⟨h1,h2,h3⟩:=h
  rw[jbf] at hx
  split at hx
  .rename_i hk
   subst hk
   rw[hx] at h2
   rw[f12]
   exact h2
  .split at hx
   .rename_i hk
    have:=jjc r (a+p) (2*p) (k / 2) x h3 hx
    have e:a+p+2*p*(k / 2)=a+p*k:=by
     have h4:k=2*(k / 2)+1:=oa
     have h5:p*k=p*(2*(k / 2))+p:=by rw[←Nat.mul_succ];congr 1
     rw[h5,←Nat.mul_assoc,Nat.mul_comm p 2]
     omega
    rw[e] at this
    exact this
   .rename_i hk
    have:=jjc l a (2*p) (k / 2) x h1 hx
    have e:a+2*p*(k / 2)=a+p*k:=by
     have h4:k=2*(k / 2):=oa
     have h5:p*k=p*(2*(k / 2)):=by rw[←h4]
     rw[h5,←Nat.mul_assoc,Nat.mul_comm p 2]
    rw[e] at this
    exact this
def q4p (P:Program) (T:Tr TI):Bool:=j80 (fun k ti=>tyB P (k - 1) ti) T 0 1
theorem j5j {P:Program} {T:Tr TI} (h:q4p P T=true):Tys P T:=by
 intro t ti ht
 have:=jjc T 0 1 (t+1) ti h ht
 rw[f1b,Nat.one_mul] at this
 exact j8z this
def qpz (e:Sx):SV:=Sx.casesOn e (fun i=>.sym (.arg i)) (fun n=>.int .i64 n) (fun o a b=>.sym (.op o a b)) (fun i m=>.sym (.bnd i m))
theorem qmi (A:Nat->Int) (φ:Phi) (e:Sx):cS A φ (qpz e) (.int .i64 (den A e)):=by cases e<;>rfl
def lk (l:List ((Nat×Int)×Sx)) (j:Nat) (n:Int):Option AV :=
 List.rec none (fun p _ ih=>oif (Nat.beq p.1.1 j) (oif (ieq p.1.2 n) (some (.s (qpz p.2))) ih) ih) l
theorem j81 {j:Nat} {n:Int}:∀ {l:List ((Nat×Int)×Sx)},lk l j n=some v->∃ r,((j,n),r)∈l/\v=.s (qpz r)
 | [],h=>by cases h
 | p::l,h=>by
  have h':oif (Nat.beq p.1.1 j) (oif (ieq p.1.2 n) (some (.s (qpz p.2))) (lk l j n)) (lk l j n)=some v:=h
  have rest:lk l j n=some v->∃ r,((j,n),r)∈p::l/\v=.s (qpz r):=fun h=>by
   obtain⟨r,h1,h2⟩:=j81 h
   exact⟨r,by simp[h1],h2⟩
  rw[jat,jat] at h'
  split at h'
  .rename_i h1
   split at h'
   .rename_i h2
    rw[jiu] at h1
    rw[jdi,decide_eq_true_eq] at h2
    refine⟨p.2,?_,(Option.some.inj h').symm⟩
    obtain⟨⟨a,b⟩,c⟩:=p
    simp only at h1 h2
    subst h1 h2
    simp
   .exact rest h'
  .exact rest h'
def qmj (pk:FuncId) (ps:List ((Nat×Int)×Sx)) (f:FuncId) (vs:List AV):Option AV :=
 oif (Nat.beq f pk) (List.casesOn vs none (fun a r=>List.casesOn r none (fun b r=>List.casesOn r
  (svc none a (fun s=>SV.casesOn (motive_1:=fun _=>Option AV) s (fun _=>none) (fun _ _=>none) (fun e=>Sx.casesOn e (fun i=>qhf b (fun m=>lk ps i (.ofNat m))) (fun _=>none) (fun _ _ _=>none) (fun _ _=>none)) (fun _ _=>none) none (fun _ _ _ _ _ _=>none) none (fun _ _=>none) none none (fun _=>none) (fun _=>none) (fun _=>none) (fun _=>none) none (fun _=>none)))
  (fun _ _=>none)))) none
theorem j5k {pk:FuncId} {ps:List ((Nat×Int)×Sx)} {f:FuncId} {vs:List AV} (h:qmj pk ps f vs=some v) :
 f=pk/\∃ (i m:Nat) (r:Sx),vs=[.s (.sym (.arg i)),.s (.int .i64 (m:Int))]/\((i,(m:Int)),r)∈ps/\v=.s (qpz r):=by
 obtain⟨h1,h2⟩:=jae.1 h
 rw[jiu] at h1
 refine⟨h1,?_⟩
 match vs,h2 with
 | [a,b],h2 =>
  obtain⟨s,rfl,h3⟩:=jcn (show svc none a (fun s=>SV.casesOn (motive_1:=fun _=>Option AV) s (fun _=>none) (fun _ _=>none) (fun e=>Sx.casesOn e (fun i=>qhf b (fun m=>lk ps i (.ofNat m))) (fun _=>none) (fun _ _ _=>none) (fun _ _=>none)) (fun _ _=>none) none (fun _ _ _ _ _ _=>none) none (fun _ _=>none) none none (fun _=>none) (fun _=>none) (fun _=>none) (fun _=>none) none (fun _=>none))=some v from h2)
  cases s with
  | sym e =>
   cases e with
   | arg i =>
    obtain⟨m,rfl,h4⟩:=je8 (show qhf b (fun m=>lk ps i (.ofNat m))=some v from h3)
    obtain⟨r,h5,h6⟩:=j81 h4
    exact⟨i,m,r,rfl,h5,h6⟩
   | _=>cases h3
  | _=>cases h3
 | [],h2=>cases h2
 | [_],h2=>cases h2
 | _::_::_::_,h2=>cases h2
set_option maxRecDepth 100000
theorem qsi:Tys Tryz.prog tys:=j5j ka
def T (f:FuncId):Option IF:=ob (Tryz.prog.funcs[f]?) (qqu tys)
theorem qsj:Tryz.prog.funcs.toList.all (fun fn => !(fn.name == "runtime.NumGoroutine"))=true:=ka
def F (ps:List ((Nat×Int)×Sx)):Fns:=.mk T (fun f vs h=>ob (qmj 8 ps f vs) (fun v=>ok v h))
theorem qfg:qky Tryz.prog 8:=⟨_,Tryz.func8,ka,ka⟩
theorem env {A:Nat->Int} {ps:List ((Nat×Int)×Sx)} (h0:∀ i m r,((i,m),r)∈ps->qhu (A i)/\0<m/\m<=9223372036854775807/\pick (A i) m=den A r):Env Tryz.prog A tys (F ps) where
 tys:=qsi
 mix:=ka
 fn:=fun f i hf=>by
  obtain⟨fn,h1,h2⟩:=jaa.1 (show ob (Tryz.prog.funcs[f]?) (qqu tys)=some i from hf)
  refine⟨fn,[],qqt fn,h1,h2,?_⟩
  have:=f24.1 qsj fn (by
   rw[←f1g] at h1
   exact f0c h1)
  simpa using this
 ext:=fun f vs h v h' hx=>by
  obtain⟨u,hu,h5⟩:=jaa.1 (show ob (qmj 8 ps f vs) (fun v=>ok v h)=some (v,h') from hx)
  cases h5
  obtain⟨rfl,i,m,r,rfl,hm,rfl⟩:=j5k hu
  obtain⟨h1,h2,h3,h4⟩:=h0 i m r hm
  refine⟨qfg,fun k=>Abs.refl _ k,fun φ w args rel ha=>?_⟩
  obtain⟨l⟩:=args
  simp only at ha
  cases ha with
  | @cons _ x _ l1 hx1 h5 =>
   cases h5 with
   | @cons _ y _ l2 hy1 h6 =>
    cases h6
    have e1:x=.int .i64 (A i):=hx1
    have e2:y=.int .i64 (m:Int):=hy1
    subst e1 e2
    refine Calls.mono (j5i (A i) m w h1.1 h1.2 h2 h3) ?_
    rintro e w' ⟨rfl,rfl⟩
    exact⟨_,φ,rfl,Step.refl _ rel rfl rfl rfl rfl,rel,by rw[h4];exact qmi A _ _⟩
def up (n:Nat) (f:Nat->Bool):Bool:=Nat.rec true (fun k ih=>oif (f k) ih false) n
def jhv (f:Bool->Bool):Bool:=oif (f true) (f false) false
abbrev qP (o:PO):IOper:=.mk none (.p o) none
abbrev qA (o:AO):IOper:=.mk none (.a o) none
abbrev qQ (d:Nat) (o:PO):IOper:=.mk (some d) (.p o) none
abbrev qB (d:Nat) (o:AO):IOper:=.mk (some d) (.a o) none
abbrev qR (i:Nat) (t:Bool) (o:PO):IOper:=.mk none (.p o) (some (i,t))
abbrev qS (i:Nat) (t:Bool) (o:AO):IOper:=.mk none (.a o) (some (i,t))
abbrev qC (n:Int):Od:=.c (.s (.int .i64 n))
abbrev qa:Od:=.l 0
abbrev qb:Od:=.l 1
abbrev qc:Od:=.l 2
abbrev qd:Od:=.l 3
abbrev qM (i:Nat):IOper:=qP (.mv (.g i))
abbrev qL:IOper:=qA (.load 1 false qa)
abbrev qK (n:Nat):IOper:=qA (.load n true qa)
abbrev qT (d:Nat):IOper:=qQ d (.mv qa)
abbrev qF (k i:Nat):IOper:=qP (.fld k (.g i))
abbrev qG (k:Nat):IOper:=qP (.fld k qa)
abbrev qN:IOper:=qP (.nchk qa)
abbrev qI (n:Nat):IOper:=qP (.bin .add (.g n) (qC 1))
abbrev qr (l:List IOper) (c:IC):IC:=.seq (.region l) c
abbrev qX (i k:Nat):IC:=.cond (.g i) .skip (.exit k)
def jlx (na:Nat) (acc:List Nat):Code->List Nat
 | .seq a b=>jlx na (jlx na acc a) b
 | .block _ b=>jlx na acc b
 | .loop b=>jlx na acc b
 | .rangeFunc g _ _ b=>jjq na (rdO na [] acc [g]) b
 | c=>jjq na acc c
inductive IFB where
 | mk (ib:IB) (nargs nslots:Nat) (res:List IR)
def qmk (T:Tr TI) (fl:Bool) (f:Func):Option IFB :=
 match f.body with
 | none=>none
 | some b =>
  match f.params.size+f.nfree with
  | nargs=>match j6k nargs (jlx nargs [] b) f.results.toList with
   | acc=>match cB T fl (j31 0 nargs++acc) f.ntmps b,qc5 T (j31 0 nargs++acc) f.results.toList with
    | some c,some r=>bif Nat.ble nargs f.ntmps then some (.mk c nargs (jb6 acc) r) else none
    | _,_=>none
def TB (c:FuncId) (fl:Bool):Option IFB:=ob (Tryz.prog.funcs[c]?) (qmk tys fl)
def jv3:IC:=qr [qQ 2 (.mv (qC 0))] (.seq (qr [qM 0,qQ 3 (.bin .lt qa (qC 0))] (.cond (.g 3) (.region [qM 0,qP (.bin .add qa (qC 1)),qP (.neg qa),qT 0]) .skip)) (qr [qM 0,qM 1,qP (.bin .rem qb qa),qT 2] .ret))
theorem qfh:T 8=some (.mk jv3 2 2 [(.tmp 2)]):=ka
def jrj:IC:=qr [qB 2 (.new 28 Zf)] (qr [qM 0,qA (.call 8 [qa,qC 9]),qP (.bin .add (qC 2) qa),qM 1,qA (.call 8 [qa,qC 9]),qP (.bin .add (qC 2) qa),qP (.build Zf [(0,(1,qd)),(1,(1,qa))]),qP (.build Zf [(0,(2,qa))]),qA (.store 2 (.g 2) qa)] .ret)
theorem j82:T 17=some (.mk jrj 2 1 [(.cell 2 2 true)]):=ka
def j0v:IC:=qr [qQ 2 (.mv (qC 0))] (qr [qM 0,qM 0,qN,qG 2,qG 0,qL,qM 1,qA (.bslice 3 1 [.int .i64 0] 1 [(0,(1,qa))]),qA (.app 3 1 8 qc qa),qP (.nchk (.l 8)),qG 2,qG 0,qA (.store 1 qa qd)] (qr [qM 0,qN,qG 2,qG 0,qL,qP (.len qa),qP (.bin .sub qa (qC 1)),qT 2] .ret))
theorem qml:T 48=some (.mk j0v 2 1 [(.tmp 2)]):=ka
def j0w:IC:=qr [qQ 6 (.mv (qC 0)),qQ 5 (.mv (qC 0))] (.seq (.seq (.draw [(qM 1,.none),(qP (.bin .eq qa (qC 1)),.none),(qP (.mv qa),.none),(qR 0 false (.mv (.g 1)),.none),(qR 1 false (.bin .eq qa (qC 3)),.none),(qP (.pick qc (.c (.s (.bool true))) qa),.none),(qP (.mv qa),.none),(qR 0 false (.mv (.g 3)),.none),(qR 1 false (.mv (.g 2)),.none),(qR 2 false (.ixs 1 qb qa),.none),(qS 3 false (.load 1 false qa),.some []),(qR 4 false (.bin .add qa (qC 1)),.none),(qR 5 false (.mv (.g 0)),.none),(qR 6 false (.mv (.g 2)),.none),(qR 7 false (.nchk qb),.none),(qR 8 false (.fld 0 qa),.none),(qR 9 false (.fld 0 qa),.none),(qR 10 false (.ixa 2 1 qa qd),.none),(qS 11 false (.load 1 false qa),.some [7]),(qR 12 false (.bin .ge (.l 7) qa),.none),(qQ 9 (.pick (.l 13) (.c (.s (.bool true))) qa),.none)]) (.cond (.g 9) (.seq (qr [qM 1,qQ 8 (.bin .eq qa (qC 3))] (.cond (.g 8) (qr [qM 1,qT 6,qQ 5 (.mv (qC 0))] .ret) .skip)) (qr [qQ 6 (.mv (qC 1)),qQ 5 (.mv (qC 0))] .ret)) .skip)) (qr [qM 3,qM 2,qP (.ixs 1 qb qa),qL,qP (.bin .add qa (qC 1)),qP (.ixs 1 (.l 4) qd),qA (.store 1 qa qb)] (.seq (qr [qM 1,qQ 7 (.bin .eq qa (qC 4))] (.cond (.g 7) (qr [qM 4,qM 2,qP (.ixs 1 qb qa),qL,qP (.bin .add qa (qC 1)),qP (.ixs 1 (.l 4) qd),qA (.store 1 qa qb)] (.seq (.draw [(qM 1,.none),(qM 4,.none),(qM 2,.none),(qP (.ixs 1 qb qa),.none),(qL,.none),(qP (.bin .sub qa (qC 1)),.none),(qQ 6 (.mv (.l 5)),.none),(qQ 5 (.mv qb),.none)]) .ret)) .skip)) (qr [qQ 6 (.mv (qC 2)),qQ 5 (.mv (qC 0))] .ret))))
theorem qmm:T 72=some (.mk j0w 5 5 [(.tmp 6),(.tmp 5)]):=ka
def jly:IC:=.seq (.block 1 (.seq (.draw [(qM 0,.none),(qN,.none),(qG 5,.none),(qL,.some []),(qF 2 29,.none),(qL,.some [1]),(qM 28,.none),(qP (.bin .add qa (qC 1)),.none),(qP (.bin .quo qc qa),.none),(qM 0,.none),(qN,.none),(qG 5,.none),(qL,.some [6,8]),(qP (.len qa),.none),(qA (.call 8 [.l 5,qa]),.some [10]),(qP (.ixs 1 (.l 11) qa),.none),(qL,.none),(qT 25,.none)]) (qr [qM 25,qM 27,qM 28,qP (.bin .add (qC 4) qa),qP (.bin .shr qc qa),qP (.bin .rem qa (qC 2)),qP (.bin .eq qa (qC 1)),qP (.build Za [(0,(1,qC 1)),(1,(1,.l 6)),(2,(1,qa))]),qB 21 (.new 80 Za),qA (.store 5 qa qb)] (qr [qM 0,qM 24,qP (.bin .rem qa (qC 4)),qP (.bin .add (qC 1) qa),qM 0,qN,qG 2,qG 0,qL,qM 25,qP (.ixs 1 qb qa),qL,qM 23,qM 22,qA (.call 72 [.l 13,.l 10,qc,qb,qa]),qP (.mv qa),qP (.ext 0 qa),qP (.ext 1 qb),qF 3 21,qA (.store 1 qa qc),qF 4 21,qA (.store 1 qa qd)] (qr [qF 1 20,qL,qA (.load 5 true (.g 21)),qA (.bslice 80 5 Za 1 [(0,(5,qa))]),qA (.app 80 5 40 qc qa),qF 1 20,qA (.store 1 qa qb)] (.region [qM 24,qP (.bin .quo qa (qC 4)),qT 24])))))) (.region [qM 28,qP (.bin .add qa (qC 1)),qT 28])
def je4:IC:=.seq (qr [qM 28,qM 27,qP (.bin .rem qa (qC 4)),qP (.bin .lt qc qa),qP (.mv qa),qR 0 true (.mv (.g 0)),qR 1 true (.nchk qa),qR 2 true (.fld 5 qa),qS 3 true (.load 1 false qa),qR 4 true (.len qa),qR 5 true (.bin .gt qa (qC 0)),qQ 26 (.pick (.l 6) qa (.c (.s (.bool false))))] (qX 26 0)) jly
def jlz:IC:=qr [qM 0,qM 12,qA (.call 48 [qb,qa]),qF 1 10,qA (.store 1 qa qb)] (.region [qF 1 20,qL,qA (.load 5 true (.g 10)),qA (.bslice 80 5 Za 1 [(0,(5,qa))]),qA (.app 80 5 40 qc qa),qF 1 20,qA (.store 1 qa qb)])
def jd9:IC:=.seq (qr [qF 3 10,qL,qQ 9 (.bin .eq qa (qC 0))] (.cond (.g 9) (.region [qM 0,qM 17,qM 12,qM 23,qM 22,qA (.call 72 [.l 4,qd,qc,qb,qa]),qP (.mv qa),qP (.ext 0 qa),qP (.ext 1 qb),qF 3 10,qA (.store 1 qa qc),qF 4 10,qA (.store 1 qa qd)]) .skip)) jlz
def jrk:IC:=.seq (.block 3 (qr [qF 4 29,qL,qM 19,qP (.bin .shr qb qa),qP (.bin .and qa (qC 1)),qT 12] (qr [qM 27,qM 19,qP (.bin .add (qC 9) qa),qP (.bin .shr qc qa),qP (.bin .rem qa (qC 2)),qP (.bin .eq qa (qC 1)),qP (.build Za [(0,(1,qC 2)),(2,(1,qa))]),qB 10 (.new 80 Za),qA (.store 5 qa qb)] (qr [qM 24,qP (.bin .rem qa (qC 5)),qP (.bin .add (qC 1) qa),qT 17] (qr [qM 24,qP (.bin .quo qa (qC 5)),qT 24] (.seq (qr [qM 17,qQ 16 (.bin .eq qa (qC 5))] (.cond (.g 16) (qr [qQ 17 (.mv (qC 1))] (qr [qF 3 29,qL,qM 15,qP (.bin .add qa (qC 1)),qA (.call 8 [qc,qa]),qT 14] (.seq (.draw [(qM 14,.none),(qM 15,.none),(qP (.bin .lt qb qa),.none),(qP (.mv qa),.none),(qR 0 true (.mv (.g 14)),.none),(qR 1 true (.mv (.g 13)),.none),(qR 2 true (.bin .ne qb qa),.none),(qP (.pick qd qa (.c (.s (.bool false)))),.none),(qP (.mv qa),.none),(qR 0 true (.fld 1 (.g 20)),.none),(qS 1 true (.load 1 false qa),.some []),(qR 2 true (.mv (.g 14)),.none),(qR 3 true (.ixs 5 qb qa),.none),(qR 4 true (.fld 2 qa),.none),(qS 5 true (.load 1 false qa),.some []),(qR 6 true (.not qa),.none),(qP (.pick (.l 7) qa (.c (.s (.bool false)))),.none),(qP (.mv qa),.none),(qR 0 true (.mv (.g 23)),.none),(qR 1 true (.mv (.g 12)),.none),(qR 2 true (.ixs 1 qb qa),.none),(qS 3 true (.load 1 false qa),.some []),(qR 4 true (.bin .add qa (qC 1)),.none),(qR 5 true (.mv (.g 0)),.none),(qR 6 true (.mv (.g 12)),.none),(qR 7 true (.nchk qb),.none),(qR 8 true (.fld 0 qa),.none),(qR 9 true (.fld 0 qa),.none),(qR 10 true (.ixa 2 1 qa qd),.none),(qS 11 true (.load 1 false qa),.some [7]),(qR 12 true (.bin .lt (.l 7) qa),.none),(qP (.pick (.l 13) qa (.c (.s (.bool false)))),.none),(qP (.mv qa),.none),(qR 0 true (.mv (.g 0)),.none),(qR 1 true (.nchk qa),.none),(qR 2 true (.fld 2 qa),.none),(qR 3 true (.fld 0 qa),.none),(qS 4 true (.load 1 false qa),.some []),(qR 5 true (.fld 1 (.g 20)),.none),(qS 6 true (.load 1 false qa),.some [1]),(qR 7 true (.mv (.g 14)),.none),(qR 8 true (.ixs 5 qb qa),.none),(qR 9 true (.fld 1 qa),.none),(qS 10 true (.load 1 false qa),.some [5]),(qR 11 true (.ixs 1 (.l 6) qa),.none),(qS 12 true (.load 1 false qa),.none),(qR 13 true (.mv (.g 12)),.none),(qR 14 true (.bin .eq qb qa),.none),(qQ 11 (.pick (.l 15) qa (.c (.s (.bool false)))),.none)]) (.cond (.g 11) (qr [qM 23,qM 12,qP (.ixs 1 qb qa),qL,qP (.bin .add qa (qC 1)),qP (.ixs 1 (.l 4) qd),qA (.store 1 qa qb)] (qr [qM 14,qT 13] (qr [qF 2 10,qA (.store 1 qa (.c (.s (.bool true))))] (qr [qF 3 10,qA (.store 1 qa (qC 5))] (.region [qM 14,qF 4 10,qA (.store 1 qa qb)]))))) .skip)))) .skip)) jd9)))))) (.region [qM 19,qP (.bin .add qa (qC 1)),qT 19])
def jds:IC:=.seq (qr [qM 19,qM 27,qP (.bin .shr qa (.c (.s (.int .u64 8)))),qP (.bin .rem qa (qC 2)),qP (.bin .add (qC 1) qa),qQ 18 (.bin .lt (.l 4) qa)] (qX 18 2)) jrk
def jrl:IC:=.seq (.block 7 (.draw [(qF 2 20,.none),(qL,.some []),(qM 7,.none),(qM 0,.none),(qM 7,.none),(qP (.nchk qb),.none),(qG 0,.none),(qG 0,.none),(qP (.ixa 2 1 qa qd),.none),(qL,.some [7]),(qM 4,.none),(qP (.bin .sub qb qa),.none),(qP (.build Zf [(0,(1,.l 9)),(1,(1,qa))]),.none),(qA (.bslice 83 2 Zf 1 [(0,(2,qa))]),.some [11]),(qA (.app 83 2 16 (.l 12) qa),.none),(qF 2 20,.none),(qA (.store 1 qa qb),.none)])) (.region [qM 4,qP (.bin .sub qa (qC 1)),qT 4])
def jid:IC:=.seq (qr [qM 4,qQ 3 (.bin .gt qa (qC 0))] (qX 3 6)) jrl
def jrm:IC:=.seq (.block 5 (.seq (.draw [(qF 3 29,.none),(qL,.some []),(qA (.call 8 [qa,qC 4]),.some []),(qM 0,.none),(qM 7,.none),(qP (.nchk qb),.none),(qG 0,.none),(qG 0,.none),(qP (.ixa 2 1 qa qd),.none),(qL,.some [6,7]),(qP (.bin .sub qa (qC 1)),.none),(qM 23,.none),(qM 7,.none),(qP (.ixs 1 qb qa),.none),(qL,.some [4,11,12]),(qP (.bin .sub (.l 4) qa),.none),(qP (.mm false (.l 13) qa),.none),(qT 5,.none)]) (qr [qM 5,qT 4] (.block 6 (.loop jid))))) (.region [qM 7,qP (.bin .add qa (qC 1)),qT 7])
def jgh:IC:=.seq (qr [qM 7,qQ 6 (.bin .lt qa (qC 2))] (qX 6 4)) jrm
def jl0:IC:=qr [qA (.load 3 true (.g 20)),qA (.store 3 (.g 2) qa)] .ret
def jv4:IC:=qr [qB 29 (.box 90 (.g 1)),qB 2 (.new 62 Zg)] (qr [qF 1 29,qL,qA (.call 8 [qa,qC 256]),qP (.build Zg [(0,(1,qa))]),qB 20 (.new 62 Zg),qA (.store 3 qa qb)] (qr [qA (.mkslice 3 1 8 [.int .i64 0] (qC 2) (qC 2)),qT 23] (qr [qA (.mkslice 3 1 8 [.int .i64 0] (qC 2) (qC 2)),qT 22] (qr [qF 5 29,qL,qA (.call 8 [qa,qC 1099511627776]),qT 24] (qr [qF 6 29,qL,qA (.call 8 [qa,qC 1073741824]),qT 27] (.seq (qr [qQ 28 (.mv (qC 0))] (.block 0 (.loop je4))) (qr [qF 1 20,qL,qP (.len qa),qT 15] (qr [qQ 13 (.mv (qC (-1)))] (.seq (qr [qQ 19 (.mv (qC 0))] (.block 2 (.loop jds))) (.seq (qr [qM 27,qP (.bin .shr qa (.c (.s (.int .u64 12)))),qP (.bin .rem qa (qC 3)),qQ 8 (.bin .eq qa (qC 0))] (.cond (.g 8) (qr [qQ 7 (.mv (qC 0))] (.block 4 (.loop jgh))) .skip)) jl0))))))))))
theorem qfi:T 51=some (.mk jv4 2 28 [(.cell 2 3 true)]):=ka
def jsv:IC:=qr [qQ 5 (.bin .lt (.g 7) (.g 6))] (.seq (qX 5 0) (.seq (.block 1 (qr [qP (.ixs 5 (.g 4) (.g 7)),qK 5,qB 3 (.new 80 Za),qA (.store 5 qa qb)] (qr [qF 0 3,qL,qQ 2 (.bin .eq qa (qC 2))] (.cond (.g 2) (.draw [(qM 0,.none),(qM 0,.none),(qN,.none),(qG 5,.none),(qL,.some []),(qF 1 3,.none),(qL,.some [1]),(qA (.bslice 3 1 [.int .i64 0] 1 [(0,(1,qa))]),.some [2]),(qA (.app 3 1 8 qd qa),.none),(qP (.nchk (.l 8)),.none),(qG 5,.none),(qA (.store 1 qa qc),.none)]) .skip)))) (.region [qI 7,qT 7])))
def qhv:IC:=qr [qB 10 (.box 90 (.g 1))] (qr [qM 0,qA (.load 7 true (.g 10)),qA (.call 51 [qb,qa]),qB 8 (.new 62 Zg),qA (.store 3 qa qb)] (.seq (.draw [(qM 0,.none),(qN,.none),(qG 2,.none),(qG 1,.none),(qL,.some []),(qM 0,.none),(qN,.none),(qG 4,.none),(qL,.some [3]),(qP (.ixs 3 (.l 4) qa),.none),(qT 9,.none)]) (.seq (.draw [(qM 9,.none),(qM 9,.none),(qN,.none),(qG 1,.none),(qL,.some []),(qA (.load 3 true (.g 8)),.some [0]),(qA (.bslice 62 3 Zg 1 [(0,(3,qa))]),.some [1]),(qA (.app 62 3 56 qc qa),.none),(qP (.nchk (.l 7)),.none),(qG 1,.none),(qA (.store 1 qa qc),.none)]) (qr [qM 0,qN,qG 6,qL,qP (.bin .add qa (qC 1)),qP (.nchk (.l 4)),qG 6,qA (.store 1 qa qc)] (qr [qF 1 8,qB 4 (.load 1 false qa),qQ 6 (.len qa),qQ 7 (.mv (qC 0))] (.block 0 (.loop jsv)))))))
theorem qzq:T 30=some (.mk qhv 2 9 []):=ka
def j0x:IC:=qr [qM 0,qN,qG 2,qG 1,qL,qM 1,qP (.ixs 3 qb qa),qT 4] (.region [qM 4,qM 4,qN,qG 2,qL,qM 2,qM 3,qP (.build Zh [(0,(1,qb)),(1,(1,qa))]),qA (.bslice 65 2 Zh 1 [(0,(2,qa))]),qA (.app 65 2 32 (.l 4) qa),qP (.nchk (.l 9)),qG 2,qA (.store 1 qa qc)])
theorem qmn:T 49=some (.mk j0x 4 1 []):=ka
def jie:IC:=.seq (qr [qM 6,qQ 5 (.bin .ge qa (qC 0))] (qX 5 0)) (.seq (.block 1 (.seq (.draw [(qM 0,.none),(qN,.none),(qG 2,.none),(qG 0,.none),(qL,.some []),(qM 0,.none),(qN,.none),(qG 5,.none),(qL,.some [3]),(qM 6,.none),(qP (.ixs 1 qb qa),.none),(qL,.some [6]),(qP (.ixs 1 (.l 7) qa),.none),(qL,.none),(qM 1,.none),(qQ 4 (.bin .eq qb qa),.none)]) (.cond (.g 4) (qr [qM 0,qN,qG 5,qL,qM 6,qP (.ixs 1 qb qa),qL,qT 3] .ret) .skip))) (.region [qM 6,qP (.bin .sub qa (qC 1)),qT 6]))
def jv5:IC:=qr [qB 7 (.box 90 (.g 2)),qQ 3 (.mv (qC 0))] (.seq (.seq (.draw [(qM 0,.none),(qN,.none),(qG 5,.none),(qL,.some []),(qP (.len qa),.none),(qP (.bin .sub qa (qC 1)),.none),(qF 3 7,.none),(qL,.some [3]),(qA (.call 8 [qa,qC 3]),.some [4]),(qP (.bin .sub qd qa),.none),(qT 6,.none)]) (.block 0 (.loop jie))) (qr [qM 1,qP (.bin .mul (qC 3) qa),qF 4 7,qA (.store 1 qa qb)] (qr [qM 0,qA (.load 7 true (.g 7)),qA (.call 30 [qb,qa])] (.seq (.draw [(qM 0,.none),(qN,.none),(qG 5,.none),(qL,.some []),(qM 0,.none),(qN,.none),(qG 5,.none),(qL,.some [3]),(qP (.len qa),.none),(qP (.bin .sub qa (qC 1)),.none),(qP (.ixs 1 (.l 6) qa),.none),(qL,.none),(qT 3,.none)]) .ret))))
theorem qfj:T 50=some (.mk jv5 3 5 [(.tmp 3)]):=ka
def j0y:IC:=qr [qB 11 (.box 90 (.g 1))] (qr [qF 4 11,qL,qA (.call 8 [qa,qC 2]),qT 10] (qr [qM 0,qM 10,qA (.load 7 true (.g 11)),qA (.call 50 [qc,qb,qa]),qT 8] (qr [qM 0,qA (.load 7 true (.g 11)),qA (.call 50 [qb,qC 0,qa]),qT 7] (qr [qM 0,qM 10,qA (.bslice 3 1 Zf 2 [(0,(1,qa)),(1,(1,qC 0))]),qA (.call 27 [qc,qa]),qT 9] (qr [qM 0,qM 0,qN,qG 4,qL,qM 9,qM 8,qM 7,qA (.bslice 3 1 Zf 2 [(0,(1,qb)),(1,(1,qa))]),qA (.call 49 [.l 8,.l 4,qd,qa])] (qr [qM 0,qM 9,qP (.nchk qb),qG 4,qA (.store 1 qa qc)] (.seq (.draw [(qM 0,.none),(qM 0,.none),(qN,.none),(qG 5,.none),(qL,.some []),(qM 0,.none),(qN,.none),(qG 2,.none),(qG 1,.none),(qL,.some [4]),(qM 9,.none),(qP (.ixs 3 qb qa),.none),(qG 0,.none),(qL,.some [8]),(qA (.app 3 1 8 (.l 9) qa),.none),(qP (.nchk (.l 14)),.none),(qG 5,.none),(qA (.store 1 qa qc),.none)]) (qr [qF 6 11,qL,qP (.bin .or qa (qC 1)),qF 6 11,qA (.store 1 qa qb)] (qr [qM 0,qA (.load 7 true (.g 11)),qA (.call 30 [qb,qa])] (qr [qM 0,qN,qG 5,qL,qP (.len qa),qT 2] (qr [qM 0,qA (.call 27 [qa,.c (.s .nilSlice)]),qT 6] (qr [qM 0,qA (.call 27 [qa,.c (.s .nilSlice)]),qT 5] (qr [qM 0,qM 9,qM 6,qA (.call 49 [qc,qb,qa,.c (.s .nilSlice)])] (qr [qM 0,qM 9,qM 5,qA (.call 49 [qc,qb,qa,.c (.s .nilSlice)])] (qr [qM 0,qM 6,qP (.nchk qb),qG 4,qA (.store 1 qa qc)] (qr [qF 2 11,qL,qP (.bin .add qa (qC 1)),qF 2 11,qA (.store 1 qa qb)] (qr [qF 1 11,qL,qP (.bin .add qa (qC 1)),qF 1 11,qA (.store 1 qa qb)] (qr [qM 0,qA (.load 7 true (.g 11)),qA (.call 30 [qb,qa])] (qr [qM 0,qM 10,qA (.load 7 true (.g 11)),qA (.call 50 [qc,qb,qa]),qT 4] (qr [qM 0,qA (.load 7 true (.g 11)),qA (.call 50 [qb,qC 0,qa]),qT 3] (qr [qM 0,qM 6,qM 9,qM 4,qM 3,qA (.bslice 3 1 Zf 2 [(0,(1,qb)),(1,(1,qa))]),qA (.call 49 [.l 5,.l 4,qd,qa])] (qr [qM 0,qM 0,qN,qG 5,qL,qM 2,qP (.slice 1 qb .none (.some qa)),qA (.app 3 1 8 (.c (.s .nilSlice)) qa),qP (.nchk (.l 7)),qG 5,qA (.store 1 qa qc)] (.region [qM 0,qM 5,qP (.nchk qb),qG 4,qA (.store 1 qa qc)])))))))))))))))))))))))
theorem qmo:T 29=some (.mk j0y 2 10 []):=ka
end
end Go.Proofs.YtkpadfebkaangaaGreatDoor.Ev
