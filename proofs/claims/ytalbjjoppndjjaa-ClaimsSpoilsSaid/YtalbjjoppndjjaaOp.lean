/- Runs of the interpreter step by step: more fuel answers the same; rules for code, regions, calls. No program in sight. -/
import Derived.Test.YtalbjjoppndjjaaRun
import Derived.Test.YtalbjjoppndjjaaIso
namespace Go.Proofs.Ytalbjjoppndjjaa.Ev
noncomputable section
open Go
set_option linter.all false
def j53 (cl cl':FuncId->List AV->Hp->R):Prop:=∀ f vs h r,cl f vs h=some r->cl' f vs h=some r
def qm1 (ih ih':RC):Prop:=∀ c s r,ih c s=some r->ih' c s=some r
section
variable {cl cl':FuncId->List AV->Hp->R} {st fr:List AV} {h:Hp} {F:Fns} {ih ih':RC}
theorem jm4 (hc:j53 cl cl') {op:IOp} {r:AV×Hp} (hr:iop cl st fr h op=some r):iop cl' st fr h op=some r:=by
 cases op with
 | p o=>exact hr
 | a o =>
  cases o with
  | call f as =>
   obtain⟨vs,h1,h2⟩:=jaa.1 (show ob (evs st fr as) (fun vs=>cl f vs h)=some r from hr)
   exact jaa.2 ⟨vs,h1,hc _ _ _ _ h2⟩
  | callv x as =>
   obtain⟨v,h1,h2⟩:=jaa.1 (show ob (ev st fr x) (fun v=>jvc v (fun f caps=>ob (evs st fr as) (fun vs=>cl f (jgi vs (jfk caps)) h)))=some r from hr)
   obtain⟨f,caps,rfl,h3⟩:=jdz h2
   obtain⟨vs,h4,h5⟩:=jaa.1 h3
   exact jaa.2 ⟨_,h1,jaa.2 ⟨vs,h4,hc _ _ _ _ h5⟩⟩
  | _=>exact hr
theorem jv3 (hc:j53 cl cl') {op:IOp} {g:Option (Nat×Bool)} {r:AV×Hp} (hr:qai cl st fr h op g=some r):qai cl' st fr h op g=some r:=by
 obtain⟨b,h1,h2⟩:=jaa.1 hr
 refine jaa.2 ⟨b,h1,?_⟩
 cases b with
 | false=>exact h2
 | true=>exact jm4 hc h2
theorem joj (hc:j53 cl cl'):∀ {l:List IOper} {st fr:List AV} {h:Hp} {s:St},jxz cl l st fr h=some s->jxz cl' l st fr h=some s
 | [],st,fr,h,s,hr=>hr
 | .mk dst op g::l,st,fr,h,s,hr=>by
  obtain⟨p,h1,h2⟩:=jaa.1 (show ob (qai cl st fr h op g) (fun p=>jxz cl l (p.1::st) (jcs fr dst p.1) p.2)=some s from hr)
  exact jaa.2 ⟨p,jv3 hc h1,joj hc h2⟩
theorem jhf (hc:j53 cl cl') {n:Nat} {t:Tr AB} {lo lo':Nat} {hid hid':List (Nat×Nat)} {op:IOp} {e:Nat->Ent} {d:DR} (hr:jmv cl st fr n t lo lo' hid hid' op e=some d):jmv cl' st fr n t lo lo' hid hid' op e=some d:=by
 obtain⟨p,h1,h2⟩:=jaa.1 hr
 exact jaa.2 ⟨p,jm4 hc h1,h2⟩
theorem jyj (hc:j53 cl cl') {es:List Ent} {op:IOp} {js:List Nat} {d:DR} (hr:jl8 cl st fr es h op js=some d):jl8 cl' st fr es h op js=some d:=by
 cases h with
 | mk n t lo hid =>
  obtain⟨hid',h1,h2⟩:=jaa.1 (show ob (sel es js hid) (fun hid'=>Cls.casesOn (motive:=fun _=>Option DR) (jb4 st fr op)
   (jmv cl st fr n t lo n hid hid' op (fun n'=>.mk [(n,n')] (some [])))
   (fun x=>jmv cl st fr n t lo n hid hid' op (fun _=>.mk [] (some [x])))
   (fun b=>oif (jja es js b) (oif (Nat.ble lo b) (ob (Hp.get (.mk n t lo hid') b) (fun _=>jmv cl st fr n t lo lo hid hid' op (fun n'=>.mk [(b,Nat.succ b),(n,n')] none))) none) none)
   (jmv cl st fr n t lo n hid hid' op (fun _=>.mk [] (some [])))
   (jmv cl st fr n t lo n hid hid' op (fun n'=>.mk [(n,n')] none)))=some d from hr)
  refine jaa.2 ⟨hid',h1,?_⟩
  revert h2
  cases jb4 st fr op with
  | fresh=>exact fun h=>jhf hc h
  | load x=>exact fun h=>jhf hc h
  | quiet=>exact fun h=>jhf hc h
  | other=>exact fun h=>jhf hc h
  | app b =>
   intro h2
   obtain⟨h3,h4⟩:=jad.1 h2
   obtain⟨h5,h6⟩:=jad.1 h4
   obtain⟨x,h7,h8⟩:=jaa.1 h6
   exact jad.2 ⟨h3,jad.2 ⟨h5,jaa.2 ⟨x,h7,jhf hc h8⟩⟩⟩
theorem jv4 (hc:j53 cl cl') {es:List Ent} {op:IOp} {g:Option (Nat×Bool)} {m:Option (List Nat)} {d:DR} (hr:jxs cl st fr es h op g m=some d):jxs cl' st fr es h op g m=some d:=by
 obtain⟨b,h1,h2⟩:=jaa.1 hr
 refine jaa.2 ⟨b,h1,?_⟩
 cases b with
 | false=>exact h2
 | true =>
  cases m with
  | none =>
   obtain⟨p,h3,h4⟩:=jaa.1 (show ob (iop cl st fr h op) (fun p=>some (.mk p.1 p.2 (.mk [] (some []))))=some d from h2)
   exact jaa.2 ⟨p,jm4 hc h3,h4⟩
  | some js=>exact jyj hc h2
theorem jok (hc:j53 cl cl'):∀ {l:List (IOper×Option (List Nat))} {st:List AV} {es:List Ent} {fr:List AV} {h:Hp} {s:St},jx0 cl l st es fr h=some s->jx0 cl' l st es fr h=some s
 | [],st,es,fr,h,s,hr=>hr
 | (.mk dst op g,m)::l,st,es,fr,h,s,hr=>by
  obtain⟨p,h1,h2⟩:=jaa.1 (show ob (jxs cl st fr es h op g m) (fun p=>DR.casesOn (motive:=fun _=>Option St) p (fun v h' e=>jx0 cl l (v::st) (e::es) (jcs fr dst v) h'))=some s from hr)
  obtain⟨v,h',e⟩:=p
  exact jaa.2 ⟨_,jv4 hc h1,jok hc h2⟩
theorem jcm (hi:qm1 ih ih'):j53 (jbt F ih) (jbt F ih'):=by
 intro f vs h r hr
 cases F with
 | mk T X =>
  cases hx:X f vs h with
  | some v =>
   have h1:∀ ih:RC,jbt (.mk T X) ih f vs h=some v:=by
    intro ih
    show Option.rec (motive:=fun _=>R) _ (fun r=>some r) (X f vs h)=_
    rw[hx]
   rw[h1] at hr ⊢
   exact hr
  | none =>
   have e:∀ ih:RC,jbt (.mk T X) ih f vs h=ob (T f) (fun fn=>IF.casesOn (motive:=fun _=>R) fn (fun body nargs nslots res=>oif (Nat.beq (jdc vs) nargs) (ob (ih body (.mk (jgi vs (jc4 nslots)) h)) (fun p =>
    Ex.casesOn (motive:=fun _=>R) p.1 (jb9 p.2 res) (fun _=>none) (jb9 p.2 res))) none)):=by
    intro ih
    show Option.rec (motive:=fun _=>R) _ (fun r=>some r) (X f vs h)=_
    rw[hx]
   rw[e] at hr ⊢
   obtain⟨fn,h1,h2⟩:=jaa.1 hr
   refine jaa.2 ⟨fn,h1,?_⟩
   cases fn with
   | mk body nargs nslots res =>
    obtain⟨h3,h4⟩:=jad.1 (show oif (Nat.beq (jdc vs) nargs) (ob (ih body (.mk (jgi vs (jc4 nslots)) h)) (fun p=>Ex.casesOn (motive:=fun _=>R) p.1 (jb9 p.2 res) (fun _=>none) (jb9 p.2 res))) none=some r from h2)
    obtain⟨p,h5,h6⟩:=jaa.1 h4
    exact jad.2 ⟨h3,jaa.2 ⟨p,hi _ _ _ h5,h6⟩⟩
theorem jyk (hi:qm1 ih ih'):qm1 (jz5 F ih) (jz5 F ih'):=by
 intro c s r hr
 have hc:=jcm (F:=F) hi
 cases c with
 | skip=>exact hr
 | exit id=>exact hr
 | ret=>exact hr
 | region ops =>
  cases s with
  | mk fr h =>
   obtain⟨s,h1,h2⟩:=jaa.1 (show ob (jxz (jbt F ih) ops [] fr h) (fun s=>some (.normal,s))=some r from hr)
   exact jaa.2 ⟨s,joj hc h1,h2⟩
 | draw ops =>
  cases s with
  | mk fr h =>
   obtain⟨s,h1,h2⟩:=jaa.1 (show ob (jx0 (jbt F ih) ops [] [] fr h) (fun s=>some (.normal,s))=some r from hr)
   exact jaa.2 ⟨s,jok hc h1,h2⟩
 | seq a b =>
  obtain⟨p,h1,h2⟩:=jaa.1 (show ob (ih a s) (fun p=>Ex.casesOn (motive:=fun _=>Option (Ex×St)) p.1 (ih b p.2) (fun _=>some p) (some p))=some r from hr)
  refine jaa.2 ⟨p,hi _ _ _ h1,?_⟩
  obtain⟨e,s'⟩:=p
  cases e with
  | normal=>exact hi _ _ _ h2
  | exit id=>exact h2
  | ret=>exact h2
 | cond c x y =>
  cases s with
  | mk fr h =>
   obtain⟨v,h1,h2⟩:=jaa.1 (show ob (ev [] fr c) (fun v=>jif v (fun t=>ih (oif t x y) (.mk fr h)))=some r from hr)
   obtain⟨t,rfl,h3⟩:=jdy h2
   exact jaa.2 ⟨_,h1,hi _ _ _ h3⟩
 | block id b =>
  obtain⟨p,h1,h2⟩:=jaa.1 (show ob (ih b s) (fun p=>Ex.casesOn (motive:=fun _=>Option (Ex×St)) p.1 (some p) (fun k=>oif (Nat.beq k id) (some (.normal,p.2)) (some p)) (some p))=some r from hr)
  exact jaa.2 ⟨p,hi _ _ _ h1,h2⟩
 | loop b =>
  obtain⟨p,h1,h2⟩:=jaa.1 (show ob (ih b s) (fun p=>Ex.casesOn (motive:=fun _=>Option (Ex×St)) p.1 (ih (.loop b) p.2) (fun _=>some p) (some p))=some r from hr)
  refine jaa.2 ⟨p,hi _ _ _ h1,?_⟩
  obtain⟨e,s'⟩:=p
  cases e with
  | normal=>exact hi _ _ _ h2
  | exit id=>exact h2
  | ret=>exact h2
theorem jv5 (F:Fns):∀ n,qm1 (run F n) (run F (n+1))
 | 0=>fun c s r hr=>by cases hr
 | n+1=>jyk (jv5 F n)
theorem jdb (F:Fns) {n m:Nat} (h:n<=m):qm1 (run F n) (run F m):=by
 induction m with
 | zero=>obtain rfl:n=0:=by omega
         exact fun c s r hr=>hr
 | succ m ih =>
  rcases f0g m n with h1 | h1
  .obtain rfl:n=m+1:=by omega
   exact fun c s r hr=>hr
  .exact fun c s r hr=>jv5 F m _ _ _ (ih h1 _ _ _ hr)
end
def qq6 (F:Fns) (c:IC) (s:St) (e:Ex) (s':St):Prop:=∃ n,run F n c s=some (e,s')
def FnR (F:Fns) (f:FuncId) (vs:List AV) (h:Hp) (v:AV) (h':Hp):Prop:=∃ n,jih F n f vs h=some (v,h')
section
variable {F:Fns} {st fr:List AV} {h h' h'':Hp} {s s' s'':St} {e:Ex}
theorem qdb {T:FuncId->Option IF} {X:FuncId->List AV->Hp->R} {f:FuncId} {vs:List AV} {v:AV} {body:IC} {nargs nslots:Nat} {res:List IR} (hx:X f vs h=none) (hT:T f=some (.mk body nargs nslots res)) (hl:jdc vs=nargs)
 (h1:qq6 (.mk T X) body (.mk (jgi vs (jc4 nslots)) h) e s') (he:e=.normal∨e=.ret) (hr:jb9 s' res=some (v,h')):FnR (.mk T X) f vs h v h':=by
 obtain⟨n,h1⟩:=h1
 refine⟨n,?_⟩
 show Option.rec (motive:=fun _=>R) _ (fun r=>some r) (X f vs h)=_
 rw[hx]
 refine jaa.2 ⟨_,hT,?_⟩
 refine jad.2 ⟨by rw[jgz];exact hl,jaa.2 ⟨_,h1,?_⟩⟩
 rcases he with rfl | rfl<;>exact hr
end
open Go Go.RowKit
variable {u u':AV} {b k t:Bool} {d e i id:Nat}
def W (F:Fns) (c:IC) (s:St) (Q:Ex->St->Prop):Prop:=∃ n e s',run F n c s=some (e,s')/\Q e s'
def WO (F:Fns) (l:List IOper) (st fr:List AV) (h:Hp) (Q:Ex->St->Prop):Prop:=∃ n s',jxz (jbt F (run F n)) l st fr h=some s'/\Q .normal s'
def WD (F:Fns) (l:List (IOper×Option (List Nat))) (st:List AV) (es:List Ent) (fr:List AV) (h:Hp) (Q:Ex->St->Prop):Prop:=∃ n s',jx0 (jbt F (run F n)) l st es fr h=some s'/\Q .normal s'
def WC (F:Fns) (f:FuncId) (vs:List AV) (h:Hp) (Q:AV->Hp->Prop):Prop:=∃ n v h',jih F n f vs h=some (v,h')/\Q v h'
def j3u (F:Fns) (b:IC) (Q:Ex->St->Prop) (e:Ex) (s:St):Prop:=Ex.casesOn (motive:=fun _=>Prop) e (W F b s Q) (fun k=>Q (.exit k) s) (Q .ret s)
def qf5 (id:Nat) (Q:Ex->St->Prop) (e:Ex) (s:St):Prop:=Ex.casesOn (motive:=fun _=>Prop) e (Q .normal s) (fun k=>if k=id then Q .normal s else Q (.exit k) s) (Q .ret s)
def j3v (F:Fns) (b:IC) (Q:Ex->St->Prop) (e:Ex) (s:St):Prop:=Ex.casesOn (motive:=fun _=>Prop) e (W F (.loop b) s Q) (fun k=>Q (.exit k) s) (Q .ret s)
def obP {α:Type} (x:Option α) (f:α->Prop):Prop:=∃ a,x=some a/\f a
def qq7 (v:Option AV) (X Y:Prop):Prop:=∃ b,v=some (.s (.bool b))/\(if b=true then X else Y)
section
variable {F:Fns} {s:St} {st fr:List AV} {h:Hp} {Q:Ex->St->Prop} {α:Type}
theorem jfq {b:IC}:j3u F b Q .normal s=W F b s Q:=rfl
theorem jlh {b:IC} {k:Nat}:j3u F b Q (.exit k) s=Q (.exit k) s:=rfl
theorem jol {b:IC}:j3u F b Q .ret s=Q .ret s:=rfl
theorem jin:qf5 id Q .normal s=Q .normal s:=rfl
theorem jom {k:Nat}:qf5 id Q (.exit k) s=if k=id then Q .normal s else Q (.exit k) s:=rfl
theorem jsk:qf5 id Q .ret s=Q .ret s:=rfl
theorem jhg {b:IC}:j3v F b Q .normal s=W F (.loop b) s Q:=rfl
theorem jli {b:IC} {k:Nat}:j3v F b Q (.exit k) s=Q (.exit k) s:=rfl
theorem jon {b:IC}:j3v F b Q .ret s=Q .ret s:=rfl
theorem jcf {a:α} {f:α->Prop}:obP (some a) f=f a:=propext ⟨fun⟨b,e,h⟩=>by cases e;exact h,fun h=>⟨a,rfl,h⟩⟩
theorem j54 {X Y:Prop}:qq7 (some (.s (.bool b))) X Y=if b=true then X else Y:=propext ⟨fun⟨c,e,h⟩=>by cases e;exact h,fun h=>⟨b,rfl,h⟩⟩
theorem j0v {c:IC} {n m:Nat} {e:Ex} {s':St} (hn:n<=m) (h:run F n c s=some (e,s')):run F m c s=some (e,s'):=jdb F hn _ _ _ h
theorem WC.imp {f:FuncId} {vs:List AV} {Q Q':AV->Hp->Prop} (k:WC F f vs h Q) (hq:∀ v h,Q v h->Q' v h):WC F f vs h Q':=let ⟨n,e,s',h1,h2⟩:=k;⟨n,e,s',h1,hq _ _ h2⟩
theorem j55:W F .skip s Q=Q .normal s:=propext ⟨fun⟨n,e,s',h1,h2⟩=>by cases n with
 | zero=>cases h1
 | succ n=>cases h1;exact h2,fun h=>⟨1,_,_,rfl,h⟩⟩
theorem qf6:W F .ret s Q=Q .ret s:=propext ⟨fun⟨n,e,s',h1,h2⟩=>by cases n with
 | zero=>cases h1
 | succ n=>cases h1;exact h2,fun h=>⟨1,_,_,rfl,h⟩⟩
theorem j56:W F (.exit id) s Q=Q (.exit id) s:=propext ⟨fun⟨n,e,s',h1,h2⟩=>by cases n with
 | zero=>cases h1
 | succ n=>cases h1;exact h2,fun h=>⟨1,_,_,rfl,h⟩⟩
theorem qa9 {a b:IC}:W F (.seq a b) s Q=W F a s (j3u F b Q):=by
 refine propext ⟨fun⟨n,e,s',h1,h2⟩=>?_,fun⟨n,e,s',h1,h2⟩=>?_⟩
 .cases n with
  | zero=>cases h1
  | succ n =>
   obtain⟨p,h3,h4⟩:=jaa.1 (show ob (run F n a s) (fun p=>Ex.casesOn (motive:=fun _=>Option (Ex×St)) p.1 (run F n b p.2) (fun _=>some p) (some p))=some (e,s') from h1)
   obtain⟨e1,s1⟩:=p
   refine⟨n,e1,s1,h3,?_⟩
   cases e1 with
   | normal=>exact⟨n,e,s',h4,h2⟩
   | exit k=>cases h4;exact h2
   | ret=>cases h4;exact h2
 .cases e with
  | normal =>
   obtain⟨m,e2,s2,h3,h4⟩:=h2
   exact⟨max n m+1,e2,s2,jaa.2 ⟨_,j0v (f1p n m) h1,j0v (f1l n m) h3⟩,h4⟩
  | exit k=>exact⟨n+1,_,_,jaa.2 ⟨_,h1,rfl⟩,h2⟩
  | ret=>exact⟨n+1,_,_,jaa.2 ⟨_,h1,rfl⟩,h2⟩
theorem jaj {b:IC}:W F (.loop b) s Q=W F b s (j3v F b Q):=by
 refine propext ⟨fun⟨n,e,s',h1,h2⟩=>?_,fun⟨n,e,s',h1,h2⟩=>?_⟩
 .cases n with
  | zero=>cases h1
  | succ n =>
   obtain⟨p,h3,h4⟩:=jaa.1 (show ob (run F n b s) (fun p=>Ex.casesOn (motive:=fun _=>Option (Ex×St)) p.1 (run F n (.loop b) p.2) (fun _=>some p) (some p))=some (e,s') from h1)
   obtain⟨e1,s1⟩:=p
   refine⟨n,e1,s1,h3,?_⟩
   cases e1 with
   | normal=>exact⟨n,e,s',h4,h2⟩
   | exit k=>cases h4;exact h2
   | ret=>cases h4;exact h2
 .cases e with
  | normal =>
   obtain⟨m,e2,s2,h3,h4⟩:=h2
   exact⟨max n m+1,e2,s2,jaa.2 ⟨_,j0v (f1p n m) h1,j0v (f1l n m) h3⟩,h4⟩
  | exit k=>exact⟨n+1,_,_,jaa.2 ⟨_,h1,rfl⟩,h2⟩
  | ret=>exact⟨n+1,_,_,jaa.2 ⟨_,h1,rfl⟩,h2⟩
theorem jyl {b:IC}:W F (.block id b) s Q=W F b s (qf5 id Q):=by
 have key:∀ k (s1:St),oif (Nat.beq k id) (some (Ex.normal,s1)) (some (.exit k,s1))=if k=id then some (.normal,s1) else some (.exit k,s1):=fun k s1=>by
  rw[jax];congr 1;exact jgz k id
 refine propext ⟨fun⟨n,e,s',h1,h2⟩=>?_,fun⟨n,e,s',h1,h2⟩=>?_⟩
 .cases n with
  | zero=>cases h1
  | succ n =>
   obtain⟨p,h3,h4⟩:=jaa.1 (show ob (run F n b s) (fun p=>Ex.casesOn (motive:=fun _=>Option (Ex×St)) p.1 (some p) (fun k=>oif (Nat.beq k id) (some (.normal,p.2)) (some p)) (some p))=some (e,s') from h1)
   obtain⟨e1,s1⟩:=p
   refine⟨n,e1,s1,h3,?_⟩
   cases e1 with
   | normal=>cases h4;exact h2
   | exit k =>
    have h5:oif (Nat.beq k id) (some (Ex.normal,s1)) (some (.exit k,s1))=some (e,s'):=h4
    rw[key] at h5
    show if k=id then Q .normal s1 else Q (.exit k) s1
    split
    .rename_i hk;rw[if_pos hk] at h5;cases h5;exact h2
    .rename_i hk;rw[if_neg hk] at h5;cases h5;exact h2
   | ret=>cases h4;exact h2
 .cases e with
  | normal=>exact⟨n+1,_,_,jaa.2 ⟨_,h1,rfl⟩,h2⟩
  | exit k =>
   have h3:if k=id then Q .normal s' else Q (.exit k) s':=h2
   split at h3
   .rename_i hk
    exact⟨n+1,_,_,jaa.2 ⟨_,h1,(key k s').trans (if_pos hk)⟩,h3⟩
   .rename_i hk
    exact⟨n+1,_,_,jaa.2 ⟨_,h1,(key k s').trans (if_neg hk)⟩,h3⟩
  | ret=>exact⟨n+1,_,_,jaa.2 ⟨_,h1,rfl⟩,h2⟩
theorem qm2 {c:Od} {x y:IC}:W F (.cond c x y) (.mk fr h) Q=qq7 (ev [] fr c) (W F x (.mk fr h) Q) (W F y (.mk fr h) Q):=by
 refine propext ⟨fun⟨n,e,s',h1,h2⟩=>?_,fun⟨b,hb,h2⟩=>?_⟩
 .cases n with
  | zero=>cases h1
  | succ n =>
   obtain⟨v,h3,h4⟩:=jaa.1 (show ob (ev [] fr c) (fun v=>jif v (fun t=>run F n (oif t x y) (.mk fr h)))=some (e,s') from h1)
   obtain⟨t,rfl,h5⟩:=jdy h4
   refine⟨t,h3,?_⟩
   cases t with
   | true=>exact⟨n,e,s',h5,h2⟩
   | false=>exact⟨n,e,s',h5,h2⟩
 .cases b with
  | true =>
   obtain⟨n,e,s',h3,h4⟩:=(show W F x (.mk fr h) Q from h2)
   exact⟨n+1,e,s',jaa.2 ⟨_,hb,h3⟩,h4⟩
  | false =>
   obtain⟨n,e,s',h3,h4⟩:=(show W F y (.mk fr h) Q from h2)
   exact⟨n+1,e,s',jaa.2 ⟨_,hb,h3⟩,h4⟩
theorem jsl {ops:List IOper}:W F (.region ops) (.mk fr h) Q=WO F ops [] fr h Q:=by
 refine propext ⟨fun⟨n,e,s',h1,h2⟩=>?_,fun⟨n,s',h1,h2⟩=>⟨n+1,.normal,s',jaa.2 ⟨_,h1,rfl⟩,h2⟩⟩
 cases n with
 | zero=>cases h1
 | succ n =>
  obtain⟨s1,h3,h4⟩:=jaa.1 (show ob (jxz (jbt F (run F n)) ops [] fr h) (fun s=>some (Ex.normal,s))=some (e,s') from h1)
  cases h4
  exact⟨n,_,h3,h2⟩
theorem j57 {ops:List (IOper×Option (List Nat))}:W F (.draw ops) (.mk fr h) Q=WD F ops [] [] fr h Q:=by
 refine propext ⟨fun⟨n,e,s',h1,h2⟩=>?_,fun⟨n,s',h1,h2⟩=>⟨n+1,.normal,s',jaa.2 ⟨_,h1,rfl⟩,h2⟩⟩
 cases n with
 | zero=>cases h1
 | succ n =>
  obtain⟨s1,h3,h4⟩:=jaa.1 (show ob (jx0 (jbt F (run F n)) ops [] [] fr h) (fun s=>some (Ex.normal,s))=some (e,s') from h1)
  cases h4
  exact⟨n,_,h3,h2⟩
theorem j58:WO F [] st fr h Q=Q .normal (.mk fr h):=propext ⟨fun⟨n,s',h1,h2⟩=>by cases h1;exact h2,fun h=>⟨0,_,rfl,h⟩⟩
theorem joo {dst:Option Nat} {op:IOp} {g:Option (Nat×Bool)} {l:List IOper}:WO F (.mk dst op g::l) st fr h Q=∃ n v h',qai (jbt F (run F n)) st fr h op g=some (v,h')/\WO F l (v::st) (jcs fr dst v) h' Q:=by
 refine propext ⟨fun⟨n,s',h1,h2⟩=>?_,fun⟨n,v,h',h1,m,s',h2,h3⟩=>?_⟩
 .obtain ⟨p,h3,h4⟩:=jaa.1 (show ob (qai (jbt F (run F n)) st fr h op g) (fun p=>jxz (jbt F (run F n)) l (p.1::st) (jcs fr dst p.1) p.2)=some s' from h1)
  exact⟨n,p.1,p.2,h3,n,s',h4,h2⟩
 .exact ⟨max n m,s',jaa.2 ⟨(v,h'),jv3 (jcm (jdb F (f1p n m))) h1,joj (jcm (jdb F (f1l n m))) h2⟩,h3⟩
theorem qm3 {dst:Option Nat} {op:IOp} {l:List IOper} {x:R} (hx:∀ cl,iop cl st fr h op=x):WO F (.mk dst op none::l) st fr h Q=obP x (fun p=>WO F l (p.1::st) (jcs fr dst p.1) p.2 Q):=by
 rw[joo]
 refine propext ⟨fun⟨n,v,h',h1,h2⟩=>⟨(v,h'),?_,h2⟩,fun⟨p,h1,h2⟩=>⟨0,p.1,p.2,?_,h2⟩⟩
 .rw [←hx (jbt F (run F n))];exact h1
 .rw [←hx (jbt F (run F 0))] at h1;exact h1
theorem qf7 {dst:Option Nat} {o:PO} {l:List IOper}:WO F (.mk dst (.p o) none::l) st fr h Q=obP (pop st fr o) (fun v=>WO F l (v::st) (jcs fr dst v) h Q):=by
 rw[qm3 (x:=ob (pop st fr o) (fun v=>ok v h)) (fun _=>rfl)]
 refine propext ⟨fun⟨p,h1,h2⟩=>?_,fun⟨v,h1,h2⟩=>⟨(v,h),jaa.2 ⟨v,h1,rfl⟩,h2⟩⟩
 obtain⟨v,h3,h4⟩:=jaa.1 h1
 cases h4
 exact⟨v,h3,h2⟩
def AO.calls:AO->Bool
 | .call _ _=>true
 | .callv _ _=>true
 | _=>false
def jex (st fr:List AV) (h:Hp) (o:AO):R:=aop (fun _ _ _=>none) st fr h o
theorem jio {cl:FuncId->List AV->Hp->R} {o:AO} (ho:o.calls=false):aop cl st fr h o=jex st fr h o:=by
 cases o<;>first | rfl | cases ho
theorem jju {dst:Option Nat} {o:AO} {l:List IOper} (ho:o.calls=false):WO F (.mk dst (.a o) none::l) st fr h Q=obP (jex st fr h o) (fun p=>WO F l (p.1::st) (jcs fr dst p.1) p.2 Q) :=
 qm3 (fun _=>jio ho)
theorem qf8 {dst:Option Nat} {f:FuncId} {as:List Od} {l:List IOper}:WO F (.mk dst (.a (.call f as)) none::l) st fr h Q=obP (evs st fr as) (fun vs=>WC F f vs h (fun v h'=>WO F l (v::st) (jcs fr dst v) h' Q)):=by
 rw[joo]
 refine propext ⟨fun⟨n,v,h',h1,h2⟩=>?_,fun⟨vs,h1,n,v,h',h2,h3⟩=>⟨n,v,h',jaa.2 ⟨true,rfl,jaa.2 ⟨vs,h1,h2⟩⟩,h3⟩⟩
 have h1':ob (evs st fr as) (fun vs=>jbt F (run F n) f vs h)=some (v,h'):=h1
 obtain⟨vs,h4,h5⟩:=jaa.1 h1'
 exact⟨vs,h4,n,v,h',h5,h2⟩
theorem qba {dst:Option Nat} {x:Od} {as:List Od} {l:List IOper}:WO F (.mk dst (.a (.callv x as)) none::l) st fr h Q=∃ f caps,ev st fr x=some (.s (.func f caps))/\obP (evs st fr as) (fun vs=>WC F f (vs++jfk caps) h (fun v h'=>WO F l (v::st) (jcs fr dst v) h' Q)):=by
 rw[joo]
 refine propext ⟨fun⟨n,v,h',h1,h2⟩=>?_,fun⟨f,caps,hx,vs,h1,n,v,h',h2,h3⟩=>⟨n,v,h',jaa.2 ⟨true,rfl,jaa.2 ⟨_,hx,?_⟩⟩,h3⟩⟩
 .have h1':ob (ev st fr x) (fun v=>jvc v (fun f caps=>ob (evs st fr as) (fun vs=>jbt F (run F n) f (jgi vs (jfk caps)) h)))=some (v,h'):=h1
  obtain⟨w,hw,h4⟩:=jaa.1 h1'
  obtain⟨f,caps,rfl,h5⟩:=jdz h4
  obtain⟨vs,h6,h7⟩:=jaa.1 h5
  rw[jct] at h7
  exact⟨f,caps,hw,vs,h6,n,v,h',h7,h2⟩
 .show ob (evs st fr as) (fun vs=>jbt F (run F n) f (jgi vs (jfk caps)) h)=some (v,h')
  refine jaa.2 ⟨vs,h1,?_⟩
  rw[jct]
  exact h2
def gP (v:Option AV) (t:Bool) (X Y:Prop):Prop:=∃ x,v=some x/\((∃ b,x=.s (.bool b)/\if b=t then X else Y)∨(x=.undef/\Y))
theorem j59 {X Y:Prop}:gP (some (.s (.bool b))) t X Y=if b=t then X else Y:=propext ⟨fun⟨x,e,h⟩=>by
 cases e
 rcases h with⟨c,e,h⟩ | ⟨h,_⟩
 .cases e;exact h
 .exact (by cases h),fun h=>⟨_,rfl,.inl ⟨b,rfl,h⟩⟩⟩
theorem j0w {X Y:Prop}:gP (some .undef) t X Y=Y:=propext ⟨fun⟨x,e,h⟩=>by
 cases e
 rcases h with⟨c,e,h⟩ | ⟨_,h⟩
 .cases e
 .exact h,fun h=>⟨_,rfl,.inr ⟨rfl,h⟩⟩⟩
theorem jd7:j4r st (some (i,t))=some b↔∃ x,jd3 st i=some x/\((∃ c,x=.s (.bool c)/\b=decide (c=t))∨(x=.undef/\b=false)):=by
 have e:j4r st (some (i,t))=ob (jd3 st i) (fun v=>svc (some false) v (fun s=>jqf s (fun b=>some (oif t b (jkt b))))):=rfl
 rw[e]
 constructor
 .intro h1
  obtain⟨x,hx,h2⟩:=jaa.1 h1
  refine⟨x,hx,?_⟩
  cases x with
  | s x =>
   cases x with
   | bool c=>left;exact⟨c,rfl,by cases c<;>cases t<;>exact(Option.some.inj h2).symm⟩
   | _=>cases h2
  | undef=>right;exact⟨rfl,(Option.some.inj h2).symm⟩
  | _=>cases h2
 .rintro ⟨x,hx,h1⟩
  refine jaa.2 ⟨x,hx,?_⟩
  rcases h1 with⟨c,rfl,rfl⟩ | ⟨rfl,rfl⟩
  .cases c<;>cases t<;>rfl
  .rfl
theorem qbb {dst:Option Nat} {op:IOp} {l:List IOper}:WO F (.mk dst op (some (i,t))::l) st fr h Q=gP (jd3 st i) t (WO F (.mk dst op none::l) st fr h Q) (WO F l (.undef::st) (jcs fr dst .undef) h Q):=by
 rw[joo,joo]
 refine propext ⟨fun⟨n,v,h',h1,h2⟩=>?_,fun⟨x,hx,h1⟩=>?_⟩
 .obtain ⟨b,hb,h3⟩:=jaa.1 (show ob (j4r st (some (i,t))) (fun b=>Bool.rec (motive:=fun _=>R) (ok .undef h) (iop (jbt F (run F n)) st fr h op) b)=some (v,h') from h1)
  obtain⟨x,hx,h4⟩:=jd7.1 hb
  refine⟨x,hx,?_⟩
  rcases h4 with⟨c,rfl,rfl⟩ | ⟨h4,rfl⟩
  .left
   refine⟨c,rfl,?_⟩
   split
   .rename_i hc;rw[hc,decide_eq_true rfl] at h3;exact⟨n,v,h',jaa.2 ⟨true,rfl,h3⟩,h2⟩
   .rename_i hc;rw[decide_eq_false hc] at h3;cases h3;exact h2
  .right;cases h3;exact⟨h4,h2⟩
 .rcases h1 with⟨c,rfl,h1⟩ | ⟨h1,h2⟩
  .split at h1
   .rename_i hc
    obtain⟨n,v,h',h3,h4⟩:=h1
    refine⟨n,v,h',jaa.2 ⟨true,jd7.2 ⟨_,hx,.inl ⟨c,rfl,(decide_eq_true hc).symm⟩⟩,?_⟩,h4⟩
    obtain⟨b,hb,h5⟩:=jaa.1 h3
    cases hb
    exact h5
   .rename_i hc
    exact⟨0,.undef,h,jaa.2 ⟨false,jd7.2 ⟨_,hx,.inl ⟨c,rfl,(decide_eq_false hc).symm⟩⟩,rfl⟩,h1⟩
  .exact ⟨0,.undef,h,jaa.2 ⟨false,jd7.2 ⟨_,hx,.inr ⟨h1,rfl⟩⟩,rfl⟩,h2⟩
theorem j6a {es:List Ent}:WD F [] st es fr h Q=Q .normal (.mk fr h):=propext ⟨fun⟨n,s',h1,h2⟩=>by cases h1;exact h2,fun h=>⟨0,_,rfl,h⟩⟩
theorem jlj {es:List Ent} {dst:Option Nat} {op:IOp} {g:Option (Nat×Bool)} {m:Option (List Nat)} {l:List (IOper×Option (List Nat))}:WD F ((.mk dst op g,m)::l) st es fr h Q=∃ n v h' e,jxs (jbt F (run F n)) st fr es h op g m=some (.mk v h' e)/\WD F l (v::st) (e::es) (jcs fr dst v) h' Q:=by
 refine propext ⟨fun⟨n,s',h1,h2⟩=>?_,fun⟨n,v,h',e,h1,k,s',h2,h3⟩=>?_⟩
 .obtain ⟨p,h3,h4⟩:=jaa.1 (show ob (jxs (jbt F (run F n)) st fr es h op g m) (fun p=>DR.casesOn (motive:=fun _=>Option St) p (fun v h' e=>jx0 (jbt F (run F n)) l (v::st) (e::es) (jcs fr dst v) h'))=some s' from h1)
  obtain⟨v,h',e⟩:=p
  exact⟨n,v,h',e,h3,n,s',h4,h2⟩
 .exact ⟨max n k,s',jaa.2 ⟨.mk v h' e,jv4 (jcm (jdb F (f1p n k))) h1,jok (jcm (jdb F (f1l n k))) h2⟩,h3⟩
theorem j6b {es:List Ent} {dst:Option Nat} {op:IOp} {m:Option (List Nat)} {l:List (IOper×Option (List Nat))} {x:Option DR} (hx:∀ cl,jxs cl st fr es h op none m=x):WD F ((.mk dst op none,m)::l) st es fr h Q=obP x (fun p=>DR.casesOn (motive:=fun _=>Prop) p (fun v h' e=>WD F l (v::st) (e::es) (jcs fr dst v) h' Q)):=by
 rw[jlj]
 refine propext ⟨fun⟨n,v,h',e,h1,h2⟩=>⟨.mk v h' e,?_,h2⟩,fun⟨p,h1,h2⟩=>?_⟩
 .rw [←hx (jbt F (run F n))];exact h1
 .obtain ⟨v,h',e⟩:=p
  exact⟨0,v,h',e,by rw[hx];exact h1,h2⟩
theorem qf9 {es:List Ent} {dst:Option Nat} {o:PO} {l:List (IOper×Option (List Nat))}:WD F ((.mk dst (.p o) none,none)::l) st es fr h Q=obP (pop st fr o) (fun v=>WD F l (v::st) (.mk [] (some [])::es) (jcs fr dst v) h Q):=by
 rw[j6b (x:=ob (pop st fr o) (fun v=>some (DR.mk v h (.mk [] (some []))))) (fun cl=>?_)]
 .refine propext ⟨fun⟨p,h1,h2⟩=>?_,fun⟨v,h1,h2⟩=>⟨.mk v h (.mk [] (some [])),jaa.2 ⟨v,h1,rfl⟩,h2⟩⟩
  obtain⟨v,h3,h4⟩:=jaa.1 h1
  cases h4
  exact⟨v,h3,h2⟩
 .show ob (ob (pop st fr o) (fun v=>ok v h)) (fun p=>some (DR.mk p.1 p.2 (.mk [] (some []))))=_
  cases pop st fr o<;>rfl
theorem jjv {es:List Ent} {dst:Option Nat} {o:AO} {l:List (IOper×Option (List Nat))} (ho:o.calls=false):WD F ((.mk dst (.a o) none,none)::l) st es fr h Q=obP (jex st fr h o) (fun p=>WD F l (p.1::st) (.mk [] (some [])::es) (jcs fr dst p.1) p.2 Q):=by
 rw[j6b (x:=ob (jex st fr h o) (fun p=>some (DR.mk p.1 p.2 (.mk [] (some []))))) (fun cl=>?_)]
 .refine propext ⟨fun⟨p,h1,h2⟩=>?_,fun⟨p,h1,h2⟩=>⟨.mk p.1 p.2 (.mk [] (some [])),jaa.2 ⟨p,h1,rfl⟩,h2⟩⟩
  obtain⟨q,h3,h4⟩:=jaa.1 h1
  cases h4
  exact⟨q,h3,h2⟩
 .show ob (aop cl st fr h o) (fun p=>some (DR.mk p.1 p.2 (.mk [] (some []))))=_
  rw[jio ho]
theorem qga {es:List Ent} {dst:Option Nat} {f:FuncId} {as:List Od} {l:List (IOper×Option (List Nat))}:WD F ((.mk dst (.a (.call f as)) none,none)::l) st es fr h Q=obP (evs st fr as) (fun vs=>WC F f vs h (fun v h'=>WD F l (v::st) (.mk [] (some [])::es) (jcs fr dst v) h' Q)):=by
 rw[jlj]
 refine propext ⟨fun⟨n,v,h',e,h1,h2⟩=>?_,fun⟨vs,h1,n,v,h',h2,h3⟩=>⟨n,v,h',.mk [] (some []),jaa.2 ⟨true,rfl,jaa.2 ⟨(v,h'),jaa.2 ⟨vs,h1,h2⟩,rfl⟩⟩,h3⟩⟩
 have h1':ob (ob (evs st fr as) (fun vs=>jbt F (run F n) f vs h)) (fun p=>some (DR.mk p.1 p.2 (.mk [] (some []))))=some (.mk v h' e):=h1
 obtain⟨p,h4,h5⟩:=jaa.1 h1'
 obtain⟨vs,h6,h7⟩:=jaa.1 h4
 cases h5
 exact⟨vs,h6,n,p.1,p.2,h7,h2⟩
theorem jv6 {es:List Ent} {dst:Option Nat} {o:PO} {js:List Nat} {l:List (IOper×Option (List Nat))}:WD F ((.mk dst (.p o) none,some js)::l) st es fr h Q=obP (sel es js h.hid) (fun _=>obP (pop st fr o) (fun v=>WD F l (v::st) (.mk [(h.next,h.next)] (some [])::es) (jcs fr dst v) h Q)):=by
 cases h with
 | mk n t lo hid =>
 rw[j6b (x:=ob (sel es js hid) (fun hid'=>ob (pop st fr o) (fun v=>some (DR.mk v (.mk n t lo hid) (.mk [(n,n)] (some [])))))) (fun cl=>?_)]
 .refine propext ⟨fun⟨p,h1,h2⟩=>?_,fun⟨hid',h0,v,h1,h2⟩=>⟨.mk v (.mk n t lo hid) (.mk [(n,n)] (some [])),jaa.2 ⟨hid',h0,jaa.2 ⟨v,h1,rfl⟩⟩,h2⟩⟩
  obtain⟨hid',h3,h4⟩:=jaa.1 h1
  obtain⟨v,h5,h6⟩:=jaa.1 h4
  cases h6
  exact⟨hid',h3,v,h5,h2⟩
 .show ob (sel es js hid) (fun hid'=>ob (ob (pop st fr o) (fun v=>ok v (.mk n t n hid'))) (fun p=>Hp.casesOn (motive:=fun _=>Option DR) p.2 (fun n' t' _ _=>some (.mk p.1 (.mk n' t' lo hid) (.mk [(n,n')] (some []))))))=_
  congr 1
  funext hid'
  cases pop st fr o<;>rfl
theorem qbc {es:List Ent} {dst:Option Nat} {op:IOp} {m:Option (List Nat)} {l:List (IOper×Option (List Nat))}:WD F ((.mk dst op (some (i,t)),m)::l) st es fr h Q=gP (jd3 st i) t (WD F ((.mk dst op none,m)::l) st es fr h Q) (WD F l (.undef::st) (.mk [] (some [])::es) (jcs fr dst .undef) h Q):=by
 rw[jlj,jlj]
 have go:∀ n g v h' e,jxs (jbt F (run F n)) st fr es h op g m=some (.mk v h' e)↔∃ b,j4r st g=some b/\((b=false/\v=.undef/\h'=h/\e=.mk [] (some []))∨(b=true/\jxs (jbt F (run F n)) st fr es h op none m=some (.mk v h' e))):=fun n g v h' e=>by
  constructor
  .intro h1
   obtain⟨b,hb,h3⟩:=jaa.1 h1
   refine⟨b,hb,?_⟩
   cases b with
   | false=>cases h3;exact .inl ⟨rfl,rfl,rfl,rfl⟩
   | true=>exact .inr ⟨rfl,jaa.2 ⟨true,rfl,h3⟩⟩
  .rintro ⟨b,hb,⟨rfl,rfl,rfl,rfl⟩ | ⟨rfl,h1⟩⟩
   .exact jaa.2 ⟨false,hb,rfl⟩
   .obtain ⟨c,hc,h2⟩:=jaa.1 h1
    cases hc
    exact jaa.2 ⟨true,hb,h2⟩
 refine propext ⟨fun⟨n,v,h',e,h1,h2⟩=>?_,fun⟨x,hx,h1⟩=>?_⟩
 .obtain ⟨b,hb,h3⟩:=(go n _ v h' e).1 h1
  obtain⟨x,hx,h4⟩:=jd7.1 hb
  refine⟨x,hx,?_⟩
  rcases h4 with⟨c,rfl,rfl⟩ | ⟨h4,rfl⟩
  .left
   refine⟨c,rfl,?_⟩
   split
   .rename_i hc
    rcases h3 with⟨h3,_⟩ | ⟨_,h3⟩
    .rw [decide_eq_true hc] at h3;cases h3
    .exact ⟨n,v,h',e,h3,h2⟩
   .rename_i hc
    rcases h3 with⟨_,rfl,rfl,rfl⟩ | ⟨h3,_⟩
    .exact h2
    .rw [decide_eq_false hc] at h3;cases h3
  .right
   rcases h3 with⟨_,rfl,rfl,rfl⟩ | ⟨h3,_⟩
   .exact ⟨h4,h2⟩
   .cases h3
 .rcases h1 with⟨c,rfl,h1⟩ | ⟨h1,h2⟩
  .split at h1
   .rename_i hc
    obtain⟨n,v,h',e,h3,h4⟩:=h1
    exact⟨n,v,h',e,(go n _ v h' e).2 ⟨true,jd7.2 ⟨_,hx,.inl ⟨c,rfl,(decide_eq_true hc).symm⟩⟩,.inr ⟨rfl,h3⟩⟩,h4⟩
   .rename_i hc
    exact⟨0,.undef,h,_,(go 0 _ _ _ _).2 ⟨false,jd7.2 ⟨_,hx,.inl ⟨c,rfl,(decide_eq_false hc).symm⟩⟩,.inl ⟨rfl,rfl,rfl,rfl⟩⟩,h1⟩
  .exact ⟨0,.undef,h,_,(go 0 _ _ _ _).2 ⟨false,jd7.2 ⟨_,hx,.inr ⟨h1,rfl⟩⟩,.inl ⟨rfl,rfl,rfl,rfl⟩⟩,h2⟩
end
def qdc (res:List IR) (Q:AV->Hp->Prop) (e:Ex) (s:St):Prop:=Ex.casesOn (motive:=fun _=>Prop) e (obP (jb9 s res) (fun p=>Q p.1 p.2)) (fun _=>False) (obP (jb9 s res) (fun p=>Q p.1 p.2))
section
variable {F:Fns} {h:Hp} {vs:List AV} {f:FuncId} {Q:AV->Hp->Prop}
theorem jba {body:IC} {nargs nslots:Nat} {res:List IR} (hx:jcp F f vs h=none) (hT:j5i F f=some (.mk body nargs nslots res)) (hl:vs.length=nargs)
 (h1:W F body (.mk (vs++jc4 nslots) h) (qdc res Q)):WC F f vs h Q:=by
 obtain⟨n,e,s',h2,h3⟩:=h1
 cases F with
 | mk T X =>
 have hx':X f vs h=none:=hx
 rw[←jct] at h2
 cases e with
 | normal =>
  obtain⟨p,h4,h5⟩:=(show obP (jb9 s' res) (fun p=>Q p.1 p.2) from h3)
  obtain⟨m,hm⟩:=qdb (v:=p.1) (h':=p.2) hx' hT (by rw[jbr];exact hl) ⟨n,h2⟩ (.inl rfl) h4
  exact⟨m,p.1,p.2,hm,h5⟩
 | exit k=>exact h3.elim
 | ret =>
  obtain⟨p,h4,h5⟩:=(show obP (jb9 s' res) (fun p=>Q p.1 p.2) from h3)
  obtain⟨m,hm⟩:=qdb (v:=p.1) (h':=p.2) hx' hT (by rw[jbr];exact hl) ⟨n,h2⟩ (.inr rfl) h4
  exact⟨m,p.1,p.2,hm,h5⟩
theorem j6c {h':Hp} (hx:jcp F f vs h=some (u,h')) (hq:Q u h'):WC F f vs h Q:=by
 cases F with
 | mk T X =>
 have hx':X f vs h=some (u,h'):=hx
 refine⟨0,u,h',?_,hq⟩
 show Option.rec (motive:=fun _=>R) _ (fun r=>some r) (X f vs h)=_
 rw[hx']
end
theorem jjw {f g:SV->Option SV} (hf:∀ x y,f x=some y->g x=some y):∀ {l r:List SV},jgl f l=some r->jgl g l=some r
 | [],r,h=>h
 | a::l,r,h=>by
  obtain⟨x,h1,h2⟩:=jaa.1 (show ob (f a) (fun x=>ob (jgl f l) (fun r=>some (x::r)))=some r from h)
  obtain⟨r',h3,h4⟩:=jaa.1 h2
  exact jaa.2 ⟨x,hf _ _ h1,jaa.2 ⟨r',jjw hf h3,h4⟩⟩
theorem jre {h:Hp}:∀ (d:Nat) (x y:SV),jfp k h d x=some y->jfp k h (d+1) x=some y
 | 0,x,y,hx=>by cases hx
 | d+1,x,y,hx=>by
  cases x with
  | slice b off len mc ex sz =>
   cases len with
   | zero=>exact hx
   | succ len =>
    obtain⟨cs,h1,h2⟩:=jaa.1 (show ob (rd h b off (Nat.mul (len+1) sz)) (fun cs=>ob (jgl (jfp k h d) cs) (fun cs=>ob (jmi sz (len+1) cs) (fun rows=>some (.lst rows))))=some y from hx)
    obtain⟨cs',h3,h4⟩:=jaa.1 h2
    exact jaa.2 ⟨cs,h1,jaa.2 ⟨cs',jjw (jre d) h3,h4⟩⟩
  | _=>exact hx
theorem jop {h:Hp} (hd:d<=e) {x y:SV} (hx:jfp k h d x=some y):jfp k h e x=some y:=by
 induction e with
 | zero=>obtain rfl:d=0:=by omega
         exact hx
 | succ e ih =>
  rcases f0g e d with h1 | h1
  .obtain rfl:d=e+1:=by omega
   exact hx
  .exact jre e _ _ (ih h1)
theorem jv7 {f g:SV->Option SV} (hf:∀ x y,f x=some y->g x=some y):∀ {l r:List (Bool×List SV)},qav f l=some r->qav g l=some r
 | [],r,h=>h
 | p::l,r,h=>by
  obtain⟨x,h1,h2⟩:=jaa.1 (show ob (jgl f p.2) (fun x=>ob (qav f l) (fun r=>some ((p.1,x)::r)))=some r from h)
  obtain⟨r',h3,h4⟩:=jaa.1 h2
  exact jaa.2 ⟨x,jjw hf h1,jaa.2 ⟨r',jv7 hf h3,h4⟩⟩
theorem joq {h:Hp} (hd:d<=e) {x y:AV} (hx:jgm k h d x=some y):jgm k h e x=some y:=by
 cases x with
 | s x =>
  obtain⟨y',h1,h2⟩:=jaa.1 (show ob (jfp k h d x) (fun y=>some (AV.s y))=some y from hx)
  exact jaa.2 ⟨y',jop hd h1,h2⟩
 | agg l =>
  obtain⟨y',h1,h2⟩:=jaa.1 (show ob (jgl (jfp k h d) l) (fun y=>some (AV.agg y))=some y from hx)
  exact jaa.2 ⟨y',jjw (fun _ _=>jop hd) h1,h2⟩
 | tup l =>
  obtain⟨y',h1,h2⟩:=jaa.1 (show ob (qav (jfp k h d) l) (fun y=>some (AV.tup y))=some y from hx)
  exact jaa.2 ⟨y',jv7 (fun _ _=>jop hd) h1,h2⟩
 | _=>exact hx
theorem jlk {h:Hp} (hd:d<=e):∀ {l r:List AV},jvt k h d l=some r->jvt k h e l=some r
 | [],r,h=>h
 | a::l,r,hr=>by
  obtain⟨x,h1,h2⟩:=jaa.1 (show ob (jgm k h d a) (fun x=>ob (jvt k h d l) (fun r=>some (x::r)))=some r from hr)
  obtain⟨r',h3,h4⟩:=jaa.1 h2
  exact jaa.2 ⟨x,joq hd h1,jaa.2 ⟨r',jlk hd h3,h4⟩⟩
def jmq (k:Bool) (F:Fns) (f:FuncId) (vs:List AV) (u:AV):Prop:=WC F f vs h0 (fun v hi=>∃ d,jgm k hi d v=some u)
theorem jmq.one {F:Fns} {f:FuncId} {vs:List AV} (h:jmq k F f vs u) (h':jmq k F f vs u'):u=u':=by
 obtain⟨n,v,hi,h1,d,h2⟩:=h
 obtain⟨m,v',hi',h3,d',h4⟩:=h'
 have e1:jih F (max n m) f vs h0=some (v,hi):=jcm (jdb F (f1p n m)) _ _ _ _ h1
 have e2:jih F (max n m) f vs h0=some (v',hi'):=jcm (jdb F (f1l n m)) _ _ _ _ h3
 rw[e1] at e2
 cases e2
 have e3:=joq (f1p d d') h2
 have e4:=joq (f1l d d') h4
 rw[e3] at e4
 exact Option.some.inj e4
def qdd (F:Fns) (f:FuncId) (vs:List AV) (h:Hp) (u:AV):Prop:=∃ us d,jvt true h d vs=some us/\jmq false F f us u
theorem qdd.one {F:Fns} {f:FuncId} {vs:List AV} {h:Hp} (k:qdd F f vs h u) (k':qdd F f vs h u'):u=u':=by
 obtain⟨us,d,h1,h2⟩:=k
 obtain⟨us',d',h3,h4⟩:=k'
 have e3:=jlk (f1p d d') h1
 have e4:=jlk (f1l d d') h3
 rw[e3] at e4
 cases e4
 exact h2.one h4
open Classical in
def pxA (F:Fns) (f:FuncId) (vs:List AV) (h:Hp):Option AV :=
 if h1:jmo vs=true/\∃ u,jmq true F f vs u then some (Classical.choose h1.2)
 else if h2:∃ u,qdd F f vs h u then some (Classical.choose h2) else none
theorem qbd {F:Fns} {f:FuncId} {vs:List AV} {h:Hp} (hg:jmo vs=true) (k:jmq true F f vs u):pxA F f vs h=some u:=by
 unfold pxA
 rw[dif_pos ⟨hg,u,k⟩]
 exact congrArg some ((Classical.choose_spec (p:=fun u=>jmq true F f vs u) ⟨u,k⟩).one k)
theorem qbe {F:Fns} {f:FuncId} {vs:List AV} {h:Hp} (hg:jmo vs=false) (k:qdd F f vs h u):pxA F f vs h=some u:=by
 unfold pxA
 rw[dif_neg (fun e=>by rw[hg] at e;cases e.1),dif_pos ⟨u,k⟩]
 exact congrArg some ((Classical.choose_spec (p:=fun u=>qdd F f vs h u) ⟨u,k⟩).one k)
theorem qbf {F:Fns} {f:FuncId} {vs:List AV} {h:Hp} (k:pxA F f vs h=some u):(jmo vs=true/\jmq true F f vs u)∨qdd F f vs h u:=by
 unfold pxA at k
 split at k
 .rename_i h1
  cases k
  exact .inl ⟨h1.1,Classical.choose_spec h1.2⟩
 .split at k
  .rename_i h2
   cases k
   exact .inr (Classical.choose_spec h2)
  .cases k
def PX (S:FuncId->Bool) (F:Fns):Fns:=.mk (j5i F) (fun f vs h=>Bool.rec (motive:=fun _=>R) (jcp F f vs h) (ob (pxA F f vs h) (fun u=>ok u h)) (S f))
theorem jbh {S:FuncId->Bool} {F:Fns} {f:FuncId} {vs:List AV} {h:Hp} (hS:S f=true) (hg:jmo vs=true) (k:jmq true F f vs u):jcp (PX S F) f vs h=some (u,h):=by
 show Bool.rec (motive:=fun _=>R) (jcp F f vs h) (ob (pxA F f vs h) (fun u=>ok u h)) (S f)=_
 rw[hS,qbd hg k];rfl
theorem qgb {S:FuncId->Bool} {F:Fns} {f:FuncId} {vs:List AV} {h:Hp} (hS:S f=true) (hg:jmo vs=false) (k:qdd F f vs h u):jcp (PX S F) f vs h=some (u,h):=by
 show Bool.rec (motive:=fun _=>R) (jcp F f vs h) (ob (pxA F f vs h) (fun u=>ok u h)) (S f)=_
 rw[hS,qbe hg k];rfl
theorem jbf {S:FuncId->Bool} {F:Fns} {f:FuncId} {vs:List AV} {h:Hp} (hS:S f=false):jcp (PX S F) f vs h=jcp F f vs h:=by
 show Bool.rec (motive:=fun _=>R) (jcp F f vs h) (ob (pxA F f vs h) (fun u=>ok u h)) (S f)=_
 rw[hS]
theorem jgb {P:Program} {A:Nat->Int} {T:Tr TI} {S:FuncId->Bool} {F:Fns} (env:Env P A T F):Env P A T (PX S F) where
 tys:=env.tys
 mix:=env.mix
 fn:=env.fn
 ext:=fun f vs h v h' hx=>by
  cases hS:S f with
  | false=>rw[jbf hS] at hx;exact env.ext f vs h v h' hx
  | true =>
   have hx':ob (pxA F f vs h) (fun u=>ok u h)=some (v,h'):=by
    have e:jcp (PX S F) f vs h=Bool.rec (motive:=fun _=>R) (jcp F f vs h) (ob (pxA F f vs h) (fun u=>ok u h)) (S f):=rfl
    rw[e,hS] at hx
    exact hx
   obtain⟨u,hu,h1⟩:=jaa.1 hx'
   cases h1
   rcases qbf hu with⟨hg,n,v0,hi,h1,d,h2⟩ | ⟨us,d,h1,n,v0,hi,h2,d',h3⟩
   .exact ⟨(jd0 env (jf7 env n).1 f vs h0 v0 hi h1).1,fun k=>Abs.refl _ k,fun φ w args rel ha=>j5l env h1 h2 hg rel args ha⟩
   .exact ⟨(jd0 env (jf7 env n).1 f us h0 v0 hi h2).1,fun k=>Abs.refl _ k,fun φ w args rel ha=>j3j env h1 h2 h3 rel args ha⟩
theorem jv8 {P:Program} {A:Nat->Int} {T:Tr TI} {F:Fns} (env:Env P A T F) {f:FuncId} {vs:List AV} {d:Unit} (k:WC F f vs h0 (fun v _=>v=.s (.bool true))) {c:Nat->Option (Array Value)} {w:World} (hk:jqk c w) (args:Array Value) (ha:All2 (cV A (qab c)) vs args.toList) :
 Calls P f args w (fun e w'=>e=.returned (.bool true)/\Below w.heap.size w w'):=by
 obtain⟨n,v,h',h1,rfl⟩:=k
 exact qau env (n:=n) (by rw[h1];rfl) hk args ha
end
end Go.Proofs.Ytalbjjoppndjjaa.Ev
