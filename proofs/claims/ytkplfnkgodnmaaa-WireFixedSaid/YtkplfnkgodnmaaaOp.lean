/- Runs of the interpreter step by step: more fuel answers the same; rules for code, regions, calls. No program in sight. -/
import Derived.Test.YtkplfnkgodnmaaaRun
import Derived.Test.YtkplfnkgodnmaaaIso
namespace Go.Proofs.Ytkplfnkgodnmaaa.Ev
noncomputable section
open Go
set_option linter.all false
def jzv (cl cl':FuncId->List AV->Hp->R):Prop:=∀ f vs h r,cl f vs h=some r->cl' f vs h=some r
def qf9 (ih ih':RC):Prop:=∀ c s r,ih c s=some r->ih' c s=some r
section
variable {cl cl':FuncId->List AV->Hp->R} {st fr:List AV} {h:Hp} {F:Fns} {ih ih':RC}
theorem jj8 (hc:jzv cl cl') {op:IOp} {r:AV×Hp} (hr:iop cl st fr h op=some r):iop cl' st fr h op=some r:=by
 cases op with
 | p o=>exact hr
 | a o =>
  cases o with
  | call f as =>
   obtain⟨vs,h1,h2⟩:=jaa.1 (show ob (evs st fr as) (fun vs=>cl f vs h)=some r from hr)
   exact jaa.2 ⟨vs,h1,hc _ _ _ _ h2⟩
  | callv x as =>
   obtain⟨v,h1,h2⟩:=jaa.1 (show ob (ev st fr x) (fun v=>jpv v (fun f caps=>ob (evs st fr as) (fun vs=>cl f (jeq vs (jdx caps)) h)))=some r from hr)
   obtain⟨f,caps,rfl,h3⟩:=jc3 h2
   obtain⟨vs,h4,h5⟩:=jaa.1 h3
   exact jaa.2 ⟨_,h1,jaa.2 ⟨vs,h4,hc _ _ _ _ h5⟩⟩
  | _=>exact hr
theorem jqr (hc:jzv cl cl') {op:IOp} {g:Option (Nat×Bool)} {r:AV×Hp} (hr:jwa cl st fr h op g=some r):jwa cl' st fr h op g=some r:=by
 obtain⟨b,h1,h2⟩:=jaa.1 hr
 refine jaa.2 ⟨b,h1,?_⟩
 cases b with
 | false=>exact h2
 | true=>exact jj8 hc h2
theorem jlt (hc:jzv cl cl'):∀ {l:List IOper} {st fr:List AV} {h:Hp} {s:St},jmj cl l st fr h=some s->jmj cl' l st fr h=some s
 | [],st,fr,h,s,hr=>hr
 | .mk dst op g::l,st,fr,h,s,hr=>by
  obtain⟨p,h1,h2⟩:=jaa.1 (show ob (jwa cl st fr h op g) (fun p=>jmj cl l (p.1::st) (jbl fr dst p.1) p.2)=some s from hr)
  exact jaa.2 ⟨p,jqr hc h1,jlt hc h2⟩
theorem jgd (hc:jzv cl cl') {n:Nat} {t:Tr AB} {lo lo':Nat} {hid hid':List (Nat×Nat)} {op:IOp} {e:Nat->Ent} {d:DR} (hr:jfv cl st fr n t lo lo' hid hid' op e=some d):jfv cl' st fr n t lo lo' hid hid' op e=some d:=by
 obtain⟨p,h1,h2⟩:=jaa.1 hr
 exact jaa.2 ⟨p,jj8 hc h1,h2⟩
theorem jsn (hc:jzv cl cl') {es:List Ent} {op:IOp} {js:List Nat} {d:DR} (hr:jjg cl st fr es h op js=some d):jjg cl' st fr es h op js=some d:=by
 cases h with
 | mk n t lo hid =>
  obtain⟨hid',h1,h2⟩:=jaa.1 (show ob (sel es js hid) (fun hid'=>Cls.casesOn (motive:=fun _=>Option DR) (jbh st fr op)
   (jfv cl st fr n t lo n hid hid' op (fun n'=>.mk [(n,n')] (some [])))
   (fun x=>jfv cl st fr n t lo n hid hid' op (fun _=>.mk [] (some [x])))
   (fun b=>oif (jet es js b) (oif (Nat.ble lo b) (ob (Hp.get (.mk n t lo hid') b) (fun _=>jfv cl st fr n t lo lo hid hid' op (fun n'=>.mk [(b,Nat.succ b),(n,n')] none))) none) none)
   (jfv cl st fr n t lo n hid hid' op (fun _=>.mk [] (some [])))
   (jfv cl st fr n t lo n hid hid' op (fun n'=>.mk [(n,n')] none)))=some d from hr)
  refine jaa.2 ⟨hid',h1,?_⟩
  revert h2
  cases jbh st fr op with
  | fresh=>exact fun h=>jgd hc h
  | load x=>exact fun h=>jgd hc h
  | quiet=>exact fun h=>jgd hc h
  | other=>exact fun h=>jgd hc h
  | app b =>
   intro h2
   obtain⟨h3,h4⟩:=jab.1 h2
   obtain⟨h5,h6⟩:=jab.1 h4
   obtain⟨x,h7,h8⟩:=jaa.1 h6
   exact jab.2 ⟨h3,jab.2 ⟨h5,jaa.2 ⟨x,h7,jgd hc h8⟩⟩⟩
theorem jqs (hc:jzv cl cl') {es:List Ent} {op:IOp} {g:Option (Nat×Bool)} {m:Option (List Nat)} {d:DR} (hr:jrv cl st fr es h op g m=some d):jrv cl' st fr es h op g m=some d:=by
 obtain⟨b,h1,h2⟩:=jaa.1 hr
 refine jaa.2 ⟨b,h1,?_⟩
 cases b with
 | false=>exact h2
 | true =>
  cases m with
  | none =>
   obtain⟨p,h3,h4⟩:=jaa.1 (show ob (iop cl st fr h op) (fun p=>some (.mk p.1 p.2 (.mk [] (some []))))=some d from h2)
   exact jaa.2 ⟨p,jj8 hc h3,h4⟩
  | some js=>exact jsn hc h2
theorem jlu (hc:jzv cl cl'):∀ {l:List (IOper×Option (List Nat))} {st:List AV} {es:List Ent} {fr:List AV} {h:Hp} {s:St},jr1 cl l st es fr h=some s->jr1 cl' l st es fr h=some s
 | [],st,es,fr,h,s,hr=>hr
 | (.mk dst op g,m)::l,st,es,fr,h,s,hr=>by
  obtain⟨p,h1,h2⟩:=jaa.1 (show ob (jrv cl st fr es h op g m) (fun p=>DR.casesOn (motive:=fun _=>Option St) p (fun v h' e=>jr1 cl l (v::st) (e::es) (jbl fr dst v) h'))=some s from hr)
  obtain⟨v,h',e⟩:=p
  exact jaa.2 ⟨_,jqs hc h1,jlu hc h2⟩
theorem jb1 (hi:qf9 ih ih'):jzv (ja0 F ih) (ja0 F ih'):=by
 intro f vs h r hr
 cases F with
 | mk T X =>
  cases hx:X f vs h with
  | some v =>
   have h1:∀ ih:RC,ja0 (.mk T X) ih f vs h=some v:=by
    intro ih
    show Option.rec (motive:=fun _=>R) _ (fun r=>some r) (X f vs h)=_
    rw[hx]
   rw[h1] at hr ⊢
   exact hr
  | none =>
   have e:∀ ih:RC,ja0 (.mk T X) ih f vs h=ob (T f) (fun fn=>IF.casesOn (motive:=fun _=>R) fn (fun body nargs nslots res=>oif (Nat.beq (ja9 vs) nargs) (ob (ih body (.mk (jeq vs (jcf nslots)) h)) (fun p =>
    Ex.casesOn (motive:=fun _=>R) p.1 (jbq p.2 res) (fun _=>none) (jbq p.2 res))) none)):=by
    intro ih
    show Option.rec (motive:=fun _=>R) _ (fun r=>some r) (X f vs h)=_
    rw[hx]
   rw[e] at hr ⊢
   obtain⟨fn,h1,h2⟩:=jaa.1 hr
   refine jaa.2 ⟨fn,h1,?_⟩
   cases fn with
   | mk body nargs nslots res =>
    obtain⟨h3,h4⟩:=jab.1 (show oif (Nat.beq (ja9 vs) nargs) (ob (ih body (.mk (jeq vs (jcf nslots)) h)) (fun p=>Ex.casesOn (motive:=fun _=>R) p.1 (jbq p.2 res) (fun _=>none) (jbq p.2 res))) none=some r from h2)
    obtain⟨p,h5,h6⟩:=jaa.1 h4
    exact jab.2 ⟨h3,jaa.2 ⟨p,hi _ _ _ h5,h6⟩⟩
theorem jso (hi:qf9 ih ih'):qf9 (jtz F ih) (jtz F ih'):=by
 intro c s r hr
 have hc:=jb1 (F:=F) hi
 cases c with
 | skip=>exact hr
 | exit id=>exact hr
 | ret=>exact hr
 | region ops =>
  cases s with
  | mk fr h =>
   obtain⟨s,h1,h2⟩:=jaa.1 (show ob (jmj (ja0 F ih) ops [] fr h) (fun s=>some (.normal,s))=some r from hr)
   exact jaa.2 ⟨s,jlt hc h1,h2⟩
 | draw ops =>
  cases s with
  | mk fr h =>
   obtain⟨s,h1,h2⟩:=jaa.1 (show ob (jr1 (ja0 F ih) ops [] [] fr h) (fun s=>some (.normal,s))=some r from hr)
   exact jaa.2 ⟨s,jlu hc h1,h2⟩
 | seq a b =>
  obtain⟨p,h1,h2⟩:=jaa.1 (show ob (ih a s) (fun p=>Ex.casesOn (motive:=fun _=>Option (Ex×St)) p.1 (ih b p.2) (fun _=>some p) (some p))=some r from hr)
  refine jaa.2 ⟨p,hi _ _ _ h1,?_⟩
  obtain⟨e,s'⟩:=p
  cases e with
  | normal=>exact hi _ _ _ h2
  | exit id=>exact h2
  | ret=>exact h2
 | cond c x y =>
  cases s with
  | mk fr h =>
   obtain⟨v,h1,h2⟩:=jaa.1 (show ob (ev [] fr c) (fun v=>jg8 v (fun t=>ih (oif t x y) (.mk fr h)))=some r from hr)
   obtain⟨t,rfl,h3⟩:=jc2 h2
   exact jaa.2 ⟨_,h1,hi _ _ _ h3⟩
 | block id b =>
  obtain⟨p,h1,h2⟩:=jaa.1 (show ob (ih b s) (fun p=>Ex.casesOn (motive:=fun _=>Option (Ex×St)) p.1 (some p) (fun k=>oif (Nat.beq k id) (some (.normal,p.2)) (some p)) (some p))=some r from hr)
  exact jaa.2 ⟨p,hi _ _ _ h1,h2⟩
 | loop b =>
  obtain⟨p,h1,h2⟩:=jaa.1 (show ob (ih b s) (fun p=>Ex.casesOn (motive:=fun _=>Option (Ex×St)) p.1 (ih (.loop b) p.2) (fun _=>some p) (some p))=some r from hr)
  refine jaa.2 ⟨p,hi _ _ _ h1,?_⟩
  obtain⟨e,s'⟩:=p
  cases e with
  | normal=>exact hi _ _ _ h2
  | exit id=>exact h2
  | ret=>exact h2
theorem jqt (F:Fns):∀ n,qf9 (run F n) (run F (n+1))
 | 0=>fun c s r hr=>by cases hr
 | n+1=>jso (jqt F n)
theorem jcn (F:Fns) {n m:Nat} (h:n<=m):qf9 (run F n) (run F m):=by
 induction m with
 | zero=>obtain rfl:n=0:=by omega
         exact fun c s r hr=>hr
 | succ m ih =>
  rcases f0j m n with h1 | h1
  .obtain rfl:n=m+1:=by omega
   exact fun c s r hr=>hr
  .exact fun c s r hr=>jqt F m _ _ _ (ih h1 _ _ _ hr)
end
def qj6 (F:Fns) (c:IC) (s:St) (e:Ex) (s':St):Prop:=∃ n,run F n c s=some (e,s')
def FnR (F:Fns) (f:FuncId) (vs:List AV) (h:Hp) (v:AV) (h':Hp):Prop:=∃ n,jjz F n f vs h=some (v,h')
section
variable {F:Fns} {st fr:List AV} {h h' h'':Hp} {s s' s'':St} {e:Ex}
theorem j83 {T:FuncId->Option IF} {X:FuncId->List AV->Hp->R} {f:FuncId} {vs:List AV} {v:AV} {body:IC} {nargs nslots:Nat} {res:List IR} (hx:X f vs h=none) (hT:T f=some (.mk body nargs nslots res)) (hl:ja9 vs=nargs)
 (h1:qj6 (.mk T X) body (.mk (jeq vs (jcf nslots)) h) e s') (he:e=.normal∨e=.ret) (hr:jbq s' res=some (v,h')):FnR (.mk T X) f vs h v h':=by
 obtain⟨n,h1⟩:=h1
 refine⟨n,?_⟩
 show Option.rec (motive:=fun _=>R) _ (fun r=>some r) (X f vs h)=_
 rw[hx]
 refine jaa.2 ⟨_,hT,?_⟩
 refine jab.2 ⟨by rw[jev];exact hl,jaa.2 ⟨_,h1,?_⟩⟩
 rcases he with rfl | rfl<;>exact hr
end
open Go Go.RowKit
variable {u u':AV} {b k t:Bool} {d e i id:Nat}
def W (F:Fns) (c:IC) (s:St) (Q:Ex->St->Prop):Prop:=∃ n e s',run F n c s=some (e,s')/\Q e s'
def WO (F:Fns) (l:List IOper) (st fr:List AV) (h:Hp) (Q:Ex->St->Prop):Prop:=∃ n s',jmj (ja0 F (run F n)) l st fr h=some s'/\Q .normal s'
def WD (F:Fns) (l:List (IOper×Option (List Nat))) (st:List AV) (es:List Ent) (fr:List AV) (h:Hp) (Q:Ex->St->Prop):Prop:=∃ n s',jr1 (ja0 F (run F n)) l st es fr h=some s'/\Q .normal s'
def WC (F:Fns) (f:FuncId) (vs:List AV) (h:Hp) (Q:AV->Hp->Prop):Prop:=∃ n v h',jjz F n f vs h=some (v,h')/\Q v h'
def jol (F:Fns) (b:IC) (Q:Ex->St->Prop) (e:Ex) (s:St):Prop:=Ex.casesOn (motive:=fun _=>Prop) e (W F b s Q) (fun k=>Q (.exit k) s) (Q .ret s)
def j4y (id:Nat) (Q:Ex->St->Prop) (e:Ex) (s:St):Prop:=Ex.casesOn (motive:=fun _=>Prop) e (Q .normal s) (fun k=>if k=id then Q .normal s else Q (.exit k) s) (Q .ret s)
def jqu (F:Fns) (b:IC) (Q:Ex->St->Prop) (e:Ex) (s:St):Prop:=Ex.casesOn (motive:=fun _=>Prop) e (W F (.loop b) s Q) (fun k=>Q (.exit k) s) (Q .ret s)
def obP {α:Type} (x:Option α) (f:α->Prop):Prop:=∃ a,x=some a/\f a
def qj7 (v:Option AV) (X Y:Prop):Prop:=∃ b,v=some (.s (.bool b))/\(if b=true then X else Y)
section
variable {F:Fns} {s:St} {st fr:List AV} {h:Hp} {Q:Ex->St->Prop} {α:Type}
theorem jju {b:IC}:jol F b Q .normal s=W F b s Q:=rfl
theorem jw2 {b:IC} {k:Nat}:jol F b Q (.exit k) s=Q (.exit k) s:=rfl
theorem jzw {b:IC}:jol F b Q .ret s=Q .ret s:=rfl
theorem jsp:j4y id Q .normal s=Q .normal s:=rfl
theorem jzx {k:Nat}:j4y id Q (.exit k) s=if k=id then Q .normal s else Q (.exit k) s:=rfl
theorem j51:j4y id Q .ret s=Q .ret s:=rfl
theorem jqv {b:IC}:jqu F b Q .normal s=W F (.loop b) s Q:=rfl
theorem jw3 {b:IC} {k:Nat}:jqu F b Q (.exit k) s=Q (.exit k) s:=rfl
theorem jzy {b:IC}:jqu F b Q .ret s=Q .ret s:=rfl
theorem jbw {a:α} {f:α->Prop}:obP (some a) f=f a:=propext ⟨fun⟨b,e,h⟩=>by cases e;exact h,fun h=>⟨a,rfl,h⟩⟩
theorem jzz {X Y:Prop}:qj7 (some (.s (.bool b))) X Y=if b=true then X else Y:=propext ⟨fun⟨c,e,h⟩=>by cases e;exact h,fun h=>⟨b,rfl,h⟩⟩
theorem jum {c:IC} {n m:Nat} {e:Ex} {s':St} (hn:n<=m) (h:run F n c s=some (e,s')):run F m c s=some (e,s'):=jcn F hn _ _ _ h
theorem W.imp {c:IC} {Q':Ex->St->Prop} (h:W F c s Q) (hq:∀ e s,Q e s->Q' e s):W F c s Q':=let ⟨n,e,s',h1,h2⟩:=h;⟨n,e,s',h1,hq _ _ h2⟩
theorem WC.imp {f:FuncId} {vs:List AV} {Q Q':AV->Hp->Prop} (k:WC F f vs h Q) (hq:∀ v h,Q v h->Q' v h):WC F f vs h Q':=let ⟨n,e,s',h1,h2⟩:=k;⟨n,e,s',h1,hq _ _ h2⟩
theorem qga:W F .skip s Q=Q .normal s:=propext ⟨fun⟨n,e,s',h1,h2⟩=>by cases n with
 | zero=>cases h1
 | succ n=>cases h1;exact h2,fun h=>⟨1,_,_,rfl,h⟩⟩
theorem qj8:W F .ret s Q=Q .ret s:=propext ⟨fun⟨n,e,s',h1,h2⟩=>by cases n with
 | zero=>cases h1
 | succ n=>cases h1;exact h2,fun h=>⟨1,_,_,rfl,h⟩⟩
theorem qgb:W F (.exit id) s Q=Q (.exit id) s:=propext ⟨fun⟨n,e,s',h1,h2⟩=>by cases n with
 | zero=>cases h1
 | succ n=>cases h1;exact h2,fun h=>⟨1,_,_,rfl,h⟩⟩
theorem qgc {a b:IC}:W F (.seq a b) s Q=W F a s (jol F b Q):=by
 refine propext ⟨fun⟨n,e,s',h1,h2⟩=>?_,fun⟨n,e,s',h1,h2⟩=>?_⟩
 .cases n with
  | zero=>cases h1
  | succ n =>
   obtain⟨p,h3,h4⟩:=jaa.1 (show ob (run F n a s) (fun p=>Ex.casesOn (motive:=fun _=>Option (Ex×St)) p.1 (run F n b p.2) (fun _=>some p) (some p))=some (e,s') from h1)
   obtain⟨e1,s1⟩:=p
   refine⟨n,e1,s1,h3,?_⟩
   cases e1 with
   | normal=>exact⟨n,e,s',h4,h2⟩
   | exit k=>cases h4;exact h2
   | ret=>cases h4;exact h2
 .cases e with
  | normal =>
   obtain⟨m,e2,s2,h3,h4⟩:=h2
   exact⟨max n m+1,e2,s2,jaa.2 ⟨_,jum (f1k n m) h1,jum (f1f n m) h3⟩,h4⟩
  | exit k=>exact⟨n+1,_,_,jaa.2 ⟨_,h1,rfl⟩,h2⟩
  | ret=>exact⟨n+1,_,_,jaa.2 ⟨_,h1,rfl⟩,h2⟩
theorem jae {b:IC}:W F (.loop b) s Q=W F b s (jqu F b Q):=by
 refine propext ⟨fun⟨n,e,s',h1,h2⟩=>?_,fun⟨n,e,s',h1,h2⟩=>?_⟩
 .cases n with
  | zero=>cases h1
  | succ n =>
   obtain⟨p,h3,h4⟩:=jaa.1 (show ob (run F n b s) (fun p=>Ex.casesOn (motive:=fun _=>Option (Ex×St)) p.1 (run F n (.loop b) p.2) (fun _=>some p) (some p))=some (e,s') from h1)
   obtain⟨e1,s1⟩:=p
   refine⟨n,e1,s1,h3,?_⟩
   cases e1 with
   | normal=>exact⟨n,e,s',h4,h2⟩
   | exit k=>cases h4;exact h2
   | ret=>cases h4;exact h2
 .cases e with
  | normal =>
   obtain⟨m,e2,s2,h3,h4⟩:=h2
   exact⟨max n m+1,e2,s2,jaa.2 ⟨_,jum (f1k n m) h1,jum (f1f n m) h3⟩,h4⟩
  | exit k=>exact⟨n+1,_,_,jaa.2 ⟨_,h1,rfl⟩,h2⟩
  | ret=>exact⟨n+1,_,_,jaa.2 ⟨_,h1,rfl⟩,h2⟩
theorem qb8 {b:IC}:W F (.block id b) s Q=W F b s (j4y id Q):=by
 have key:∀ k (s1:St),oif (Nat.beq k id) (some (Ex.normal,s1)) (some (.exit k,s1))=if k=id then some (.normal,s1) else some (.exit k,s1):=fun k s1=>by
  rw[jaj];congr 1;exact jev k id
 refine propext ⟨fun⟨n,e,s',h1,h2⟩=>?_,fun⟨n,e,s',h1,h2⟩=>?_⟩
 .cases n with
  | zero=>cases h1
  | succ n =>
   obtain⟨p,h3,h4⟩:=jaa.1 (show ob (run F n b s) (fun p=>Ex.casesOn (motive:=fun _=>Option (Ex×St)) p.1 (some p) (fun k=>oif (Nat.beq k id) (some (.normal,p.2)) (some p)) (some p))=some (e,s') from h1)
   obtain⟨e1,s1⟩:=p
   refine⟨n,e1,s1,h3,?_⟩
   cases e1 with
   | normal=>cases h4;exact h2
   | exit k =>
    have h5:oif (Nat.beq k id) (some (Ex.normal,s1)) (some (.exit k,s1))=some (e,s'):=h4
    rw[key] at h5
    show if k=id then Q .normal s1 else Q (.exit k) s1
    split
    .rename_i hk;rw[if_pos hk] at h5;cases h5;exact h2
    .rename_i hk;rw[if_neg hk] at h5;cases h5;exact h2
   | ret=>cases h4;exact h2
 .cases e with
  | normal=>exact⟨n+1,_,_,jaa.2 ⟨_,h1,rfl⟩,h2⟩
  | exit k =>
   have h3:if k=id then Q .normal s' else Q (.exit k) s':=h2
   split at h3
   .rename_i hk
    exact⟨n+1,_,_,jaa.2 ⟨_,h1,(key k s').trans (if_pos hk)⟩,h3⟩
   .rename_i hk
    exact⟨n+1,_,_,jaa.2 ⟨_,h1,(key k s').trans (if_neg hk)⟩,h3⟩
  | ret=>exact⟨n+1,_,_,jaa.2 ⟨_,h1,rfl⟩,h2⟩
theorem qgd {c:Od} {x y:IC}:W F (.cond c x y) (.mk fr h) Q=qj7 (ev [] fr c) (W F x (.mk fr h) Q) (W F y (.mk fr h) Q):=by
 refine propext ⟨fun⟨n,e,s',h1,h2⟩=>?_,fun⟨b,hb,h2⟩=>?_⟩
 .cases n with
  | zero=>cases h1
  | succ n =>
   obtain⟨v,h3,h4⟩:=jaa.1 (show ob (ev [] fr c) (fun v=>jg8 v (fun t=>run F n (oif t x y) (.mk fr h)))=some (e,s') from h1)
   obtain⟨t,rfl,h5⟩:=jc2 h4
   refine⟨t,h3,?_⟩
   cases t with
   | true=>exact⟨n,e,s',h5,h2⟩
   | false=>exact⟨n,e,s',h5,h2⟩
 .cases b with
  | true =>
   obtain⟨n,e,s',h3,h4⟩:=(show W F x (.mk fr h) Q from h2)
   exact⟨n+1,e,s',jaa.2 ⟨_,hb,h3⟩,h4⟩
  | false =>
   obtain⟨n,e,s',h3,h4⟩:=(show W F y (.mk fr h) Q from h2)
   exact⟨n+1,e,s',jaa.2 ⟨_,hb,h3⟩,h4⟩
theorem j52 {ops:List IOper}:W F (.region ops) (.mk fr h) Q=WO F ops [] fr h Q:=by
 refine propext ⟨fun⟨n,e,s',h1,h2⟩=>?_,fun⟨n,s',h1,h2⟩=>⟨n+1,.normal,s',jaa.2 ⟨_,h1,rfl⟩,h2⟩⟩
 cases n with
 | zero=>cases h1
 | succ n =>
  obtain⟨s1,h3,h4⟩:=jaa.1 (show ob (jmj (ja0 F (run F n)) ops [] fr h) (fun s=>some (Ex.normal,s))=some (e,s') from h1)
  cases h4
  exact⟨n,_,h3,h2⟩
theorem qge {ops:List (IOper×Option (List Nat))}:W F (.draw ops) (.mk fr h) Q=WD F ops [] [] fr h Q:=by
 refine propext ⟨fun⟨n,e,s',h1,h2⟩=>?_,fun⟨n,s',h1,h2⟩=>⟨n+1,.normal,s',jaa.2 ⟨_,h1,rfl⟩,h2⟩⟩
 cases n with
 | zero=>cases h1
 | succ n =>
  obtain⟨s1,h3,h4⟩:=jaa.1 (show ob (jr1 (ja0 F (run F n)) ops [] [] fr h) (fun s=>some (Ex.normal,s))=some (e,s') from h1)
  cases h4
  exact⟨n,_,h3,h2⟩
theorem qgf:WO F [] st fr h Q=Q .normal (.mk fr h):=propext ⟨fun⟨n,s',h1,h2⟩=>by cases h1;exact h2,fun h=>⟨0,_,rfl,h⟩⟩
theorem jlv {dst:Option Nat} {op:IOp} {g:Option (Nat×Bool)} {l:List IOper}:WO F (.mk dst op g::l) st fr h Q=∃ n v h',jwa (ja0 F (run F n)) st fr h op g=some (v,h')/\WO F l (v::st) (jbl fr dst v) h' Q:=by
 refine propext ⟨fun⟨n,s',h1,h2⟩=>?_,fun⟨n,v,h',h1,m,s',h2,h3⟩=>?_⟩
 .obtain ⟨p,h3,h4⟩:=jaa.1 (show ob (jwa (ja0 F (run F n)) st fr h op g) (fun p=>jmj (ja0 F (run F n)) l (p.1::st) (jbl fr dst p.1) p.2)=some s' from h1)
  exact⟨n,p.1,p.2,h3,n,s',h4,h2⟩
 .exact ⟨max n m,s',jaa.2 ⟨(v,h'),jqr (jb1 (jcn F (f1k n m))) h1,jlt (jb1 (jcn F (f1f n m))) h2⟩,h3⟩
theorem qgg {dst:Option Nat} {op:IOp} {l:List IOper} {x:R} (hx:∀ cl,iop cl st fr h op=x):WO F (.mk dst op none::l) st fr h Q=obP x (fun p=>WO F l (p.1::st) (jbl fr dst p.1) p.2 Q):=by
 rw[jlv]
 refine propext ⟨fun⟨n,v,h',h1,h2⟩=>⟨(v,h'),?_,h2⟩,fun⟨p,h1,h2⟩=>⟨0,p.1,p.2,?_,h2⟩⟩
 .rw [←hx (ja0 F (run F n))];exact h1
 .rw [←hx (ja0 F (run F 0))] at h1;exact h1
theorem qb9 {dst:Option Nat} {o:PO} {l:List IOper}:WO F (.mk dst (.p o) none::l) st fr h Q=obP (pop st fr o) (fun v=>WO F l (v::st) (jbl fr dst v) h Q):=by
 rw[qgg (x:=ob (pop st fr o) (fun v=>ok v h)) (fun _=>rfl)]
 refine propext ⟨fun⟨p,h1,h2⟩=>?_,fun⟨v,h1,h2⟩=>⟨(v,h),jaa.2 ⟨v,h1,rfl⟩,h2⟩⟩
 obtain⟨v,h3,h4⟩:=jaa.1 h1
 cases h4
 exact⟨v,h3,h2⟩
def AO.calls:AO->Bool
 | .call _ _=>true
 | .callv _ _=>true
 | _=>false
def jcp (st fr:List AV) (h:Hp) (o:AO):R:=aop (fun _ _ _=>none) st fr h o
theorem jfh {cl:FuncId->List AV->Hp->R} {o:AO} (ho:o.calls=false):aop cl st fr h o=jcp st fr h o:=by
 cases o<;>first | rfl | cases ho
theorem jd3 {dst:Option Nat} {o:AO} {l:List IOper} (ho:o.calls=false):WO F (.mk dst (.a o) none::l) st fr h Q=obP (jcp st fr h o) (fun p=>WO F l (p.1::st) (jbl fr dst p.1) p.2 Q) :=
 qgg (fun _=>jfh ho)
theorem qca {dst:Option Nat} {f:FuncId} {as:List Od} {l:List IOper}:WO F (.mk dst (.a (.call f as)) none::l) st fr h Q=obP (evs st fr as) (fun vs=>WC F f vs h (fun v h'=>WO F l (v::st) (jbl fr dst v) h' Q)):=by
 rw[jlv]
 refine propext ⟨fun⟨n,v,h',h1,h2⟩=>?_,fun⟨vs,h1,n,v,h',h2,h3⟩=>⟨n,v,h',jaa.2 ⟨true,rfl,jaa.2 ⟨vs,h1,h2⟩⟩,h3⟩⟩
 have h1':ob (evs st fr as) (fun vs=>ja0 F (run F n) f vs h)=some (v,h'):=h1
 obtain⟨vs,h4,h5⟩:=jaa.1 h1'
 exact⟨vs,h4,n,v,h',h5,h2⟩
theorem j53 {dst:Option Nat} {x:Od} {as:List Od} {l:List IOper}:WO F (.mk dst (.a (.callv x as)) none::l) st fr h Q=∃ f caps,ev st fr x=some (.s (.func f caps))/\obP (evs st fr as) (fun vs=>WC F f (vs++jdx caps) h (fun v h'=>WO F l (v::st) (jbl fr dst v) h' Q)):=by
 rw[jlv]
 refine propext ⟨fun⟨n,v,h',h1,h2⟩=>?_,fun⟨f,caps,hx,vs,h1,n,v,h',h2,h3⟩=>⟨n,v,h',jaa.2 ⟨true,rfl,jaa.2 ⟨_,hx,?_⟩⟩,h3⟩⟩
 .have h1':ob (ev st fr x) (fun v=>jpv v (fun f caps=>ob (evs st fr as) (fun vs=>ja0 F (run F n) f (jeq vs (jdx caps)) h)))=some (v,h'):=h1
  obtain⟨w,hw,h4⟩:=jaa.1 h1'
  obtain⟨f,caps,rfl,h5⟩:=jc3 h4
  obtain⟨vs,h6,h7⟩:=jaa.1 h5
  rw[jb2] at h7
  exact⟨f,caps,hw,vs,h6,n,v,h',h7,h2⟩
 .show ob (evs st fr as) (fun vs=>ja0 F (run F n) f (jeq vs (jdx caps)) h)=some (v,h')
  refine jaa.2 ⟨vs,h1,?_⟩
  rw[jb2]
  exact h2
def gP (v:Option AV) (t:Bool) (X Y:Prop):Prop:=∃ x,v=some x/\((∃ b,x=.s (.bool b)/\if b=t then X else Y)∨(x=.undef/\Y))
theorem jz0 {X Y:Prop}:gP (some (.s (.bool b))) t X Y=if b=t then X else Y:=propext ⟨fun⟨x,e,h⟩=>by
 cases e
 rcases h with⟨c,e,h⟩ | ⟨h,_⟩
 .cases e;exact h
 .exact (by cases h),fun h=>⟨_,rfl,.inl ⟨b,rfl,h⟩⟩⟩
theorem jun {X Y:Prop}:gP (some .undef) t X Y=Y:=propext ⟨fun⟨x,e,h⟩=>by
 cases e
 rcases h with⟨c,e,h⟩ | ⟨_,h⟩
 .cases e
 .exact h,fun h=>⟨_,rfl,.inr ⟨rfl,h⟩⟩⟩
theorem jde:jx9 st (some (i,t))=some b↔∃ x,jbp st i=some x/\((∃ c,x=.s (.bool c)/\b=decide (c=t))∨(x=.undef/\b=false)):=by
 have e:jx9 st (some (i,t))=ob (jbp st i) (fun v=>svc (some false) v (fun s=>jjx s (fun b=>some (oif t b (jfb b))))):=rfl
 rw[e]
 constructor
 .intro h1
  obtain⟨x,hx,h2⟩:=jaa.1 h1
  refine⟨x,hx,?_⟩
  cases x with
  | s x =>
   cases x with
   | bool c=>left;exact⟨c,rfl,by cases c<;>cases t<;>exact(Option.some.inj h2).symm⟩
   | _=>cases h2
  | undef=>right;exact⟨rfl,(Option.some.inj h2).symm⟩
  | _=>cases h2
 .rintro ⟨x,hx,h1⟩
  refine jaa.2 ⟨x,hx,?_⟩
  rcases h1 with⟨c,rfl,rfl⟩ | ⟨rfl,rfl⟩
  .cases c<;>cases t<;>rfl
  .rfl
theorem j54 {dst:Option Nat} {op:IOp} {l:List IOper}:WO F (.mk dst op (some (i,t))::l) st fr h Q=gP (jbp st i) t (WO F (.mk dst op none::l) st fr h Q) (WO F l (.undef::st) (jbl fr dst .undef) h Q):=by
 rw[jlv,jlv]
 refine propext ⟨fun⟨n,v,h',h1,h2⟩=>?_,fun⟨x,hx,h1⟩=>?_⟩
 .obtain ⟨b,hb,h3⟩:=jaa.1 (show ob (jx9 st (some (i,t))) (fun b=>Bool.rec (motive:=fun _=>R) (ok .undef h) (iop (ja0 F (run F n)) st fr h op) b)=some (v,h') from h1)
  obtain⟨x,hx,h4⟩:=jde.1 hb
  refine⟨x,hx,?_⟩
  rcases h4 with⟨c,rfl,rfl⟩ | ⟨h4,rfl⟩
  .left
   refine⟨c,rfl,?_⟩
   split
   .rename_i hc;rw[hc,decide_eq_true rfl] at h3;exact⟨n,v,h',jaa.2 ⟨true,rfl,h3⟩,h2⟩
   .rename_i hc;rw[decide_eq_false hc] at h3;cases h3;exact h2
  .right;cases h3;exact⟨h4,h2⟩
 .rcases h1 with⟨c,rfl,h1⟩ | ⟨h1,h2⟩
  .split at h1
   .rename_i hc
    obtain⟨n,v,h',h3,h4⟩:=h1
    refine⟨n,v,h',jaa.2 ⟨true,jde.2 ⟨_,hx,.inl ⟨c,rfl,(decide_eq_true hc).symm⟩⟩,?_⟩,h4⟩
    obtain⟨b,hb,h5⟩:=jaa.1 h3
    cases hb
    exact h5
   .rename_i hc
    exact⟨0,.undef,h,jaa.2 ⟨false,jde.2 ⟨_,hx,.inl ⟨c,rfl,(decide_eq_false hc).symm⟩⟩,rfl⟩,h1⟩
  .exact ⟨0,.undef,h,jaa.2 ⟨false,jde.2 ⟨_,hx,.inr ⟨h1,rfl⟩⟩,rfl⟩,h2⟩
theorem qgh {es:List Ent}:WD F [] st es fr h Q=Q .normal (.mk fr h):=propext ⟨fun⟨n,s',h1,h2⟩=>by cases h1;exact h2,fun h=>⟨0,_,rfl,h⟩⟩
theorem jlw {es:List Ent} {dst:Option Nat} {op:IOp} {g:Option (Nat×Bool)} {m:Option (List Nat)} {l:List (IOper×Option (List Nat))}:WD F ((.mk dst op g,m)::l) st es fr h Q=∃ n v h' e,jrv (ja0 F (run F n)) st fr es h op g m=some (.mk v h' e)/\WD F l (v::st) (e::es) (jbl fr dst v) h' Q:=by
 refine propext ⟨fun⟨n,s',h1,h2⟩=>?_,fun⟨n,v,h',e,h1,k,s',h2,h3⟩=>?_⟩
 .obtain ⟨p,h3,h4⟩:=jaa.1 (show ob (jrv (ja0 F (run F n)) st fr es h op g m) (fun p=>DR.casesOn (motive:=fun _=>Option St) p (fun v h' e=>jr1 (ja0 F (run F n)) l (v::st) (e::es) (jbl fr dst v) h'))=some s' from h1)
  obtain⟨v,h',e⟩:=p
  exact⟨n,v,h',e,h3,n,s',h4,h2⟩
 .exact ⟨max n k,s',jaa.2 ⟨.mk v h' e,jqs (jb1 (jcn F (f1k n k))) h1,jlu (jb1 (jcn F (f1f n k))) h2⟩,h3⟩
theorem jsq {es:List Ent} {dst:Option Nat} {op:IOp} {m:Option (List Nat)} {l:List (IOper×Option (List Nat))} {x:Option DR} (hx:∀ cl,jrv cl st fr es h op none m=x):WD F ((.mk dst op none,m)::l) st es fr h Q=obP x (fun p=>DR.casesOn (motive:=fun _=>Prop) p (fun v h' e=>WD F l (v::st) (e::es) (jbl fr dst v) h' Q)):=by
 rw[jlw]
 refine propext ⟨fun⟨n,v,h',e,h1,h2⟩=>⟨.mk v h' e,?_,h2⟩,fun⟨p,h1,h2⟩=>?_⟩
 .rw [←hx (ja0 F (run F n))];exact h1
 .obtain ⟨v,h',e⟩:=p
  exact⟨0,v,h',e,by rw[hx];exact h1,h2⟩
theorem qcb {es:List Ent} {dst:Option Nat} {o:PO} {l:List (IOper×Option (List Nat))}:WD F ((.mk dst (.p o) none,none)::l) st es fr h Q=obP (pop st fr o) (fun v=>WD F l (v::st) (.mk [] (some [])::es) (jbl fr dst v) h Q):=by
 rw[jsq (x:=ob (pop st fr o) (fun v=>some (DR.mk v h (.mk [] (some []))))) (fun cl=>?_)]
 .refine propext ⟨fun⟨p,h1,h2⟩=>?_,fun⟨v,h1,h2⟩=>⟨.mk v h (.mk [] (some [])),jaa.2 ⟨v,h1,rfl⟩,h2⟩⟩
  obtain⟨v,h3,h4⟩:=jaa.1 h1
  cases h4
  exact⟨v,h3,h2⟩
 .show ob (ob (pop st fr o) (fun v=>ok v h)) (fun p=>some (DR.mk p.1 p.2 (.mk [] (some []))))=_
  cases pop st fr o<;>rfl
theorem jej {es:List Ent} {dst:Option Nat} {o:AO} {l:List (IOper×Option (List Nat))} (ho:o.calls=false):WD F ((.mk dst (.a o) none,none)::l) st es fr h Q=obP (jcp st fr h o) (fun p=>WD F l (p.1::st) (.mk [] (some [])::es) (jbl fr dst p.1) p.2 Q):=by
 rw[jsq (x:=ob (jcp st fr h o) (fun p=>some (DR.mk p.1 p.2 (.mk [] (some []))))) (fun cl=>?_)]
 .refine propext ⟨fun⟨p,h1,h2⟩=>?_,fun⟨p,h1,h2⟩=>⟨.mk p.1 p.2 (.mk [] (some [])),jaa.2 ⟨p,h1,rfl⟩,h2⟩⟩
  obtain⟨q,h3,h4⟩:=jaa.1 h1
  cases h4
  exact⟨q,h3,h2⟩
 .show ob (aop cl st fr h o) (fun p=>some (DR.mk p.1 p.2 (.mk [] (some []))))=_
  rw[jfh ho]
theorem qcc {es:List Ent} {dst:Option Nat} {f:FuncId} {as:List Od} {l:List (IOper×Option (List Nat))}:WD F ((.mk dst (.a (.call f as)) none,none)::l) st es fr h Q=obP (evs st fr as) (fun vs=>WC F f vs h (fun v h'=>WD F l (v::st) (.mk [] (some [])::es) (jbl fr dst v) h' Q)):=by
 rw[jlw]
 refine propext ⟨fun⟨n,v,h',e,h1,h2⟩=>?_,fun⟨vs,h1,n,v,h',h2,h3⟩=>⟨n,v,h',.mk [] (some []),jaa.2 ⟨true,rfl,jaa.2 ⟨(v,h'),jaa.2 ⟨vs,h1,h2⟩,rfl⟩⟩,h3⟩⟩
 have h1':ob (ob (evs st fr as) (fun vs=>ja0 F (run F n) f vs h)) (fun p=>some (DR.mk p.1 p.2 (.mk [] (some []))))=some (.mk v h' e):=h1
 obtain⟨p,h4,h5⟩:=jaa.1 h1'
 obtain⟨vs,h6,h7⟩:=jaa.1 h4
 cases h5
 exact⟨vs,h6,n,p.1,p.2,h7,h2⟩
theorem jqw {es:List Ent} {dst:Option Nat} {o:PO} {js:List Nat} {l:List (IOper×Option (List Nat))}:WD F ((.mk dst (.p o) none,some js)::l) st es fr h Q=obP (sel es js h.hid) (fun _=>obP (pop st fr o) (fun v=>WD F l (v::st) (.mk [(h.next,h.next)] (some [])::es) (jbl fr dst v) h Q)):=by
 cases h with
 | mk n t lo hid =>
 rw[jsq (x:=ob (sel es js hid) (fun hid'=>ob (pop st fr o) (fun v=>some (DR.mk v (.mk n t lo hid) (.mk [(n,n)] (some [])))))) (fun cl=>?_)]
 .refine propext ⟨fun⟨p,h1,h2⟩=>?_,fun⟨hid',h0,v,h1,h2⟩=>⟨.mk v (.mk n t lo hid) (.mk [(n,n)] (some [])),jaa.2 ⟨hid',h0,jaa.2 ⟨v,h1,rfl⟩⟩,h2⟩⟩
  obtain⟨hid',h3,h4⟩:=jaa.1 h1
  obtain⟨v,h5,h6⟩:=jaa.1 h4
  cases h6
  exact⟨hid',h3,v,h5,h2⟩
 .show ob (sel es js hid) (fun hid'=>ob (ob (pop st fr o) (fun v=>ok v (.mk n t n hid'))) (fun p=>Hp.casesOn (motive:=fun _=>Option DR) p.2 (fun n' t' _ _=>some (.mk p.1 (.mk n' t' lo hid) (.mk [(n,n')] (some []))))))=_
  congr 1
  funext hid'
  cases pop st fr o<;>rfl
theorem j55 {es:List Ent} {dst:Option Nat} {op:IOp} {m:Option (List Nat)} {l:List (IOper×Option (List Nat))}:WD F ((.mk dst op (some (i,t)),m)::l) st es fr h Q=gP (jbp st i) t (WD F ((.mk dst op none,m)::l) st es fr h Q) (WD F l (.undef::st) (.mk [] (some [])::es) (jbl fr dst .undef) h Q):=by
 rw[jlw,jlw]
 have go:∀ n g v h' e,jrv (ja0 F (run F n)) st fr es h op g m=some (.mk v h' e)↔∃ b,jx9 st g=some b/\((b=false/\v=.undef/\h'=h/\e=.mk [] (some []))∨(b=true/\jrv (ja0 F (run F n)) st fr es h op none m=some (.mk v h' e))):=fun n g v h' e=>by
  constructor
  .intro h1
   obtain⟨b,hb,h3⟩:=jaa.1 h1
   refine⟨b,hb,?_⟩
   cases b with
   | false=>cases h3;exact .inl ⟨rfl,rfl,rfl,rfl⟩
   | true=>exact .inr ⟨rfl,jaa.2 ⟨true,rfl,h3⟩⟩
  .rintro ⟨b,hb,⟨rfl,rfl,rfl,rfl⟩ | ⟨rfl,h1⟩⟩
   .exact jaa.2 ⟨false,hb,rfl⟩
   .obtain ⟨c,hc,h2⟩:=jaa.1 h1
    cases hc
    exact jaa.2 ⟨true,hb,h2⟩
 refine propext ⟨fun⟨n,v,h',e,h1,h2⟩=>?_,fun⟨x,hx,h1⟩=>?_⟩
 .obtain ⟨b,hb,h3⟩:=(go n _ v h' e).1 h1
  obtain⟨x,hx,h4⟩:=jde.1 hb
  refine⟨x,hx,?_⟩
  rcases h4 with⟨c,rfl,rfl⟩ | ⟨h4,rfl⟩
  .left
   refine⟨c,rfl,?_⟩
   split
   .rename_i hc
    rcases h3 with⟨h3,_⟩ | ⟨_,h3⟩
    .rw [decide_eq_true hc] at h3;cases h3
    .exact ⟨n,v,h',e,h3,h2⟩
   .rename_i hc
    rcases h3 with⟨_,rfl,rfl,rfl⟩ | ⟨h3,_⟩
    .exact h2
    .rw [decide_eq_false hc] at h3;cases h3
  .right
   rcases h3 with⟨_,rfl,rfl,rfl⟩ | ⟨h3,_⟩
   .exact ⟨h4,h2⟩
   .cases h3
 .rcases h1 with⟨c,rfl,h1⟩ | ⟨h1,h2⟩
  .split at h1
   .rename_i hc
    obtain⟨n,v,h',e,h3,h4⟩:=h1
    exact⟨n,v,h',e,(go n _ v h' e).2 ⟨true,jde.2 ⟨_,hx,.inl ⟨c,rfl,(decide_eq_true hc).symm⟩⟩,.inr ⟨rfl,h3⟩⟩,h4⟩
   .rename_i hc
    exact⟨0,.undef,h,_,(go 0 _ _ _ _).2 ⟨false,jde.2 ⟨_,hx,.inl ⟨c,rfl,(decide_eq_false hc).symm⟩⟩,.inl ⟨rfl,rfl,rfl,rfl⟩⟩,h1⟩
  .exact ⟨0,.undef,h,_,(go 0 _ _ _ _).2 ⟨false,jde.2 ⟨_,hx,.inr ⟨h1,rfl⟩⟩,.inl ⟨rfl,rfl,rfl,rfl⟩⟩,h2⟩
end
def j56 (res:List IR) (Q:AV->Hp->Prop) (e:Ex) (s:St):Prop:=Ex.casesOn (motive:=fun _=>Prop) e (obP (jbq s res) (fun p=>Q p.1 p.2)) (fun _=>False) (obP (jbq s res) (fun p=>Q p.1 p.2))
section
variable {F:Fns} {h:Hp} {vs:List AV} {f:FuncId} {Q:AV->Hp->Prop}
theorem jan {body:IC} {nargs nslots:Nat} {res:List IR} (hx:jeb F f vs h=none) (hT:jy6 F f=some (.mk body nargs nslots res)) (hl:vs.length=nargs)
 (h1:W F body (.mk (vs++jcf nslots) h) (j56 res Q)):WC F f vs h Q:=by
 obtain⟨n,e,s',h2,h3⟩:=h1
 cases F with
 | mk T X =>
 have hx':X f vs h=none:=hx
 rw[←jb2] at h2
 cases e with
 | normal =>
  obtain⟨p,h4,h5⟩:=(show obP (jbq s' res) (fun p=>Q p.1 p.2) from h3)
  obtain⟨m,hm⟩:=j83 (v:=p.1) (h':=p.2) hx' hT (by rw[jas];exact hl) ⟨n,h2⟩ (.inl rfl) h4
  exact⟨m,p.1,p.2,hm,h5⟩
 | exit k=>exact h3.elim
 | ret =>
  obtain⟨p,h4,h5⟩:=(show obP (jbq s' res) (fun p=>Q p.1 p.2) from h3)
  obtain⟨m,hm⟩:=j83 (v:=p.1) (h':=p.2) hx' hT (by rw[jas];exact hl) ⟨n,h2⟩ (.inr rfl) h4
  exact⟨m,p.1,p.2,hm,h5⟩
theorem juo {h':Hp} (hx:jeb F f vs h=some (u,h')) (hq:Q u h'):WC F f vs h Q:=by
 cases F with
 | mk T X =>
 have hx':X f vs h=some (u,h'):=hx
 refine⟨0,u,h',?_,hq⟩
 show Option.rec (motive:=fun _=>R) _ (fun r=>some r) (X f vs h)=_
 rw[hx']
end
theorem jh6 {f g:SV->Option SV} (hf:∀ x y,f x=some y->g x=some y):∀ {l r:List SV},je3 f l=some r->je3 g l=some r
 | [],r,h=>h
 | a::l,r,h=>by
  obtain⟨x,h1,h2⟩:=jaa.1 (show ob (f a) (fun x=>ob (je3 f l) (fun r=>some (x::r)))=some r from h)
  obtain⟨r',h3,h4⟩:=jaa.1 h2
  exact jaa.2 ⟨x,hf _ _ h1,jaa.2 ⟨r',jh6 hf h3,h4⟩⟩
theorem jno {h:Hp}:∀ (d:Nat) (x y:SV),jc0 k h d x=some y->jc0 k h (d+1) x=some y
 | 0,x,y,hx=>by cases hx
 | d+1,x,y,hx=>by
  cases x with
  | slice b off len mc ex sz =>
   cases len with
   | zero=>exact hx
   | succ len =>
    obtain⟨cs,h1,h2⟩:=jaa.1 (show ob (rd h b off (Nat.mul (len+1) sz)) (fun cs=>ob (je3 (jc0 k h d) cs) (fun cs=>ob (jlk sz (len+1) cs) (fun rows=>some (.lst rows))))=some y from hx)
    obtain⟨cs',h3,h4⟩:=jaa.1 h2
    exact jaa.2 ⟨cs,h1,jaa.2 ⟨cs',jh6 (jno d) h3,h4⟩⟩
  | _=>exact hx
theorem jlx {h:Hp} (hd:d<=e) {x y:SV} (hx:jc0 k h d x=some y):jc0 k h e x=some y:=by
 induction e with
 | zero=>obtain rfl:d=0:=by omega
         exact hx
 | succ e ih =>
  rcases f0j e d with h1 | h1
  .obtain rfl:d=e+1:=by omega
   exact hx
  .exact jno e _ _ (ih h1)
theorem jqx {f g:SV->Option SV} (hf:∀ x y,f x=some y->g x=some y):∀ {l r:List (Bool×List SV)},j4x f l=some r->j4x g l=some r
 | [],r,h=>h
 | p::l,r,h=>by
  obtain⟨x,h1,h2⟩:=jaa.1 (show ob (je3 f p.2) (fun x=>ob (j4x f l) (fun r=>some ((p.1,x)::r)))=some r from h)
  obtain⟨r',h3,h4⟩:=jaa.1 h2
  exact jaa.2 ⟨x,jh6 hf h1,jaa.2 ⟨r',jqx hf h3,h4⟩⟩
theorem jly {h:Hp} (hd:d<=e) {x y:AV} (hx:jml k h d x=some y):jml k h e x=some y:=by
 cases x with
 | s x =>
  obtain⟨y',h1,h2⟩:=jaa.1 (show ob (jc0 k h d x) (fun y=>some (AV.s y))=some y from hx)
  exact jaa.2 ⟨y',jlx hd h1,h2⟩
 | agg l =>
  obtain⟨y',h1,h2⟩:=jaa.1 (show ob (je3 (jc0 k h d) l) (fun y=>some (AV.agg y))=some y from hx)
  exact jaa.2 ⟨y',jh6 (fun _ _=>jlx hd) h1,h2⟩
 | tup l =>
  obtain⟨y',h1,h2⟩:=jaa.1 (show ob (j4x (jc0 k h d) l) (fun y=>some (AV.tup y))=some y from hx)
  exact jaa.2 ⟨y',jqx (fun _ _=>jlx hd) h1,h2⟩
 | _=>exact hx
theorem ji7 {h:Hp} (hd:d<=e):∀ {l r:List AV},jh3 k h d l=some r->jh3 k h e l=some r
 | [],r,h=>h
 | a::l,r,hr=>by
  obtain⟨x,h1,h2⟩:=jaa.1 (show ob (jml k h d a) (fun x=>ob (jh3 k h d l) (fun r=>some (x::r)))=some r from hr)
  obtain⟨r',h3,h4⟩:=jaa.1 h2
  exact jaa.2 ⟨x,jly hd h1,jaa.2 ⟨r',ji7 hd h3,h4⟩⟩
def je6 (k:Bool) (F:Fns) (f:FuncId) (vs:List AV) (u:AV):Prop:=WC F f vs h0 (fun v hi=>∃ d,jml k hi d v=some u)
theorem je6.one {F:Fns} {f:FuncId} {vs:List AV} (h:je6 k F f vs u) (h':je6 k F f vs u'):u=u':=by
 obtain⟨n,v,hi,h1,d,h2⟩:=h
 obtain⟨m,v',hi',h3,d',h4⟩:=h'
 have e1:jjz F (max n m) f vs h0=some (v,hi):=jb1 (jcn F (f1k n m)) _ _ _ _ h1
 have e2:jjz F (max n m) f vs h0=some (v',hi'):=jb1 (jcn F (f1f n m)) _ _ _ _ h3
 rw[e1] at e2
 cases e2
 have e3:=jly (f1k d d') h2
 have e4:=jly (f1f d d') h4
 rw[e3] at e4
 exact Option.some.inj e4
def j84 (F:Fns) (f:FuncId) (vs:List AV) (h:Hp) (u:AV):Prop:=∃ us d,jh3 true h d vs=some us/\je6 false F f us u
theorem j84.one {F:Fns} {f:FuncId} {vs:List AV} {h:Hp} (k:j84 F f vs h u) (k':j84 F f vs h u'):u=u':=by
 obtain⟨us,d,h1,h2⟩:=k
 obtain⟨us',d',h3,h4⟩:=k'
 have e3:=ji7 (f1k d d') h1
 have e4:=ji7 (f1f d d') h3
 rw[e3] at e4
 cases e4
 exact h2.one h4
open Classical in
def pxA (F:Fns) (f:FuncId) (vs:List AV) (h:Hp):Option AV :=
 if h1:jfr vs=true/\∃ u,je6 true F f vs u then some (Classical.choose h1.2)
 else if h2:∃ u,j84 F f vs h u then some (Classical.choose h2) else none
theorem j57 {F:Fns} {f:FuncId} {vs:List AV} {h:Hp} (hg:jfr vs=true) (k:je6 true F f vs u):pxA F f vs h=some u:=by
 unfold pxA
 rw[dif_pos ⟨hg,u,k⟩]
 exact congrArg some ((Classical.choose_spec (p:=fun u=>je6 true F f vs u) ⟨u,k⟩).one k)
theorem j58 {F:Fns} {f:FuncId} {vs:List AV} {h:Hp} (hg:jfr vs=false) (k:j84 F f vs h u):pxA F f vs h=some u:=by
 unfold pxA
 rw[dif_neg (fun e=>by rw[hg] at e;cases e.1),dif_pos ⟨u,k⟩]
 exact congrArg some ((Classical.choose_spec (p:=fun u=>j84 F f vs h u) ⟨u,k⟩).one k)
theorem j59 {F:Fns} {f:FuncId} {vs:List AV} {h:Hp} (k:pxA F f vs h=some u):(jfr vs=true/\je6 true F f vs u)∨j84 F f vs h u:=by
 unfold pxA at k
 split at k
 .rename_i h1
  cases k
  exact .inl ⟨h1.1,Classical.choose_spec h1.2⟩
 .split at k
  .rename_i h2
   cases k
   exact .inr (Classical.choose_spec h2)
  .cases k
def PX (S:FuncId->Bool) (F:Fns):Fns:=.mk (jy6 F) (fun f vs h=>Bool.rec (motive:=fun _=>R) (jeb F f vs h) (ob (pxA F f vs h) (fun u=>ok u h)) (S f))
theorem jdl {S:FuncId->Bool} {F:Fns} {f:FuncId} {vs:List AV} {h:Hp} (hS:S f=true) (hg:jfr vs=true) (k:je6 true F f vs u):jeb (PX S F) f vs h=some (u,h):=by
 show Bool.rec (motive:=fun _=>R) (jeb F f vs h) (ob (pxA F f vs h) (fun u=>ok u h)) (S f)=_
 rw[hS,j57 hg k];rfl
theorem jz1 {S:FuncId->Bool} {F:Fns} {f:FuncId} {vs:List AV} {h:Hp} (hS:S f=true) (hg:jfr vs=false) (k:j84 F f vs h u):jeb (PX S F) f vs h=some (u,h):=by
 show Bool.rec (motive:=fun _=>R) (jeb F f vs h) (ob (pxA F f vs h) (fun u=>ok u h)) (S f)=_
 rw[hS,j58 hg k];rfl
theorem jcr {S:FuncId->Bool} {F:Fns} {f:FuncId} {vs:List AV} {h:Hp} (hS:S f=false):jeb (PX S F) f vs h=jeb F f vs h:=by
 show Bool.rec (motive:=fun _=>R) (jeb F f vs h) (ob (pxA F f vs h) (fun u=>ok u h)) (S f)=_
 rw[hS]
theorem jnp {P:Program} {A:Nat->Int} {T:Tr TI} {S:FuncId->Bool} {F:Fns} (env:Env P A T F):Env P A T (PX S F) where
 tys:=env.tys
 mix:=env.mix
 fn:=env.fn
 ext:=fun f vs h v h' hx=>by
  cases hS:S f with
  | false=>rw[jcr hS] at hx;exact env.ext f vs h v h' hx
  | true =>
   have hx':ob (pxA F f vs h) (fun u=>ok u h)=some (v,h'):=by
    have e:jeb (PX S F) f vs h=Bool.rec (motive:=fun _=>R) (jeb F f vs h) (ob (pxA F f vs h) (fun u=>ok u h)) (S f):=rfl
    rw[e,hS] at hx
    exact hx
   obtain⟨u,hu,h1⟩:=jaa.1 hx'
   cases h1
   rcases j59 hu with⟨hg,n,v0,hi,h1,d,h2⟩ | ⟨us,d,h1,n,v0,hi,h2,d',h3⟩
   .exact ⟨(jc8 env (je2 env n).1 f vs h0 v0 hi h1).1,fun k=>Abs.refl _ k,fun φ w args rel ha=>jy9 env h1 h2 hg rel args ha⟩
   .exact ⟨(jc8 env (je2 env n).1 f us h0 v0 hi h2).1,fun k=>Abs.refl _ k,fun φ w args rel ha=>jwr env h1 h2 h3 rel args ha⟩
theorem jz2 {P:Program} {A:Nat->Int} {T:Tr TI} {F:Fns} (env:Env P A T F) {f:FuncId} {vs:List AV} {d:Unit} (k:WC F f vs h0 (fun v _=>v=.s (.bool true))) {c:Nat->Option (Array Value)} {w:World} (hk:jqj c w) (args:Array Value) (ha:All2 (cV A (j5q c)) vs args.toList) :
 Calls P f args w (fun e w'=>e=.returned (.bool true)/\Below w.heap.size w w'):=by
 obtain⟨n,v,h',h1,rfl⟩:=k
 exact j5r env (n:=n) (by rw[h1];rfl) hk args ha
end
end Go.Proofs.Ytkplfnkgodnmaaa.Ev
