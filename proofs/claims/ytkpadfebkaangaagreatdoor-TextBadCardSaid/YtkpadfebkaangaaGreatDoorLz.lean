/- Runs of the interpreter step by step: more fuel answers the same; rules for code, regions, calls. No program in sight. -/
import Derived.Test.YtkpadfebkaangaaGreatDoorRun
import Derived.Test.YtkpadfebkaangaaGreatDoorBack3
namespace Go.Proofs.YtkpadfebkaangaaGreatDoor.Ev
noncomputable section
open Go
set_option linter.all false
def j9x (cl cl':FuncId->List AV->Hp->R):Prop:=∀ f vs h r,cl f vs h=some r->cl' f vs h=some r
def qte (ih ih':RC):Prop:=∀ c s r,ih c s=some r->ih' c s=some r
section
variable {cl cl':FuncId->List AV->Hp->R} {st fr:List AV} {h:Hp} {F:Fns} {ih ih':RC}
theorem jog (hc:j9x cl cl') {op:IOp} {r:AV×Hp} (hr:iop cl st fr h op=some r):iop cl' st fr h op=some r:=by
 cases op with
 | p o=>exact hr
 | a o =>
  cases o with
  | call f as =>
   obtain⟨vs,h1,h2⟩:=jaa.1 (show ob (evs st fr as) (fun vs=>cl f vs h)=some r from hr)
   exact jaa.2 ⟨vs,h1,hc _ _ _ _ h2⟩
  | callv x as =>
   obtain⟨v,h1,h2⟩:=jaa.1 (show ob (ev st fr x) (fun v=>j64 v (fun f caps=>ob (evs st fr as) (fun vs=>cl f (jgk vs (jhl caps)) h)))=some r from hr)
   obtain⟨f,caps,rfl,h3⟩:=jij h2
   obtain⟨vs,h4,h5⟩:=jaa.1 h3
   exact jaa.2 ⟨_,h1,jaa.2 ⟨vs,h4,hc _ _ _ _ h5⟩⟩
  | _=>exact hr
theorem jyy (hc:j9x cl cl') {op:IOp} {g:Option (Nat×Bool)} {r:AV×Hp} (hr:qff cl st fr h op g=some r):qff cl' st fr h op g=some r:=by
 obtain⟨b,h1,h2⟩:=jaa.1 hr
 refine jaa.2 ⟨b,h1,?_⟩
 cases b with
 | false=>exact h2
 | true=>exact jog hc h2
theorem jqa (hc:j9x cl cl'):∀ {l:List IOper} {st fr:List AV} {h:Hp} {s:St},j3h cl l st fr h=some s->j3h cl' l st fr h=some s
 | [],st,fr,h,s,hr=>hr
 | .mk dst op g::l,st,fr,h,s,hr=>by
  obtain⟨p,h1,h2⟩:=jaa.1 (show ob (qff cl st fr h op g) (fun p=>j3h cl l (p.1::st) (jc0 fr dst p.1) p.2)=some s from hr)
  exact jaa.2 ⟨p,jyy hc h1,jqa hc h2⟩
theorem jh4 (hc:j9x cl cl') {n:Nat} {t:Tr AB} {lo lo':Nat} {hid hid':List (Nat×Nat)} {op:IOp} {e:Nat->Ent} {d:DR} (hr:jl7 cl st fr n t lo lo' hid hid' op e=some d):jl7 cl' st fr n t lo lo' hid hid' op e=some d:=by
 obtain⟨p,h1,h2⟩:=jaa.1 hr
 exact jaa.2 ⟨p,jog hc h1,h2⟩
theorem j1k (hc:j9x cl cl') {es:List Ent} {op:IOp} {js:List Nat} {d:DR} (hr:jnp cl st fr es h op js=some d):jnp cl' st fr es h op js=some d:=by
 cases h with
 | mk n t lo hid =>
  obtain⟨hid',h1,h2⟩:=jaa.1 (show ob (sel es js hid) (fun hid'=>Cls.casesOn (motive:=fun _=>Option DR) (jbx st fr op)
   (jl7 cl st fr n t lo n hid hid' op (fun n'=>.mk [(n,n')] (some [])))
   (fun x=>jl7 cl st fr n t lo n hid hid' op (fun _=>.mk [] (some [x])))
   (fun b=>oif (jf0 es js b) (oif (Nat.ble lo b) (ob (Hp.get (.mk n t lo hid') b) (fun _=>jl7 cl st fr n t lo lo hid hid' op (fun n'=>.mk [(b,Nat.succ b),(n,n')] none))) none) none)
   (jl7 cl st fr n t lo n hid hid' op (fun _=>.mk [] (some [])))
   (jl7 cl st fr n t lo n hid hid' op (fun n'=>.mk [(n,n')] none)))=some d from hr)
  refine jaa.2 ⟨hid',h1,?_⟩
  revert h2
  cases jbx st fr op with
  | fresh=>exact fun h=>jh4 hc h
  | load x=>exact fun h=>jh4 hc h
  | quiet=>exact fun h=>jh4 hc h
  | other=>exact fun h=>jh4 hc h
  | app b =>
   intro h2
   obtain⟨h3,h4⟩:=jad.1 h2
   obtain⟨h5,h6⟩:=jad.1 h4
   obtain⟨x,h7,h8⟩:=jaa.1 h6
   exact jad.2 ⟨h3,jad.2 ⟨h5,jaa.2 ⟨x,h7,jh4 hc h8⟩⟩⟩
theorem jyz (hc:j9x cl cl') {es:List Ent} {op:IOp} {g:Option (Nat×Bool)} {m:Option (List Nat)} {d:DR} (hr:j0u cl st fr es h op g m=some d):j0u cl' st fr es h op g m=some d:=by
 obtain⟨b,h1,h2⟩:=jaa.1 hr
 refine jaa.2 ⟨b,h1,?_⟩
 cases b with
 | false=>exact h2
 | true =>
  cases m with
  | none =>
   obtain⟨p,h3,h4⟩:=jaa.1 (show ob (iop cl st fr h op) (fun p=>some (.mk p.1 p.2 (.mk [] (some []))))=some d from h2)
   exact jaa.2 ⟨p,jog hc h3,h4⟩
  | some js=>exact j1k hc h2
theorem jqb (hc:j9x cl cl'):∀ {l:List (IOper×Option (List Nat))} {st:List AV} {es:List Ent} {fr:List AV} {h:Hp} {s:St},j02 cl l st es fr h=some s->j02 cl' l st es fr h=some s
 | [],st,es,fr,h,s,hr=>hr
 | (.mk dst op g,m)::l,st,es,fr,h,s,hr=>by
  obtain⟨p,h1,h2⟩:=jaa.1 (show ob (j0u cl st fr es h op g m) (fun p=>DR.casesOn (motive:=fun _=>Option St) p (fun v h' e=>j02 cl l (v::st) (e::es) (jc0 fr dst v) h'))=some s from hr)
  obtain⟨v,h',e⟩:=p
  exact jaa.2 ⟨_,jyz hc h1,jqb hc h2⟩
theorem jcv (hi:qte ih ih'):j9x (jby F ih) (jby F ih'):=by
 intro f vs h r hr
 cases F with
 | mk T X =>
  cases hx:X f vs h with
  | some v =>
   have h1:∀ ih:RC,jby (.mk T X) ih f vs h=some v:=by
    intro ih
    show Option.rec (motive:=fun _=>R) _ (fun r=>some r) (X f vs h)=_
    rw[hx]
   rw[h1] at hr ⊢
   exact hr
  | none =>
   have e:∀ ih:RC,jby (.mk T X) ih f vs h=ob (T f) (fun fn=>IF.casesOn (motive:=fun _=>R) fn (fun body nargs nslots res=>oif (Nat.beq (jb3 vs) nargs) (ob (ih body (.mk (jgk vs (jdt nslots)) h)) (fun p =>
    Ex.casesOn (motive:=fun _=>R) p.1 (jcj p.2 res) (fun _=>none) (jcj p.2 res))) none)):=by
    intro ih
    show Option.rec (motive:=fun _=>R) _ (fun r=>some r) (X f vs h)=_
    rw[hx]
   rw[e] at hr ⊢
   obtain⟨fn,h1,h2⟩:=jaa.1 hr
   refine jaa.2 ⟨fn,h1,?_⟩
   cases fn with
   | mk body nargs nslots res =>
    obtain⟨h3,h4⟩:=jad.1 (show oif (Nat.beq (jb3 vs) nargs) (ob (ih body (.mk (jgk vs (jdt nslots)) h)) (fun p=>Ex.casesOn (motive:=fun _=>R) p.1 (jcj p.2 res) (fun _=>none) (jcj p.2 res))) none=some r from h2)
    obtain⟨p,h5,h6⟩:=jaa.1 h4
    exact jad.2 ⟨h3,jaa.2 ⟨p,hi _ _ _ h5,h6⟩⟩
theorem j1l (hi:qte ih ih'):qte (j3i F ih) (j3i F ih'):=by
 intro c s r hr
 have hc:=jcv (F:=F) hi
 cases c with
 | skip=>exact hr
 | exit id=>exact hr
 | ret=>exact hr
 | region ops =>
  cases s with
  | mk fr h =>
   obtain⟨s,h1,h2⟩:=jaa.1 (show ob (j3h (jby F ih) ops [] fr h) (fun s=>some (.normal,s))=some r from hr)
   exact jaa.2 ⟨s,jqa hc h1,h2⟩
 | draw ops =>
  cases s with
  | mk fr h =>
   obtain⟨s,h1,h2⟩:=jaa.1 (show ob (j02 (jby F ih) ops [] [] fr h) (fun s=>some (.normal,s))=some r from hr)
   exact jaa.2 ⟨s,jqb hc h1,h2⟩
 | seq a b =>
  obtain⟨p,h1,h2⟩:=jaa.1 (show ob (ih a s) (fun p=>Ex.casesOn (motive:=fun _=>Option (Ex×St)) p.1 (ih b p.2) (fun _=>some p) (some p))=some r from hr)
  refine jaa.2 ⟨p,hi _ _ _ h1,?_⟩
  obtain⟨e,s'⟩:=p
  cases e with
  | normal=>exact hi _ _ _ h2
  | exit id=>exact h2
  | ret=>exact h2
 | cond c x y =>
  cases s with
  | mk fr h =>
   obtain⟨v,h1,h2⟩:=jaa.1 (show ob (ev [] fr c) (fun v=>jg3 v (fun t=>ih (oif t x y) (.mk fr h)))=some r from hr)
   obtain⟨t,rfl,h3⟩:=jdb h2
   exact jaa.2 ⟨_,h1,hi _ _ _ h3⟩
 | block id b =>
  obtain⟨p,h1,h2⟩:=jaa.1 (show ob (ih b s) (fun p=>Ex.casesOn (motive:=fun _=>Option (Ex×St)) p.1 (some p) (fun k=>oif (Nat.beq k id) (some (.normal,p.2)) (some p)) (some p))=some r from hr)
  exact jaa.2 ⟨p,hi _ _ _ h1,h2⟩
 | loop b =>
  obtain⟨p,h1,h2⟩:=jaa.1 (show ob (ih b s) (fun p=>Ex.casesOn (motive:=fun _=>Option (Ex×St)) p.1 (ih (.loop b) p.2) (fun _=>some p) (some p))=some r from hr)
  refine jaa.2 ⟨p,hi _ _ _ h1,?_⟩
  obtain⟨e,s'⟩:=p
  cases e with
  | normal=>exact hi _ _ _ h2
  | exit id=>exact h2
  | ret=>exact h2
theorem jy0 (F:Fns):∀ n,qte (run F n) (run F (n+1))
 | 0=>fun c s r hr=>by cases hr
 | n+1=>j1l (jy0 F n)
theorem jd3 (F:Fns) {n m:Nat} (h:n<=m):qte (run F n) (run F m):=by
 induction m with
 | zero=>obtain rfl:n=0:=oa
         exact fun c s r hr=>hr
 | succ m ih =>
  rcases f0m m n with h1 | h1
  .obtain rfl:n=m+1:=oa
   exact fun c s r hr=>hr
  .exact fun c s r hr=>jy0 F m _ _ _ (ih h1 _ _ _ hr)
end
def qx0 (F:Fns) (c:IC) (s:St) (e:Ex) (s':St):Prop:=∃ n,run F n c s=some (e,s')
def FnR (F:Fns) (f:FuncId) (vs:List AV) (h:Hp) (v:AV) (h':Hp):Prop:=∃ n,jpb F n f vs h=some (v,h')
section
variable {F:Fns} {st fr:List AV} {h h' h'':Hp} {s s' s'':St} {e:Ex}
theorem qie {T:FuncId->Option IF} {X:FuncId->List AV->Hp->R} {f:FuncId} {vs:List AV} {v:AV} {body:IC} {nargs nslots:Nat} {res:List IR} (hx:X f vs h=none) (hT:T f=some (.mk body nargs nslots res)) (hl:jb3 vs=nargs)
 (h1:qx0 (.mk T X) body (.mk (jgk vs (jdt nslots)) h) e s') (he:e=.normal∨e=.ret) (hr:jcj s' res=some (v,h')):FnR (.mk T X) f vs h v h':=by
 obtain⟨n,h1⟩:=h1
 refine⟨n,?_⟩
 show Option.rec (motive:=fun _=>R) _ (fun r=>some r) (X f vs h)=_
 rw[hx]
 refine jaa.2 ⟨_,hT,?_⟩
 refine jad.2 ⟨by rw[ji8];exact hl,jaa.2 ⟨_,h1,?_⟩⟩
 rcases he with rfl | rfl<;>exact hr
end
open Go Go.RowKit
variable {u u':AV} {k t agg ex':Bool} {rows:List (List SV)} {js:List Nat} {z xs row:List SV} {d e g i j n o b' id lo o' mc' sz' bytes:Nat} {y:SV}
def W (F:Fns) (c:IC) (s:St) (Q:Ex->St->Prop):Prop:=∃ n e s',run F n c s=some (e,s')/\Q e s'
def WO (F:Fns) (l:List IOper) (st fr:List AV) (h:Hp) (Q:Ex->St->Prop):Prop:=∃ n s',j3h (jby F (run F n)) l st fr h=some s'/\Q .normal s'
def WD (F:Fns) (l:List (IOper×Option (List Nat))) (st:List AV) (es:List Ent) (fr:List AV) (h:Hp) (Q:Ex->St->Prop):Prop:=∃ n s',j02 (jby F (run F n)) l st es fr h=some s'/\Q .normal s'
def WC (F:Fns) (f:FuncId) (vs:List AV) (h:Hp) (Q:AV->Hp->Prop):Prop:=∃ n v h',jpb F n f vs h=some (v,h')/\Q v h'
def j7w (F:Fns) (b:IC) (Q:Ex->St->Prop) (e:Ex) (s:St):Prop:=Ex.casesOn (motive:=fun _=>Prop) e (W F b s Q) (fun k=>Q (.exit k) s) (Q .ret s)
def qe4 (id:Nat) (Q:Ex->St->Prop) (e:Ex) (s:St):Prop:=Ex.casesOn (motive:=fun _=>Prop) e (Q .normal s) (fun k=>if k=id then Q .normal s else Q (.exit k) s) (Q .ret s)
def j7x (F:Fns) (b:IC) (Q:Ex->St->Prop) (e:Ex) (s:St):Prop:=Ex.casesOn (motive:=fun _=>Prop) e (W F (.loop b) s Q) (fun k=>Q (.exit k) s) (Q .ret s)
def obP {α:Type} (x:Option α) (f:α->Prop):Prop:=∃ a,x=some a/\f a
def qx1 (v:Option AV) (X Y:Prop):Prop:=∃ b,v=some (.s (.bool b))/\(if b=true then X else Y)
section
variable {F:Fns} {s:St} {st fr:List AV} {h:Hp} {Q:Ex->St->Prop} {α:Type}
theorem jf6 {b:IC}:j7w F b Q .normal s=W F b s Q:=rfl
theorem jmq {b:IC} {k:Nat}:j7w F b Q (.exit k) s=Q (.exit k) s:=rfl
theorem jqc {b:IC}:j7w F b Q .ret s=Q .ret s:=rfl
theorem jcn:qe4 id Q .normal s=Q .normal s:=rfl
theorem jqd {k:Nat}:qe4 id Q (.exit k) s=if k=id then Q .normal s else Q (.exit k) s:=rfl
theorem jup:qe4 id Q .ret s=Q .ret s:=rfl
theorem jh5 {b:IC}:j7x F b Q .normal s=W F (.loop b) s Q:=rfl
theorem jmr {b:IC} {k:Nat}:j7x F b Q (.exit k) s=Q (.exit k) s:=rfl
theorem jqe {b:IC}:j7x F b Q .ret s=Q .ret s:=rfl
theorem jco {a:α} {f:α->Prop}:obP (some a) f=f a:=propext ⟨fun⟨b,e,h⟩=>by grind,fun h=>⟨a,rfl,h⟩⟩
theorem j9y {b:Bool} {X Y:Prop}:qx1 (some (.s (.bool b))) X Y=if b=true then X else Y:=propext ⟨fun⟨c,e,h⟩=>by grind,fun h=>⟨b,rfl,h⟩⟩
theorem j30 {c:IC} {m:Nat} {e:Ex} {s':St} (hn:n<=m) (h:run F n c s=some (e,s')):run F m c s=some (e,s'):=jd3 F hn _ _ _ h
theorem W.imp {c:IC} {Q':Ex->St->Prop} (h:W F c s Q) (hq:∀ e s,Q e s->Q' e s):W F c s Q':=let ⟨n,e,s',h1,h2⟩:=h;⟨n,e,s',h1,hq _ _ h2⟩
theorem WC.imp {f:FuncId} {vs:List AV} {Q Q':AV->Hp->Prop} (k:WC F f vs h Q) (hq:∀ v h,Q v h->Q' v h):WC F f vs h Q':=let ⟨n,e,s',h1,h2⟩:=k;⟨n,e,s',h1,hq _ _ h2⟩
theorem j9z:W F .skip s Q=Q .normal s:=propext ⟨fun⟨n,e,s',h1,h2⟩=>by cases n with
 | zero=>trivial
 | succ n=>cases h1;omega,fun h=>⟨1,_,_,rfl,h⟩⟩
theorem qlf:W F .ret s Q=Q .ret s:=propext ⟨fun⟨n,e,s',h1,h2⟩=>by cases n with
 | zero=>trivial
 | succ n=>cases h1;omega,fun h=>⟨1,_,_,rfl,h⟩⟩
theorem j90:W F (.exit id) s Q=Q (.exit id) s:=propext ⟨fun⟨n,e,s',h1,h2⟩=>by cases n with
 | zero=>trivial
 | succ n=>cases h1;omega,fun h=>⟨1,_,_,rfl,h⟩⟩
theorem j1m {a b:IC}:W F (.seq a b) s Q=W F a s (j7w F b Q):=by
 refine propext ⟨fun⟨n,e,s',h1,h2⟩=>?_,fun⟨n,e,s',h1,h2⟩=>?_⟩
 .cases n with
  | zero=>trivial
  | succ n =>
   obtain⟨p,h3,h4⟩:=jaa.1 (show ob (run F n a s) (fun p=>Ex.casesOn  p.1 (run F n b p.2) (fun _=>some p) (some p))=some (e,s') from h1)
   obtain⟨e1,s1⟩:=p
   refine⟨n,e1,s1,h3,?_⟩
   cases e1 with
   | normal=>exact⟨n,e,s',h4,h2⟩
   | exit k=>cases h4;trivial
   | ret=>cases h4;trivial
 .cases e with
  | normal =>
   obtain⟨m,e2,s2,h3,h4⟩:=h2
   exact⟨max n m+1,e2,s2,jaa.2 ⟨_,j30 (f1t n m) h1,j30 (f1o n m) h3⟩,h4⟩
  | exit k=>exact⟨n+1,_,_,jaa.2 ⟨_,h1,rfl⟩,h2⟩
  | ret=>exact⟨n+1,_,_,jaa.2 ⟨_,h1,rfl⟩,h2⟩
theorem jah {b:IC}:W F (.loop b) s Q=W F b s (j7x F b Q):=by
 refine propext ⟨fun⟨n,e,s',h1,h2⟩=>?_,fun⟨n,e,s',h1,h2⟩=>?_⟩
 .cases n with
  | zero=>trivial
  | succ n =>
   obtain⟨p,h3,h4⟩:=jaa.1 (show ob (run F n b s) (fun p=>Ex.casesOn  p.1 (run F n (.loop b) p.2) (fun _=>some p) (some p))=some (e,s') from h1)
   obtain⟨e1,s1⟩:=p
   refine⟨n,e1,s1,h3,?_⟩
   cases e1 with
   | normal=>exact⟨n,e,s',h4,h2⟩
   | exit k=>cases h4;trivial
   | ret=>cases h4;trivial
 .cases e with
  | normal =>
   obtain⟨m,e2,s2,h3,h4⟩:=h2
   exact⟨max n m+1,e2,s2,jaa.2 ⟨_,j30 (f1t n m) h1,j30 (f1o n m) h3⟩,h4⟩
  | exit k=>exact⟨n+1,_,_,jaa.2 ⟨_,h1,rfl⟩,h2⟩
  | ret=>exact⟨n+1,_,_,jaa.2 ⟨_,h1,rfl⟩,h2⟩
theorem jms {b:IC}:W F (.block id b) s Q=W F b s (qe4 id Q):=by
 have key:∀ k (s1:St),oif (Nat.beq k id) (some (Ex.normal,s1)) (some (.exit k,s1))=if k=id then some (.normal,s1) else some (.exit k,s1):=fun k s1=>by
  simp[jav,ji8]
 refine propext ⟨fun⟨n,e,s',h1,h2⟩=>?_,fun⟨n,e,s',h1,h2⟩=>?_⟩
 .cases n with
  | zero=>trivial
  | succ n =>
   obtain⟨p,h3,h4⟩:=jaa.1 (show ob (run F n b s) (fun p=>Ex.casesOn (motive:=fun _=>Option (Ex×St)) p.1 (some p) (fun k=>oif (Nat.beq k id) (some (.normal,p.2)) (some p)) (some p))=some (e,s') from h1)
   obtain⟨e1,s1⟩:=p
   refine⟨n,e1,s1,h3,?_⟩
   cases e1 with
   | normal=>cases h4;trivial
   | exit k =>
    have h5:oif (Nat.beq k id) (some (Ex.normal,s1)) (some (.exit k,s1))=some (e,s'):=h4
    rw[key] at h5
    show if k=id then Q .normal s1 else Q (.exit k) s1
    grind
   | ret=>cases h4;trivial
 .cases e with
  | normal=>exact⟨n+1,_,_,jaa.2 ⟨_,h1,rfl⟩,h2⟩
  | exit k =>
   have h3:if k=id then Q .normal s' else Q (.exit k) s':=h2
   split at h3
   .rename_i hk
    exact⟨n+1,_,_,jaa.2 ⟨_,h1,(key k s').trans (if_pos hk)⟩,h3⟩
   .rename_i hk
    exact⟨n+1,_,_,jaa.2 ⟨_,h1,(key k s').trans (if_neg hk)⟩,h3⟩
  | ret=>exact⟨n+1,_,_,jaa.2 ⟨_,h1,rfl⟩,h2⟩
theorem qtf {c:Od} {x y:IC}:W F (.cond c x y) (.mk fr h) Q=qx1 (ev [] fr c) (W F x (.mk fr h) Q) (W F y (.mk fr h) Q):=by
 refine propext ⟨fun⟨n,e,s',h1,h2⟩=>?_,fun⟨b,hb,h2⟩=>?_⟩
 .cases n with
  | zero=>trivial
  | succ n =>
   obtain⟨v,h3,h4⟩:=jaa.1 (show ob (ev [] fr c) (fun v=>jg3 v fun t=>run F n (oif t x y) (.mk fr h))=some (e,s') from h1)
   obtain⟨t,rfl,h5⟩:=jdb h4
   refine⟨t,h3,?_⟩
   cases t with
   | true=>exact⟨n,e,s',h5,h2⟩
   | false=>exact⟨n,e,s',h5,h2⟩
 .cases b with
  | true =>
   obtain⟨n,e,s',h3,h4⟩:=show W F x (.mk fr h) Q from h2
   exact⟨n+1,e,s',jaa.2 ⟨_,hb,h3⟩,h4⟩
  | false =>
   obtain⟨n,e,s',h3,h4⟩:=show W F y (.mk fr h) Q from h2
   exact⟨n+1,e,s',jaa.2 ⟨_,hb,h3⟩,h4⟩
theorem juq {ops:List IOper}:W F (.region ops) (.mk fr h) Q=WO F ops [] fr h Q:=by
 refine propext ⟨fun⟨n,e,s',h1,h2⟩=>?_,fun⟨n,s',h1,h2⟩=>⟨n+1,.normal,s',jaa.2 ⟨_,h1,rfl⟩,h2⟩⟩
 cases n with
 | zero=>trivial
 | succ n =>
  obtain⟨s1,h3,h4⟩:=jaa.1 (show ob (j3h (jby F (run F n)) ops [] fr h) (fun s=>some (Ex.normal,s))=some (e,s') from h1)
  cases h4
  exact⟨n,_,h3,h2⟩
theorem j91 {ops:List (IOper×Option (List Nat))}:W F (.draw ops) (.mk fr h) Q=WD F ops [] [] fr h Q:=by
 refine propext ⟨fun⟨n,e,s',h1,h2⟩=>?_,fun⟨n,s',h1,h2⟩=>⟨n+1,.normal,s',jaa.2 ⟨_,h1,rfl⟩,h2⟩⟩
 cases n with
 | zero=>trivial
 | succ n =>
  obtain⟨s1,h3,h4⟩:=jaa.1 (show ob (j02 (jby F (run F n)) ops [] [] fr h) (fun s=>some (Ex.normal,s))=some (e,s') from h1)
  cases h4
  exact⟨n,_,h3,h2⟩
theorem j92:WO F [] st fr h Q=Q .normal (.mk fr h):=propext ⟨fun⟨n,s',h1,h2⟩=>by cases h1;omega,fun h=>⟨0,_,rfl,h⟩⟩
theorem jqf {dst:Option Nat} {op:IOp} {g:Option (Nat×Bool)} {l:List IOper}:WO F (.mk dst op g::l) st fr h Q=∃ n v h',qff (jby F (run F n)) st fr h op g=some (v,h')/\WO F l (v::st) (jc0 fr dst v) h' Q:=by
 refine propext ⟨fun⟨n,s',h1,h2⟩=>?_,fun⟨n,v,h',h1,m,s',h2,h3⟩=>?_⟩
 .obtain ⟨p,h3,h4⟩:=jaa.1 (show ob (qff (jby F (run F n)) st fr h op g) (fun p=>j3h (jby F (run F n)) l (p.1::st) (jc0 fr dst p.1) p.2)=some s' from h1)
  exact⟨n,p.1,p.2,h3,n,s',h4,h2⟩
 .exact ⟨max n m,s',jaa.2 ⟨(v,h'),jyy (jcv (jd3 F (f1t n m))) h1,jqa (jcv (jd3 F (f1o n m))) h2⟩,h3⟩
theorem qtg {dst:Option Nat} {op:IOp} {l:List IOper} {x:R} (hx:∀ cl,iop cl st fr h op=x):WO F (.mk dst op none::l) st fr h Q=obP x (fun p=>WO F l (p.1::st) (jc0 fr dst p.1) p.2 Q):=by
 rw[jqf]
 refine propext ⟨fun⟨n,v,h',h1,h2⟩=>⟨(v,h'),?_,h2⟩,fun⟨p,h1,h2⟩=>⟨0,p.1,p.2,?_,h2⟩⟩
 .rw [←hx (jby F (run F n))];trivial
 .rw [←hx (jby F (run F 0))] at h1;trivial
theorem qlg {dst:Option Nat} {o:PO} {l:List IOper}:WO F (.mk dst (.p o) none::l) st fr h Q=obP (pop st fr o) (fun v=>WO F l (v::st) (jc0 fr dst v) h Q):=by
 rw[qtg  fun _=>rfl]
 refine propext ⟨fun⟨p,h1,h2⟩=>?_,fun⟨v,h1,h2⟩=>⟨(v,h),jaa.2 ⟨v,h1,rfl⟩,h2⟩⟩
 obtain⟨v,h3,h4⟩:=jaa.1 h1
 cases h4
 exact⟨v,h3,h2⟩
def AO.calls:AO->Bool
 | .call _ _=>true
 | .callv _ _=>true
 | _=>false
def jep (st fr:List AV) (h:Hp) (o:AO):R:=aop (fun _ _ _=>none) st fr h o
theorem jh6 {cl:FuncId->List AV->Hp->R} {o:AO} (ho:o.calls=false):aop cl st fr h o=jep st fr h o:=by
 cases o<;>first | rfl | trivial
theorem jh7 {dst:Option Nat} {o:AO} {l:List IOper} (ho:o.calls=false):WO F (.mk dst (.a o) none::l) st fr h Q=obP (jep st fr h o) (fun p=>WO F l (p.1::st) (jc0 fr dst p.1) p.2 Q) :=
 qtg fun _=>jh6 ho
theorem qlh {dst:Option Nat} {f:FuncId} {as:List Od} {l:List IOper}:WO F (.mk dst (.a (.call f as)) none::l) st fr h Q=obP (evs st fr as) (fun vs=>WC F f vs h (fun v h'=>WO F l (v::st) (jc0 fr dst v) h' Q)):=by
 rw[jqf]
 refine propext ⟨fun⟨n,v,h',h1,h2⟩=>?_,fun⟨vs,h1,n,v,h',h2,h3⟩=>⟨n,v,h',jaa.2 ⟨true,rfl,jaa.2 ⟨vs,h1,h2⟩⟩,h3⟩⟩
 have h1':ob (evs st fr as) (fun vs=>jby F (run F n) f vs h)=some (v,h'):=h1
 obtain⟨vs,h4,h5⟩:=jaa.1 h1'
 exact⟨vs,h4,n,v,h',h5,h2⟩
theorem qfx {dst:Option Nat} {x:Od} {as:List Od} {l:List IOper}:WO F (.mk dst (.a (.callv x as)) none::l) st fr h Q=∃ f caps,ev st fr x=some (.s (.func f caps))/\obP (evs st fr as) (fun vs=>WC F f (vs++jhl caps) h (fun v h'=>WO F l (v::st) (jc0 fr dst v) h' Q)):=by
 rw[jqf]
 refine propext ⟨fun⟨n,v,h',h1,h2⟩=>?_,fun⟨f,caps,hx,vs,h1,n,v,h',h2,h3⟩=>⟨n,v,h',jaa.2 ⟨true,rfl,jaa.2 ⟨_,hx,?_⟩⟩,h3⟩⟩
 .have h1':ob (ev st fr x) (fun v=>j64 v fun f caps=>ob (evs st fr as) fun vs=>jby F (run F n) f (jgk vs (jhl caps)) h)=some (v,h'):=h1
  obtain⟨w,hw,h4⟩:=jaa.1 h1'
  obtain⟨f,caps,rfl,h5⟩:=jij h4
  obtain⟨vs,h6,h7⟩:=jaa.1 h5
  rw[jc3] at h7
  exact⟨f,caps,hw,vs,h6,n,v,h',h7,h2⟩
 .refine jaa.2 ⟨vs,h1,?_⟩
  rw[jc3]
  trivial
def gP (v:Option AV) (t:Bool) (X Y:Prop):Prop:=∃ x,v=some x/\((∃ b,x=.s (.bool b)/\if b=t then X else Y)∨(x=.undef/\Y))
theorem j93 {b:Bool} {X Y:Prop}:gP (some (.s (.bool b))) t X Y=if b=t then X else Y:=propext ⟨fun⟨x,e,h⟩=>by
 grind,fun h=>⟨_,rfl,.inl ⟨b,rfl,h⟩⟩⟩
theorem j31 {X Y:Prop}:gP (some .undef) t X Y=Y:=propext ⟨fun⟨x,e,h⟩=>by
 grind,fun h=>⟨_,rfl,.inr ⟨rfl,h⟩⟩⟩
theorem jem {b:Bool}:j8u st (some (i,t))=some b↔∃ x,jer st i=some x/\((∃ c,x=.s (.bool c)/\b=decide (c=t))∨(x=.undef/\b=false)):=by
 have e:j8u st (some (i,t))=ob (jer st i) (fun v=>svc (some false) v (fun s=>jsj s (fun b=>some (oif t b (ji6 b))))):=rfl
 rw[e]
 constructor
 .intro h1
  obtain⟨x,hx,h2⟩:=jaa.1 h1
  refine⟨x,hx,?_⟩
  cases x with
  | s x =>
   cases x with
   | bool c=>left;exact⟨c,rfl,by cases c<;>cases t<;>exact(Option.some.inj h2).symm⟩
   | _=>cases h2
  | undef=>right;exact⟨rfl,(Option.some.inj h2).symm⟩
  | _=>cases h2
 .rintro ⟨x,hx,h1⟩
  refine jaa.2 ⟨x,hx,?_⟩
  rcases h1 with⟨c,rfl,rfl⟩ | ⟨rfl,rfl⟩
  .cases c<;>cases t<;>rfl
  .rfl
theorem qfy {dst:Option Nat} {op:IOp} {l:List IOper}:WO F (.mk dst op (some (i,t))::l) st fr h Q=gP (jer st i) t (WO F (.mk dst op none::l) st fr h Q) (WO F l (.undef::st) (jc0 fr dst .undef) h Q):=by
 rw[jqf,jqf]
 refine propext ⟨fun⟨n,v,h',h1,h2⟩=>?_,fun⟨x,hx,h1⟩=>?_⟩
 .obtain ⟨b,hb,h3⟩:=jaa.1 (show ob (j8u st (some (i,t))) (fun b=>Bool.rec (motive:=fun _=>R) (ok .undef h) (iop (jby F (run F n)) st fr h op) b)=some (v,h') from h1)
  obtain⟨x,hx,h4⟩:=jem.1 hb
  refine⟨x,hx,?_⟩
  rcases h4 with⟨c,rfl,rfl⟩ | ⟨h4,rfl⟩
  .left
   refine⟨c,rfl,?_⟩
   split
   .rename_i hc;rw[hc,decide_eq_true rfl] at h3;exact⟨n,v,h',jaa.2 ⟨true,rfl,h3⟩,h2⟩
   .rename_i hc;rw[decide_eq_false hc] at h3;cases h3;omega
  .right;cases h3;exact⟨h4,h2⟩
 .rcases h1 with⟨c,rfl,h1⟩ | ⟨h1,h2⟩
  .split at h1
   .rename_i hc
    obtain⟨n,v,h',h3,h4⟩:=h1
    refine⟨n,v,h',jaa.2 ⟨true,jem.2 ⟨_,hx,.inl ⟨c,rfl,(decide_eq_true hc).symm⟩⟩,?_⟩,h4⟩
    obtain⟨b,hb,h5⟩:=jaa.1 h3
    cases hb
    exact h5
   .rename_i hc
    exact⟨0,.undef,h,jaa.2 ⟨false,jem.2 ⟨_,hx,.inl ⟨c,rfl,(decide_eq_false hc).symm⟩⟩,rfl⟩,h1⟩
  .exact ⟨0,.undef,h,jaa.2 ⟨false,jem.2 ⟨_,hx,.inr ⟨h1,rfl⟩⟩,rfl⟩,h2⟩
theorem j94 {es:List Ent}:WD F [] st es fr h Q=Q .normal (.mk fr h):=propext ⟨fun⟨n,s',h1,h2⟩=>by cases h1;omega,fun h=>⟨0,_,rfl,h⟩⟩
theorem jqg {es:List Ent} {dst:Option Nat} {op:IOp} {g:Option (Nat×Bool)} {m:Option (List Nat)} {l:List (IOper×Option (List Nat))}:WD F ((.mk dst op g,m)::l) st es fr h Q=∃ n v h' e,j0u (jby F (run F n)) st fr es h op g m=some (.mk v h' e)/\WD F l (v::st) (e::es) (jc0 fr dst v) h' Q:=by
 refine propext ⟨fun⟨n,s',h1,h2⟩=>?_,fun⟨n,v,h',e,h1,k,s',h2,h3⟩=>?_⟩
 .obtain ⟨p,h3,h4⟩:=jaa.1 (show ob (j0u (jby F (run F n)) st fr es h op g m) (fun p=>DR.casesOn  p fun v h' e=>j02 (jby F (run F n)) l (v::st) (e::es) (jc0 fr dst v) h')=some s' from h1)
  obtain⟨v,h',e⟩:=p
  exact⟨n,v,h',e,h3,n,s',h4,h2⟩
 .exact ⟨max n k,s',jaa.2 ⟨.mk v h' e,jyz (jcv (jd3 F (f1t n k))) h1,jqb (jcv (jd3 F (f1o n k))) h2⟩,h3⟩
theorem jy1 {es:List Ent} {dst:Option Nat} {op:IOp} {m:Option (List Nat)} {l:List (IOper×Option (List Nat))} {x:Option DR} (hx:∀ cl,j0u cl st fr es h op none m=x):WD F ((.mk dst op none,m)::l) st es fr h Q=obP x (fun p=>DR.casesOn (motive:=fun _=>Prop) p (fun v h' e=>WD F l (v::st) (e::es) (jc0 fr dst v) h' Q)):=by
 rw[jqg]
 refine propext ⟨fun⟨n,v,h',e,h1,h2⟩=>⟨.mk v h' e,?_,h2⟩,fun⟨p,h1,h2⟩=>?_⟩
 .grind
 .obtain ⟨v,h',e⟩:=p
  exact⟨0,v,h',e,by grind,h2⟩
theorem qli {es:List Ent} {dst:Option Nat} {o:PO} {l:List (IOper×Option (List Nat))}:WD F ((.mk dst (.p o) none,none)::l) st es fr h Q=obP (pop st fr o) (fun v=>WD F l (v::st) (.mk [] (some [])::es) (jc0 fr dst v) h Q):=by
 rw[jy1  fun cl=>?_]
 .refine propext ⟨fun⟨p,h1,h2⟩=>?_,fun⟨v,h1,h2⟩=>⟨.mk v h (.mk [] (some [])),jaa.2 ⟨v,h1,rfl⟩,h2⟩⟩
  obtain⟨v,h3,h4⟩:=jaa.1 h1
  cases h4
  exact⟨v,h3,h2⟩
 .show ob (ob (pop st fr o) fun v=>ok v h) (fun p=>some (DR.mk p.1 p.2 (.mk [] (some []))))=_
  cases pop st fr o<;>rfl
theorem jjb {es:List Ent} {dst:Option Nat} {o:AO} {l:List (IOper×Option (List Nat))} (ho:o.calls=false):WD F ((.mk dst (.a o) none,none)::l) st es fr h Q=obP (jep st fr h o) (fun p=>WD F l (p.1::st) (.mk [] (some [])::es) (jc0 fr dst p.1) p.2 Q):=by
 rw[jy1  fun cl=>?_]
 .refine propext ⟨fun⟨p,h1,h2⟩=>?_,fun⟨p,h1,h2⟩=>⟨.mk p.1 p.2 (.mk [] (some [])),jaa.2 ⟨p,h1,rfl⟩,h2⟩⟩
  obtain⟨q,h3,h4⟩:=jaa.1 h1
  cases h4
  exact⟨q,h3,h2⟩
 .show ob (aop cl st fr h o) (fun p=>some (DR.mk p.1 p.2 (.mk [] (some []))))=_
  rw[jh6 ho]
theorem qlj {es:List Ent} {dst:Option Nat} {f:FuncId} {as:List Od} {l:List (IOper×Option (List Nat))}:WD F ((.mk dst (.a (.call f as)) none,none)::l) st es fr h Q=obP (evs st fr as) (fun vs=>WC F f vs h (fun v h'=>WD F l (v::st) (.mk [] (some [])::es) (jc0 fr dst v) h' Q)):=by
 rw[jqg]
 refine propext ⟨fun⟨n,v,h',e,h1,h2⟩=>?_,fun⟨vs,h1,n,v,h',h2,h3⟩=>⟨n,v,h',.mk [] (some []),jaa.2 ⟨true,rfl,jaa.2 ⟨(v,h'),jaa.2 ⟨vs,h1,h2⟩,rfl⟩⟩,h3⟩⟩
 have h1':ob (ob (evs st fr as) fun vs=>jby F (run F n) f vs h) (fun p=>some (DR.mk p.1 p.2 (.mk [] (some []))))=some (.mk v h' e):=h1
 obtain⟨p,h4,h5⟩:=jaa.1 h1'
 obtain⟨vs,h6,h7⟩:=jaa.1 h4
 cases h5
 exact⟨vs,h6,n,p.1,p.2,h7,h2⟩
theorem jy2 {es:List Ent} {dst:Option Nat} {o:PO} {l:List (IOper×Option (List Nat))}:WD F ((.mk dst (.p o) none,some js)::l) st es fr h Q=obP (sel es js h.hid) (fun _=>obP (pop st fr o) (fun v=>WD F l (v::st) (.mk [(h.next,h.next)] (some [])::es) (jc0 fr dst v) h Q)):=by
 cases h with
 | mk n t lo hid =>
 rw[jy1  fun cl=>?_]
 .refine propext ⟨fun⟨p,h1,h2⟩=>?_,fun⟨hid',h0,v,h1,h2⟩=>⟨.mk v (.mk n t lo hid) (.mk [(n,n)] (some [])),jaa.2 ⟨hid',h0,jaa.2 ⟨v,h1,rfl⟩⟩,h2⟩⟩
  obtain⟨hid',h3,h4⟩:=jaa.1 h1
  obtain⟨v,h5,h6⟩:=jaa.1 h4
  cases h6
  exact⟨hid',h3,v,h5,h2⟩
 .show ob (sel es js hid) (fun hid'=>ob (ob (pop st fr o) fun v=>ok v (.mk n t n hid')) fun p=>Hp.casesOn (motive:=fun _=>Option DR) p.2 fun n' t' _ _=>some (.mk p.1 (.mk n' t' lo hid) (.mk [(n,n')] (some []))))=_
  cases pop st fr o<;>rfl
theorem qfz {es:List Ent} {dst:Option Nat} {op:IOp} {m:Option (List Nat)} {l:List (IOper×Option (List Nat))}:WD F ((.mk dst op (some (i,t)),m)::l) st es fr h Q=gP (jer st i) t (WD F ((.mk dst op none,m)::l) st es fr h Q) (WD F l (.undef::st) (.mk [] (some [])::es) (jc0 fr dst .undef) h Q):=by
 rw[jqg,jqg]
 have go:∀ n g v h' e,j0u (jby F (run F n)) st fr es h op g m=some (.mk v h' e)↔∃ b,j8u st g=some b/\((b=false/\v=.undef/\h'=h/\e=.mk [] (some []))∨(b=true/\j0u (jby F (run F n)) st fr es h op none m=some (.mk v h' e))):=fun n g v h' e=>by
  constructor
  .intro h1
   obtain⟨b,hb,h3⟩:=jaa.1 h1
   refine⟨b,hb,?_⟩
   cases b with
   | false=>grind
   | true=>exact .inr ⟨rfl,jaa.2 ⟨true,rfl,h3⟩⟩
  .rintro ⟨b,hb,⟨rfl,rfl,rfl,rfl⟩ | ⟨rfl,h1⟩⟩
   .exact jaa.2 ⟨false,hb,rfl⟩
   .obtain ⟨c,hc,h2⟩:=jaa.1 h1
    cases hc
    exact jaa.2 ⟨true,hb,h2⟩
 refine propext ⟨fun⟨n,v,h',e,h1,h2⟩=>?_,fun⟨x,hx,h1⟩=>?_⟩
 .obtain ⟨b,hb,h3⟩:=(go n _ v h' e).1 h1
  obtain⟨x,hx,h4⟩:=jem.1 hb
  refine⟨x,hx,?_⟩
  rcases h4 with⟨c,rfl,rfl⟩ | ⟨h4,rfl⟩
  .left
   refine⟨c,rfl,?_⟩
   split
   .rename_i hc
    rcases h3 with⟨h3,_⟩ | ⟨_,h3⟩
    .rw [decide_eq_true hc] at h3;cases h3
    .exact ⟨n,v,h',e,h3,h2⟩
   .rename_i hc
    rcases h3 with⟨_,rfl,rfl,rfl⟩ | ⟨h3,_⟩
    .exact h2
    .rw [decide_eq_false hc] at h3;cases h3
  .right
   rcases h3 with⟨_,rfl,rfl,rfl⟩ | ⟨h3,_⟩
   .exact ⟨h4,h2⟩
   .cases h3
 .rcases h1 with⟨c,rfl,h1⟩ | ⟨h1,h2⟩
  .split at h1
   .rename_i hc
    obtain⟨n,v,h',e,h3,h4⟩:=h1
    exact⟨n,v,h',e,(go n _ v h' e).2 ⟨true,jem.2 ⟨_,hx,.inl ⟨c,rfl,(decide_eq_true hc).symm⟩⟩,.inr ⟨rfl,h3⟩⟩,h4⟩
   .rename_i hc
    exact⟨0,.undef,h,_,(go 0 _ _ _ _).2 ⟨false,jem.2 ⟨_,hx,.inl ⟨c,rfl,(decide_eq_false hc).symm⟩⟩,.inl ⟨rfl,rfl,rfl,rfl⟩⟩,h1⟩
  .exact ⟨0,.undef,h,_,(go 0 _ _ _ _).2 ⟨false,jem.2 ⟨_,hx,.inr ⟨h1,rfl⟩⟩,.inl ⟨rfl,rfl,rfl,rfl⟩⟩,h2⟩
end
def jqh (res:List IR) (Q:AV->Hp->Prop) (e:Ex) (s:St):Prop:=Ex.casesOn (motive:=fun _=>Prop) e (obP (jcj s res) (fun p=>Q p.1 p.2)) (fun _=>False) (obP (jcj s res) (fun p=>Q p.1 p.2))
section
variable {F:Fns} {h:Hp} {vs:List AV} {f:FuncId} {Q:AV->Hp->Prop}
theorem ja3 {body:IC} {nargs nslots:Nat} {res:List IR} (hx:jdg F f vs h=none) (hT:qe3 F f=some (.mk body nargs nslots res)) (hl:vs.length=nargs)
 (h1:W F body (.mk (vs++jdt nslots) h) (jqh res Q)):WC F f vs h Q:=by
 obtain⟨n,e,s',h2,h3⟩:=h1
 cases F with
 | mk T X =>
 have hx' :=hx
 rw[←jc3] at h2
 cases e with
 | normal =>
  obtain⟨p,h4,h5⟩:=show obP (jcj s' res) (fun p=>Q p.1 p.2) from h3
  obtain⟨m,hm⟩:=qie   hx' hT (by grind[ja4]) ⟨n,h2⟩ (.inl rfl) h4
  exact⟨m,p.1,p.2,hm,h5⟩
 | exit k=>trivial
 | ret =>
  obtain⟨p,h4,h5⟩:=show obP (jcj s' res) fun p=>Q p.1 p.2 from h3
  obtain⟨m,hm⟩:=qie   hx' hT (by simp_all[ja4]) ⟨n,h2⟩ (.inr rfl) h4
  exact⟨m,p.1,p.2,hm,h5⟩
theorem qif {h':Hp} (hx:jdg F f vs h=some (u,h')) (hq:Q u h'):WC F f vs h Q:=by
 cases F with
 | mk T X =>
 have hx':X f vs h=some (u,h'):=hx
 refine⟨0,u,h',?_,hq⟩
 show Option.rec (motive:=fun _=>R) _ (fun r=>some r) (X f vs h)=_
 rw[hx']
end
theorem jkr {f g:SV->Option SV} (hf:∀ x y,f x=some y->g x=some y):∀ {l r:List SV},jjk f l=some r->jjk g l=some r
 | [],r,h=>h
 | a::l,r,h=>by
  obtain⟨x,h1,h2⟩:=jaa.1 (show ob (f a) (fun x=>ob (jjk f l) fun r=>some (x::r))=some r from h)
  obtain⟨r',h3,h4⟩:=jaa.1 h2
  exact jaa.2 ⟨x,hf _ _ h1,jaa.2 ⟨r',jkr hf h3,h4⟩⟩
theorem jth {h:Hp}:∀ (d:Nat) (x y:SV),jl0 k h d x=some y->jl0 k h (d+1) x=some y
 | 0,x,y,hx=>by trivial
 | d+1,x,y,hx=>by
  cases x with
  | slice b off len mc ex sz =>
   cases len with
   | zero=>trivial
   | succ len =>
    obtain⟨cs,h1,h2⟩:=jaa.1 (show ob (rd h b off (Nat.mul (len+1) sz)) (fun cs=>ob (jjk (jl0 k h d) cs) (fun cs=>ob (jte sz (len+1) cs) fun rows=>some (.lst rows)))=some y from hx)
    obtain⟨cs',h3,h4⟩:=jaa.1 h2
    exact jaa.2 ⟨cs,h1,jaa.2 ⟨cs',jkr (jth d) h3,h4⟩⟩
  | _=>trivial
theorem jqi {h:Hp} (hd:d<=e) {x:SV} (hx:jl0 k h d x=some y):jl0 k h e x=some y:=by
 induction e with
 | zero=>grind
 | succ e ih =>
  grind[f0m,jth]
theorem jy3 {f g:SV->Option SV} (hf:∀ x y,f x=some y->g x=some y):∀ {l r:List (Bool×List SV)},qla f l=some r->qla g l=some r
 | [],r,h=>h
 | p::l,r,h=>by
  obtain⟨x,h1,h2⟩:=jaa.1 (show ob (jjk f p.2) (fun x=>ob (qla f l) fun r=>some ((p.1,x)::r))=some r from h)
  obtain⟨r',h3,h4⟩:=jaa.1 h2
  exact jaa.2 ⟨x,jkr hf h1,jaa.2 ⟨r',jy3 hf h3,h4⟩⟩
theorem jqj {h:Hp} (hd:d<=e) {x y:AV} (hx:jhr k h d x=some y):jhr k h e x=some y:=by
 cases x with
 | s x =>
  obtain⟨y',h1,h2⟩:=jaa.1 (show ob (jl0 k h d x) (fun y=>some (AV.s y))=some y from hx)
  exact jaa.2 ⟨y',jqi hd h1,h2⟩
 | agg l =>
  obtain⟨y',h1,h2⟩:=jaa.1 (show ob (jjk (jl0 k h d) l) (fun y=>some (AV.agg y))=some y from hx)
  exact jaa.2 ⟨y',jkr (fun _ _=>jqi hd) h1,h2⟩
 | tup l =>
  obtain⟨y',h1,h2⟩:=jaa.1 (show ob (qla (jl0 k h d) l) (fun y=>some (AV.tup y))=some y from hx)
  exact jaa.2 ⟨y',jy3 (fun _ _=>jqi hd) h1,h2⟩
 | _=>trivial
theorem jmt {h:Hp} (hd:d<=e):∀ {l r:List AV},j1g k h d l=some r->j1g k h e l=some r
 | [],r,h=>h
 | a::l,r,hr=>by
  obtain⟨x,h1,h2⟩:=jaa.1 (show ob (jhr k h d a) (fun x=>ob (j1g k h d l) fun r=>some (x::r))=some r from hr)
  obtain⟨r',h3,h4⟩:=jaa.1 h2
  exact jaa.2 ⟨x,jqj hd h1,jaa.2 ⟨r',jmt hd h3,h4⟩⟩
def jsp (k:Bool) (F:Fns) (f:FuncId) (vs:List AV) (u:AV):Prop:=WC F f vs h0 (fun v hi=>∃ d,jhr k hi d v=some u)
theorem jsp.one {F:Fns} {f:FuncId} {vs:List AV} (h:jsp k F f vs u) (h':jsp k F f vs u'):u=u':=by
 obtain⟨n,v,hi,h1,d,h2⟩:=h
 obtain⟨m,v',hi',h3,d',h4⟩:=h'
 have e1:jpb F (max n m) f vs h0=some (v,hi):=jcv (jd3 F (f1t n m)) _ _ _ _ h1
 have e2:jpb F (max n m) f vs h0=some (v',hi'):=jcv (jd3 F (f1o n m)) _ _ _ _ h3
 rw[e1] at e2
 have e3:=jqj (f1t d d') h2
 grind[jqj,f1o,Option.some.inj]
def qth (F:Fns) (f:FuncId) (vs:List AV) (h:Hp) (u:AV):Prop:=∃ us d,j1g true h d vs=some us/\jsp false F f us u
theorem qth.one {F:Fns} {f:FuncId} {vs:List AV} {h:Hp} (k:qth F f vs h u) (k':qth F f vs h u'):u=u':=by
 obtain⟨us,d,h1,h2⟩:=k
 obtain⟨us',d',h3,h4⟩:=k'
 have e3:=jmt (f1t d d') h1
 have e4:=jmt (f1o d d') h3
 rw[e3] at e4
 cases e4
 exact h2.one h4
open Classical in
def pxA (F:Fns) (f:FuncId) (vs:List AV) (h:Hp):Option AV :=
 if h1:jsn vs=true/\∃ u,jsp true F f vs u then some (Classical.choose h1.2)
 else if h2:∃ u,qth F f vs h u then some (Classical.choose h2) else none
theorem qf0 {F:Fns} {f:FuncId} {vs:List AV} {h:Hp} (hg:jsn vs=true) (k:jsp true F f vs u):pxA F f vs h=some u:=by
 unfold pxA
 rw[dif_pos ⟨hg,u,k⟩]
 exact congrArg some ((Classical.choose_spec  ⟨u,k⟩).one k)
theorem qf1 {F:Fns} {f:FuncId} {vs:List AV} {h:Hp} (k:pxA F f vs h=some u):(jsn vs=true/\jsp true F f vs u)∨qth F f vs h u:=by
 unfold pxA at k
 split at k
 .grind
 .split at k
  .grind
  grind
def PX (S:FuncId->Bool) (F:Fns):Fns:=.mk (qe3 F) (fun f vs h=>Bool.rec (motive:=fun _=>R) (jdg F f vs h) (ob (pxA F f vs h) (fun u=>ok u h)) (S f))
theorem jbi {S:FuncId->Bool} {F:Fns} {f:FuncId} {vs:List AV} {h:Hp} (hS:S f=true) (hg:jsn vs=true) (k:jsp true F f vs u):jdg (PX S F) f vs h=some (u,h):=by
 show Bool.rec (motive:=fun _=>R) (jdg F f vs h) (ob (pxA F f vs h) fun u=>ok u h) (S f)=_
 rw[hS,qf0 hg k];rfl
theorem ja8 {S:FuncId->Bool} {F:Fns} {f:FuncId} {vs:List AV} {h:Hp} (hS:S f=false):jdg (PX S F) f vs h=jdg F f vs h:=by
 show Bool.rec (motive:=fun _=>R) (jdg F f vs h) (ob (pxA F f vs h) fun u=>ok u h) (S f)=_
 rw[hS]
theorem jhm {P:Program} {A:Nat->Int} {T:Tr TI} {S:FuncId->Bool} {F:Fns} (env:Env P A T F):Env P A T (PX S F) where
 tys:=env.tys
 mix:=env.mix
 fn:=env.fn
 ext:=fun f vs h v h' hx=>by
  cases hS:S f with
  | false=>rw[ja8 hS] at hx;exact env.ext f vs h v h' hx
  | true =>
   have hx':ob (pxA F f vs h) (fun u=>ok u h)=some (v,h'):=by
    have e:jdg (PX S F) f vs h=Bool.rec  (jdg F f vs h) (ob (pxA F f vs h) fun u=>ok u h) (S f):=rfl
    simp_all
   obtain⟨u,hu,h1⟩:=jaa.1 hx'
   cases h1
   rcases qf1 hu with⟨hg,n,v0,hi,h1,d,h2⟩ | ⟨us,d,h1,n,v0,hi,h2,d',h3⟩
   .exact ⟨(jff env (jh3 env n).1 f vs h0 v0 hi h1).1,fun k=>Abs.refl _ k,fun φ w args rel ha=>j9p env h1 h2 hg rel args ha⟩
   .exact ⟨(jff env (jh3 env n).1 f us h0 v0 hi h2).1,fun k=>Abs.refl _ k,fun φ w args rel ha=>j7o env h1 h2 h3 rel args ha⟩
theorem j95 {P:Program} {A:Nat->Int} {T:Tr TI} {F:Fns} (env:Env P A T F) {f:FuncId} {vs:List AV} {d:Unit} (k:WC F f vs h0 (fun v _=>v=.s (.bool true))) {c:Nat->Option (Array Value)} [GK c] {w:World} (hk:jys c w) (args:Array Value) (ha:All2 (cV A (qid c)) vs args.toList) :
 Calls P f args w (fun e w'=>e=.returned (.bool true)/\Below w.heap.size w w'):=by
 obtain⟨n,v,h',h1,rfl⟩:=k
 exact qfs env  (by rw[h1];rfl) hk args ha
abbrev vi (n:Int):AV:=.s (.int .i64 n)
abbrev vb (b:Bool):AV:=.s (.bool b)
abbrev si (n:Int):SV:=.int .i64 n
section
variable {st fr:List AV} {h:Hp} {α β:Type}
theorem qx2:ev st fr (.l i)=jer st i:=rfl
theorem qx3:ev st fr (.g i)=jer fr i:=rfl
theorem qx4 {v:AV}:ev st fr (.c v)=some v:=rfl
theorem j1n:evs st fr []=some []:=rfl
theorem jur {o:Od} {l:List Od}:evs st fr (o::l)=ob (ev st fr o) (fun v=>ob (evs st fr l) (fun r=>some (v::r))):=rfl
theorem jqk {a:α} {l:List α}:jer (a::l) 0=some a:=rfl
theorem jql {a:α} {l:List α}:jer (a::l) (n+1)=jer l n:=rfl
theorem jqm {a x:α} {l:List α}:j63 (a::l) 0 x=x::l:=rfl
theorem jqn {a x:α} {l:List α}:j63 (a::l) (n+1) x=a::j63 l n x:=rfl
theorem jqo {v:AV}:jc0 fr none v=fr:=rfl
theorem jqp {v:AV}:jc0 fr (some d) v=j63 fr d v:=rfl
theorem jjl:jdt 0=[]:=rfl
theorem jjm:jdt (n+1)=.undef::jdt n:=rfl
theorem qlk {a:α} {f:α->Option β}:ob (some a) f=f a:=rfl
theorem qx5 {f:α->Option β}:ob none f=none:=rfl
theorem jbm {b:Bool} {x y:α}:oif b x y=if b=true then x else y:=by cases b<;>rfl
theorem qll {e:Option β} {x:SV} {f:SV->Option β}:svc e (.s x) f=f x:=rfl
theorem jqq {e:Option β} {f:SV->Option β}:svc e .undef f=e:=rfl
theorem jus {k:IntKind} {n:Int} {f:IntKind->Int->Option β}:qfa (.int k n) f=f k n:=rfl
theorem jmu {b:Bool} {f:Bool->Option β}:jsj (.bool b) f=f b:=rfl
theorem jut {k:IntKind} {n:Int} {f:IntKind->Int->Option β}:jlz (.s (.int k n)) f=f k n:=rfl
theorem jmv {b:Bool} {f:Bool->Option β}:jg3 (.s (.bool b)) f=f b:=rfl
theorem qlm {x:SV} {f:List SV->Option β}:cel (.s x) f=f [x]:=rfl
theorem j1o {l:List SV} {f:List SV->Option β}:cel (.agg l) f=f l:=rfl
theorem j96 {a:SV}:jg2 false [a]=some (.s a):=rfl
theorem j97 {l:List SV}:jg2 true l=some (.agg l):=rfl
theorem j98 {x:SV} {f:List SV->Option β}:qfb false (.s x) f=f [x]:=rfl
theorem juu {l:List SV} {f:List SV->Option β}:qfb true (.agg l) f=f l:=rfl
theorem jmw {l:List α}:jbp 0 l=some []:=rfl
theorem jmx {a:α} {l:List α}:jbp (n+1) (a::l)=ob (jbp n l) (fun x=>some (a::x)):=rfl
theorem jmy {l:List α}:jcb 0 l=l:=rfl
theorem jmz {a:α} {l:List α}:jcb (n+1) (a::l)=jcb n l:=rfl
theorem jqr:jcb n ([]:List α)=[]:=by cases n<;>rfl
theorem juv:jb3 ([]:List α)=0:=rfl
theorem jqs {a:α} {l:List α}:jb3 (a::l)=jb3 l+1:=rfl
theorem jqt {l:List α}:jo9 [] l=some l:=rfl
theorem jm0 {x a:α} {xs l:List α}:jo9 (x::xs) (a::l)=ob (jo9 xs l) (fun y=>some (x::y)):=rfl
theorem jh8 {xs l:List α}:jbn 0 xs l=jo9 xs l:=rfl
theorem jdv {a:α} {xs l:List α}:jbn (n+1) xs (a::l)=ob (jbn n xs l) (fun y=>some (a::y)):=rfl
theorem jqu {a:Nat}:Nat.beq a a=true:=f1v a
theorem j1p {a b:Nat}:(Nat.beq a b=true)=(a=b):=ji8 a b
theorem j1q {a b:Nat}:(Nat.ble a b=true)=(a<=b):=jua a b
theorem j99 {x:Od}:pop st fr (.mv x)=ev st fr x:=rfl
theorem jqv {ps:List (Nat×Nat×Od)}:pop st fr (.build z ps)=ob (fill st fr ps z) (fun cs=>some (.agg cs)):=rfl
theorem juw {cs:List SV}:fill st fr [] cs=some cs:=rfl
theorem jqw {off:Nat} {o:Od} {ps:List (Nat×Nat×Od)} {cs:List SV}:fill st fr ((off,n,o)::ps) cs=ob (ev st fr o) (fun v=>cel v (fun xs=>oif (Nat.beq (jb3 xs) n) (ob (jbn off xs cs) (fill st fr ps)) none)):=rfl
theorem j1r {x:Od}:pop st fr (.not x)=ob (ev st fr x) (fun v=>jg3 v (fun b=>some (.s (.bool (!b))))):=by
 show ob (ev st fr x) (fun v=>jg3 v (fun b=>some (AV.s (.bool (ji6 b)))))=_
 congr 1;funext v;congr 1;funext b;cases b<;>rfl
theorem j1s {x:Od}:pop st fr (.neg x)=ob (ev st fr x) (fun v=>jlz v (fun k n=>j8p k (-n))):=rfl
theorem jux {off:Nat} {x:Od}:pop st fr (.fval off n agg x)=none:=rfl
theorem juy {k:IntKind} {x:Od}:pop st fr (.conv k x)=ob (ev st fr x) (fun v=>jlz v (fun _ n=>qe9 k n)):=rfl
theorem jks {f:FuncId} {cs:List Od}:pop st fr (.mkfun f cs)=ob (evs st fr cs) (fun vs=>ob (qh2 vs) (fun ps=>some (.s (.func f ps)))):=rfl
theorem juz:qh2 []=some []:=rfl
theorem jqx {b:Nat} {l:List AV}:qh2 (.s (.ptr b o)::l)=ob (qh2 l) (fun r=>some ((b,o)::r)):=rfl
theorem jm1:jhl []=[]:=rfl
theorem jjn {b:Nat} {l:List (Nat×Nat)}:jhl ((b,o)::l)=.s (.ptr b o)::jhl l:=rfl
theorem jqy {b:Nat} {f:Nat->Nat->Option β} {g:List SV->Option β}:jes (.s (.ptr b o)) f g=f b o:=rfl
theorem ju0 {cs:List SV} {f:Nat->Nat->Option β} {g:List SV->Option β}:jes (.s (.cp cs)) f g=g cs:=rfl
theorem ju1 {b:Nat} {f:Nat->Nat->Option β}:jt6 (.s (.ptr b o)) f=f b o:=rfl
def jx6 (v:AV):Option AV:=jdm v (some (.s (.int .i64 0))) (fun _ _ n _ _ _=>some (.s (.int .i64 (Int.ofNat n)))) (fun rows=>some (.s (.int .i64 (Int.ofNat (jb3 rows))))) (some (.s (.int .i64 0)))
theorem ju2:jx6 (.s .nilSlice)=some (vi 0):=rfl
theorem jkt:jx6 (.s (.lst rows))=some (vi rows.length):=by
 show some (AV.s (.int .i64 (Int.ofNat (jb3 rows))))=_
 rw[ja4];rfl
theorem jm2 {b mc sz:Nat} {e:Bool}:jx6 (.s (.slice b o n mc e sz))=some (vi n):=rfl
def qaa (n:Int):Option AV:=if -9223372036854775808<=n/\n<=9223372036854775807 then some (vi n) else none
theorem qf2 {n:Int} (h1:-9223372036854775808<=n) (h2:n<=9223372036854775807):inR .i64 n=true:=by
 cases n with
 | ofNat m=>exact(jua m 9223372036854775807).symm▸(by have:(m:Int)<=9223372036854775807:=h2
                                                      omega)
 | negSucc m=>exact(jua m 9223372036854775807).symm▸(by have:-9223372036854775808<=Int.negSucc m:=h1
                                                        omega)
theorem jqz {n:Int}:j8p .i64 n=qaa n:=by
 unfold qaa
 show oif (inR .i64 n) (some (AV.s (.int .i64 n))) none=_
 split
 .rename_i h;rw[qf2 h.1 h.2];rfl
 .rename_i h
  cases e:inR .i64 n with
  | false=>rfl
  | true =>
   rcases je5 e with⟨_,a,b⟩ | ⟨e,_⟩ | ⟨e,_⟩
   .exact absurd ⟨a,b⟩ h
   .cases e
   .cases e
theorem jis {n:Int} (h1:-9223372036854775808<=n) (h2:n<=9223372036854775807):qaa n=some (vi n):=if_pos ⟨h1,h2⟩
def w64 (n:Int):Int:=IntKind.wrap .i64 n
theorem jae {n:Int} (h1:-9223372036854775808<=n) (h2:n<=9223372036854775807):w64 n=n:=jkb (qf2 h1 h2)
theorem j1t {n:Int}:qe8 .i64 n=some (vi (w64 n)):=by
 show oif (inR .i64 n) (some (AV.s (.int .i64 n))) (some (AV.s (.int .i64 (IntKind.wrap .i64 n))))=_
 cases e:inR .i64 n with
 | true=>rw[show w64 n=n from jkb e];rfl
 | false=>rfl
variable {a b:Int}
theorem j1u:jek .add (.int .i64 a) (.int .i64 b)=some (vi (w64 (a+b))):=by
 rw[←j1t];show qe8 .i64 (qr0 a b)=_;rw[j81]
theorem j1v:jek .sub (.int .i64 a) (.int .i64 b)=some (vi (w64 (a - b))):=by rw[←j1t];rfl
theorem j1w:jek .mul (.int .i64 a) (.int .i64 b)=some (vi (w64 (a*b))):=by rw[←j1t];rfl
theorem qln:jek .quo (.int .i64 a) (.int .i64 b)=if b=0 then none else qaa (a.tdiv b):=by
 rw[←jqz]
 show oif (ieq b 0) none (j8p .i64 (a.tdiv b))=_
 rw[jav,jdf];simp only[decide_eq_true_eq]
theorem j1x:jek .rem (.int .i64 a) (.int .i64 b)=if b=0 then none else qaa (a.tmod b):=by
 rw[←jqz]
 show oif (ieq b 0) none (j8p .i64 (a.tmod b))=_
 rw[jav,jdf];simp only[decide_eq_true_eq]
theorem qab:jek .eq (.int .i64 a) (.int .i64 b)=some (vb (decide (a=b))):=by
 show some (AV.s (.bool (ieq a b)))=_;rw[jdf]
theorem qac:jek .ne (.int .i64 a) (.int .i64 b)=some (vb (decide (a≠b))):=by
 show some (AV.s (.bool (ji6 (ieq a b))))=_;rw[jdf,jhx];congr 3;by_cases h:a=b<;>simp[h]
theorem qad:jek .lt (.int .i64 a) (.int .i64 b)=some (vb (decide (a<b))):=by
 show some (AV.s (.bool (ji6 (ile b a))))=_;rw[jet,jhx];congr 3;by_cases h:a<b<;>simp[h]
 omega
theorem qae:jek .le (.int .i64 a) (.int .i64 b)=some (vb (decide (a<=b))):=by
 show some (AV.s (.bool (ile a b)))=_;rw[jet]
theorem qaf:jek .gt (.int .i64 a) (.int .i64 b)=some (vb (decide (b<a))):=by
 show some (AV.s (.bool (ji6 (ile a b))))=_;rw[jet,jhx];congr 3;by_cases h:b<a<;>simp[h]
 omega
theorem qag:jek .ge (.int .i64 a) (.int .i64 b)=some (vb (decide (b<=a))):=by
 show some (AV.s (.bool (ile b a)))=_;rw[jet]
theorem qlo {k:IntKind} (hn:n<=63):jek .shr (.int .i64 a) (.int k (n:Int))=some (vi (a / 2 ^ n)):=by
 have hs:qh1 .i64 n=true:=by
  have hI:jpa .i64=true:=rfl
  unfold qh1
  simp[jav,jua,hn,hI]
 have e:jek .shr (.int .i64 a) (.int k (n:Int))=jx8 .shr .i64 a (n:Int):=by
  show oif (Nat.beq (ikn .i64) (ikn k)) (jx8 .shr .i64 a n) (oif true (jx8 .shr .i64 a n) none)=_
  cases Nat.beq (ikn .i64) (ikn k)<;>rfl
 rw[e]
 cases a with
 | ofNat m =>
  show oif (qh1 .i64 n) (some (AV.s (.int .i64 (Int.ofNat (Nat.div m (Nat.pow 2 n)))))) none=_
  rw[hs]
  have:Int.ofNat (Nat.div m (Nat.pow 2 n))=Int.ofNat m / 2 ^ n:=by
   show((m / 2 ^ n:Nat):Int)=(m:Int) / 2 ^ n
   rw[Int.natCast_ediv,Int.natCast_pow];rfl
  rw[this];rfl
 | negSucc m =>
  show oif (qh1 .i64 n) (some (AV.s (.int .i64 (Int.negSucc (Nat.div m (Nat.pow 2 n)))))) none=_
  rw[hs]
  have:Int.negSucc (Nat.div m (Nat.pow 2 n))=Int.negSucc m / 2 ^ n:=by
   obtain⟨q,hq⟩:∃ q,2 ^ n=q+1:=⟨2 ^ n - 1,by have:=Nat.two_pow_pos n;omega⟩
   have h2:(2:Int) ^ n=((q+1:Nat):Int):=by rw[←hq,Int.natCast_pow];rfl
   have h3:Nat.pow 2 n=q+1:=hq
   rw[h2,h3];rfl
  rw[this];rfl
theorem jg7 (h1:-9223372036854775808<=a) (h2:a<=9223372036854775807):jek .and (.int .i64 a) (.int .i64 1)=some (vi (a % 2)):=by
 have hr:=qf2 h1 h2
 cases a with
 | ofNat m =>
  show oif (inR .i64 (.ofNat m)) (some (AV.s (.int .i64 (.ofNat (Nat.land m 1))))) none=_
  rw[hr]
  have:Int.ofNat (Nat.land m 1)=Int.ofNat m % 2:=by
   rw[show Nat.land m 1=m % 2 from f10 m];rfl
  rw[this];rfl
 | negSucc m =>
  show oif (inR .i64 (.negSucc m)) (some (AV.s (.int .i64 (.ofNat (Nat.xor 1 (Nat.land 1 m)))))) none=_
  rw[hr]
  have:Int.ofNat (Nat.xor 1 (Nat.land 1 m))=Int.negSucc m % 2:=by
   have e:Nat.land 1 m=m % 2:=(Nat.and_comm 1 m).trans (f10 m)
   rw[e]
   rcases Nat.mod_two_eq_zero_or_one m with h | h
   .rw [h];show(1:Int)=_;omega
   .rw [h];show(0:Int)=_;omega
  rw[this];rfl
theorem qlp (h1:-9223372036854775808<=a) (h2:a<=9223372036854775807):jek .or (.int .i64 a) (.int .i64 1)=some (vi (a+(1 - a % 2))):=by
 have hr:=qf2 h1 h2
 cases a with
 | ofNat m =>
  show oif (inR .i64 (.ofNat m)) (some (AV.s (.int .i64 (.ofNat (Nat.lor m 1))))) none=_
  rw[hr]
  have:Int.ofNat (Nat.lor m 1)=Int.ofNat m+(1 - Int.ofNat m % 2):=by
   have e:m ||| 1=m+(1 - m % 2):=by
    have h1:(m ||| 1) / 2=m / 2:=by rw[Nat.or_div_two];simp
    have h2:(m ||| 1) % 2=1:=by rw[Nat.or_mod_two_eq_one];simp
    omega
   show((m ||| 1:Nat):Int)=(m:Int)+(1 - (m:Int) % 2)
   rw[e];omega
  rw[this];rfl
 | negSucc m =>
  show oif (inR .i64 (.negSucc m)) (some (AV.s (.int .i64 (.negSucc (Nat.xor m (Nat.land m 1)))))) none=_
  rw[hr]
  have:Int.negSucc (Nat.xor m (Nat.land m 1))=Int.negSucc m+(1 - Int.negSucc m % 2):=by
   have e:m ^^^ (m &&& 1)=m - m % 2:=by
    have h1:(m ^^^ (m &&& 1)) / 2=m / 2:=by rw[Nat.xor_div_two,Nat.and_div_two];simp
    have h2:¬ (m ^^^ (m &&& 1)) % 2=1:=by
     have e:m &&& 1=m % 2:=f10 m
     rw[e,Nat.xor_mod_two_eq_one];omega
    omega
   show Int.negSucc (m ^^^ (m &&& 1))=_
   rw[e];omega
  rw[this];rfl
end
class Ok (h:Hp):Prop where
 hid:h.hid=[]
 lo:h.lo=0
 pos:1<=h.next
theorem jbl {a b:Nat} (h:a<=b):Nat.ble a b=true:=by rw[jua];exact h
theorem jev:Ok h0:=⟨rfl,rfl,f0g 1⟩
section
variable {h:Hp} {F:Fns} {st fr:List AV} {Q:Ex->St->Prop} {β:Type}
theorem ja5 {x:AB} (k:Ok h):Ok (h.push x):=⟨k.hid,k.lo,f2a k.pos⟩
theorem jas {b:Nat} {x:Option AB} (k:Ok h):Ok (h.put b x):=⟨by rw[Hp.hid_put];exact k.hid,by rw[Hp.lo_put];exact k.lo,by rw[Hp.next_put];exact k.pos⟩
instance iPush {x:AB} [k:Ok h]:Ok (h.push x):=ja5 k
instance iPut {b:Nat} {x:Option AB} [k:Ok h]:Ok (h.put b x):=jas k
theorem ja0 {x:AB} (k:Ok h):(h.push x).get n=if n=h.next then some x else h.get n:=by
 rw[Hp.get_eq,Hp.get_eq,Hp.hid_push,k.hid]
 have e:jaq [] n=false:=rfl
 rw[e]
 show(h.tr.put (Nat.succ h.next) h.next (some x)).get n=_
 split
 .rename_i hn;subst hn;exact jbv _ _ _ _ k.pos (jnq _)
 .rename_i hn;exact jb4 _ _ _ _ n k.pos (jnq _) hn
theorem jak {b:Nat} {x:Option AB} (k:Ok h) (hb:1<=b):(h.put b x).get n=if n=b then x else h.get n:=by
 rw[Hp.get_eq,Hp.get_eq,Hp.hid_put,k.hid,Hp.tr_put]
 have e:jaq [] n=false:=rfl
 rw[e]
 show(h.tr.put (Nat.succ b) b x).get n=_
 split
 .rename_i hn;subst hn;exact jbv _ _ _ _ hb (jnq _)
 .rename_i hn;exact jb4 _ _ _ _ n hb (jnq _) hn
def Hp.hide (h:Hp) (lo:Nat) (hid:List (Nat×Nat)):Hp:=.mk h.next h.tr lo hid
theorem jm3:jaq [] n=false:=by cases n<;>rfl
theorem jjo {a b:Nat} {l:List (Nat×Nat)}:jaq ((a,b)::l) n=if a<=n/\n<b then true else jaq l n:=by
 show oif (Nat.ble a n) (oif (Nat.ble (n+1) b) true (jaq l n)) (jaq l n)=_
 simp only[jav,jua]
 by_cases h1:a<=n
 .by_cases h2:n+1<=b
  .rw [if_pos h1,if_pos h2,if_pos ⟨h1,h2⟩]
  .rw [if_pos h1,if_neg h2,if_neg (fun h=>h2 h.2)]
 .rw [if_neg h1,if_neg (fun h=>h1 h.1)]
theorem qf3 {hid:List (Nat×Nat)} (k:Ok h):(h.hide lo hid).get n=if jaq hid n=true then none else h.get n:=by
 rw[Hp.get_eq,Hp.get_eq,k.hid];rfl
theorem jy4 {cs:List SV} {ty:TypeId} {f:Nat->Hp->Option β} (k:Ok h):nw h cs ty f=f h.next (h.push (.arr cs ty)):=by
 cases h with
 | mk n t lo hid =>
  obtain rfl:hid=[]:=k.hid
  rfl
def rdB (x:Option AB) (off n:Nat):Option (List SV):=ob x (fun x=>AB.casesOn (motive:=fun _=>Option (List SV)) x (fun cs _=>jbp n (jcb off cs)) (fun _ _=>none))
theorem qti {b off:Nat}:rd h b off n=rdB (h.get b) off n:=rfl
theorem jgg {cs:List SV} {ty:TypeId} {off:Nat}:rdB (some (.arr cs ty)) off n=jbp n (jcb off cs):=rfl
def wrB (h:Hp) (b:Nat) (x:Option AB) (off:Nat) (xs:List SV):Option Hp:=ob x (fun x=>AB.casesOn (motive:=fun _=>Option Hp) x (fun cs ty=>ob (jbn off xs cs) (fun cs'=>some (h.put b (some (.arr cs' ty))))) (fun _ _=>none))
theorem qlq {b off:Nat} (k:Ok h):wr h b off xs=wrB h b (h.get b) off xs:=by
 show oif (Nat.ble h.lo b) _ none=_
 rw[k.lo];rfl
theorem jm4 {b:Nat} {cs:List SV} {ty:TypeId} {off:Nat}:wrB h b (some (.arr cs ty)) off xs=ob (jbn off xs cs) (fun cs'=>some (h.put b (some (.arr cs' ty)))):=rfl
def jn4 (h:Hp) (n:Nat) (agg:Bool) (v:AV):Option AV:=jes v (fun b off=>ob (rd h b off n) (fun cs=>jg2 agg cs)) (fun cs=>ob (jbp n cs) (fun cs=>jg2 agg cs))
theorem qlr {α γ:Type} {x:Option α} {f:α->Option β} {g:β->Option γ}:ob (ob x f) g=ob x (fun a=>ob (f a) g):=by cases x<;>rfl
theorem j32 {x:Od}:jep st fr h (.load n agg x)=ob (ev st fr x) (fun v=>ob (jn4 h n agg v) (fun v=>ok v h)):=by
 show ob (ev st fr x) (fun v=>jes v (fun b off=>ob (rd h b off n) (fun cs=>ob (jg2 agg cs) (fun v=>ok v h))) (fun cs=>ob (jbp n cs) (fun cs=>ob (jg2 agg cs) (fun v=>ok v h))))=_
 congr 1
 funext v
 cases v with
 | s v=>cases v<;>first | rfl | (show ob _ _=ob (ob _ _) _;rw[qlr])
 | _=>rfl
def qah (h:Hp) (n:Nat) (p v:AV):R:=jt6 p (fun b off=>cel v (fun cs=>oif (Nat.beq (jb3 cs) n) (ob (wr h b off cs) (fun h=>ok .undef h)) none))
theorem qf4 {b:Nat} {v:SV} (k:Ok h):qah h 1 (.s (.ptr b o)) (.s v)=ob (wrB h b (h.get b) o [v]) (fun h=>ok .undef h):=by
 show ob (wr h b o [v]) _=_
 rw[qlq k]
theorem j7y {b:Nat} {cs:List SV} (k:Ok h) (hn:cs.length=n):qah h n (.s (.ptr b o)) (.agg cs)=ob (wrB h b (h.get b) o cs) (fun h=>ok .undef h):=by
 show oif (Nat.beq (jb3 cs) n) (ob (wr h b o cs) _) none=_
 rw[qlq k,ja4,hn,f1v];rfl
theorem qls {e:TypeId} (k:Ok h):jep st fr h (.new e z)=some (.s (.ptr h.next 0),h.push (.arr z e)):=by
 show nw h z e (fun n h=>ok (.s (.ptr n 0)) h)=_
 rw[jy4 k];rfl
theorem qlt {e:TypeId} {x:Od} (k:Ok h):jep st fr h (.box e x)=ob (ev st fr x) (fun v=>cel v (fun cs=>some (.s (.ptr h.next 0),h.push (.arr cs e)))):=by
 show ob (ev st fr x) (fun v=>cel v (fun cs=>nw h cs e (fun n h=>ok (.s (.ptr n 0)) h)))=_
 congr 1;funext v;congr 1;funext cs;rw[jy4 k];rfl
theorem j7z {e:TypeId} {size:Nat} {len:Nat} {ps:List (Nat×Nat×Od)} (k:Ok h):jep st fr h (.bslice e size z len ps)=ob (fill st fr ps z) (fun cs=>some (.s (.slice h.next 0 len len true size),h.push (.arr cs e))):=by
 show ob (fill st fr ps z) (fun cs=>nw h cs e (fun n h=>ok (.s (.slice n 0 len len true size)) h))=_
 congr 1;funext cs;rw[jy4 k];rfl
def qtj (h:Hp) (e:TypeId) (size bytes:Nat) (z:List SV) (l c:AV):R:=qh4 l (fun m=>qh4 c (fun k=>oif (Nat.ble m k) (oif (Nat.ble (Nat.mul bytes k) 1000000000) (oif (Nat.ble k 1000000000) (nw h (rep z k) e (fun b h=>ok (.s (.slice b 0 m k true size)) h)) none) none) none))
theorem j1y {e:TypeId} {size:Nat} {m:Nat} (k:Ok h) (h1:bytes*m<=1000000000) (h2:m<=1000000000):qtj h e size bytes z (vi m) (vi m)=some (.s (.slice h.next 0 m m true size),h.push (.arr (rep z m) e)):=by
 show oif (Nat.ble m m) (oif (Nat.ble (Nat.mul bytes m) 1000000000) (oif (Nat.ble m 1000000000) (nw h (rep z m) e _) none) none) none=_
 rw[jy4 k,jbl (f0g m),jbl h2,show Nat.ble (Nat.mul bytes m) 1000000000=true from jbl h1];rfl
def ju3 (size:Nat) (v w:AV):Option AV:=jdm v none (fun b off len _ _ _=>below w len (fun m=>some (.s (.ptr b (Nat.add off (Nat.mul m size))))))
 (fun rows=>below w (jb3 rows) (fun m=>ob (jer rows m) (fun row=>oif (Nat.beq (jb3 row) size) (some (.s (.cp row))) none))) none
theorem jgp {m:Nat} {f:Nat->Option β} (hm:m<n):below (vi (m:Int)) n f=f m:=by
 show oif (Nat.ble (Nat.succ m) n) (f m) none=_
 rw[jbl (show Nat.succ m<=n from hm)];rfl
theorem jbf {size b off len mc sz m:Nat} {ex:Bool} (hm:m<len):ju3 size (.s (.slice b off len mc ex sz)) (vi (m:Int))=some (.s (.ptr b (off+m*size))):=jgp (f:=fun m=>some (AV.s (.ptr b (Nat.add off (Nat.mul m size))))) hm
theorem jcp {size b off len mc sz:Nat} {ex:Bool} (hm:0<len):ju3 size (.s (.slice b off len mc ex sz)) (vi 0)=some (.s (.ptr b off)):=by
 have:=jgp (f:=fun m=>some (AV.s (.ptr b (Nat.add off (Nat.mul m size))))) hm
 refine this.trans ?_
 show some (AV.s (.ptr b (off+0*size)))=_
 rw[f2d,f1l]
theorem joh {size m:Nat} (hr:rows[m]?=some row) (hl:row.length=size):ju3 size (.s (.lst rows)) (vi (m:Int))=some (.s (.cp row)):=by
 have hm:m<rows.length:=by
  rcases f0m m rows.length with h | h
  .exact h
  .rw [f0v h] at hr;cases hr
 have:=jgp (f:=fun m=>ob (jer rows m) (fun row=>oif (Nat.beq (jb3 row) size) (some (AV.s (.cp row))) none)) (show m<jb3 rows by rw[ja4];exact hm)
 refine this.trans ?_
 rw[jck,hr]
 show oif (Nat.beq (jb3 row) size) _ none=_
 rw[ja4,hl,f1v];rfl
def qig (n size:Nat) (v w:AV):Option AV:=jes v (fun b off=>below w n (fun m=>some (.s (.ptr b (Nat.add off (Nat.mul m size)))))) (fun cs=>below w n (fun m=>some (.s (.cp (jcb (Nat.mul m size) cs)))))
theorem jcz {size b off m:Nat} (hm:m<n):qig n size (.s (.ptr b off)) (vi (m:Int))=some (.s (.ptr b (off+m*size))):=jgp (f:=fun m=>some (AV.s (.ptr b (Nat.add off (Nat.mul m size))))) hm
theorem jfi {size m:Nat} {cs:List SV} (hm:m<n):qig n size (.s (.cp cs)) (vi (m:Int))=some (.s (.cp (jcb (m*size) cs))):=jgp (f:=fun m=>some (AV.s (.cp (jcb (Nat.mul m size) cs)))) hm
def q3d (h:Hp) (e:TypeId) (size bytes b n m:Nat) (x:Option AB) (new:List SV):R :=
 jj7 bytes (Nat.add n m) (ob x (fun x=>AB.casesOn (motive:=fun _=>R) x (fun cs ty =>
  ob (jbp (Nat.mul n size) (jcb 0 cs)) (fun old=>(oif (Nat.ble h.lo b) (oif (Nat.beq ty e) (nw (h.put b none) (jgk old new) e (fun k h=>ok (.s (.slice k 0 (Nat.add n m) (Nat.add n m) false size)) h)) none) none))) (fun _ _=>none)))
def joi (h:Hp) (e:TypeId) (size bytes:Nat) (v w:AV):R:=jdm w (qe0 v (ok v h)) (fun b' off' m _ _ _=>ob (rd h b' off' (Nat.mul m size)) (fun new=>jl6 h e size bytes m v new))
 (fun rows=>ob (j8r size rows) (fun new=>jl6 h e size bytes (jb3 rows) v new)) (qe0 v (ok v h))
theorem jsq {e:TypeId} {size m:Nat}:joi h e size bytes (.s .nilSlice) (.s (.slice b' o' m mc' ex' sz'))=ob (rdB (h.get b') o' (m*size)) (fun new=>Nat.casesOn (motive:=fun _=>R) m (some (.s .nilSlice,h)) (fun _=>jj7 bytes m (nw h new e (fun k h=>ok (.s (.slice k 0 m m false size)) h)))):=rfl
theorem qai {x:R} (h1:n*bytes<=140737488355328) (h2:n<=140737488355328):jj7 bytes n x=x:=by
 show oif (Nat.ble (Nat.mul n bytes) 140737488355328) (oif (Nat.ble n 140737488355328) x none) none=_
 rw[show Nat.ble (Nat.mul n bytes) 140737488355328=true from jbl h1,jbl h2];rfl
theorem joj {x:R} (h1:n*bytes<=1000000000) (h2:n<=1000000000):jj7 bytes n x=x:=qai oa oa
theorem jn5 {e:TypeId} {size b m:Nat} (hm:1<=m):joi h e size bytes (.s (.slice b 0 n n false size)) (.s (.slice b' o' m mc' ex' sz'))=ob (rdB (h.get b') o' (m*size)) (fun new=>q3d h e size bytes b n m (h.get b) new):=by
 show ob (rdB (h.get b') o' (m*size)) (fun new=>oif (Nat.beq size size) (oif (Nat.ble (Nat.add n m) n) _ (jj7 bytes (Nat.add n m) (jl5 h e size b 0 n m false new))) none)=_
 congr 1
 funext new
 have e1:Nat.ble (Nat.add n m) n=false:=by
  cases e:Nat.ble (Nat.add n m) n with
  | false=>rfl
  | true=>rw[jua] at e;have:n+m<=n:=e;omega
 rw[f1v]
 show oif (Nat.ble (Nat.add n m) n) _ _=_
 rw[e1]
 rfl
theorem qlu {e:TypeId} {size b m:Nat} {cs new:List SV} (k:Ok h) (hc:cs.length=n*size) (h1:(n+m)*bytes<=1000000000) (h2:n+m<=1000000000) :
 q3d h e size bytes b n m (some (.arr cs e)) new=some (.s (.slice h.next 0 (n+m) (n+m) false size),(h.put b none).push (.arr (cs++new) e)):=by
 show jj7 bytes (n+m) (ob (jbp (n*size) cs) (fun old=>oif (Nat.ble h.lo b) (oif (Nat.beq e e) (nw (h.put b none) (jgk old new) e _) none) none))=_
 rw[joj h1 h2,(ja2 _).2 ⟨f2w hc.symm,rfl⟩,←hc,f2z]
 show oif (Nat.ble h.lo b) (oif (Nat.beq e e) (nw (h.put b none) (jgk cs new) e _) none) none=_
 rw[k.lo,f1v,jy4 (jas k),jc3,Hp.next_put]
 rfl
def q32 (v:AV):Option (Bool×List SV):=AV.casesOn (motive:=fun _=>Option (Bool×List SV)) v (fun s=>some (false,[s])) (fun l=>some (true,l)) (fun _=>none) none none
theorem jm5:jf1 fr h []=some []:=rfl
theorem jfj {r:IR} {l:List IR}:jf1 fr h (r::l)=ob (jn1 fr h r) (fun v=>ob (jf1 fr h l) (fun x=>some (v::x))):=rfl
theorem jm6:jcj (.mk fr h) []=some (.tup [],h):=rfl
theorem j70 {r:IR}:jcj (.mk fr h) [r]=ob (jn1 fr h r) (fun p=>ob (jg2 p.1 p.2) (fun v=>some (v,h))):=by
 show ob (ob (jn1 fr h r) (fun v=>ob (some []) (fun x=>some (v::x)))) (fun vs=>List.casesOn (motive:=fun _=>R) vs (ok (.tup []) h) (fun p r=>List.casesOn (motive:=fun _=>R) r (ob (jg2 p.1 p.2) (fun v=>ok v h)) (fun _ _=>ok (.tup vs) h)))=_
 cases jn1 fr h r<;>rfl
theorem j71 {r r':IR} {l:List IR}:jcj (.mk fr h) (r::r'::l)=ob (jf1 fr h (r::r'::l)) (fun vs=>some (.tup vs,h)):=by
 show ob (jf1 fr h (r::r'::l)) (fun vs=>List.casesOn (motive:=fun _=>R) vs (ok (.tup []) h) (fun p r=>List.casesOn (motive:=fun _=>R) r (ob (jg2 p.1 p.2) (fun v=>ok v h)) (fun _ _=>ok (.tup vs) h)))=_
 rw[jfj,jfj]
 cases jn1 fr h r with
 | none=>rfl
 | some a=>cases jn1 fr h r' with
  | none=>rfl
  | some b=>cases jf1 fr h l<;>rfl
theorem qlv {v:AV}:ok v h=some (v,h):=rfl
theorem j1z {es:List Ent} {hid:List (Nat×Nat)}:sel es [] hid=some hid:=rfl
theorem ju4 {es:List Ent} {hid:List (Nat×Nat)}:sel es (j::js) hid=ob (jer es j) (fun e=>ob (sel es js hid) (fun l=>Ent.casesOn (motive:=fun _=>Option (List (Nat×Nat))) e (fun iv _=>some (iv++l)))):=by
 show ob (jer es j) (fun e=>ob (sel es js hid) (fun l=>Ent.casesOn (motive:=fun _=>Option (List (Nat×Nat))) e (fun iv _=>some (jgk iv l))))=_
 simp only[jc3]
def fpV:AV->List Nat
 | .s (.ptr b _)=>[b]
 | _=>[]
theorem j10 {b:Nat}:fpV (.s (.ptr b o))=[b]:=rfl
theorem qaj {cs:List SV}:fpV (.s (.cp cs))=[]:=rfl
theorem jy5 {es:List Ent} {dst:Option Nat} {x:Od} {l:List (IOper×Option (List Nat))}:WD F ((.mk dst (.a (.load n agg x)) none,some js)::l) st es fr h Q=obP (sel es js h.hid) (fun hid'=>obP (ev st fr x) (fun p=>obP (jn4 (h.hide h.next hid') n agg p) (fun v=>WD F l (v::st) (.mk [] (some (fpV p))::es) (jc0 fr dst v) h Q))):=by
 cases h with
 | mk k t lo hid =>
 rw[jy1 (x:=ob (sel es js hid) (fun hid'=>ob (ev st fr x) (fun p=>ob (jn4 (.mk k t k hid') n agg p) (fun v=>some (DR.mk v (.mk k t lo hid) (.mk [] (some (fpV p)))))))) (fun cl=>?_)]
 .refine propext ⟨fun⟨p,h1,h2⟩=>?_,fun⟨hid',h0,q,h1,v,h2,h3⟩=>⟨.mk v (.mk k t lo hid) (.mk [] (some (fpV q))),jaa.2 ⟨hid',h0,jaa.2 ⟨q,h1,jaa.2 ⟨v,h2,rfl⟩⟩⟩,h3⟩⟩
  obtain⟨hid',h3,h4⟩:=jaa.1 h1
  obtain⟨q,h5,h6⟩:=jaa.1 h4
  obtain⟨v,h7,h8⟩:=jaa.1 h6
  cases h8
  exact⟨hid',h3,q,h5,v,h7,h2⟩
 .show jnp cl st fr es (.mk k t lo hid) (.a (.load n agg x)) js=_
  show ob (sel es js hid) (fun hid'=>Cls.casesOn (motive:=fun _=>Option DR) (js0 (ob (ev st fr x) (fun v=>jes v (fun b _=>some (Cls.load b)) (fun _=>some .quiet))) (fun c=>c))
   (jl7 cl st fr k t lo k hid hid' (.a (.load n agg x)) (fun n'=>.mk [(k,n')] (some [])))
   (fun x'=>jl7 cl st fr k t lo k hid hid' (.a (.load n agg x)) (fun _=>.mk [] (some [x'])))
   (fun b=>oif (jf0 es js b) (oif (Nat.ble lo b) (ob (Hp.get (.mk k t lo hid') b) (fun _=>jl7 cl st fr k t lo lo hid hid' (.a (.load n agg x)) (fun n'=>.mk [(b,Nat.succ b),(k,n')] none))) none) none)
   (jl7 cl st fr k t lo k hid hid' (.a (.load n agg x)) (fun _=>.mk [] (some [])))
   (jl7 cl st fr k t lo k hid hid' (.a (.load n agg x)) (fun n'=>.mk [(k,n')] none)))=_
  congr 1
  funext hid'
  have key:∀ e:Nat->Ent,jl7 cl st fr k t lo k hid hid' (.a (.load n agg x)) e=ob (ev st fr x) (fun p=>ob (jn4 (.mk k t k hid') n agg p) (fun v=>some (DR.mk v (.mk k t lo hid) (e k)))):=fun e=>by
   show ob (aop cl st fr (.mk k t k hid') (.load n agg x)) _=_
   rw[jh6 (show AO.calls (.load n agg x)=false from rfl),j32]
   cases ev st fr x with
   | none=>rfl
   | some p =>
    show ob (ob (jn4 (.mk k t k hid') n agg p) _) _=ob (jn4 (.mk k t k hid') n agg p) _
    cases jn4 (.mk k t k hid') n agg p<;>rfl
  have k1:=key (fun n'=>.mk [(k,n')] none)
  have k3:=key (fun _=>.mk [] (some []))
  have k2:=fun b=>key (fun _=>.mk [] (some [b]))
  cases hx:ev st fr x with
  | none =>
   rw[hx] at k1
   exact k1
  | some p =>
   rw[hx] at k1 k3
   simp only[hx] at k2
   cases p with
   | s p =>
    cases p with
    | ptr b o=>exact k2 b
    | cp cs=>exact k3
    | _=>exact k1
   | _=>exact k1
theorem jsr {es:List Ent} {dst:Option Nat} {e:TypeId} {size:Nat} {len:Nat} {ps:List (Nat×Nat×Od)} {l:List (IOper×Option (List Nat))}:WD F ((.mk dst (.a (.bslice e size z len ps)) none,some js)::l) st es fr h Q=obP (sel es js h.hid) (fun hid'=>obP (fill st fr ps z) (fun cs=>jaq hid' h.next=false/\WD F l (.s (.slice h.next 0 len len true size)::st) (.mk [(h.next,h.next+1)] (some [])::es) (jc0 fr dst (.s (.slice h.next 0 len len true size))) (h.push (.arr cs e)) Q)):=by
 cases h with
 | mk k t lo hid =>
 rw[jy1 (x:=ob (sel es js hid) (fun hid'=>ob (fill st fr ps z) (fun cs=>oif (jaq hid' k) none (some (DR.mk (.s (.slice k 0 len len true size)) ((Hp.mk k t lo hid).push (.arr cs e)) (.mk [(k,k+1)] (some []))))))) (fun cl=>?_)]
 .refine propext ⟨fun⟨p,h1,h2⟩=>?_,fun⟨hid',h0,cs,h1,h2,h3⟩=>⟨DR.mk (.s (.slice k 0 len len true size)) ((Hp.mk k t lo hid).push (.arr cs e)) (.mk [(k,k+1)] (some [])),jaa.2 ⟨hid',h0,jaa.2 ⟨cs,h1,?_⟩⟩,h3⟩⟩
  .obtain ⟨hid',h3,h4⟩:=jaa.1 h1
   obtain⟨cs,h5,h6⟩:=jaa.1 h4
   rw[jav] at h6
   split at h6
   .cases h6
   .rename_i h7
    cases h6
    exact⟨hid',h3,cs,h5,Bool.eq_false_iff.2 h7,h2⟩
  .have h2':jaq hid' k=false:=h2
   rw[h2'];rfl
 .show jnp cl st fr es (.mk k t lo hid) (.a (.bslice e size z len ps)) js=_
  show ob (sel es js hid) (fun hid'=>ob (ob (fill st fr ps z) (fun cs=>oif (jaq hid' k) none (ok (.s (.slice k 0 len len true size)) (Hp.mk (Nat.succ k) (t.put (Nat.succ k) k (some (.arr cs e))) k hid')))) (fun p=>Hp.casesOn (motive:=fun _=>Option DR) p.2 (fun n' t' _ _=>some (.mk p.1 (.mk n' t' lo hid) (.mk [(k,n')] (some []))))))=_
  congr 1
  funext hid'
  cases fill st fr ps z with
  | none=>rfl
  | some cs =>
   show ob (oif (jaq hid' k) none _) _=oif (jaq hid' k) none _
   cases jaq hid' k<;>rfl
end
section
variable {F:Fns} {s:St} {st fr:List AV} {h h':Hp} {Q:Ex->St->Prop} {l:List IOper} {dst:Option Nat} {v w:AV} {m:List (IOper×Option (List Nat))} {es:List Ent}
def zpO (F:Fns) (x:Option AV) (dst:Option Nat) (l:List IOper) (st fr:List AV) (h:Hp) (Q:Ex->St->Prop):Prop:=obP x (fun v=>WO F l (v::st) (jc0 fr dst v) h Q)
theorem ju5:zpO F (some v) dst l st fr h Q=WO F l (v::st) (jc0 fr dst v) h Q:=jco
def zmO (F:Fns) (x:R) (dst:Option Nat) (l:List IOper) (st fr:List AV) (Q:Ex->St->Prop):Prop:=obP x (fun p=>WO F l (p.1::st) (jc0 fr dst p.1) p.2 Q)
theorem ju6:zmO F (some (v,h)) dst l st fr Q=WO F l (v::st) (jc0 fr dst v) h Q:=jco
def qlw (F:Fns) (dst:Option Nat) (l:List IOper) (st fr:List AV) (Q:Ex->St->Prop) (v:AV) (h:Hp):Prop:=WO F l (v::st) (jc0 fr dst v) h Q
theorem ju7:qlw F dst l st fr Q v h=WO F l (v::st) (jc0 fr dst v) h Q:=rfl
def zkO (F:Fns) (x:Option (List AV)) (f:FuncId) (dst:Option Nat) (l:List IOper) (st fr:List AV) (h:Hp) (Q:Ex->St->Prop):Prop:=obP x (fun vs=>WC F f vs h (qlw F dst l st fr Q))
theorem ju8 {vs:List AV} {f:FuncId}:zkO F (some vs) f dst l st fr h Q=WC F f vs h (qlw F dst l st fr Q):=jco
def zgO (F:Fns) (x:Option AV) (t:Bool) (dst:Option Nat) (op:IOp) (l:List IOper) (st fr:List AV) (h:Hp) (Q:Ex->St->Prop):Prop:=gP x t (WO F (.mk dst op none::l) st fr h Q) (WO F l (.undef::st) (jc0 fr dst .undef) h Q)
theorem ju9 {b:Bool} {op:IOp}:zgO F (some (.s (.bool b))) t dst op l st fr h Q=if b=t then WO F (.mk dst op none::l) st fr h Q else WO F l (.undef::st) (jc0 fr dst .undef) h Q:=j93
theorem jq0 {op:IOp}:zgO F (some .undef) t dst op l st fr h Q=WO F l (.undef::st) (jc0 fr dst .undef) h Q:=j31
def zcO (F:Fns) (x:Option AV) (a b:IC) (fr:List AV) (h:Hp) (Q:Ex->St->Prop):Prop:=qx1 x (W F a (.mk fr h) Q) (W F b (.mk fr h) Q)
theorem jva {b:Bool} {x y:IC}:zcO F (some (.s (.bool b))) x y fr h Q=if b=true then W F x (.mk fr h) Q else W F y (.mk fr h) Q:=j9y
theorem j11 {c:Od} {x y:IC}:W F (.cond c x y) (.mk fr h) Q=zcO F (ev [] fr c) x y fr h Q:=qtf
theorem j12 {o:PO}:WO F (.mk dst (.p o) none::l) st fr h Q=zpO F (pop st fr o) dst l st fr h Q:=qlg
theorem j13 {f:FuncId} {as:List Od}:WO F (.mk dst (.a (.call f as)) none::l) st fr h Q=zkO F (evs st fr as) f dst l st fr h Q:=qlh
theorem jvb {op:IOp}:WO F (.mk dst op (some (i,t))::l) st fr h Q=zgO F (jer st i) t dst op l st fr h Q:=qfy
theorem j33 {x:Od} {as:List Od} {f:FuncId} {caps:List (Nat×Nat)} (hx:ev st fr x=some (.s (.func f caps))):WO F (.mk dst (.a (.callv x as)) none::l) st fr h Q=zkO F (ob (evs st fr as) (fun vs=>some (vs++jhl caps))) f dst l st fr h Q:=by
 rw[qfx]
 refine propext ⟨fun⟨g,cs,h1,vs,h2,h3⟩=>?_,fun⟨vs,h1,h2⟩=>?_⟩
 .rw [hx] at h1;cases h1
  exact⟨_,jaa.2 ⟨vs,h2,rfl⟩,h3⟩
 .obtain ⟨us,h3,h4⟩:=jaa.1 h1
  cases h4
  exact⟨f,caps,hx,us,h3,h2⟩
def zpD (F:Fns) (x:Option AV) (e:Ent) (dst:Option Nat) (m:List (IOper×Option (List Nat))) (st:List AV) (es:List Ent) (fr:List AV) (h:Hp) (Q:Ex->St->Prop):Prop:=obP x (fun v=>WD F m (v::st) (e::es) (jc0 fr dst v) h Q)
theorem jvc {e:Ent}:zpD F (some v) e dst m st es fr h Q=WD F m (v::st) (e::es) (jc0 fr dst v) h Q:=jco
def zmD (F:Fns) (x:R) (dst:Option Nat) (m:List (IOper×Option (List Nat))) (st:List AV) (es:List Ent) (fr:List AV) (Q:Ex->St->Prop):Prop:=obP x (fun p=>WD F m (p.1::st) (.mk [] (some [])::es) (jc0 fr dst p.1) p.2 Q)
theorem jvd:zmD F (some (v,h)) dst m st es fr Q=WD F m (v::st) (.mk [] (some [])::es) (jc0 fr dst v) h Q:=jco
def qlx (F:Fns) (dst:Option Nat) (m:List (IOper×Option (List Nat))) (st:List AV) (es:List Ent) (fr:List AV) (Q:Ex->St->Prop) (v:AV) (h:Hp):Prop:=WD F m (v::st) (.mk [] (some [])::es) (jc0 fr dst v) h Q
theorem jve:qlx F dst m st es fr Q v h=WD F m (v::st) (.mk [] (some [])::es) (jc0 fr dst v) h Q:=rfl
def zkD (F:Fns) (x:Option (List AV)) (f:FuncId) (dst:Option Nat) (m:List (IOper×Option (List Nat))) (st:List AV) (es:List Ent) (fr:List AV) (h:Hp) (Q:Ex->St->Prop):Prop:=obP x (fun vs=>WC F f vs h (qlx F dst m st es fr Q))
theorem jvf {vs:List AV} {f:FuncId}:zkD F (some vs) f dst m st es fr h Q=WC F f vs h (qlx F dst m st es fr Q):=jco
def zgD (F:Fns) (x:Option AV) (t:Bool) (dst:Option Nat) (op:IOp) (o:Option (List Nat)) (m:List (IOper×Option (List Nat))) (st:List AV) (es:List Ent) (fr:List AV) (h:Hp) (Q:Ex->St->Prop):Prop:=gP x t (WD F ((.mk dst op none,o)::m) st es fr h Q) (WD F m (.undef::st) (.mk [] (some [])::es) (jc0 fr dst .undef) h Q)
theorem jvg {b:Bool} {op:IOp} {o:Option (List Nat)}:zgD F (some (.s (.bool b))) t dst op o m st es fr h Q=if b=t then WD F ((.mk dst op none,o)::m) st es fr h Q else WD F m (.undef::st) (.mk [] (some [])::es) (jc0 fr dst .undef) h Q:=j93
theorem jq1 {op:IOp} {o:Option (List Nat)}:zgD F (some .undef) t dst op o m st es fr h Q=WD F m (.undef::st) (.mk [] (some [])::es) (jc0 fr dst .undef) h Q:=j31
theorem j14 {o:PO}:WD F ((.mk dst (.p o) none,none)::m) st es fr h Q=zpD F (pop st fr o) (.mk [] (some [])) dst m st es fr h Q:=qli
theorem j15 {f:FuncId} {as:List Od}:WD F ((.mk dst (.a (.call f as)) none,none)::m) st es fr h Q=zkD F (evs st fr as) f dst m st es fr h Q:=qlj
theorem jvh {op:IOp} {o:Option (List Nat)}:WD F ((.mk dst op (some (i,t)),o)::m) st es fr h Q=zgD F (jer st i) t dst op o m st es fr h Q:=qfz
def q3e (F:Fns) (x:Option (List (Nat×Nat))) (o:Option AV) (dst:Option Nat) (m:List (IOper×Option (List Nat))) (st:List AV) (es:List Ent) (fr:List AV) (h:Hp) (Q:Ex->St->Prop):Prop:=obP x (fun _=>zpD F o (.mk [(h.next,h.next)] (some [])) dst m st es fr h Q)
theorem jq2 {x:List (Nat×Nat)} {o:Option AV}:q3e F (some x) o dst m st es fr h Q=zpD F o (.mk [(h.next,h.next)] (some [])) dst m st es fr h Q:=jco
theorem jh9 {o:PO}:WD F ((.mk dst (.p o) none,some js)::m) st es fr h Q=q3e F (sel es js h.hid) (pop st fr o) dst m st es fr h Q:=jy2
def qx6 (F:Fns) (x:Option (List (Nat×Nat))) (n:Nat) (agg:Bool) (p:Option AV) (dst:Option Nat) (m:List (IOper×Option (List Nat))) (st:List AV) (es:List Ent) (fr:List AV) (h:Hp) (Q:Ex->St->Prop):Prop:=obP x (fun hid'=>obP p (fun p=>zpD F (jn4 (h.hide h.next hid') n agg p) (.mk [] (some (fpV p))) dst m st es fr h Q))
theorem jq3 {x:List (Nat×Nat)}:qx6 F (some x) n agg (some w) dst m st es fr h Q=zpD F (jn4 (h.hide h.next x) n agg w) (.mk [] (some (fpV w))) dst m st es fr h Q:=by
 unfold qx6;simp[jco]
theorem jia {x:Od}:WD F ((.mk dst (.a (.load n agg x)) none,some js)::m) st es fr h Q=qx6 F (sel es js h.hid) n agg (ev st fr x) dst m st es fr h Q:=jy5
def qw3 (F:Fns) (x:Option (List (Nat×Nat))) (cs:Option (List SV)) (e:TypeId) (size len:Nat) (dst:Option Nat) (m:List (IOper×Option (List Nat))) (st:List AV) (es:List Ent) (fr:List AV) (h:Hp) (Q:Ex->St->Prop):Prop:=obP x (fun hid'=>obP cs (fun cs=>jaq hid' h.next=false/\WD F m (.s (.slice h.next 0 len len true size)::st) (.mk [(h.next,h.next+1)] (some [])::es) (jc0 fr dst (.s (.slice h.next 0 len len true size))) (h.push (.arr cs e)) Q))
theorem jku {x:List (Nat×Nat)} {cs:List SV} {e:TypeId} {size len:Nat} (hx:jaq x h.next=false):qw3 F (some x) (some cs) e size len dst m st es fr h Q=WD F m (.s (.slice h.next 0 len len true size)::st) (.mk [(h.next,h.next+1)] (some [])::es) (jc0 fr dst (.s (.slice h.next 0 len len true size))) (h.push (.arr cs e)) Q:=by
 unfold qw3;grind[jco]
theorem j16 {cs:List SV} {e:TypeId} {size len:Nat}:qw3 F (some []) (some cs) e size len dst m st es fr h Q=WD F m (.s (.slice h.next 0 len len true size)::st) (.mk [(h.next,h.next+1)] (some [])::es) (jc0 fr dst (.s (.slice h.next 0 len len true size))) (h.push (.arr cs e)) Q:=jku rfl
theorem jgh {e:TypeId} {size:Nat} {len:Nat} {ps:List (Nat×Nat×Od)}:WD F ((.mk dst (.a (.bslice e size z len ps)) none,some js)::m) st es fr h Q=qw3 F (sel es js h.hid) (fill st fr ps z) e size len dst m st es fr h Q:=jsr
def q33 (F:Fns) (x:Option (List (Nat×Nat))) (u:AV) (dst:Option Nat) (m:List (IOper×Option (List Nat))) (st:List AV) (es:List Ent) (fr:List AV) (h:Hp) (Q:Ex->St->Prop):Prop:=obP x (fun _=>WD F m (u::st) (.mk [(h.next,h.next)] none::es) (jc0 fr dst u) h Q)
theorem jq4 {x:List (Nat×Nat)}:q33 F (some x) u dst m st es fr h Q=WD F m (u::st) (.mk [(h.next,h.next)] none::es) (jc0 fr dst u) h Q:=jco
theorem qak {e:TypeId}:WO F (.mk dst (.a (.new e z)) none::l) st fr h Q=zmO F (jep st fr h (.new e z)) dst l st fr Q:=jh7 rfl
theorem qal {e:TypeId}:WD F ((.mk dst (.a (.new e z)) none,none)::m) st es fr h Q=zmD F (jep st fr h (.new e z)) dst m st es fr Q:=jjb rfl
theorem qam {e:TypeId} {x:Od}:WO F (.mk dst (.a (.box e x)) none::l) st fr h Q=zmO F (jep st fr h (.box e x)) dst l st fr Q:=jh7 rfl
theorem qan {e:TypeId} {x:Od}:WD F ((.mk dst (.a (.box e x)) none,none)::m) st es fr h Q=zmD F (jep st fr h (.box e x)) dst m st es fr Q:=jjb rfl
theorem jq5 {e:TypeId} {size:Nat} {len:Nat} {ps:List (Nat×Nat×Od)}:WO F (.mk dst (.a (.bslice e size z len ps)) none::l) st fr h Q=zmO F (jep st fr h (.bslice e size z len ps)) dst l st fr Q:=jh7 rfl
theorem jq6 {e:TypeId} {size:Nat} {len:Nat} {ps:List (Nat×Nat×Od)}:WD F ((.mk dst (.a (.bslice e size z len ps)) none,none)::m) st es fr h Q=zmD F (jep st fr h (.bslice e size z len ps)) dst m st es fr Q:=jjb rfl
theorem jm7 {e:TypeId} {size:Nat} {x y:Od}:WO F (.mk dst (.a (.mkslice e size bytes z x y)) none::l) st fr h Q=zmO F (jep st fr h (.mkslice e size bytes z x y)) dst l st fr Q:=jh7 rfl
theorem jm8 {e:TypeId} {size:Nat} {x y:Od}:WD F ((.mk dst (.a (.mkslice e size bytes z x y)) none,none)::m) st es fr h Q=zmD F (jep st fr h (.mkslice e size bytes z x y)) dst m st es fr Q:=jjb rfl
theorem j17 {x:Od}:WO F (.mk dst (.a (.load n agg x)) none::l) st fr h Q=zmO F (jep st fr h (.load n agg x)) dst l st fr Q:=jh7 rfl
theorem j18 {x:Od}:WD F ((.mk dst (.a (.load n agg x)) none,none)::m) st es fr h Q=zmD F (jep st fr h (.load n agg x)) dst m st es fr Q:=jjb rfl
theorem jvi {x y:Od}:WO F (.mk dst (.a (.store n x y)) none::l) st fr h Q=zmO F (jep st fr h (.store n x y)) dst l st fr Q:=jh7 rfl
theorem jvj {x y:Od}:WD F ((.mk dst (.a (.store n x y)) none,none)::m) st es fr h Q=zmD F (jep st fr h (.store n x y)) dst m st es fr Q:=jjb rfl
theorem qao {e:TypeId} {size:Nat} {x y:Od}:WO F (.mk dst (.a (.app e size bytes x y)) none::l) st fr h Q=zmO F (jep st fr h (.app e size bytes x y)) dst l st fr Q:=jh7 rfl
theorem qap {e:TypeId} {size:Nat} {x y:Od}:WD F ((.mk dst (.a (.app e size bytes x y)) none,none)::m) st es fr h Q=zmD F (jep st fr h (.app e size bytes x y)) dst m st es fr Q:=jjb rfl
theorem j19 {size:Nat} {x y:Od}:WO F (.mk dst (.a (.copy size x y)) none::l) st fr h Q=zmO F (jep st fr h (.copy size x y)) dst l st fr Q:=jh7 rfl
theorem j2a {size:Nat} {x y:Od}:WD F ((.mk dst (.a (.copy size x y)) none,none)::m) st es fr h Q=zmD F (jep st fr h (.copy size x y)) dst m st es fr Q:=jjb rfl
theorem jq7 {size:Nat} {x:Od}:WO F (.mk dst (.a (.slicea n size x)) none::l) st fr h Q=zmO F (jep st fr h (.slicea n size x)) dst l st fr Q:=jh7 rfl
theorem jq8 {size:Nat} {x:Od}:WD F ((.mk dst (.a (.slicea n size x)) none,none)::m) st es fr h Q=zmD F (jep st fr h (.slicea n size x)) dst m st es fr Q:=jjb rfl
def q3f (o:BO) (x y:Option AV):Option AV:=ob x (fun a=>ob y (fun b=>svc none a (fun a=>svc none b (fun b=>jek o a b))))
theorem qaq {o:BO} {x y:Od}:pop st fr (.bin o x y)=q3f o (ev st fr x) (ev st fr y):=rfl
theorem jq9 {o:BO} {a b:SV}:q3f o (some (.s a)) (some (.s b))=jek o a b:=rfl
def qx7 (off:Nat) (x:Option AV):Option AV:=ob x (fun v=>jes v (fun b o=>some (.s (.ptr b (o+off)))) (fun cs=>some (.s (.cp (jcb off cs)))))
theorem qar {off:Nat} {x:Od}:pop st fr (.fld off x)=qx7 off (ev st fr x):=rfl
theorem jvk {off b:Nat}:qx7 off (some (.s (.ptr b o)))=some (.s (.ptr b (o+off))):=rfl
theorem j2b {off:Nat} {cs:List SV}:qx7 off (some (.s (.cp cs)))=some (.s (.cp (jcb off cs))):=rfl
def qly (x:Option AV):Option AV:=ob x (fun v=>jes v (fun b o=>some (.s (.ptr b o))) (fun cs=>some (.s (.cp cs))))
theorem j2c {x:Od}:pop st fr (.nchk x)=qly (ev st fr x):=rfl
theorem jra {b:Nat}:qly (some (.s (.ptr b o)))=some (.s (.ptr b o)):=rfl
theorem jvl {cs:List SV}:qly (some (.s (.cp cs)))=some (.s (.cp cs)):=rfl
def q3g (x:Option AV):Option AV:=ob x jx6
theorem qas {x:Od}:pop st fr (.len x)=q3g (ev st fr x):=rfl
theorem jrb:q3g (some v)=jx6 v:=rfl
def q3h (size:Nat) (x y:Option AV):Option AV:=ob x (fun v=>ob y (fun w=>ju3 size v w))
theorem qat {size:Nat} {x i:Od}:pop st fr (.ixs size x i)=q3h size (ev st fr x) (ev st fr i):=rfl
theorem jrc {size:Nat}:q3h size (some v) (some w)=ju3 size v w:=rfl
def q3i (n size:Nat) (x y:Option AV):Option AV:=ob x (fun v=>ob y (fun w=>qig n size v w))
theorem qau {size:Nat} {x i:Od}:pop st fr (.ixa n size x i)=q3i n size (ev st fr x) (ev st fr i):=rfl
theorem jrd {size:Nat}:q3i n size (some v) (some w)=qig n size v w:=rfl
def qtk (x:Option AV) (a b:Od) (st fr:List AV):Option AV:=ob x (fun v=>jg3 v (fun t=>ev st fr (oif t a b)))
theorem j2d {c a b:Od}:pop st fr (.pick c a b)=qtk (ev st fr c) a b st fr:=rfl
theorem jm9 {a b:Od}:qtk (some (.s (.bool t))) a b st fr=if t=true then ev st fr a else ev st fr b:=by cases t<;>rfl
def q3j (i:Nat) (x:Option AV):Option AV:=ob x (fun v=>AV.casesOn (motive:=fun _=>Option AV) v (fun _=>none) (fun _=>none) (fun l=>ob (jer l i) (fun p=>jg2 p.1 p.2)) none none)
theorem qav {x:Od}:pop st fr (.ext i x)=q3j i (ev st fr x):=rfl
def mk1 (p:Option (Bool×List SV)):Option AV:=ob p (fun p=>jg2 p.1 p.2)
theorem jvm {a:Bool} {l:List SV}:mk1 (some (a,l))=jg2 a l:=rfl
theorem jvn {l:List (Bool×List SV)}:q3j i (some (.tup l))=mk1 (jer l i):=rfl
def ldR (h:Hp) (agg:Bool) (cs:Option (List SV)):R:=ob cs (fun cs=>ob (jg2 agg cs) (fun v=>ok v h))
theorem qlz {cs:List SV}:ldR h true (some cs)=some (.agg cs,h):=rfl
theorem ql0 {a:SV}:ldR h false (some [a])=some (.s a,h):=rfl
def ql1 (h:Hp) (n:Nat) (agg:Bool) (x:Option AV):R:=ob x (fun v=>ob (jn4 h n agg v) (fun v=>ok v h))
theorem j2e {x:Od}:jep st fr h (.load n agg x)=ql1 h n agg (ev st fr x):=j32
theorem jre {b:Nat}:ql1 h n agg (some (.s (.ptr b o)))=ldR h agg (rdB (h.get b) o n):=by
 show ob (ob (rdB (h.get b) o n) _) _=_
 rw[qlr];rfl
theorem jvo {cs:List SV}:ql1 h n agg (some (.s (.cp cs)))=ldR h agg (jbp n cs):=by
 show ob (ob (jbp n cs) _) _=_
 rw[qlr];rfl
def jib (h:Hp) (n:Nat) (x y:Option AV):R:=ob x (fun p=>ob y (fun v=>qah h n p v))
theorem jvp {x v:Od}:jep st fr h (.store n x v)=jib h n (ev st fr x) (ev st fr v):=rfl
def stR (h:Option Hp):R:=ob h (fun h=>ok .undef h)
theorem jvq:stR (some h)=some (.undef,h):=rfl
theorem qf5 {b:Nat} {x:SV} (k:Ok h):jib h 1 (some (.s (.ptr b o))) (some (.s x))=stR (wrB h b (h.get b) o [x]):=qf4 k
theorem j72 {b:Nat} {cs:List SV} (k:Ok h) (hn:cs.length=n):jib h n (some (.s (.ptr b o))) (some (.agg cs))=stR (wrB h b (h.get b) o cs):=j7y k hn
def q3k (h:Hp) (e:TypeId) (size bytes:Nat) (x y:Option AV):R:=ob x (fun v=>ob y (fun w=>joi h e size bytes v w))
theorem qaw {e:TypeId} {size:Nat} {x y:Od}:jep st fr h (.app e size bytes x y)=q3k h e size bytes (ev st fr x) (ev st fr y):=rfl
theorem jrf {e:TypeId} {size:Nat}:q3k h e size bytes (some v) (some w)=joi h e size bytes v w:=rfl
def bsO (h:Hp) (e:TypeId) (size len:Nat) (x:Option (List SV)):R:=ob x (fun cs=>some (.s (.slice h.next 0 len len true size),h.push (.arr cs e)))
theorem jvr {e:TypeId} {size len:Nat} {cs:List SV}:bsO h e size len (some cs)=some (.s (.slice h.next 0 len len true size),h.push (.arr cs e)):=rfl
theorem qax {e:TypeId} {size:Nat} {len:Nat} {ps:List (Nat×Nat×Od)} (k:Ok h):jep st fr h (.bslice e size z len ps)=bsO h e size len (fill st fr ps z):=j7z k
def qw4 (h:Hp) (e:TypeId) (x:Option AV):R:=ob x (fun v=>cel v (fun cs=>some (.s (.ptr h.next 0),h.push (.arr cs e))))
theorem qtl {e:TypeId} {x:Od} (k:Ok h):jep st fr h (.box e x)=qw4 h e (ev st fr x):=qlt k
theorem qay {e:TypeId} {x:SV}:qw4 h e (some (.s x))=some (.s (.ptr h.next 0),h.push (.arr [x] e)):=rfl
theorem jvs {e:TypeId} {cs:List SV}:qw4 h e (some (.agg cs))=some (.s (.ptr h.next 0),h.push (.arr cs e)):=rfl
def q3l (h:Hp) (e:TypeId) (size bytes:Nat) (z:List SV) (x y:Option AV):R:=ob x (fun v=>ob y (fun u=>qtj h e size bytes z v u))
theorem jna {e:TypeId} {size:Nat} {l c:Od}:jep st fr h (.mkslice e size bytes z l c)=q3l h e size bytes z (ev st fr l) (ev st fr c):=rfl
theorem jrg {e:TypeId} {size:Nat}:q3l h e size bytes z (some v) (some w)=qtj h e size bytes z v w:=rfl
def re1 (h:Hp) (x:Option (Bool×List SV)):R:=ob x (fun p=>ob (jg2 p.1 p.2) (fun v=>some (v,h)))
theorem qaz {r:IR}:jcj (.mk fr h) [r]=re1 h (jn1 fr h r):=j70
theorem ql2 {a:SV}:re1 h (some (false,[a]))=some (.s a,h):=rfl
theorem ql3 {l:List SV}:re1 h (some (true,l))=some (.agg l,h):=rfl
def reT (g:Option AV):Option (Bool×List SV):=ob g q32
theorem qa0:jn1 fr h (.tmp g)=reT (jer fr g):=rfl
theorem ql4 {x:SV}:reT (some (.s x))=some (false,[x]):=rfl
theorem j2f {x:List SV}:reT (some (.agg x))=some (true,x):=rfl
def reC (h:Hp) (n:Nat) (agg:Bool) (g:Option AV):Option (Bool×List SV):=ob g (fun v=>jt6 v (fun b off=>ob (rdB (h.get b) off n) (fun cs=>some (agg,cs))))
theorem j2g:jn1 fr h (.cell g n agg)=reC h n agg (jer fr g):=rfl
def reP (agg:Bool) (x:Option (List SV)):Option (Bool×List SV):=ob x (fun cs=>some (agg,cs))
theorem jvt {cs:List SV}:reP agg (some cs)=some (agg,cs):=rfl
theorem j2h {b:Nat}:reC h n agg (some (.s (.ptr b o)))=reP agg (rdB (h.get b) o n):=rfl
def qx8 (x:R) (Q:AV->Hp->Prop):Prop:=obP x (fun p=>Q p.1 p.2)
theorem jrh {Q:AV->Hp->Prop}:qx8 (some (v,h)) Q=Q v h:=jco
theorem jjp {res:List IR} {Q:AV->Hp->Prop}:jqh res Q .normal s=qx8 (jcj s res) Q:=rfl
theorem jvu {res:List IR} {Q:AV->Hp->Prop}:jqh res Q .ret s=qx8 (jcj s res) Q:=rfl
def re2 (h:Hp) (x:Option (List (Bool×List SV))):R:=ob x (fun vs=>some (.tup vs,h))
theorem jvv {l:List (Bool×List SV)}:re2 h (some l)=some (.tup l,h):=rfl
theorem qa1 {r r':IR} {k:List IR}:jcj (.mk fr h) (r::r'::k)=re2 h (jf1 fr h (r::r'::k)):=j71
theorem jcq {size b off len mc sz:Nat} {ex:Bool} (hm:1<len):ju3 size (.s (.slice b off len mc ex sz)) (vi 1)=some (.s (.ptr b (off+size))):=by
 have:=jbf (size:=size) (b:=b) (off:=off)  (mc:=mc) (sz:=sz) (ex:=ex) hm
 grind
theorem jd4 {size b off:Nat} (hm:0<n):qig n size (.s (.ptr b off)) (vi 0)=some (.s (.ptr b off)):=by
 have:=jcz  (size:=size) (b:=b) (off:=off) hm
 grind
theorem jd5 {size b off:Nat} (hm:1<n):qig n size (.s (.ptr b off)) (vi 1)=some (.s (.ptr b (off+size))):=by
 have:=jcz  (size:=size) (b:=b) (off:=off) hm
 grind
theorem jez {size:Nat} {cs:List SV} (hm:0<n):qig n size (.s (.cp cs)) (vi 0)=some (.s (.cp cs)):=by
 have:=jfi  (size:=size) (cs:=cs) hm
 rw[f2d] at this;trivial
theorem je0 {size:Nat} {cs:List SV} (hm:1<n):qig n size (.s (.cp cs)) (vi 1)=some (.s (.cp (jcb size cs))):=by
 have:=jfi  (size:=size) (cs:=cs) hm
 grind
theorem jvw [k:Ok h]:h.hid=[]:=k.hid
theorem jkv [k:Ok h] {hid:List (Nat×Nat)}:(h.hide lo hid).get n=if jaq hid n=true then none else h.get n:=qf3 k
theorem jkw [k:Ok h] {e:TypeId} {size:Nat} {len:Nat} {ps:List (Nat×Nat×Od)}:jep st fr h (.bslice e size z len ps)=bsO h e size len (fill st fr ps z):=qax k
theorem jvx [k:Ok h] {e:TypeId} {x:Od}:jep st fr h (.box e x)=qw4 h e (ev st fr x):=qtl k
theorem jkx [k:Ok h] {e:TypeId}:jep st fr h (.new e z)=some (.s (.ptr h.next 0),h.push (.arr z e)):=qls k
theorem jvy [k:Ok h] {b:Nat} {x:SV}:jib h 1 (some (.s (.ptr b o))) (some (.s x))=stR (wrB h b (h.get b) o [x]):=qf5 k
theorem jjq [k:Ok h] {b:Nat} {cs:List SV} (hn:cs.length=n):jib h n (some (.s (.ptr b o))) (some (.agg cs))=stR (wrB h b (h.get b) o cs):=j72 k hn
theorem jky [k:Ok h] {b:Nat} {t u:SV}:jib h 2 (some (.s (.ptr b o))) (some (.agg [t,u]))=stR (wrB h b (h.get b) o [t,u]):=jjq rfl
theorem jkz [k:Ok h] {b:Nat} {t u v:SV}:jib h 3 (some (.s (.ptr b o))) (some (.agg [t,u,v]))=stR (wrB h b (h.get b) o [t,u,v]):=jjq rfl
theorem jk0 [k:Ok h] {b:Nat} {t u v w:SV}:jib h 4 (some (.s (.ptr b o))) (some (.agg [t,u,v,w]))=stR (wrB h b (h.get b) o [t,u,v,w]):=jjq rfl
theorem jk1 [k:Ok h] {b:Nat} {t u v w x:SV}:jib h 5 (some (.s (.ptr b o))) (some (.agg [t,u,v,w,x]))=stR (wrB h b (h.get b) o [t,u,v,w,x]):=jjq rfl
theorem jk2 [k:Ok h] {b:Nat} {t u v w x:SV}:jib h 6 (some (.s (.ptr b o))) (some (.agg [t,u,v,w,x,y]))=stR (wrB h b (h.get b) o [t,u,v,w,x,y]):=jjq rfl
theorem jk3 [k:Ok h] {b:Nat} {t u v w x z:SV}:jib h 7 (some (.s (.ptr b o))) (some (.agg [t,u,v,w,x,y,z]))=stR (wrB h b (h.get b) o [t,u,v,w,x,y,z]):=jjq rfl
theorem jk4 [k:Ok h] {x:AB}:(h.push x).get n=if n=h.next then some x else h.get n:=ja0 k
theorem jk5 [k:Ok h] {b:Nat} {x:Option AB} (hb:1<=b):(h.put b x).get n=if n=b then x else h.get n:=jak k hb
def mkL (agg:Bool) (x:Option (List SV)):Option AV:=ob x (fun cs=>jg2 agg cs)
theorem ql5 {cs:List SV}:mkL true (some cs)=some (.agg cs):=rfl
theorem ql6 {a:SV}:mkL false (some [a])=some (.s a):=rfl
theorem qa2 {b:Nat}:jn4 h n agg (.s (.ptr b o))=mkL agg (rdB (h.get b) o n):=rfl
theorem ql7 {cs:List SV}:jn4 h n agg (.s (.cp cs))=mkL agg (jbp n cs):=rfl
theorem ql8 {a b:Int} (h1:0<=a) (h3:0<b):0<=a % b/\a % b<=a:=by
 have h2:=Int.emod_add_mul_ediv a b
 have h:=Int.ediv_nonneg h1 (Int.le_of_lt h3)
 have h4:=Int.mul_nonneg (Int.le_of_lt h3) h
 exact⟨Int.emod_nonneg a oa,oa⟩
theorem jfk {a b:Int} (h1:0<=a) (h2:a<=9223372036854775807) (h3:0<b):jek .rem (.int .i64 a) (.int .i64 b)=some (vi (a % b)):=by
 have:=ql8 h1 h3
 rw[j1x,if_neg oa,f2l h1,jis oa oa]
theorem qa3 {a b:Int} (h1:-9223372036854775808<=a) (h2:a<=9223372036854775807) (h3:0<b):-9223372036854775808<=a.tdiv b/\a.tdiv b<=9223372036854775807:=by
 have h:=Int.natAbs_tdiv_le_natAbs a b
 rcases(by omega:a<0∨0<=a) with h4 | h4
 .have h5:a.tdiv b<=0:=by
   obtain⟨c,rfl⟩:∃ c,a=-c:=⟨-a,oa⟩
   simp_all[Int.neg_tdiv,Int.tdiv_nonneg,Int.le_of_lt]
  omega
 omega
theorem jjr {a b:Int} (h1:-9223372036854775808<=a) (h2:a<=9223372036854775807) (h3:0<b):jek .quo (.int .i64 a) (.int .i64 b)=some (vi (a.tdiv b)):=by
 have:=qa3 h1 h2 h3
 rw[qln,if_neg oa,jis this.1 this.2]
theorem jjs {a n:Int} {k:IntKind} (h1:0<=n) (h2:n<=63):jek .shr (.int .i64 a) (.int k n)=some (vi (a / 2 ^ n.toNat)):=by
 grind[Int.eq_ofNat_of_zero_le,qlo]
theorem je1 {a:Nat}:(a=a+(n+1))=False:=eq_false oa
theorem je2 {a:Nat}:(a+(n+1)=a)=False:=eq_false oa
theorem qf6 {e:TypeId} {x:SV} (ok:Ok h) (h1:bytes<=1000):qtj h e 1 bytes [x] (vi 2) (vi 2)=some (.s (.slice h.next 0 2 2 true 1),h.push (.arr [x,x] e)) :=
 j1y (m:=2) ok oa oa
theorem jg8 [ok:Ok h] {e:TypeId} {x:SV} (h1:bytes<=1000):qtj h e 1 bytes [x] (vi 2) (vi 2)=some (.s (.slice h.next 0 2 2 true 1),h.push (.arr [x,x] e)):=qf6 ok h1
theorem jj3 {a b:Nat} (h:a≠b):(a=b)=False:=eq_false h
theorem jdy {a b:Nat} (h:b<a):(a<=b)=False:=eq_false oa
theorem jdz {a b:Nat} (h:b<=a):(a<b)=False:=eq_false oa
theorem jj4 {a b:Nat} (h:a<=b):(a<=b)=True:=eq_true h
theorem jj5 {a b:Nat} (h:a<b):(a<b)=True:=eq_true h
theorem q34 {a b:Int} (h:a<=b):(a<=b)=True:=eq_true h
theorem q35 {a b:Int} (h:a<b):(a<b)=True:=eq_true h
def ql9 (F:Fns) (dst:Option Nat) (m:List (IOper×Option (List Nat))) (st:List AV) (es:List Ent) (fr:List AV) (h:Hp) (Q:Ex->St->Prop) (v:AV) (h':Hp):Prop:=WD F m (v::st) (.mk [(h.next,h'.next)] none::es) (jc0 fr dst v) (.mk h'.next h'.tr h.lo h.hid) Q
def zkH (F:Fns) (x:Option (List (Nat×Nat))) (vs:Option (List AV)) (f:FuncId) (dst:Option Nat) (m:List (IOper×Option (List Nat))) (st:List AV) (es:List Ent) (fr:List AV) (h:Hp) (Q:Ex->St->Prop):Prop:=obP x (fun hid'=>obP vs (fun vs=>WC F f vs (h.hide h.next hid') (ql9 F dst m st es fr h Q)))
theorem jvz {x:List (Nat×Nat)} {vs:List AV} {f:FuncId}:zkH F (some x) (some vs) f dst m st es fr h Q=WC F f vs (h.hide h.next x) (ql9 F dst m st es fr h Q):=by
 unfold zkH;simp[jco]
theorem jnb {x:List (Nat×Nat)}:ql9 F dst m st es fr h Q v (h.hide lo x)=WD F m (v::st) (.mk [(h.next,h.next)] none::es) (jc0 fr dst v) h Q:=by rfl
theorem jg9 {f:FuncId} {as:List Od}:WD F ((.mk dst (.a (.call f as)) none,some js)::m) st es fr h Q=zkH F (sel es js h.hid) (evs st fr as) f dst m st es fr h Q:=by
 cases h with
 | mk k t lo hid =>
 rw[jqg]
 have key:∀ n v h' e,j0u (jby F (run F n)) st fr es (.mk k t lo hid) (.a (.call f as)) none (some js)=some (.mk v h' e)↔∃ x vs h1,sel es js hid=some x/\evs st fr as=some vs/\jby F (run F n) f vs (.mk k t k x)=some (v,h1)/\h'=.mk h1.next h1.tr lo hid/\e=.mk [(k,h1.next)] none:=fun n v h' e=>by
  have e0:j0u (jby F (run F n)) st fr es (.mk k t lo hid) (.a (.call f as)) none (some js)=ob (sel es js hid) (fun x=>ob (ob (evs st fr as) (fun vs=>jby F (run F n) f vs (.mk k t k x))) (fun p=>Hp.casesOn (motive:=fun _=>Option DR) p.2 (fun n' t' _ _=>some (.mk p.1 (.mk n' t' lo hid) (.mk [(k,n')] none))))):=rfl
  rw[e0]
  constructor
  .intro h1
   obtain⟨x,hx,h2⟩:=jaa.1 h1
   obtain⟨p,hp,h3⟩:=jaa.1 h2
   obtain⟨vs,hvs,h4⟩:=jaa.1 hp
   cases h3
   exact⟨x,vs,_,hx,hvs,h4,rfl,rfl⟩
  .rintro ⟨x,vs,⟨n1,t1,l1,d1⟩,hx,hvs,h4,rfl,rfl⟩
   exact jaa.2 ⟨x,hx,jaa.2 ⟨(v,.mk n1 t1 l1 d1),jaa.2 ⟨vs,hvs,h4⟩,rfl⟩⟩
 refine propext ⟨fun⟨n,v,h',e,h1,h2⟩=>?_,fun⟨x,hx,vs,hvs,n,v,h1,h2,h3⟩=>⟨n,v,_,_,(key n v _ _).2 ⟨x,vs,h1,hx,hvs,h2,rfl,rfl⟩,h3⟩⟩
 obtain⟨x,vs,h3,hx,hvs,h4,rfl,rfl⟩:=(key n v h' e).1 h1
 exact⟨x,hx,vs,hvs,n,v,h3,h4,h2⟩
theorem jdn {a:Nat}:((a:Int) / 2 ^ n)=((a / 2 ^ n:Nat):Int):=by
 rfl
theorem jdo:(4+(i:Int)).toNat=4+i:=oa
theorem jdp:(9+(i:Int)).toNat=9+i:=oa
theorem jdq:(i:Int).toNat=i:=oa
theorem jjt {a:Nat}:decide ((a:Int) % 2=1)=decide (a % 2=1):=decide_eq_decide.2 oa
theorem jfl {a:Nat}:(a:Int).tdiv 4=((a / 4:Nat):Int):=rfl
theorem jfm {a:Nat}:(a:Int).tdiv 5=((a / 5:Nat):Int):=rfl
theorem jdi {x:Option AB} {off sz:Nat} {c:SV} (hr:rdB x off sz=some row) (hj:row[j]?=some c):rdB x (off+j) 1=some [c]:=by
 cases x with
 | none=>trivial
 | some x =>
  cases x with
  | map va es=>trivial
  | arr cs ty =>
   rw[jgg,jcc] at hr ⊢
   obtain⟨h1,rfl⟩:=(ja2 _).1 hr
   have hjs:j<sz:=by
    rcases f0m j sz with h | h
    .exact h
    .rw [f0v (by simp;omega)] at hj;cases hj
   have hj2:cs[off+j]?=some c:=by
    rw[f2g,if_pos hjs,f1h] at hj;exact hj
   grind[f0m,f0v,ja2,f1c,f0b,Option.some.inj]
def mmV (mx:Bool) (x y:Option AV):Option AV:=ob x (fun a=>ob y (fun b=>jlz a (fun k m=>jlz b (fun k' n=>oif (Nat.beq (ikn k) (ikn k')) (some (.s (.int k (oif (ile m n) (oif mx n m) (oif mx m n))))) none))))
theorem qma {mx:Bool} {x y:Od}:pop st fr (.mm mx x y)=mmV mx (ev st fr x) (ev st fr y):=rfl
theorem j2i {a b:Int}:mmV false (some (.s (.int .i64 a))) (some (.s (.int .i64 b)))=some (vi (if a<=b then a else b)):=by
 show some (AV.s (.int .i64 (oif (ile a b) a b)))=_
 simp[jav,jet]
theorem j2j {a b:Int}:mmV true (some (.s (.int .i64 a))) (some (.s (.int .i64 b)))=some (vi (if a<=b then b else a)):=by
 show some (AV.s (.int .i64 (oif (ile a b) b a)))=_
 simp[jav,jet]
end
theorem q36:type_of% @Int.cast_ofNat_Int:=@Int.cast_ofNat_Int
theorem q37:type_of% @Int.natCast_zero:=@Int.natCast_zero
theorem q38:type_of% @Int.natCast_one:=@Int.natCast_one
theorem q39:type_of% @decide_eq_true_eq:=@decide_eq_true_eq
theorem q4a:type_of% @decide_eq_false_iff_not:=@decide_eq_false_iff_not
theorem q4b:type_of% @Bool.false_eq_true:=@Bool.false_eq_true
theorem q4c:type_of% @and_true:=@and_true
theorem q4d:type_of% @true_and:=@true_and
theorem q4e:type_of% @List.cons_append:=@List.cons_append
theorem q4f:type_of% @List.nil_append:=@List.nil_append
theorem qx9:type_of% @decide_true:=@decide_true
theorem qya:type_of% @decide_false:=@decide_false
theorem qyb:type_of% @Bool.not_true:=@Bool.not_true
theorem qyc:type_of% @Bool.not_false:=@Bool.not_false
theorem qyd:type_of% @Nat.add_zero:=@Nat.add_zero
theorem qye:type_of% @Nat.zero_add:=@Nat.zero_add
theorem qyf:type_of% @Option.some.injEq:=@Option.some.injEq
theorem qyg:type_of% @Bool.true_eq_false:=@Bool.true_eq_false
theorem qyh:type_of% @not_true_eq_false:=@not_true_eq_false
theorem qyi:type_of% @not_false_eq_true:=@not_false_eq_true
theorem qyj:type_of% @Hp.next_push:=@Hp.next_push
theorem qyk:type_of% @Hp.next_put:=@Hp.next_put
theorem qyl:type_of% @Nat.add_assoc:=@Nat.add_assoc
attribute [go_sem] jg9 jvz jnb j9z qlf j90 j1m jms j11 jva juq j91 j92 j12 ju5 j13 ju8 ju7 jvb ju9 jq0 ju6 j94 j14 jvc jvd j15 jvf jve jvh jvg jq1 jh9 jq2 jia jq3 jgh jq4 j16 jku jf6 jmq jqc jcn jqd jup jh5 jmr jqe qak qam jq5 jm7 j17 jvi qao j19 jq7 qal qan jq6 jm8 j18 jvj qap j2a jq8 qx2 qx3 qx4 j1n jur jqk jql jqm jqn jqo jqp jjl jjm qlk qx5 jbm qll jqq jus jmu jut jmv qlm j1o j96 j97 j98 juu jmw jmx jmy jmz jqr juv jqs jqt jm0 jh8 jdv jqu j1p j1q qma j2i j2j j99 j2d jm9 jqv juw jqw qaq jq9 j1r j1s qar jvk j2b jux qav jvn jvm j2c jra jvl juy jks juz jqx jm1 jjn jqy ju0 ju1 qas jrb ju2 jkt jm2 jqz j1u j1v j1w jjr jfk jjs qab qac qad qae qaf qag qat jrc qau jrd qaz ql2 ql3 qa0 ql4 j2f j2g jvt j2h jrh jjp jvu jm5 jfj jm6 qa1 jvv qlv jgg jm4 j2e jre jvo qlz ql0 jvp jvq jna jrg qaw jrf jvr qay jvs j10 qaj j1z ju4 jm3 jjo qa2 ql7 ql5 ql6 je1 je2 jcq jcz jfi jd4 jd5 jez je0 jvw jkv jkw jvx jkx jvy jky jkz jk0 jk1 jk2 jk3 jjq jk4 jk5 jg8 jcp jbf q36 q37 q38 q39 q4a q4b q4c q4d q4e q4f qx9 qya qyb qyc qyd qye qyf qyg qyh qyi qyj qyk qyl Int.reduceToNat reduceCtorEq Nat.reduceAdd Nat.reduceMul Nat.reduceEqDiff Int.reduceEq Int.reduceLT Int.reduceLE Int.reduceNeg Int.reduceAdd Int.reduceSub Int.reduceMul Int.reduceNe
attribute [go_sem ↓] reduceIte
end
end Go.Proofs.YtkpadfebkaangaaGreatDoor.Ev
