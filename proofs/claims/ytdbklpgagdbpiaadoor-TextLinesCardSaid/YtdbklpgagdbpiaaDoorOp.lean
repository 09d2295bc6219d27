/- Runs of the interpreter step by step: more fuel answers the same; rules for code, regions, calls. No program in sight. -/
import Derived.Test.YtdbklpgagdbpiaaDoorRun
import Derived.Test.YtdbklpgagdbpiaaDoorIso
namespace Go.Proofs.YtdbklpgagdbpiaaDoor.Ev
noncomputable section
open Go
set_option linter.all false
def j7j (cl cl':FuncId->List AV->Hp->R):Prop:=∀ f vs h r,cl f vs h=some r->cl' f vs h=some r
def qpg (ih ih':RC):Prop:=∀ c s r,ih c s=some r->ih' c s=some r
section
variable {cl cl':FuncId->List AV->Hp->R} {st fr:List AV} {h:Hp} {F:Fns} {ih ih':RC}
theorem jn8 (hc:j7j cl cl') {op:IOp} {r:AV×Hp} (hr:iop cl st fr h op=some r):iop cl' st fr h op=some r:=by
 cases op with
 | p o=>exact hr
 | a o =>
  cases o with
  | call f as =>
   obtain⟨vs,h1,h2⟩:=jaa.1 (show ob (evs st fr as) (fun vs=>cl f vs h)=some r from hr)
   exact jaa.2 ⟨vs,h1,hc _ _ _ _ h2⟩
  | callv x as =>
   obtain⟨v,h1,h2⟩:=jaa.1 (show ob (ev st fr x) (fun v=>jwu v (fun f caps=>ob (evs st fr as) (fun vs=>cl f (jgp vs (jgq caps)) h)))=some r from hr)
   obtain⟨f,caps,rfl,h3⟩:=jee h2
   obtain⟨vs,h4,h5⟩:=jaa.1 h3
   exact jaa.2 ⟨_,h1,jaa.2 ⟨vs,h4,hc _ _ _ _ h5⟩⟩
  | _=>exact hr
theorem jxo (hc:j7j cl cl') {op:IOp} {g:Option (Nat×Bool)} {r:AV×Hp} (hr:j4r cl st fr h op g=some r):j4r cl' st fr h op g=some r:=by
 obtain⟨b,h1,h2⟩:=jaa.1 hr
 refine jaa.2 ⟨b,h1,?_⟩
 cases b with
 | false=>exact h2
 | true=>exact jn8 hc h2
theorem jpt (hc:j7j cl cl'):∀ {l:List IOper} {st fr:List AV} {h:Hp} {s:St},jru cl l st fr h=some s->jru cl' l st fr h=some s
 | [],st,fr,h,s,hr=>hr
 | .mk dst op g::l,st,fr,h,s,hr=>by
  obtain⟨p,h1,h2⟩:=jaa.1 (show ob (j4r cl st fr h op g) (fun p=>jru cl l (p.1::st) (jcn fr dst p.1) p.2)=some s from hr)
  exact jaa.2 ⟨p,jxo hc h1,jpt hc h2⟩
theorem jih (hc:j7j cl cl') {n:Nat} {t:Tr AB} {lo lo':Nat} {hid hid':List (Nat×Nat)} {op:IOp} {e:Nat->Ent} {d:DR} (hr:jnw cl st fr n t lo lo' hid hid' op e=some d):jnw cl' st fr n t lo lo' hid hid' op e=some d:=by
 obtain⟨p,h1,h2⟩:=jaa.1 hr
 exact jaa.2 ⟨p,jn8 hc h1,h2⟩
theorem jzx (hc:j7j cl cl') {es:List Ent} {op:IOp} {js:List Nat} {d:DR} (hr:jnd cl st fr es h op js=some d):jnd cl' st fr es h op js=some d:=by
 cases h with
 | mk n t lo hid =>
  obtain⟨hid',h1,h2⟩:=jaa.1 (show ob (sel es js hid) (fun hid'=>Cls.casesOn (motive:=fun _=>Option DR) (jcj st fr op)
   (jnw cl st fr n t lo n hid hid' op (fun n'=>.mk [(n,n')] (some [])))
   (fun x=>jnw cl st fr n t lo n hid hid' op (fun _=>.mk [] (some [x])))
   (fun b=>oif (jka es js b) (oif (Nat.ble lo b) (ob (Hp.get (.mk n t lo hid') b) (fun _=>jnw cl st fr n t lo lo hid hid' op (fun n'=>.mk [(b,Nat.succ b),(n,n')] none))) none) none)
   (jnw cl st fr n t lo n hid hid' op (fun _=>.mk [] (some [])))
   (jnw cl st fr n t lo n hid hid' op (fun n'=>.mk [(n,n')] none)))=some d from hr)
  refine jaa.2 ⟨hid',h1,?_⟩
  revert h2
  cases jcj st fr op with
  | fresh=>exact fun h=>jih hc h
  | load x=>exact fun h=>jih hc h
  | quiet=>exact fun h=>jih hc h
  | other=>exact fun h=>jih hc h
  | app b =>
   intro h2
   obtain⟨h3,h4⟩:=jab.1 h2
   obtain⟨h5,h6⟩:=jab.1 h4
   obtain⟨x,h7,h8⟩:=jaa.1 h6
   exact jab.2 ⟨h3,jab.2 ⟨h5,jaa.2 ⟨x,h7,jih hc h8⟩⟩⟩
theorem jxp (hc:j7j cl cl') {es:List Ent} {op:IOp} {g:Option (Nat×Bool)} {m:Option (List Nat)} {d:DR} (hr:jy9 cl st fr es h op g m=some d):jy9 cl' st fr es h op g m=some d:=by
 obtain⟨b,h1,h2⟩:=jaa.1 hr
 refine jaa.2 ⟨b,h1,?_⟩
 cases b with
 | false=>exact h2
 | true =>
  cases m with
  | none =>
   obtain⟨p,h3,h4⟩:=jaa.1 (show ob (iop cl st fr h op) (fun p=>some (.mk p.1 p.2 (.mk [] (some []))))=some d from h2)
   exact jaa.2 ⟨p,jn8 hc h3,h4⟩
  | some js=>exact jzx hc h2
theorem jpu (hc:j7j cl cl'):∀ {l:List (IOper×Option (List Nat))} {st:List AV} {es:List Ent} {fr:List AV} {h:Hp} {s:St},jzd cl l st es fr h=some s->jzd cl' l st es fr h=some s
 | [],st,es,fr,h,s,hr=>hr
 | (.mk dst op g,m)::l,st,es,fr,h,s,hr=>by
  obtain⟨p,h1,h2⟩:=jaa.1 (show ob (jy9 cl st fr es h op g m) (fun p=>DR.casesOn (motive:=fun _=>Option St) p (fun v h' e=>jzd cl l (v::st) (e::es) (jcn fr dst v) h'))=some s from hr)
  obtain⟨v,h',e⟩:=p
  exact jaa.2 ⟨_,jxp hc h1,jpu hc h2⟩
theorem jcy (hi:qpg ih ih'):j7j (jbr F ih) (jbr F ih'):=by
 intro f vs h r hr
 cases F with
 | mk T X =>
  cases hx:X f vs h with
  | some v =>
   have h1:∀ ih:RC,jbr (.mk T X) ih f vs h=some v:=by
    intro ih
    show Option.rec (motive:=fun _=>R) _ (fun r=>some r) (X f vs h)=_
    rw[hx]
   rw[h1] at hr ⊢
   exact hr
  | none =>
   have e:∀ ih:RC,jbr (.mk T X) ih f vs h=ob (T f) (fun fn=>IF.casesOn (motive:=fun _=>R) fn (fun body nargs nslots res=>oif (Nat.beq (jb2 vs) nargs) (ob (ih body (.mk (jgp vs (jdg nslots)) h)) (fun p =>
    Ex.casesOn (motive:=fun _=>R) p.1 (jco p.2 res) (fun _=>none) (jco p.2 res))) none)):=by
    intro ih
    show Option.rec (motive:=fun _=>R) _ (fun r=>some r) (X f vs h)=_
    rw[hx]
   rw[e] at hr ⊢
   obtain⟨fn,h1,h2⟩:=jaa.1 hr
   refine jaa.2 ⟨fn,h1,?_⟩
   cases fn with
   | mk body nargs nslots res =>
    obtain⟨h3,h4⟩:=jab.1 (show oif (Nat.beq (jb2 vs) nargs) (ob (ih body (.mk (jgp vs (jdg nslots)) h)) (fun p=>Ex.casesOn (motive:=fun _=>R) p.1 (jco p.2 res) (fun _=>none) (jco p.2 res))) none=some r from h2)
    obtain⟨p,h5,h6⟩:=jaa.1 h4
    exact jab.2 ⟨h3,jaa.2 ⟨p,hi _ _ _ h5,h6⟩⟩
theorem jzy (hi:qpg ih ih'):qpg (j16 F ih) (j16 F ih'):=by
 intro c s r hr
 have hc:=jcy (F:=F) hi
 cases c with
 | skip=>exact hr
 | exit id=>exact hr
 | ret=>exact hr
 | region ops =>
  cases s with
  | mk fr h =>
   obtain⟨s,h1,h2⟩:=jaa.1 (show ob (jru (jbr F ih) ops [] fr h) (fun s=>some (.normal,s))=some r from hr)
   exact jaa.2 ⟨s,jpt hc h1,h2⟩
 | draw ops =>
  cases s with
  | mk fr h =>
   obtain⟨s,h1,h2⟩:=jaa.1 (show ob (jzd (jbr F ih) ops [] [] fr h) (fun s=>some (.normal,s))=some r from hr)
   exact jaa.2 ⟨s,jpu hc h1,h2⟩
 | seq a b =>
  obtain⟨p,h1,h2⟩:=jaa.1 (show ob (ih a s) (fun p=>Ex.casesOn (motive:=fun _=>Option (Ex×St)) p.1 (ih b p.2) (fun _=>some p) (some p))=some r from hr)
  refine jaa.2 ⟨p,hi _ _ _ h1,?_⟩
  obtain⟨e,s'⟩:=p
  cases e with
  | normal=>exact hi _ _ _ h2
  | exit id=>exact h2
  | ret=>exact h2
 | cond c x y =>
  cases s with
  | mk fr h =>
   obtain⟨v,h1,h2⟩:=jaa.1 (show ob (ev [] fr c) (fun v=>jhe v (fun t=>ih (oif t x y) (.mk fr h)))=some r from hr)
   obtain⟨t,rfl,h3⟩:=jcx h2
   exact jaa.2 ⟨_,h1,hi _ _ _ h3⟩
 | block id b =>
  obtain⟨p,h1,h2⟩:=jaa.1 (show ob (ih b s) (fun p=>Ex.casesOn (motive:=fun _=>Option (Ex×St)) p.1 (some p) (fun k=>oif (Nat.beq k id) (some (.normal,p.2)) (some p)) (some p))=some r from hr)
  exact jaa.2 ⟨p,hi _ _ _ h1,h2⟩
 | loop b =>
  obtain⟨p,h1,h2⟩:=jaa.1 (show ob (ih b s) (fun p=>Ex.casesOn (motive:=fun _=>Option (Ex×St)) p.1 (ih (.loop b) p.2) (fun _=>some p) (some p))=some r from hr)
  refine jaa.2 ⟨p,hi _ _ _ h1,?_⟩
  obtain⟨e,s'⟩:=p
  cases e with
  | normal=>exact hi _ _ _ h2
  | exit id=>exact h2
  | ret=>exact h2
theorem jxq (F:Fns):∀ n,qpg (run F n) (run F (n+1))
 | 0=>fun c s r hr=>by cases hr
 | n+1=>jzy (jxq F n)
theorem jdn (F:Fns) {n m:Nat} (h:n<=m):qpg (run F n) (run F m):=by
 induction m with
 | zero=>obtain rfl:n=0:=by omega
         exact fun c s r hr=>hr
 | succ m ih =>
  rcases f0h m n with h1 | h1
  .obtain rfl:n=m+1:=by omega
   exact fun c s r hr=>hr
  .exact fun c s r hr=>jxq F m _ _ _ (ih h1 _ _ _ hr)
end
def qtg (F:Fns) (c:IC) (s:St) (e:Ex) (s':St):Prop:=∃ n,run F n c s=some (e,s')
def FnR (F:Fns) (f:FuncId) (vs:List AV) (h:Hp) (v:AV) (h':Hp):Prop:=∃ n,jou F n f vs h=some (v,h')
section
variable {F:Fns} {st fr:List AV} {h h' h'':Hp} {s s' s'':St} {e:Ex}
theorem qfc {T:FuncId->Option IF} {X:FuncId->List AV->Hp->R} {f:FuncId} {vs:List AV} {v:AV} {body:IC} {nargs nslots:Nat} {res:List IR} (hx:X f vs h=none) (hT:T f=some (.mk body nargs nslots res)) (hl:jb2 vs=nargs)
 (h1:qtg (.mk T X) body (.mk (jgp vs (jdg nslots)) h) e s') (he:e=.normal∨e=.ret) (hr:jco s' res=some (v,h')):FnR (.mk T X) f vs h v h':=by
 obtain⟨n,h1⟩:=h1
 refine⟨n,?_⟩
 show Option.rec (motive:=fun _=>R) _ (fun r=>some r) (X f vs h)=_
 rw[hx]
 refine jaa.2 ⟨_,hT,?_⟩
 refine jab.2 ⟨by rw[jgt];exact hl,jaa.2 ⟨_,h1,?_⟩⟩
 rcases he with rfl | rfl<;>exact hr
end
open Go Go.RowKit
variable {u u':AV} {b k t:Bool} {d e i id:Nat}
def W (F:Fns) (c:IC) (s:St) (Q:Ex->St->Prop):Prop:=∃ n e s',run F n c s=some (e,s')/\Q e s'
def WO (F:Fns) (l:List IOper) (st fr:List AV) (h:Hp) (Q:Ex->St->Prop):Prop:=∃ n s',jru (jbr F (run F n)) l st fr h=some s'/\Q .normal s'
def WD (F:Fns) (l:List (IOper×Option (List Nat))) (st:List AV) (es:List Ent) (fr:List AV) (h:Hp) (Q:Ex->St->Prop):Prop:=∃ n s',jzd (jbr F (run F n)) l st es fr h=some s'/\Q .normal s'
def WC (F:Fns) (f:FuncId) (vs:List AV) (h:Hp) (Q:AV->Hp->Prop):Prop:=∃ n v h',jou F n f vs h=some (v,h')/\Q v h'
def j5b (F:Fns) (b:IC) (Q:Ex->St->Prop) (e:Ex) (s:St):Prop:=Ex.casesOn (motive:=fun _=>Prop) e (W F b s Q) (fun k=>Q (.exit k) s) (Q .ret s)
def qh7 (id:Nat) (Q:Ex->St->Prop) (e:Ex) (s:St):Prop:=Ex.casesOn (motive:=fun _=>Prop) e (Q .normal s) (fun k=>if k=id then Q .normal s else Q (.exit k) s) (Q .ret s)
def j5c (F:Fns) (b:IC) (Q:Ex->St->Prop) (e:Ex) (s:St):Prop:=Ex.casesOn (motive:=fun _=>Prop) e (W F (.loop b) s Q) (fun k=>Q (.exit k) s) (Q .ret s)
def obP {α:Type} (x:Option α) (f:α->Prop):Prop:=∃ a,x=some a/\f a
def qth (v:Option AV) (X Y:Prop):Prop:=∃ b,v=some (.s (.bool b))/\(if b=true then X else Y)
section
variable {F:Fns} {s:St} {st fr:List AV} {h:Hp} {Q:Ex->St->Prop} {α:Type}
theorem jgd {b:IC}:j5b F b Q .normal s=W F b s Q:=rfl
theorem jmg {b:IC} {k:Nat}:j5b F b Q (.exit k) s=Q (.exit k) s:=rfl
theorem jpv {b:IC}:j5b F b Q .ret s=Q .ret s:=rfl
theorem jjm:qh7 id Q .normal s=Q .normal s:=rfl
theorem jpw {k:Nat}:qh7 id Q (.exit k) s=if k=id then Q .normal s else Q (.exit k) s:=rfl
theorem jtz:qh7 id Q .ret s=Q .ret s:=rfl
theorem jii {b:IC}:j5c F b Q .normal s=W F (.loop b) s Q:=rfl
theorem jmh {b:IC} {k:Nat}:j5c F b Q (.exit k) s=Q (.exit k) s:=rfl
theorem jpx {b:IC}:j5c F b Q .ret s=Q .ret s:=rfl
theorem jcb {a:α} {f:α->Prop}:obP (some a) f=f a:=propext ⟨fun⟨b,e,h⟩=>by cases e;exact h,fun h=>⟨a,rfl,h⟩⟩
theorem j7k {X Y:Prop}:qth (some (.s (.bool b))) X Y=if b=true then X else Y:=propext ⟨fun⟨c,e,h⟩=>by cases e;exact h,fun h=>⟨b,rfl,h⟩⟩
theorem j2s {c:IC} {n m:Nat} {e:Ex} {s':St} (hn:n<=m) (h:run F n c s=some (e,s')):run F m c s=some (e,s'):=jdn F hn _ _ _ h
theorem WC.imp {f:FuncId} {vs:List AV} {Q Q':AV->Hp->Prop} (k:WC F f vs h Q) (hq:∀ v h,Q v h->Q' v h):WC F f vs h Q':=let ⟨n,e,s',h1,h2⟩:=k;⟨n,e,s',h1,hq _ _ h2⟩
theorem j7l:W F .skip s Q=Q .normal s:=propext ⟨fun⟨n,e,s',h1,h2⟩=>by cases n with
 | zero=>cases h1
 | succ n=>cases h1;exact h2,fun h=>⟨1,_,_,rfl,h⟩⟩
theorem qh8:W F .ret s Q=Q .ret s:=propext ⟨fun⟨n,e,s',h1,h2⟩=>by cases n with
 | zero=>cases h1
 | succ n=>cases h1;exact h2,fun h=>⟨1,_,_,rfl,h⟩⟩
theorem j7m:W F (.exit id) s Q=Q (.exit id) s:=propext ⟨fun⟨n,e,s',h1,h2⟩=>by cases n with
 | zero=>cases h1
 | succ n=>cases h1;exact h2,fun h=>⟨1,_,_,rfl,h⟩⟩
theorem qc1 {a b:IC}:W F (.seq a b) s Q=W F a s (j5b F b Q):=by
 refine propext ⟨fun⟨n,e,s',h1,h2⟩=>?_,fun⟨n,e,s',h1,h2⟩=>?_⟩
 .cases n with
  | zero=>cases h1
  | succ n =>
   obtain⟨p,h3,h4⟩:=jaa.1 (show ob (run F n a s) (fun p=>Ex.casesOn (motive:=fun _=>Option (Ex×St)) p.1 (run F n b p.2) (fun _=>some p) (some p))=some (e,s') from h1)
   obtain⟨e1,s1⟩:=p
   refine⟨n,e1,s1,h3,?_⟩
   cases e1 with
   | normal=>exact⟨n,e,s',h4,h2⟩
   | exit k=>cases h4;exact h2
   | ret=>cases h4;exact h2
 .cases e with
  | normal =>
   obtain⟨m,e2,s2,h3,h4⟩:=h2
   exact⟨max n m+1,e2,s2,jaa.2 ⟨_,j2s (f1v n m) h1,j2s (f1o n m) h3⟩,h4⟩
  | exit k=>exact⟨n+1,_,_,jaa.2 ⟨_,h1,rfl⟩,h2⟩
  | ret=>exact⟨n+1,_,_,jaa.2 ⟨_,h1,rfl⟩,h2⟩
theorem jaj {b:IC}:W F (.loop b) s Q=W F b s (j5c F b Q):=by
 refine propext ⟨fun⟨n,e,s',h1,h2⟩=>?_,fun⟨n,e,s',h1,h2⟩=>?_⟩
 .cases n with
  | zero=>cases h1
  | succ n =>
   obtain⟨p,h3,h4⟩:=jaa.1 (show ob (run F n b s) (fun p=>Ex.casesOn (motive:=fun _=>Option (Ex×St)) p.1 (run F n (.loop b) p.2) (fun _=>some p) (some p))=some (e,s') from h1)
   obtain⟨e1,s1⟩:=p
   refine⟨n,e1,s1,h3,?_⟩
   cases e1 with
   | normal=>exact⟨n,e,s',h4,h2⟩
   | exit k=>cases h4;exact h2
   | ret=>cases h4;exact h2
 .cases e with
  | normal =>
   obtain⟨m,e2,s2,h3,h4⟩:=h2
   exact⟨max n m+1,e2,s2,jaa.2 ⟨_,j2s (f1v n m) h1,j2s (f1o n m) h3⟩,h4⟩
  | exit k=>exact⟨n+1,_,_,jaa.2 ⟨_,h1,rfl⟩,h2⟩
  | ret=>exact⟨n+1,_,_,jaa.2 ⟨_,h1,rfl⟩,h2⟩
theorem jzz {b:IC}:W F (.block id b) s Q=W F b s (qh7 id Q):=by
 have key:∀ k (s1:St),oif (Nat.beq k id) (some (Ex.normal,s1)) (some (.exit k,s1))=if k=id then some (.normal,s1) else some (.exit k,s1):=fun k s1=>by
  rw[jap];congr 1;exact jgt k id
 refine propext ⟨fun⟨n,e,s',h1,h2⟩=>?_,fun⟨n,e,s',h1,h2⟩=>?_⟩
 .cases n with
  | zero=>cases h1
  | succ n =>
   obtain⟨p,h3,h4⟩:=jaa.1 (show ob (run F n b s) (fun p=>Ex.casesOn (motive:=fun _=>Option (Ex×St)) p.1 (some p) (fun k=>oif (Nat.beq k id) (some (.normal,p.2)) (some p)) (some p))=some (e,s') from h1)
   obtain⟨e1,s1⟩:=p
   refine⟨n,e1,s1,h3,?_⟩
   cases e1 with
   | normal=>cases h4;exact h2
   | exit k =>
    have h5:oif (Nat.beq k id) (some (Ex.normal,s1)) (some (.exit k,s1))=some (e,s'):=h4
    rw[key] at h5
    show if k=id then Q .normal s1 else Q (.exit k) s1
    split
    .rename_i hk;rw[if_pos hk] at h5;cases h5;exact h2
    .rename_i hk;rw[if_neg hk] at h5;cases h5;exact h2
   | ret=>cases h4;exact h2
 .cases e with
  | normal=>exact⟨n+1,_,_,jaa.2 ⟨_,h1,rfl⟩,h2⟩
  | exit k =>
   have h3:if k=id then Q .normal s' else Q (.exit k) s':=h2
   split at h3
   .rename_i hk
    exact⟨n+1,_,_,jaa.2 ⟨_,h1,(key k s').trans (if_pos hk)⟩,h3⟩
   .rename_i hk
    exact⟨n+1,_,_,jaa.2 ⟨_,h1,(key k s').trans (if_neg hk)⟩,h3⟩
  | ret=>exact⟨n+1,_,_,jaa.2 ⟨_,h1,rfl⟩,h2⟩
theorem qph {c:Od} {x y:IC}:W F (.cond c x y) (.mk fr h) Q=qth (ev [] fr c) (W F x (.mk fr h) Q) (W F y (.mk fr h) Q):=by
 refine propext ⟨fun⟨n,e,s',h1,h2⟩=>?_,fun⟨b,hb,h2⟩=>?_⟩
 .cases n with
  | zero=>cases h1
  | succ n =>
   obtain⟨v,h3,h4⟩:=jaa.1 (show ob (ev [] fr c) (fun v=>jhe v (fun t=>run F n (oif t x y) (.mk fr h)))=some (e,s') from h1)
   obtain⟨t,rfl,h5⟩:=jcx h4
   refine⟨t,h3,?_⟩
   cases t with
   | true=>exact⟨n,e,s',h5,h2⟩
   | false=>exact⟨n,e,s',h5,h2⟩
 .cases b with
  | true =>
   obtain⟨n,e,s',h3,h4⟩:=(show W F x (.mk fr h) Q from h2)
   exact⟨n+1,e,s',jaa.2 ⟨_,hb,h3⟩,h4⟩
  | false =>
   obtain⟨n,e,s',h3,h4⟩:=(show W F y (.mk fr h) Q from h2)
   exact⟨n+1,e,s',jaa.2 ⟨_,hb,h3⟩,h4⟩
theorem jt0 {ops:List IOper}:W F (.region ops) (.mk fr h) Q=WO F ops [] fr h Q:=by
 refine propext ⟨fun⟨n,e,s',h1,h2⟩=>?_,fun⟨n,s',h1,h2⟩=>⟨n+1,.normal,s',jaa.2 ⟨_,h1,rfl⟩,h2⟩⟩
 cases n with
 | zero=>cases h1
 | succ n =>
  obtain⟨s1,h3,h4⟩:=jaa.1 (show ob (jru (jbr F (run F n)) ops [] fr h) (fun s=>some (Ex.normal,s))=some (e,s') from h1)
  cases h4
  exact⟨n,_,h3,h2⟩
theorem j7n {ops:List (IOper×Option (List Nat))}:W F (.draw ops) (.mk fr h) Q=WD F ops [] [] fr h Q:=by
 refine propext ⟨fun⟨n,e,s',h1,h2⟩=>?_,fun⟨n,s',h1,h2⟩=>⟨n+1,.normal,s',jaa.2 ⟨_,h1,rfl⟩,h2⟩⟩
 cases n with
 | zero=>cases h1
 | succ n =>
  obtain⟨s1,h3,h4⟩:=jaa.1 (show ob (jzd (jbr F (run F n)) ops [] [] fr h) (fun s=>some (Ex.normal,s))=some (e,s') from h1)
  cases h4
  exact⟨n,_,h3,h2⟩
theorem j7o:WO F [] st fr h Q=Q .normal (.mk fr h):=propext ⟨fun⟨n,s',h1,h2⟩=>by cases h1;exact h2,fun h=>⟨0,_,rfl,h⟩⟩
theorem jpy {dst:Option Nat} {op:IOp} {g:Option (Nat×Bool)} {l:List IOper}:WO F (.mk dst op g::l) st fr h Q=∃ n v h',j4r (jbr F (run F n)) st fr h op g=some (v,h')/\WO F l (v::st) (jcn fr dst v) h' Q:=by
 refine propext ⟨fun⟨n,s',h1,h2⟩=>?_,fun⟨n,v,h',h1,m,s',h2,h3⟩=>?_⟩
 .obtain ⟨p,h3,h4⟩:=jaa.1 (show ob (j4r (jbr F (run F n)) st fr h op g) (fun p=>jru (jbr F (run F n)) l (p.1::st) (jcn fr dst p.1) p.2)=some s' from h1)
  exact⟨n,p.1,p.2,h3,n,s',h4,h2⟩
 .exact ⟨max n m,s',jaa.2 ⟨(v,h'),jxo (jcy (jdn F (f1v n m))) h1,jpt (jcy (jdn F (f1o n m))) h2⟩,h3⟩
theorem qpi {dst:Option Nat} {op:IOp} {l:List IOper} {x:R} (hx:∀ cl,iop cl st fr h op=x):WO F (.mk dst op none::l) st fr h Q=obP x (fun p=>WO F l (p.1::st) (jcn fr dst p.1) p.2 Q):=by
 rw[jpy]
 refine propext ⟨fun⟨n,v,h',h1,h2⟩=>⟨(v,h'),?_,h2⟩,fun⟨p,h1,h2⟩=>⟨0,p.1,p.2,?_,h2⟩⟩
 .rw [←hx (jbr F (run F n))];exact h1
 .rw [←hx (jbr F (run F 0))] at h1;exact h1
theorem qh9 {dst:Option Nat} {o:PO} {l:List IOper}:WO F (.mk dst (.p o) none::l) st fr h Q=obP (pop st fr o) (fun v=>WO F l (v::st) (jcn fr dst v) h Q):=by
 rw[qpi (x:=ob (pop st fr o) (fun v=>ok v h)) (fun _=>rfl)]
 refine propext ⟨fun⟨p,h1,h2⟩=>?_,fun⟨v,h1,h2⟩=>⟨(v,h),jaa.2 ⟨v,h1,rfl⟩,h2⟩⟩
 obtain⟨v,h3,h4⟩:=jaa.1 h1
 cases h4
 exact⟨v,h3,h2⟩
def AO.calls:AO->Bool
 | .call _ _=>true
 | .callv _ _=>true
 | _=>false
def jdy (st fr:List AV) (h:Hp) (o:AO):R:=aop (fun _ _ _=>none) st fr h o
theorem jjn {cl:FuncId->List AV->Hp->R} {o:AO} (ho:o.calls=false):aop cl st fr h o=jdy st fr h o:=by
 cases o<;>first | rfl | cases ho
theorem jez {dst:Option Nat} {o:AO} {l:List IOper} (ho:o.calls=false):WO F (.mk dst (.a o) none::l) st fr h Q=obP (jdy st fr h o) (fun p=>WO F l (p.1::st) (jcn fr dst p.1) p.2 Q) :=
 qpi (fun _=>jjn ho)
theorem qia {dst:Option Nat} {f:FuncId} {as:List Od} {l:List IOper}:WO F (.mk dst (.a (.call f as)) none::l) st fr h Q=obP (evs st fr as) (fun vs=>WC F f vs h (fun v h'=>WO F l (v::st) (jcn fr dst v) h' Q)):=by
 rw[jpy]
 refine propext ⟨fun⟨n,v,h',h1,h2⟩=>?_,fun⟨vs,h1,n,v,h',h2,h3⟩=>⟨n,v,h',jaa.2 ⟨true,rfl,jaa.2 ⟨vs,h1,h2⟩⟩,h3⟩⟩
 have h1':ob (evs st fr as) (fun vs=>jbr F (run F n) f vs h)=some (v,h'):=h1
 obtain⟨vs,h4,h5⟩:=jaa.1 h1'
 exact⟨vs,h4,n,v,h',h5,h2⟩
theorem qc2 {dst:Option Nat} {x:Od} {as:List Od} {l:List IOper}:WO F (.mk dst (.a (.callv x as)) none::l) st fr h Q=∃ f caps,ev st fr x=some (.s (.func f caps))/\obP (evs st fr as) (fun vs=>WC F f (vs++jgq caps) h (fun v h'=>WO F l (v::st) (jcn fr dst v) h' Q)):=by
 rw[jpy]
 refine propext ⟨fun⟨n,v,h',h1,h2⟩=>?_,fun⟨f,caps,hx,vs,h1,n,v,h',h2,h3⟩=>⟨n,v,h',jaa.2 ⟨true,rfl,jaa.2 ⟨_,hx,?_⟩⟩,h3⟩⟩
 .have h1':ob (ev st fr x) (fun v=>jwu v (fun f caps=>ob (evs st fr as) (fun vs=>jbr F (run F n) f (jgp vs (jgq caps)) h)))=some (v,h'):=h1
  obtain⟨w,hw,h4⟩:=jaa.1 h1'
  obtain⟨f,caps,rfl,h5⟩:=jee h4
  obtain⟨vs,h6,h7⟩:=jaa.1 h5
  rw[jc8] at h7
  exact⟨f,caps,hw,vs,h6,n,v,h',h7,h2⟩
 .show ob (evs st fr as) (fun vs=>jbr F (run F n) f (jgp vs (jgq caps)) h)=some (v,h')
  refine jaa.2 ⟨vs,h1,?_⟩
  rw[jc8]
  exact h2
def gP (v:Option AV) (t:Bool) (X Y:Prop):Prop:=∃ x,v=some x/\((∃ b,x=.s (.bool b)/\if b=t then X else Y)∨(x=.undef/\Y))
theorem j7p {X Y:Prop}:gP (some (.s (.bool b))) t X Y=if b=t then X else Y:=propext ⟨fun⟨x,e,h⟩=>by
 cases e
 rcases h with⟨c,e,h⟩ | ⟨h,_⟩
 .cases e;exact h
 .exact (by cases h),fun h=>⟨_,rfl,.inl ⟨b,rfl,h⟩⟩⟩
theorem j2t {X Y:Prop}:gP (some .undef) t X Y=Y:=propext ⟨fun⟨x,e,h⟩=>by
 cases e
 rcases h with⟨c,e,h⟩ | ⟨_,h⟩
 .cases e
 .exact h,fun h=>⟨_,rfl,.inr ⟨rfl,h⟩⟩⟩
theorem jet:j6i st (some (i,t))=some b↔∃ x,jec st i=some x/\((∃ c,x=.s (.bool c)/\b=decide (c=t))∨(x=.undef/\b=false)):=by
 have e:j6i st (some (i,t))=ob (jec st i) (fun v=>svc (some false) v (fun s=>jnu s (fun b=>some (oif t b (jhd b))))):=rfl
 rw[e]
 constructor
 .intro h1
  obtain⟨x,hx,h2⟩:=jaa.1 h1
  refine⟨x,hx,?_⟩
  cases x with
  | s x =>
   cases x with
   | bool c=>left;exact⟨c,rfl,by cases c<;>cases t<;>exact(Option.some.inj h2).symm⟩
   | _=>cases h2
  | undef=>right;exact⟨rfl,(Option.some.inj h2).symm⟩
  | _=>cases h2
 .rintro ⟨x,hx,h1⟩
  refine jaa.2 ⟨x,hx,?_⟩
  rcases h1 with⟨c,rfl,rfl⟩ | ⟨rfl,rfl⟩
  .cases c<;>cases t<;>rfl
  .rfl
theorem qc3 {dst:Option Nat} {op:IOp} {l:List IOper}:WO F (.mk dst op (some (i,t))::l) st fr h Q=gP (jec st i) t (WO F (.mk dst op none::l) st fr h Q) (WO F l (.undef::st) (jcn fr dst .undef) h Q):=by
 rw[jpy,jpy]
 refine propext ⟨fun⟨n,v,h',h1,h2⟩=>?_,fun⟨x,hx,h1⟩=>?_⟩
 .obtain ⟨b,hb,h3⟩:=jaa.1 (show ob (j6i st (some (i,t))) (fun b=>Bool.rec (motive:=fun _=>R) (ok .undef h) (iop (jbr F (run F n)) st fr h op) b)=some (v,h') from h1)
  obtain⟨x,hx,h4⟩:=jet.1 hb
  refine⟨x,hx,?_⟩
  rcases h4 with⟨c,rfl,rfl⟩ | ⟨h4,rfl⟩
  .left
   refine⟨c,rfl,?_⟩
   split
   .rename_i hc;rw[hc,decide_eq_true rfl] at h3;exact⟨n,v,h',jaa.2 ⟨true,rfl,h3⟩,h2⟩
   .rename_i hc;rw[decide_eq_false hc] at h3;cases h3;exact h2
  .right;cases h3;exact⟨h4,h2⟩
 .rcases h1 with⟨c,rfl,h1⟩ | ⟨h1,h2⟩
  .split at h1
   .rename_i hc
    obtain⟨n,v,h',h3,h4⟩:=h1
    refine⟨n,v,h',jaa.2 ⟨true,jet.2 ⟨_,hx,.inl ⟨c,rfl,(decide_eq_true hc).symm⟩⟩,?_⟩,h4⟩
    obtain⟨b,hb,h5⟩:=jaa.1 h3
    cases hb
    exact h5
   .rename_i hc
    exact⟨0,.undef,h,jaa.2 ⟨false,jet.2 ⟨_,hx,.inl ⟨c,rfl,(decide_eq_false hc).symm⟩⟩,rfl⟩,h1⟩
  .exact ⟨0,.undef,h,jaa.2 ⟨false,jet.2 ⟨_,hx,.inr ⟨h1,rfl⟩⟩,rfl⟩,h2⟩
theorem j7q {es:List Ent}:WD F [] st es fr h Q=Q .normal (.mk fr h):=propext ⟨fun⟨n,s',h1,h2⟩=>by cases h1;exact h2,fun h=>⟨0,_,rfl,h⟩⟩
theorem jpz {es:List Ent} {dst:Option Nat} {op:IOp} {g:Option (Nat×Bool)} {m:Option (List Nat)} {l:List (IOper×Option (List Nat))}:WD F ((.mk dst op g,m)::l) st es fr h Q=∃ n v h' e,jy9 (jbr F (run F n)) st fr es h op g m=some (.mk v h' e)/\WD F l (v::st) (e::es) (jcn fr dst v) h' Q:=by
 refine propext ⟨fun⟨n,s',h1,h2⟩=>?_,fun⟨n,v,h',e,h1,k,s',h2,h3⟩=>?_⟩
 .obtain ⟨p,h3,h4⟩:=jaa.1 (show ob (jy9 (jbr F (run F n)) st fr es h op g m) (fun p=>DR.casesOn (motive:=fun _=>Option St) p (fun v h' e=>jzd (jbr F (run F n)) l (v::st) (e::es) (jcn fr dst v) h'))=some s' from h1)
  obtain⟨v,h',e⟩:=p
  exact⟨n,v,h',e,h3,n,s',h4,h2⟩
 .exact ⟨max n k,s',jaa.2 ⟨.mk v h' e,jxp (jcy (jdn F (f1v n k))) h1,jpu (jcy (jdn F (f1o n k))) h2⟩,h3⟩
theorem jz0 {es:List Ent} {dst:Option Nat} {op:IOp} {m:Option (List Nat)} {l:List (IOper×Option (List Nat))} {x:Option DR} (hx:∀ cl,jy9 cl st fr es h op none m=x):WD F ((.mk dst op none,m)::l) st es fr h Q=obP x (fun p=>DR.casesOn (motive:=fun _=>Prop) p (fun v h' e=>WD F l (v::st) (e::es) (jcn fr dst v) h' Q)):=by
 rw[jpz]
 refine propext ⟨fun⟨n,v,h',e,h1,h2⟩=>⟨.mk v h' e,?_,h2⟩,fun⟨p,h1,h2⟩=>?_⟩
 .rw [←hx (jbr F (run F n))];exact h1
 .obtain ⟨v,h',e⟩:=p
  exact⟨0,v,h',e,by rw[hx];exact h1,h2⟩
theorem qib {es:List Ent} {dst:Option Nat} {o:PO} {l:List (IOper×Option (List Nat))}:WD F ((.mk dst (.p o) none,none)::l) st es fr h Q=obP (pop st fr o) (fun v=>WD F l (v::st) (.mk [] (some [])::es) (jcn fr dst v) h Q):=by
 rw[jz0 (x:=ob (pop st fr o) (fun v=>some (DR.mk v h (.mk [] (some []))))) (fun cl=>?_)]
 .refine propext ⟨fun⟨p,h1,h2⟩=>?_,fun⟨v,h1,h2⟩=>⟨.mk v h (.mk [] (some [])),jaa.2 ⟨v,h1,rfl⟩,h2⟩⟩
  obtain⟨v,h3,h4⟩:=jaa.1 h1
  cases h4
  exact⟨v,h3,h2⟩
 .show ob (ob (pop st fr o) (fun v=>ok v h)) (fun p=>some (DR.mk p.1 p.2 (.mk [] (some []))))=_
  cases pop st fr o<;>rfl
theorem jfo {es:List Ent} {dst:Option Nat} {o:AO} {l:List (IOper×Option (List Nat))} (ho:o.calls=false):WD F ((.mk dst (.a o) none,none)::l) st es fr h Q=obP (jdy st fr h o) (fun p=>WD F l (p.1::st) (.mk [] (some [])::es) (jcn fr dst p.1) p.2 Q):=by
 rw[jz0 (x:=ob (jdy st fr h o) (fun p=>some (DR.mk p.1 p.2 (.mk [] (some []))))) (fun cl=>?_)]
 .refine propext ⟨fun⟨p,h1,h2⟩=>?_,fun⟨p,h1,h2⟩=>⟨.mk p.1 p.2 (.mk [] (some [])),jaa.2 ⟨p,h1,rfl⟩,h2⟩⟩
  obtain⟨q,h3,h4⟩:=jaa.1 h1
  cases h4
  exact⟨q,h3,h2⟩
 .show ob (aop cl st fr h o) (fun p=>some (DR.mk p.1 p.2 (.mk [] (some []))))=_
  rw[jjn ho]
theorem qic {es:List Ent} {dst:Option Nat} {f:FuncId} {as:List Od} {l:List (IOper×Option (List Nat))}:WD F ((.mk dst (.a (.call f as)) none,none)::l) st es fr h Q=obP (evs st fr as) (fun vs=>WC F f vs h (fun v h'=>WD F l (v::st) (.mk [] (some [])::es) (jcn fr dst v) h' Q)):=by
 rw[jpz]
 refine propext ⟨fun⟨n,v,h',e,h1,h2⟩=>?_,fun⟨vs,h1,n,v,h',h2,h3⟩=>⟨n,v,h',.mk [] (some []),jaa.2 ⟨true,rfl,jaa.2 ⟨(v,h'),jaa.2 ⟨vs,h1,h2⟩,rfl⟩⟩,h3⟩⟩
 have h1':ob (ob (evs st fr as) (fun vs=>jbr F (run F n) f vs h)) (fun p=>some (DR.mk p.1 p.2 (.mk [] (some []))))=some (.mk v h' e):=h1
 obtain⟨p,h4,h5⟩:=jaa.1 h1'
 obtain⟨vs,h6,h7⟩:=jaa.1 h4
 cases h5
 exact⟨vs,h6,n,p.1,p.2,h7,h2⟩
theorem jxr {es:List Ent} {dst:Option Nat} {o:PO} {js:List Nat} {l:List (IOper×Option (List Nat))}:WD F ((.mk dst (.p o) none,some js)::l) st es fr h Q=obP (sel es js h.hid) (fun _=>obP (pop st fr o) (fun v=>WD F l (v::st) (.mk [(h.next,h.next)] (some [])::es) (jcn fr dst v) h Q)):=by
 cases h with
 | mk n t lo hid =>
 rw[jz0 (x:=ob (sel es js hid) (fun hid'=>ob (pop st fr o) (fun v=>some (DR.mk v (.mk n t lo hid) (.mk [(n,n)] (some [])))))) (fun cl=>?_)]
 .refine propext ⟨fun⟨p,h1,h2⟩=>?_,fun⟨hid',h0,v,h1,h2⟩=>⟨.mk v (.mk n t lo hid) (.mk [(n,n)] (some [])),jaa.2 ⟨hid',h0,jaa.2 ⟨v,h1,rfl⟩⟩,h2⟩⟩
  obtain⟨hid',h3,h4⟩:=jaa.1 h1
  obtain⟨v,h5,h6⟩:=jaa.1 h4
  cases h6
  exact⟨hid',h3,v,h5,h2⟩
 .show ob (sel es js hid) (fun hid'=>ob (ob (pop st fr o) (fun v=>ok v (.mk n t n hid'))) (fun p=>Hp.casesOn (motive:=fun _=>Option DR) p.2 (fun n' t' _ _=>some (.mk p.1 (.mk n' t' lo hid) (.mk [(n,n')] (some []))))))=_
  congr 1
  funext hid'
  cases pop st fr o<;>rfl
theorem qc4 {es:List Ent} {dst:Option Nat} {op:IOp} {m:Option (List Nat)} {l:List (IOper×Option (List Nat))}:WD F ((.mk dst op (some (i,t)),m)::l) st es fr h Q=gP (jec st i) t (WD F ((.mk dst op none,m)::l) st es fr h Q) (WD F l (.undef::st) (.mk [] (some [])::es) (jcn fr dst .undef) h Q):=by
 rw[jpz,jpz]
 have go:∀ n g v h' e,jy9 (jbr F (run F n)) st fr es h op g m=some (.mk v h' e)↔∃ b,j6i st g=some b/\((b=false/\v=.undef/\h'=h/\e=.mk [] (some []))∨(b=true/\jy9 (jbr F (run F n)) st fr es h op none m=some (.mk v h' e))):=fun n g v h' e=>by
  constructor
  .intro h1
   obtain⟨b,hb,h3⟩:=jaa.1 h1
   refine⟨b,hb,?_⟩
   cases b with
   | false=>cases h3;exact .inl ⟨rfl,rfl,rfl,rfl⟩
   | true=>exact .inr ⟨rfl,jaa.2 ⟨true,rfl,h3⟩⟩
  .rintro ⟨b,hb,⟨rfl,rfl,rfl,rfl⟩ | ⟨rfl,h1⟩⟩
   .exact jaa.2 ⟨false,hb,rfl⟩
   .obtain ⟨c,hc,h2⟩:=jaa.1 h1
    cases hc
    exact jaa.2 ⟨true,hb,h2⟩
 refine propext ⟨fun⟨n,v,h',e,h1,h2⟩=>?_,fun⟨x,hx,h1⟩=>?_⟩
 .obtain ⟨b,hb,h3⟩:=(go n _ v h' e).1 h1
  obtain⟨x,hx,h4⟩:=jet.1 hb
  refine⟨x,hx,?_⟩
  rcases h4 with⟨c,rfl,rfl⟩ | ⟨h4,rfl⟩
  .left
   refine⟨c,rfl,?_⟩
   split
   .rename_i hc
    rcases h3 with⟨h3,_⟩ | ⟨_,h3⟩
    .rw [decide_eq_true hc] at h3;cases h3
    .exact ⟨n,v,h',e,h3,h2⟩
   .rename_i hc
    rcases h3 with⟨_,rfl,rfl,rfl⟩ | ⟨h3,_⟩
    .exact h2
    .rw [decide_eq_false hc] at h3;cases h3
  .right
   rcases h3 with⟨_,rfl,rfl,rfl⟩ | ⟨h3,_⟩
   .exact ⟨h4,h2⟩
   .cases h3
 .rcases h1 with⟨c,rfl,h1⟩ | ⟨h1,h2⟩
  .split at h1
   .rename_i hc
    obtain⟨n,v,h',e,h3,h4⟩:=h1
    exact⟨n,v,h',e,(go n _ v h' e).2 ⟨true,jet.2 ⟨_,hx,.inl ⟨c,rfl,(decide_eq_true hc).symm⟩⟩,.inr ⟨rfl,h3⟩⟩,h4⟩
   .rename_i hc
    exact⟨0,.undef,h,_,(go 0 _ _ _ _).2 ⟨false,jet.2 ⟨_,hx,.inl ⟨c,rfl,(decide_eq_false hc).symm⟩⟩,.inl ⟨rfl,rfl,rfl,rfl⟩⟩,h1⟩
  .exact ⟨0,.undef,h,_,(go 0 _ _ _ _).2 ⟨false,jet.2 ⟨_,hx,.inr ⟨h1,rfl⟩⟩,.inl ⟨rfl,rfl,rfl,rfl⟩⟩,h2⟩
end
def qc5 (res:List IR) (Q:AV->Hp->Prop) (e:Ex) (s:St):Prop:=Ex.casesOn (motive:=fun _=>Prop) e (obP (jco s res) (fun p=>Q p.1 p.2)) (fun _=>False) (obP (jco s res) (fun p=>Q p.1 p.2))
section
variable {F:Fns} {h:Hp} {vs:List AV} {f:FuncId} {Q:AV->Hp->Prop}
theorem ja9 {body:IC} {nargs nslots:Nat} {res:List IR} (hx:jdx F f vs h=none) (hT:qcx F f=some (.mk body nargs nslots res)) (hl:vs.length=nargs)
 (h1:W F body (.mk (vs++jdg nslots) h) (qc5 res Q)):WC F f vs h Q:=by
 obtain⟨n,e,s',h2,h3⟩:=h1
 cases F with
 | mk T X =>
 have hx':X f vs h=none:=hx
 rw[←jc8] at h2
 cases e with
 | normal =>
  obtain⟨p,h4,h5⟩:=(show obP (jco s' res) (fun p=>Q p.1 p.2) from h3)
  obtain⟨m,hm⟩:=qfc (v:=p.1) (h':=p.2) hx' hT (by rw[ja7];exact hl) ⟨n,h2⟩ (.inl rfl) h4
  exact⟨m,p.1,p.2,hm,h5⟩
 | exit k=>exact h3.elim
 | ret =>
  obtain⟨p,h4,h5⟩:=(show obP (jco s' res) (fun p=>Q p.1 p.2) from h3)
  obtain⟨m,hm⟩:=qfc (v:=p.1) (h':=p.2) hx' hT (by rw[ja7];exact hl) ⟨n,h2⟩ (.inr rfl) h4
  exact⟨m,p.1,p.2,hm,h5⟩
theorem qfd {h':Hp} (hx:jdx F f vs h=some (u,h')) (hq:Q u h'):WC F f vs h Q:=by
 cases F with
 | mk T X =>
 have hx':X f vs h=some (u,h'):=hx
 refine⟨0,u,h',?_,hq⟩
 show Option.rec (motive:=fun _=>R) _ (fun r=>some r) (X f vs h)=_
 rw[hx']
end
theorem jkv {f g:SV->Option SV} (hf:∀ x y,f x=some y->g x=some y):∀ {l r:List SV},jjl f l=some r->jjl g l=some r
 | [],r,h=>h
 | a::l,r,h=>by
  obtain⟨x,h1,h2⟩:=jaa.1 (show ob (f a) (fun x=>ob (jjl f l) (fun r=>some (x::r)))=some r from h)
  obtain⟨r',h3,h4⟩:=jaa.1 h2
  exact jaa.2 ⟨x,hf _ _ h1,jaa.2 ⟨r',jkv hf h3,h4⟩⟩
theorem jsu {h:Hp}:∀ (d:Nat) (x y:SV),jlt k h d x=some y->jlt k h (d+1) x=some y
 | 0,x,y,hx=>by cases hx
 | d+1,x,y,hx=>by
  cases x with
  | slice b off len mc ex sz =>
   cases len with
   | zero=>exact hx
   | succ len =>
    obtain⟨cs,h1,h2⟩:=jaa.1 (show ob (rd h b off (Nat.mul (len+1) sz)) (fun cs=>ob (jjl (jlt k h d) cs) (fun cs=>ob (jsr sz (len+1) cs) (fun rows=>some (.lst rows))))=some y from hx)
    obtain⟨cs',h3,h4⟩:=jaa.1 h2
    exact jaa.2 ⟨cs,h1,jaa.2 ⟨cs',jkv (jsu d) h3,h4⟩⟩
  | _=>exact hx
theorem jp0 {h:Hp} (hd:d<=e) {x y:SV} (hx:jlt k h d x=some y):jlt k h e x=some y:=by
 induction e with
 | zero=>obtain rfl:d=0:=by omega
         exact hx
 | succ e ih =>
  rcases f0h e d with h1 | h1
  .obtain rfl:d=e+1:=by omega
   exact hx
  .exact jsu e _ _ (ih h1)
theorem jxs {f g:SV->Option SV} (hf:∀ x y,f x=some y->g x=some y):∀ {l r:List (Bool×List SV)},qh4 f l=some r->qh4 g l=some r
 | [],r,h=>h
 | p::l,r,h=>by
  obtain⟨x,h1,h2⟩:=jaa.1 (show ob (jjl f p.2) (fun x=>ob (qh4 f l) (fun r=>some ((p.1,x)::r)))=some r from h)
  obtain⟨r',h3,h4⟩:=jaa.1 h2
  exact jaa.2 ⟨x,jkv hf h1,jaa.2 ⟨r',jxs hf h3,h4⟩⟩
theorem jp1 {h:Hp} (hd:d<=e) {x y:AV} (hx:jhz k h d x=some y):jhz k h e x=some y:=by
 cases x with
 | s x =>
  obtain⟨y',h1,h2⟩:=jaa.1 (show ob (jlt k h d x) (fun y=>some (AV.s y))=some y from hx)
  exact jaa.2 ⟨y',jp0 hd h1,h2⟩
 | agg l =>
  obtain⟨y',h1,h2⟩:=jaa.1 (show ob (jjl (jlt k h d) l) (fun y=>some (AV.agg y))=some y from hx)
  exact jaa.2 ⟨y',jkv (fun _ _=>jp0 hd) h1,h2⟩
 | tup l =>
  obtain⟨y',h1,h2⟩:=jaa.1 (show ob (qh4 (jlt k h d) l) (fun y=>some (AV.tup y))=some y from hx)
  exact jaa.2 ⟨y',jxs (fun _ _=>jp0 hd) h1,h2⟩
 | _=>exact hx
theorem jmi {h:Hp} (hd:d<=e):∀ {l r:List AV},jzw k h d l=some r->jzw k h e l=some r
 | [],r,h=>h
 | a::l,r,hr=>by
  obtain⟨x,h1,h2⟩:=jaa.1 (show ob (jhz k h d a) (fun x=>ob (jzw k h d l) (fun r=>some (x::r)))=some r from hr)
  obtain⟨r',h3,h4⟩:=jaa.1 h2
  exact jaa.2 ⟨x,jp1 hd h1,jaa.2 ⟨r',jmi hd h3,h4⟩⟩
def jp2 (k:Bool) (F:Fns) (f:FuncId) (vs:List AV) (u:AV):Prop:=WC F f vs h0 (fun v hi=>∃ d,jhz k hi d v=some u)
theorem jp2.one {F:Fns} {f:FuncId} {vs:List AV} (h:jp2 k F f vs u) (h':jp2 k F f vs u'):u=u':=by
 obtain⟨n,v,hi,h1,d,h2⟩:=h
 obtain⟨m,v',hi',h3,d',h4⟩:=h'
 have e1:jou F (max n m) f vs h0=some (v,hi):=jcy (jdn F (f1v n m)) _ _ _ _ h1
 have e2:jou F (max n m) f vs h0=some (v',hi'):=jcy (jdn F (f1o n m)) _ _ _ _ h3
 rw[e1] at e2
 cases e2
 have e3:=jp1 (f1v d d') h2
 have e4:=jp1 (f1o d d') h4
 rw[e3] at e4
 exact Option.some.inj e4
def qpj (F:Fns) (f:FuncId) (vs:List AV) (h:Hp) (u:AV):Prop:=∃ us d,jzw true h d vs=some us/\jp2 false F f us u
theorem qpj.one {F:Fns} {f:FuncId} {vs:List AV} {h:Hp} (k:qpj F f vs h u) (k':qpj F f vs h u'):u=u':=by
 obtain⟨us,d,h1,h2⟩:=k
 obtain⟨us',d',h3,h4⟩:=k'
 have e3:=jmi (f1v d d') h1
 have e4:=jmi (f1o d d') h3
 rw[e3] at e4
 cases e4
 exact h2.one h4
open Classical in
def pxA (F:Fns) (f:FuncId) (vs:List AV) (h:Hp):Option AV :=
 if h1:jrx vs=true/\∃ u,jp2 true F f vs u then some (Classical.choose h1.2)
 else if h2:∃ u,qpj F f vs h u then some (Classical.choose h2) else none
theorem qc6 {F:Fns} {f:FuncId} {vs:List AV} {h:Hp} (hg:jrx vs=true) (k:jp2 true F f vs u):pxA F f vs h=some u:=by
 unfold pxA
 rw[dif_pos ⟨hg,u,k⟩]
 exact congrArg some ((Classical.choose_spec (p:=fun u=>jp2 true F f vs u) ⟨u,k⟩).one k)
theorem qc7 {F:Fns} {f:FuncId} {vs:List AV} {h:Hp} (k:pxA F f vs h=some u):(jrx vs=true/\jp2 true F f vs u)∨qpj F f vs h u:=by
 unfold pxA at k
 split at k
 .rename_i h1
  cases k
  exact .inl ⟨h1.1,Classical.choose_spec h1.2⟩
 .split at k
  .rename_i h2
   cases k
   exact .inr (Classical.choose_spec h2)
  .cases k
def PX (S:FuncId->Bool) (F:Fns):Fns:=.mk (qcx F) (fun f vs h=>Bool.rec (motive:=fun _=>R) (jdx F f vs h) (ob (pxA F f vs h) (fun u=>ok u h)) (S f))
theorem jbm {S:FuncId->Bool} {F:Fns} {f:FuncId} {vs:List AV} {h:Hp} (hS:S f=true) (hg:jrx vs=true) (k:jp2 true F f vs u):jdx (PX S F) f vs h=some (u,h):=by
 show Bool.rec (motive:=fun _=>R) (jdx F f vs h) (ob (pxA F f vs h) (fun u=>ok u h)) (S f)=_
 rw[hS,qc6 hg k];rfl
theorem jbk {S:FuncId->Bool} {F:Fns} {f:FuncId} {vs:List AV} {h:Hp} (hS:S f=false):jdx (PX S F) f vs h=jdx F f vs h:=by
 show Bool.rec (motive:=fun _=>R) (jdx F f vs h) (ob (pxA F f vs h) (fun u=>ok u h)) (S f)=_
 rw[hS]
theorem jhx {P:Program} {A:Nat->Int} {T:Tr TI} {S:FuncId->Bool} {F:Fns} (env:Env P A T F):Env P A T (PX S F) where
 tys:=env.tys
 mix:=env.mix
 fn:=env.fn
 ext:=fun f vs h v h' hx=>by
  cases hS:S f with
  | false=>rw[jbk hS] at hx;exact env.ext f vs h v h' hx
  | true =>
   have hx':ob (pxA F f vs h) (fun u=>ok u h)=some (v,h'):=by
    have e:jdx (PX S F) f vs h=Bool.rec (motive:=fun _=>R) (jdx F f vs h) (ob (pxA F f vs h) (fun u=>ok u h)) (S f):=rfl
    rw[e,hS] at hx
    exact hx
   obtain⟨u,hu,h1⟩:=jaa.1 hx'
   cases h1
   rcases qc7 hu with⟨hg,n,v0,hi,h1,d,h2⟩ | ⟨us,d,h1,n,v0,hi,h2,d',h3⟩
   .exact ⟨(jej env (jgz env n).1 f vs h0 v0 hi h1).1,fun k=>Abs.refl _ k,fun φ w args rel ha=>j7i env h1 h2 hg rel args ha⟩
   .exact ⟨(jej env (jgz env n).1 f us h0 v0 hi h2).1,fun k=>Abs.refl _ k,fun φ w args rel ha=>j5a env h1 h2 h3 rel args ha⟩
theorem j7r {P:Program} {A:Nat->Int} {T:Tr TI} {F:Fns} (env:Env P A T F) {f:FuncId} {vs:List AV} {d:Unit} (k:WC F f vs h0 (fun v _=>v=.s (.bool true))) {c:Nat->Option (Array Value)} [GK c] {w:World} (hk:jxl c w) (args:Array Value) (ha:All2 (cV A (qfb c)) vs args.toList) :
 Calls P f args w (fun e w'=>e=.returned (.bool true)/\Below w.heap.size w w'):=by
 obtain⟨n,v,h',h1,rfl⟩:=k
 exact qcz env (n:=n) (by rw[h1];rfl) hk args ha
end
end Go.Proofs.YtdbklpgagdbpiaaDoor.Ev
