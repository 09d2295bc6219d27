/- Runs of the interpreter step by step: more fuel answers the same; rules for code, regions, calls. No program in sight. -/
import Derived.Test.YtmcfkgjjnhlkiaaRun
import Derived.Test.YtmcfkgjjnhlkiaaIso
namespace Go.Proofs.Ytmcfkgjjnhlkiaa.Ev
noncomputable section
open Go
set_option linter.all false
def jwm (cl cl':FuncId->List AV->Hp->R):Prop:=∀ f vs h r,cl f vs h=some r->cl' f vs h=some r
def j5n (ih ih':RC):Prop:=∀ c s r,ih c s=some r->ih' c s=some r
section
variable {cl cl':FuncId->List AV->Hp->R} {st fr:List AV} {h:Hp} {F:Fns} {ih ih':RC}
theorem jiv (hc:jwm cl cl') {op:IOp} {r:AV×Hp} (hr:iop cl st fr h op=some r):iop cl' st fr h op=some r:=by
 cases op with
 | p o=>exact hr
 | a o =>
  cases o with
  | call f as =>
   obtain⟨vs,h1,h2⟩:=jaa.1 (show ob (evs st fr as) (fun vs=>cl f vs h)=some r from hr)
   exact jaa.2 ⟨vs,h1,hc _ _ _ _ h2⟩
  | callv x as =>
   obtain⟨v,h1,h2⟩:=jaa.1 (show ob (ev st fr x) (fun v=>jmi v (fun f caps=>ob (evs st fr as) (fun vs=>cl f (jeb vs (jbp caps)) h)))=some r from hr)
   obtain⟨f,caps,rfl,h3⟩:=jdo h2
   obtain⟨vs,h4,h5⟩:=jaa.1 h3
   exact jaa.2 ⟨_,h1,jaa.2 ⟨vs,h4,hc _ _ _ _ h5⟩⟩
  | _=>exact hr
theorem jp3 (hc:jwm cl cl') {op:IOp} {g:Option (Nat×Bool)} {r:AV×Hp} (hr:jt6 cl st fr h op g=some r):jt6 cl' st fr h op g=some r:=by
 obtain⟨b,h1,h2⟩:=jaa.1 hr
 refine jaa.2 ⟨b,h1,?_⟩
 cases b with
 | false=>exact h2
 | true=>exact jiv hc h2
theorem jjy (hc:jwm cl cl'):∀ {l:List IOper} {st fr:List AV} {h:Hp} {s:St},jlh cl l st fr h=some s->jlh cl' l st fr h=some s
 | [],st,fr,h,s,hr=>hr
 | .mk dst op g::l,st,fr,h,s,hr=>by
  obtain⟨p,h1,h2⟩:=jaa.1 (show ob (jt6 cl st fr h op g) (fun p=>jlh cl l (p.1::st) (jbc fr dst p.1) p.2)=some s from hr)
  exact jaa.2 ⟨p,jp3 hc h1,jjy hc h2⟩
theorem jeu (hc:jwm cl cl') {n:Nat} {t:Tr AB} {lo lo':Nat} {hid hid':List (Nat×Nat)} {op:IOp} {e:Nat->Ent} {d:DR} (hr:jh1 cl st fr n t lo lo' hid hid' op e=some d):jh1 cl' st fr n t lo lo' hid hid' op e=some d:=by
 obtain⟨p,h1,h2⟩:=jaa.1 hr
 exact jaa.2 ⟨p,jiv hc h1,h2⟩
theorem jra (hc:jwm cl cl') {es:List Ent} {op:IOp} {js:List Nat} {d:DR} (hr:jh2 cl st fr es h op js=some d):jh2 cl' st fr es h op js=some d:=by
 cases h with
 | mk n t lo hid =>
  obtain⟨hid',h1,h2⟩:=jaa.1 (show ob (sel es js hid) (fun hid'=>Cls.casesOn (motive:=fun _=>Option DR) (ja2 st fr op)
   (jh1 cl st fr n t lo n hid hid' op (fun n'=>.mk [(n,n')] (some [])))
   (fun x=>jh1 cl st fr n t lo n hid hid' op (fun _=>.mk [] (some [x])))
   (fun b=>oif (jf5 es js b) (oif (Nat.ble lo b) (ob (Hp.get (.mk n t lo hid') b) (fun _=>jh1 cl st fr n t lo lo hid hid' op (fun n'=>.mk [(b,Nat.succ b),(n,n')] none))) none) none)
   (jh1 cl st fr n t lo n hid hid' op (fun _=>.mk [] (some [])))
   (jh1 cl st fr n t lo n hid hid' op (fun n'=>.mk [(n,n')] none)))=some d from hr)
  refine jaa.2 ⟨hid',h1,?_⟩
  revert h2
  cases ja2 st fr op with
  | fresh=>exact fun h=>jeu hc h
  | load x=>exact fun h=>jeu hc h
  | quiet=>exact fun h=>jeu hc h
  | other=>exact fun h=>jeu hc h
  | app b =>
   intro h2
   obtain⟨h3,h4⟩:=jab.1 h2
   obtain⟨h5,h6⟩:=jab.1 h4
   obtain⟨x,h7,h8⟩:=jaa.1 h6
   exact jab.2 ⟨h3,jab.2 ⟨h5,jaa.2 ⟨x,h7,jeu hc h8⟩⟩⟩
theorem jp4 (hc:jwm cl cl') {es:List Ent} {op:IOp} {g:Option (Nat×Bool)} {m:Option (List Nat)} {d:DR} (hr:jqm cl st fr es h op g m=some d):jqm cl' st fr es h op g m=some d:=by
 obtain⟨b,h1,h2⟩:=jaa.1 hr
 refine jaa.2 ⟨b,h1,?_⟩
 cases b with
 | false=>exact h2
 | true =>
  cases m with
  | none =>
   obtain⟨p,h3,h4⟩:=jaa.1 (show ob (iop cl st fr h op) (fun p=>some (.mk p.1 p.2 (.mk [] (some []))))=some d from h2)
   exact jaa.2 ⟨p,jiv hc h3,h4⟩
  | some js=>exact jra hc h2
theorem jjz (hc:jwm cl cl'):∀ {l:List (IOper×Option (List Nat))} {st:List AV} {es:List Ent} {fr:List AV} {h:Hp} {s:St},jqt cl l st es fr h=some s->jqt cl' l st es fr h=some s
 | [],st,es,fr,h,s,hr=>hr
 | (.mk dst op g,m)::l,st,es,fr,h,s,hr=>by
  obtain⟨p,h1,h2⟩:=jaa.1 (show ob (jqm cl st fr es h op g m) (fun p=>DR.casesOn (motive:=fun _=>Option St) p (fun v h' e=>jqt cl l (v::st) (e::es) (jbc fr dst v) h'))=some s from hr)
  obtain⟨v,h',e⟩:=p
  exact jaa.2 ⟨_,jp4 hc h1,jjz hc h2⟩
theorem jbf (hi:j5n ih ih'):jwm (jam F ih) (jam F ih'):=by
 intro f vs h r hr
 cases F with
 | mk T X =>
  cases hx:X f vs h with
  | some v =>
   have h1:∀ ih:RC,jam (.mk T X) ih f vs h=some v:=by
    intro ih
    show Option.rec (motive:=fun _=>R) _ (fun r=>some r) (X f vs h)=_
    rw[hx]
   rw[h1] at hr ⊢
   exact hr
  | none =>
   have e:∀ ih:RC,jam (.mk T X) ih f vs h=ob (T f) (fun fn=>IF.casesOn (motive:=fun _=>R) fn (fun body nargs nslots res=>oif (Nat.beq (jbo vs) nargs) (ob (ih body (.mk (jeb vs (jcd nslots)) h)) (fun p =>
    Ex.casesOn (motive:=fun _=>R) p.1 (jbi p.2 res) (fun _=>none) (jbi p.2 res))) none)):=by
    intro ih
    show Option.rec (motive:=fun _=>R) _ (fun r=>some r) (X f vs h)=_
    rw[hx]
   rw[e] at hr ⊢
   obtain⟨fn,h1,h2⟩:=jaa.1 hr
   refine jaa.2 ⟨fn,h1,?_⟩
   cases fn with
   | mk body nargs nslots res =>
    obtain⟨h3,h4⟩:=jab.1 (show oif (Nat.beq (jbo vs) nargs) (ob (ih body (.mk (jeb vs (jcd nslots)) h)) (fun p=>Ex.casesOn (motive:=fun _=>R) p.1 (jbi p.2 res) (fun _=>none) (jbi p.2 res))) none=some r from h2)
    obtain⟨p,h5,h6⟩:=jaa.1 h4
    exact jab.2 ⟨h3,jaa.2 ⟨p,hi _ _ _ h5,h6⟩⟩
theorem jrb (hi:j5n ih ih'):j5n (jsz F ih) (jsz F ih'):=by
 intro c s r hr
 have hc:=jbf (F:=F) hi
 cases c with
 | skip=>exact hr
 | exit id=>exact hr
 | ret=>exact hr
 | region ops =>
  cases s with
  | mk fr h =>
   obtain⟨s,h1,h2⟩:=jaa.1 (show ob (jlh (jam F ih) ops [] fr h) (fun s=>some (.normal,s))=some r from hr)
   exact jaa.2 ⟨s,jjy hc h1,h2⟩
 | draw ops =>
  cases s with
  | mk fr h =>
   obtain⟨s,h1,h2⟩:=jaa.1 (show ob (jqt (jam F ih) ops [] [] fr h) (fun s=>some (.normal,s))=some r from hr)
   exact jaa.2 ⟨s,jjz hc h1,h2⟩
 | seq a b =>
  obtain⟨p,h1,h2⟩:=jaa.1 (show ob (ih a s) (fun p=>Ex.casesOn (motive:=fun _=>Option (Ex×St)) p.1 (ih b p.2) (fun _=>some p) (some p))=some r from hr)
  refine jaa.2 ⟨p,hi _ _ _ h1,?_⟩
  obtain⟨e,s'⟩:=p
  cases e with
  | normal=>exact hi _ _ _ h2
  | exit id=>exact h2
  | ret=>exact h2
 | cond c x y =>
  cases s with
  | mk fr h =>
   obtain⟨v,h1,h2⟩:=jaa.1 (show ob (ev [] fr c) (fun v=>jf3 v (fun t=>ih (oif t x y) (.mk fr h)))=some r from hr)
   obtain⟨t,rfl,h3⟩:=jcn h2
   exact jaa.2 ⟨_,h1,hi _ _ _ h3⟩
 | block id b =>
  obtain⟨p,h1,h2⟩:=jaa.1 (show ob (ih b s) (fun p=>Ex.casesOn (motive:=fun _=>Option (Ex×St)) p.1 (some p) (fun k=>oif (Nat.beq k id) (some (.normal,p.2)) (some p)) (some p))=some r from hr)
  exact jaa.2 ⟨p,hi _ _ _ h1,h2⟩
 | loop b =>
  obtain⟨p,h1,h2⟩:=jaa.1 (show ob (ih b s) (fun p=>Ex.casesOn (motive:=fun _=>Option (Ex×St)) p.1 (ih (.loop b) p.2) (fun _=>some p) (some p))=some r from hr)
  refine jaa.2 ⟨p,hi _ _ _ h1,?_⟩
  obtain⟨e,s'⟩:=p
  cases e with
  | normal=>exact hi _ _ _ h2
  | exit id=>exact h2
  | ret=>exact h2
theorem jp5 (F:Fns):∀ n,j5n (run F n) (run F (n+1))
 | 0=>fun c s r hr=>by cases hr
 | n+1=>jrb (jp5 F n)
theorem jbu (F:Fns) {n m:Nat} (h:n<=m):j5n (run F n) (run F m):=by
 induction m with
 | zero=>obtain rfl:n=0:=by omega
         exact fun c s r hr=>hr
 | succ m ih =>
  rcases f0d m n with h1 | h1
  .obtain rfl:n=m+1:=by omega
   exact fun c s r hr=>hr
  .exact fun c s r hr=>jp5 F m _ _ _ (ih h1 _ _ _ hr)
end
def j7a (F:Fns) (c:IC) (s:St) (e:Ex) (s':St):Prop:=∃ n,run F n c s=some (e,s')
def FnR (F:Fns) (f:FuncId) (vs:List AV) (h:Hp) (v:AV) (h':Hp):Prop:=∃ n,jli F n f vs h=some (v,h')
section
variable {F:Fns} {st fr:List AV} {h h' h'':Hp} {s s' s'':St} {e:Ex}
theorem j02 {T:FuncId->Option IF} {X:FuncId->List AV->Hp->R} {f:FuncId} {vs:List AV} {v:AV} {body:IC} {nargs nslots:Nat} {res:List IR} (hx:X f vs h=none) (hT:T f=some (.mk body nargs nslots res)) (hl:jbo vs=nargs)
 (h1:j7a (.mk T X) body (.mk (jeb vs (jcd nslots)) h) e s') (he:e=.normal∨e=.ret) (hr:jbi s' res=some (v,h')):FnR (.mk T X) f vs h v h':=by
 obtain⟨n,h1⟩:=h1
 refine⟨n,?_⟩
 show Option.rec (motive:=fun _=>R) _ (fun r=>some r) (X f vs h)=_
 rw[hx]
 refine jaa.2 ⟨_,hT,?_⟩
 refine jab.2 ⟨by rw[jfi];exact hl,jaa.2 ⟨_,h1,?_⟩⟩
 rcases he with rfl | rfl<;>exact hr
end
open Go Go.RowKit
variable {u u':AV} {b k t:Bool} {d e i id:Nat}
def W (F:Fns) (c:IC) (s:St) (Q:Ex->St->Prop):Prop:=∃ n e s',run F n c s=some (e,s')/\Q e s'
def WO (F:Fns) (l:List IOper) (st fr:List AV) (h:Hp) (Q:Ex->St->Prop):Prop:=∃ n s',jlh (jam F (run F n)) l st fr h=some s'/\Q .normal s'
def WD (F:Fns) (l:List (IOper×Option (List Nat))) (st:List AV) (es:List Ent) (fr:List AV) (h:Hp) (Q:Ex->St->Prop):Prop:=∃ n s',jqt (jam F (run F n)) l st es fr h=some s'/\Q .normal s'
def WC (F:Fns) (f:FuncId) (vs:List AV) (h:Hp) (Q:AV->Hp->Prop):Prop:=∃ n v h',jli F n f vs h=some (v,h')/\Q v h'
def jz3 (F:Fns) (b:IC) (Q:Ex->St->Prop) (e:Ex) (s:St):Prop:=Ex.casesOn (motive:=fun _=>Prop) e (W F b s Q) (fun k=>Q (.exit k) s) (Q .ret s)
def j5o (id:Nat) (Q:Ex->St->Prop) (e:Ex) (s:St):Prop:=Ex.casesOn (motive:=fun _=>Prop) e (Q .normal s) (fun k=>if k=id then Q .normal s else Q (.exit k) s) (Q .ret s)
def jz4 (F:Fns) (b:IC) (Q:Ex->St->Prop) (e:Ex) (s:St):Prop:=Ex.casesOn (motive:=fun _=>Prop) e (W F (.loop b) s Q) (fun k=>Q (.exit k) s) (Q .ret s)
def obP {α:Type} (x:Option α) (f:α->Prop):Prop:=∃ a,x=some a/\f a
def j7b (v:Option AV) (X Y:Prop):Prop:=∃ b,v=some (.s (.bool b))/\(if b=true then X else Y)
section
variable {F:Fns} {s:St} {st fr:List AV} {h:Hp} {Q:Ex->St->Prop} {α:Type}
theorem jev {b:IC}:jz3 F b Q .normal s=W F b s Q:=rfl
theorem jha {b:IC} {k:Nat}:jz3 F b Q (.exit k) s=Q (.exit k) s:=rfl
theorem jj0 {b:IC}:jz3 F b Q .ret s=Q .ret s:=rfl
theorem jfs:j5o id Q .normal s=Q .normal s:=rfl
theorem jj1 {k:Nat}:j5o id Q (.exit k) s=if k=id then Q .normal s else Q (.exit k) s:=rfl
theorem jm8:j5o id Q .ret s=Q .ret s:=rfl
theorem jew {b:IC}:jz4 F b Q .normal s=W F (.loop b) s Q:=rfl
theorem jhb {b:IC} {k:Nat}:jz4 F b Q (.exit k) s=Q (.exit k) s:=rfl
theorem jj2 {b:IC}:jz4 F b Q .ret s=Q .ret s:=rfl
theorem jay {a:α} {f:α->Prop}:obP (some a) f=f a:=propext ⟨fun⟨b,e,h⟩=>by cases e;exact h,fun h=>⟨a,rfl,h⟩⟩
theorem jwn {X Y:Prop}:j7b (some (.s (.bool b))) X Y=if b=true then X else Y:=propext ⟨fun⟨c,e,h⟩=>by cases e;exact h,fun h=>⟨b,rfl,h⟩⟩
theorem jto {c:IC} {n m:Nat} {e:Ex} {s':St} (hn:n<=m) (h:run F n c s=some (e,s')):run F m c s=some (e,s'):=jbu F hn _ _ _ h
theorem W.imp {c:IC} {Q':Ex->St->Prop} (h:W F c s Q) (hq:∀ e s,Q e s->Q' e s):W F c s Q':=let ⟨n,e,s',h1,h2⟩:=h;⟨n,e,s',h1,hq _ _ h2⟩
theorem WC.imp {f:FuncId} {vs:List AV} {Q Q':AV->Hp->Prop} (k:WC F f vs h Q) (hq:∀ v h,Q v h->Q' v h):WC F f vs h Q':=let ⟨n,e,s',h1,h2⟩:=k;⟨n,e,s',h1,hq _ _ h2⟩
theorem jwo:W F .skip s Q=Q .normal s:=propext ⟨fun⟨n,e,s',h1,h2⟩=>by cases n with
 | zero=>cases h1
 | succ n=>cases h1;exact h2,fun h=>⟨1,_,_,rfl,h⟩⟩
theorem j2k:W F .ret s Q=Q .ret s:=propext ⟨fun⟨n,e,s',h1,h2⟩=>by cases n with
 | zero=>cases h1
 | succ n=>cases h1;exact h2,fun h=>⟨1,_,_,rfl,h⟩⟩
theorem jwp:W F (.exit id) s Q=Q (.exit id) s:=propext ⟨fun⟨n,e,s',h1,h2⟩=>by cases n with
 | zero=>cases h1
 | succ n=>cases h1;exact h2,fun h=>⟨1,_,_,rfl,h⟩⟩
theorem j2l {a b:IC}:W F (.seq a b) s Q=W F a s (jz3 F b Q):=by
 refine propext ⟨fun⟨n,e,s',h1,h2⟩=>?_,fun⟨n,e,s',h1,h2⟩=>?_⟩
 .cases n with
  | zero=>cases h1
  | succ n =>
   obtain⟨p,h3,h4⟩:=jaa.1 (show ob (run F n a s) (fun p=>Ex.casesOn (motive:=fun _=>Option (Ex×St)) p.1 (run F n b p.2) (fun _=>some p) (some p))=some (e,s') from h1)
   obtain⟨e1,s1⟩:=p
   refine⟨n,e1,s1,h3,?_⟩
   cases e1 with
   | normal=>exact⟨n,e,s',h4,h2⟩
   | exit k=>cases h4;exact h2
   | ret=>cases h4;exact h2
 .cases e with
  | normal =>
   obtain⟨m,e2,s2,h3,h4⟩:=h2
   exact⟨max n m+1,e2,s2,jaa.2 ⟨_,jto (f00 n m) h1,jto (f0w n m) h3⟩,h4⟩
  | exit k=>exact⟨n+1,_,_,jaa.2 ⟨_,h1,rfl⟩,h2⟩
  | ret=>exact⟨n+1,_,_,jaa.2 ⟨_,h1,rfl⟩,h2⟩
theorem jbg {b:IC}:W F (.loop b) s Q=W F b s (jz4 F b Q):=by
 refine propext ⟨fun⟨n,e,s',h1,h2⟩=>?_,fun⟨n,e,s',h1,h2⟩=>?_⟩
 .cases n with
  | zero=>cases h1
  | succ n =>
   obtain⟨p,h3,h4⟩:=jaa.1 (show ob (run F n b s) (fun p=>Ex.casesOn (motive:=fun _=>Option (Ex×St)) p.1 (run F n (.loop b) p.2) (fun _=>some p) (some p))=some (e,s') from h1)
   obtain⟨e1,s1⟩:=p
   refine⟨n,e1,s1,h3,?_⟩
   cases e1 with
   | normal=>exact⟨n,e,s',h4,h2⟩
   | exit k=>cases h4;exact h2
   | ret=>cases h4;exact h2
 .cases e with
  | normal =>
   obtain⟨m,e2,s2,h3,h4⟩:=h2
   exact⟨max n m+1,e2,s2,jaa.2 ⟨_,jto (f00 n m) h1,jto (f0w n m) h3⟩,h4⟩
  | exit k=>exact⟨n+1,_,_,jaa.2 ⟨_,h1,rfl⟩,h2⟩
  | ret=>exact⟨n+1,_,_,jaa.2 ⟨_,h1,rfl⟩,h2⟩
theorem jrc {b:IC}:W F (.block id b) s Q=W F b s (j5o id Q):=by
 have key:∀ k (s1:St),oif (Nat.beq k id) (some (Ex.normal,s1)) (some (.exit k,s1))=if k=id then some (.normal,s1) else some (.exit k,s1):=fun k s1=>by
  rw[jag];congr 1;exact jfi k id
 refine propext ⟨fun⟨n,e,s',h1,h2⟩=>?_,fun⟨n,e,s',h1,h2⟩=>?_⟩
 .cases n with
  | zero=>cases h1
  | succ n =>
   obtain⟨p,h3,h4⟩:=jaa.1 (show ob (run F n b s) (fun p=>Ex.casesOn (motive:=fun _=>Option (Ex×St)) p.1 (some p) (fun k=>oif (Nat.beq k id) (some (.normal,p.2)) (some p)) (some p))=some (e,s') from h1)
   obtain⟨e1,s1⟩:=p
   refine⟨n,e1,s1,h3,?_⟩
   cases e1 with
   | normal=>cases h4;exact h2
   | exit k =>
    have h5:oif (Nat.beq k id) (some (Ex.normal,s1)) (some (.exit k,s1))=some (e,s'):=h4
    rw[key] at h5
    show if k=id then Q .normal s1 else Q (.exit k) s1
    split
    .rename_i hk;rw[if_pos hk] at h5;cases h5;exact h2
    .rename_i hk;rw[if_neg hk] at h5;cases h5;exact h2
   | ret=>cases h4;exact h2
 .cases e with
  | normal=>exact⟨n+1,_,_,jaa.2 ⟨_,h1,rfl⟩,h2⟩
  | exit k =>
   have h3:if k=id then Q .normal s' else Q (.exit k) s':=h2
   split at h3
   .rename_i hk
    exact⟨n+1,_,_,jaa.2 ⟨_,h1,(key k s').trans (if_pos hk)⟩,h3⟩
   .rename_i hk
    exact⟨n+1,_,_,jaa.2 ⟨_,h1,(key k s').trans (if_neg hk)⟩,h3⟩
  | ret=>exact⟨n+1,_,_,jaa.2 ⟨_,h1,rfl⟩,h2⟩
theorem j5p {c:Od} {x y:IC}:W F (.cond c x y) (.mk fr h) Q=j7b (ev [] fr c) (W F x (.mk fr h) Q) (W F y (.mk fr h) Q):=by
 refine propext ⟨fun⟨n,e,s',h1,h2⟩=>?_,fun⟨b,hb,h2⟩=>?_⟩
 .cases n with
  | zero=>cases h1
  | succ n =>
   obtain⟨v,h3,h4⟩:=jaa.1 (show ob (ev [] fr c) (fun v=>jf3 v (fun t=>run F n (oif t x y) (.mk fr h)))=some (e,s') from h1)
   obtain⟨t,rfl,h5⟩:=jcn h4
   refine⟨t,h3,?_⟩
   cases t with
   | true=>exact⟨n,e,s',h5,h2⟩
   | false=>exact⟨n,e,s',h5,h2⟩
 .cases b with
  | true =>
   obtain⟨n,e,s',h3,h4⟩:=(show W F x (.mk fr h) Q from h2)
   exact⟨n+1,e,s',jaa.2 ⟨_,hb,h3⟩,h4⟩
  | false =>
   obtain⟨n,e,s',h3,h4⟩:=(show W F y (.mk fr h) Q from h2)
   exact⟨n+1,e,s',jaa.2 ⟨_,hb,h3⟩,h4⟩
theorem jm9 {ops:List IOper}:W F (.region ops) (.mk fr h) Q=WO F ops [] fr h Q:=by
 refine propext ⟨fun⟨n,e,s',h1,h2⟩=>?_,fun⟨n,s',h1,h2⟩=>⟨n+1,.normal,s',jaa.2 ⟨_,h1,rfl⟩,h2⟩⟩
 cases n with
 | zero=>cases h1
 | succ n =>
  obtain⟨s1,h3,h4⟩:=jaa.1 (show ob (jlh (jam F (run F n)) ops [] fr h) (fun s=>some (Ex.normal,s))=some (e,s') from h1)
  cases h4
  exact⟨n,_,h3,h2⟩
theorem jwq {ops:List (IOper×Option (List Nat))}:W F (.draw ops) (.mk fr h) Q=WD F ops [] [] fr h Q:=by
 refine propext ⟨fun⟨n,e,s',h1,h2⟩=>?_,fun⟨n,s',h1,h2⟩=>⟨n+1,.normal,s',jaa.2 ⟨_,h1,rfl⟩,h2⟩⟩
 cases n with
 | zero=>cases h1
 | succ n =>
  obtain⟨s1,h3,h4⟩:=jaa.1 (show ob (jqt (jam F (run F n)) ops [] [] fr h) (fun s=>some (Ex.normal,s))=some (e,s') from h1)
  cases h4
  exact⟨n,_,h3,h2⟩
theorem jwr:WO F [] st fr h Q=Q .normal (.mk fr h):=propext ⟨fun⟨n,s',h1,h2⟩=>by cases h1;exact h2,fun h=>⟨0,_,rfl,h⟩⟩
theorem jj3 {dst:Option Nat} {op:IOp} {g:Option (Nat×Bool)} {l:List IOper}:WO F (.mk dst op g::l) st fr h Q=∃ n v h',jt6 (jam F (run F n)) st fr h op g=some (v,h')/\WO F l (v::st) (jbc fr dst v) h' Q:=by
 refine propext ⟨fun⟨n,s',h1,h2⟩=>?_,fun⟨n,v,h',h1,m,s',h2,h3⟩=>?_⟩
 .obtain ⟨p,h3,h4⟩:=jaa.1 (show ob (jt6 (jam F (run F n)) st fr h op g) (fun p=>jlh (jam F (run F n)) l (p.1::st) (jbc fr dst p.1) p.2)=some s' from h1)
  exact⟨n,p.1,p.2,h3,n,s',h4,h2⟩
 .exact ⟨max n m,s',jaa.2 ⟨(v,h'),jp3 (jbf (jbu F (f00 n m))) h1,jjy (jbf (jbu F (f0w n m))) h2⟩,h3⟩
theorem j5q {dst:Option Nat} {op:IOp} {l:List IOper} {x:R} (hx:∀ cl,iop cl st fr h op=x):WO F (.mk dst op none::l) st fr h Q=obP x (fun p=>WO F l (p.1::st) (jbc fr dst p.1) p.2 Q):=by
 rw[jj3]
 refine propext ⟨fun⟨n,v,h',h1,h2⟩=>⟨(v,h'),?_,h2⟩,fun⟨p,h1,h2⟩=>⟨0,p.1,p.2,?_,h2⟩⟩
 .rw [←hx (jam F (run F n))];exact h1
 .rw [←hx (jam F (run F 0))] at h1;exact h1
theorem j2m {dst:Option Nat} {o:PO} {l:List IOper}:WO F (.mk dst (.p o) none::l) st fr h Q=obP (pop st fr o) (fun v=>WO F l (v::st) (jbc fr dst v) h Q):=by
 rw[j5q (x:=ob (pop st fr o) (fun v=>ok v h)) (fun _=>rfl)]
 refine propext ⟨fun⟨p,h1,h2⟩=>?_,fun⟨v,h1,h2⟩=>⟨(v,h),jaa.2 ⟨v,h1,rfl⟩,h2⟩⟩
 obtain⟨v,h3,h4⟩:=jaa.1 h1
 cases h4
 exact⟨v,h3,h2⟩
def AO.calls:AO->Bool
 | .call _ _=>true
 | .callv _ _=>true
 | _=>false
def jb6 (st fr:List AV) (h:Hp) (o:AO):R:=aop (fun _ _ _=>none) st fr h o
theorem jhc {cl:FuncId->List AV->Hp->R} {o:AO} (ho:o.calls=false):aop cl st fr h o=jb6 st fr h o:=by
 cases o<;>first | rfl | cases ho
theorem jda {dst:Option Nat} {o:AO} {l:List IOper} (ho:o.calls=false):WO F (.mk dst (.a o) none::l) st fr h Q=obP (jb6 st fr h o) (fun p=>WO F l (p.1::st) (jbc fr dst p.1) p.2 Q) :=
 j5q (fun _=>jhc ho)
theorem j2n {dst:Option Nat} {f:FuncId} {as:List Od} {l:List IOper}:WO F (.mk dst (.a (.call f as)) none::l) st fr h Q=obP (evs st fr as) (fun vs=>WC F f vs h (fun v h'=>WO F l (v::st) (jbc fr dst v) h' Q)):=by
 rw[jj3]
 refine propext ⟨fun⟨n,v,h',h1,h2⟩=>?_,fun⟨vs,h1,n,v,h',h2,h3⟩=>⟨n,v,h',jaa.2 ⟨true,rfl,jaa.2 ⟨vs,h1,h2⟩⟩,h3⟩⟩
 have h1':ob (evs st fr as) (fun vs=>jam F (run F n) f vs h)=some (v,h'):=h1
 obtain⟨vs,h4,h5⟩:=jaa.1 h1'
 exact⟨vs,h4,n,v,h',h5,h2⟩
theorem jz5 {dst:Option Nat} {x:Od} {as:List Od} {l:List IOper}:WO F (.mk dst (.a (.callv x as)) none::l) st fr h Q=∃ f caps,ev st fr x=some (.s (.func f caps))/\obP (evs st fr as) (fun vs=>WC F f (vs++jbp caps) h (fun v h'=>WO F l (v::st) (jbc fr dst v) h' Q)):=by
 rw[jj3]
 refine propext ⟨fun⟨n,v,h',h1,h2⟩=>?_,fun⟨f,caps,hx,vs,h1,n,v,h',h2,h3⟩=>⟨n,v,h',jaa.2 ⟨true,rfl,jaa.2 ⟨_,hx,?_⟩⟩,h3⟩⟩
 .have h1':ob (ev st fr x) (fun v=>jmi v (fun f caps=>ob (evs st fr as) (fun vs=>jam F (run F n) f (jeb vs (jbp caps)) h)))=some (v,h'):=h1
  obtain⟨w,hw,h4⟩:=jaa.1 h1'
  obtain⟨f,caps,rfl,h5⟩:=jdo h4
  obtain⟨vs,h6,h7⟩:=jaa.1 h5
  rw[jb1] at h7
  exact⟨f,caps,hw,vs,h6,n,v,h',h7,h2⟩
 .show ob (evs st fr as) (fun vs=>jam F (run F n) f (jeb vs (jbp caps)) h)=some (v,h')
  refine jaa.2 ⟨vs,h1,?_⟩
  rw[jb1]
  exact h2
def gP (v:Option AV) (t:Bool) (X Y:Prop):Prop:=∃ x,v=some x/\((∃ b,x=.s (.bool b)/\if b=t then X else Y)∨(x=.undef/\Y))
theorem jws {X Y:Prop}:gP (some (.s (.bool b))) t X Y=if b=t then X else Y:=propext ⟨fun⟨x,e,h⟩=>by
 cases e
 rcases h with⟨c,e,h⟩ | ⟨h,_⟩
 .cases e;exact h
 .exact (by cases h),fun h=>⟨_,rfl,.inl ⟨b,rfl,h⟩⟩⟩
theorem jtp {X Y:Prop}:gP (some .undef) t X Y=Y:=propext ⟨fun⟨x,e,h⟩=>by
 cases e
 rcases h with⟨c,e,h⟩ | ⟨_,h⟩
 .cases e
 .exact h,fun h=>⟨_,rfl,.inr ⟨rfl,h⟩⟩⟩
theorem jch:jy9 st (some (i,t))=some b↔∃ x,jc5 st i=some x/\((∃ c,x=.s (.bool c)/\b=decide (c=t))∨(x=.undef/\b=false)):=by
 have e:jy9 st (some (i,t))=ob (jc5 st i) (fun v=>svc (some false) v (fun s=>jik s (fun b=>some (oif t b (jdv b))))):=rfl
 rw[e]
 constructor
 .intro h1
  obtain⟨x,hx,h2⟩:=jaa.1 h1
  refine⟨x,hx,?_⟩
  cases x with
  | s x =>
   cases x with
   | bool c=>left;exact⟨c,rfl,by cases c<;>cases t<;>exact(Option.some.inj h2).symm⟩
   | _=>cases h2
  | undef=>right;exact⟨rfl,(Option.some.inj h2).symm⟩
  | _=>cases h2
 .rintro ⟨x,hx,h1⟩
  refine jaa.2 ⟨x,hx,?_⟩
  rcases h1 with⟨c,rfl,rfl⟩ | ⟨rfl,rfl⟩
  .cases c<;>cases t<;>rfl
  .rfl
theorem jz6 {dst:Option Nat} {op:IOp} {l:List IOper}:WO F (.mk dst op (some (i,t))::l) st fr h Q=gP (jc5 st i) t (WO F (.mk dst op none::l) st fr h Q) (WO F l (.undef::st) (jbc fr dst .undef) h Q):=by
 rw[jj3,jj3]
 refine propext ⟨fun⟨n,v,h',h1,h2⟩=>?_,fun⟨x,hx,h1⟩=>?_⟩
 .obtain ⟨b,hb,h3⟩:=jaa.1 (show ob (jy9 st (some (i,t))) (fun b=>Bool.rec (motive:=fun _=>R) (ok .undef h) (iop (jam F (run F n)) st fr h op) b)=some (v,h') from h1)
  obtain⟨x,hx,h4⟩:=jch.1 hb
  refine⟨x,hx,?_⟩
  rcases h4 with⟨c,rfl,rfl⟩ | ⟨h4,rfl⟩
  .left
   refine⟨c,rfl,?_⟩
   split
   .rename_i hc;rw[hc,decide_eq_true rfl] at h3;exact⟨n,v,h',jaa.2 ⟨true,rfl,h3⟩,h2⟩
   .rename_i hc;rw[decide_eq_false hc] at h3;cases h3;exact h2
  .right;cases h3;exact⟨h4,h2⟩
 .rcases h1 with⟨c,rfl,h1⟩ | ⟨h1,h2⟩
  .split at h1
   .rename_i hc
    obtain⟨n,v,h',h3,h4⟩:=h1
    refine⟨n,v,h',jaa.2 ⟨true,jch.2 ⟨_,hx,.inl ⟨c,rfl,(decide_eq_true hc).symm⟩⟩,?_⟩,h4⟩
    obtain⟨b,hb,h5⟩:=jaa.1 h3
    cases hb
    exact h5
   .rename_i hc
    exact⟨0,.undef,h,jaa.2 ⟨false,jch.2 ⟨_,hx,.inl ⟨c,rfl,(decide_eq_false hc).symm⟩⟩,rfl⟩,h1⟩
  .exact ⟨0,.undef,h,jaa.2 ⟨false,jch.2 ⟨_,hx,.inr ⟨h1,rfl⟩⟩,rfl⟩,h2⟩
theorem jwt {es:List Ent}:WD F [] st es fr h Q=Q .normal (.mk fr h):=propext ⟨fun⟨n,s',h1,h2⟩=>by cases h1;exact h2,fun h=>⟨0,_,rfl,h⟩⟩
theorem jhd {es:List Ent} {dst:Option Nat} {op:IOp} {g:Option (Nat×Bool)} {m:Option (List Nat)} {l:List (IOper×Option (List Nat))}:WD F ((.mk dst op g,m)::l) st es fr h Q=∃ n v h' e,jqm (jam F (run F n)) st fr es h op g m=some (.mk v h' e)/\WD F l (v::st) (e::es) (jbc fr dst v) h' Q:=by
 refine propext ⟨fun⟨n,s',h1,h2⟩=>?_,fun⟨n,v,h',e,h1,k,s',h2,h3⟩=>?_⟩
 .obtain ⟨p,h3,h4⟩:=jaa.1 (show ob (jqm (jam F (run F n)) st fr es h op g m) (fun p=>DR.casesOn (motive:=fun _=>Option St) p (fun v h' e=>jqt (jam F (run F n)) l (v::st) (e::es) (jbc fr dst v) h'))=some s' from h1)
  obtain⟨v,h',e⟩:=p
  exact⟨n,v,h',e,h3,n,s',h4,h2⟩
 .exact ⟨max n k,s',jaa.2 ⟨.mk v h' e,jp4 (jbf (jbu F (f00 n k))) h1,jjz (jbf (jbu F (f0w n k))) h2⟩,h3⟩
theorem jrd {es:List Ent} {dst:Option Nat} {op:IOp} {m:Option (List Nat)} {l:List (IOper×Option (List Nat))} {x:Option DR} (hx:∀ cl,jqm cl st fr es h op none m=x):WD F ((.mk dst op none,m)::l) st es fr h Q=obP x (fun p=>DR.casesOn (motive:=fun _=>Prop) p (fun v h' e=>WD F l (v::st) (e::es) (jbc fr dst v) h' Q)):=by
 rw[jhd]
 refine propext ⟨fun⟨n,v,h',e,h1,h2⟩=>⟨.mk v h' e,?_,h2⟩,fun⟨p,h1,h2⟩=>?_⟩
 .rw [←hx (jam F (run F n))];exact h1
 .obtain ⟨v,h',e⟩:=p
  exact⟨0,v,h',e,by rw[hx];exact h1,h2⟩
theorem j2o {es:List Ent} {dst:Option Nat} {o:PO} {l:List (IOper×Option (List Nat))}:WD F ((.mk dst (.p o) none,none)::l) st es fr h Q=obP (pop st fr o) (fun v=>WD F l (v::st) (.mk [] (some [])::es) (jbc fr dst v) h Q):=by
 rw[jrd (x:=ob (pop st fr o) (fun v=>some (DR.mk v h (.mk [] (some []))))) (fun cl=>?_)]
 .refine propext ⟨fun⟨p,h1,h2⟩=>?_,fun⟨v,h1,h2⟩=>⟨.mk v h (.mk [] (some [])),jaa.2 ⟨v,h1,rfl⟩,h2⟩⟩
  obtain⟨v,h3,h4⟩:=jaa.1 h1
  cases h4
  exact⟨v,h3,h2⟩
 .show ob (ob (pop st fr o) (fun v=>ok v h)) (fun p=>some (DR.mk p.1 p.2 (.mk [] (some []))))=_
  cases pop st fr o<;>rfl
theorem jdb {es:List Ent} {dst:Option Nat} {o:AO} {l:List (IOper×Option (List Nat))} (ho:o.calls=false):WD F ((.mk dst (.a o) none,none)::l) st es fr h Q=obP (jb6 st fr h o) (fun p=>WD F l (p.1::st) (.mk [] (some [])::es) (jbc fr dst p.1) p.2 Q):=by
 rw[jrd (x:=ob (jb6 st fr h o) (fun p=>some (DR.mk p.1 p.2 (.mk [] (some []))))) (fun cl=>?_)]
 .refine propext ⟨fun⟨p,h1,h2⟩=>?_,fun⟨p,h1,h2⟩=>⟨.mk p.1 p.2 (.mk [] (some [])),jaa.2 ⟨p,h1,rfl⟩,h2⟩⟩
  obtain⟨q,h3,h4⟩:=jaa.1 h1
  cases h4
  exact⟨q,h3,h2⟩
 .show ob (aop cl st fr h o) (fun p=>some (DR.mk p.1 p.2 (.mk [] (some []))))=_
  rw[jhc ho]
theorem j2p {es:List Ent} {dst:Option Nat} {f:FuncId} {as:List Od} {l:List (IOper×Option (List Nat))}:WD F ((.mk dst (.a (.call f as)) none,none)::l) st es fr h Q=obP (evs st fr as) (fun vs=>WC F f vs h (fun v h'=>WD F l (v::st) (.mk [] (some [])::es) (jbc fr dst v) h' Q)):=by
 rw[jhd]
 refine propext ⟨fun⟨n,v,h',e,h1,h2⟩=>?_,fun⟨vs,h1,n,v,h',h2,h3⟩=>⟨n,v,h',.mk [] (some []),jaa.2 ⟨true,rfl,jaa.2 ⟨(v,h'),jaa.2 ⟨vs,h1,h2⟩,rfl⟩⟩,h3⟩⟩
 have h1':ob (ob (evs st fr as) (fun vs=>jam F (run F n) f vs h)) (fun p=>some (DR.mk p.1 p.2 (.mk [] (some []))))=some (.mk v h' e):=h1
 obtain⟨p,h4,h5⟩:=jaa.1 h1'
 obtain⟨vs,h6,h7⟩:=jaa.1 h4
 cases h5
 exact⟨vs,h6,n,p.1,p.2,h7,h2⟩
theorem jp6 {es:List Ent} {dst:Option Nat} {o:PO} {js:List Nat} {l:List (IOper×Option (List Nat))}:WD F ((.mk dst (.p o) none,some js)::l) st es fr h Q=obP (sel es js h.hid) (fun _=>obP (pop st fr o) (fun v=>WD F l (v::st) (.mk [(h.next,h.next)] (some [])::es) (jbc fr dst v) h Q)):=by
 cases h with
 | mk n t lo hid =>
 rw[jrd (x:=ob (sel es js hid) (fun hid'=>ob (pop st fr o) (fun v=>some (DR.mk v (.mk n t lo hid) (.mk [(n,n)] (some [])))))) (fun cl=>?_)]
 .refine propext ⟨fun⟨p,h1,h2⟩=>?_,fun⟨hid',h0,v,h1,h2⟩=>⟨.mk v (.mk n t lo hid) (.mk [(n,n)] (some [])),jaa.2 ⟨hid',h0,jaa.2 ⟨v,h1,rfl⟩⟩,h2⟩⟩
  obtain⟨hid',h3,h4⟩:=jaa.1 h1
  obtain⟨v,h5,h6⟩:=jaa.1 h4
  cases h6
  exact⟨hid',h3,v,h5,h2⟩
 .show ob (sel es js hid) (fun hid'=>ob (ob (pop st fr o) (fun v=>ok v (.mk n t n hid'))) (fun p=>Hp.casesOn (motive:=fun _=>Option DR) p.2 (fun n' t' _ _=>some (.mk p.1 (.mk n' t' lo hid) (.mk [(n,n')] (some []))))))=_
  congr 1
  funext hid'
  cases pop st fr o<;>rfl
theorem jz7 {es:List Ent} {dst:Option Nat} {op:IOp} {m:Option (List Nat)} {l:List (IOper×Option (List Nat))}:WD F ((.mk dst op (some (i,t)),m)::l) st es fr h Q=gP (jc5 st i) t (WD F ((.mk dst op none,m)::l) st es fr h Q) (WD F l (.undef::st) (.mk [] (some [])::es) (jbc fr dst .undef) h Q):=by
 rw[jhd,jhd]
 have go:∀ n g v h' e,jqm (jam F (run F n)) st fr es h op g m=some (.mk v h' e)↔∃ b,jy9 st g=some b/\((b=false/\v=.undef/\h'=h/\e=.mk [] (some []))∨(b=true/\jqm (jam F (run F n)) st fr es h op none m=some (.mk v h' e))):=fun n g v h' e=>by
  constructor
  .intro h1
   obtain⟨b,hb,h3⟩:=jaa.1 h1
   refine⟨b,hb,?_⟩
   cases b with
   | false=>cases h3;exact .inl ⟨rfl,rfl,rfl,rfl⟩
   | true=>exact .inr ⟨rfl,jaa.2 ⟨true,rfl,h3⟩⟩
  .rintro ⟨b,hb,⟨rfl,rfl,rfl,rfl⟩ | ⟨rfl,h1⟩⟩
   .exact jaa.2 ⟨false,hb,rfl⟩
   .obtain ⟨c,hc,h2⟩:=jaa.1 h1
    cases hc
    exact jaa.2 ⟨true,hb,h2⟩
 refine propext ⟨fun⟨n,v,h',e,h1,h2⟩=>?_,fun⟨x,hx,h1⟩=>?_⟩
 .obtain ⟨b,hb,h3⟩:=(go n _ v h' e).1 h1
  obtain⟨x,hx,h4⟩:=jch.1 hb
  refine⟨x,hx,?_⟩
  rcases h4 with⟨c,rfl,rfl⟩ | ⟨h4,rfl⟩
  .left
   refine⟨c,rfl,?_⟩
   split
   .rename_i hc
    rcases h3 with⟨h3,_⟩ | ⟨_,h3⟩
    .rw [decide_eq_true hc] at h3;cases h3
    .exact ⟨n,v,h',e,h3,h2⟩
   .rename_i hc
    rcases h3 with⟨_,rfl,rfl,rfl⟩ | ⟨h3,_⟩
    .exact h2
    .rw [decide_eq_false hc] at h3;cases h3
  .right
   rcases h3 with⟨_,rfl,rfl,rfl⟩ | ⟨h3,_⟩
   .exact ⟨h4,h2⟩
   .cases h3
 .rcases h1 with⟨c,rfl,h1⟩ | ⟨h1,h2⟩
  .split at h1
   .rename_i hc
    obtain⟨n,v,h',e,h3,h4⟩:=h1
    exact⟨n,v,h',e,(go n _ v h' e).2 ⟨true,jch.2 ⟨_,hx,.inl ⟨c,rfl,(decide_eq_true hc).symm⟩⟩,.inr ⟨rfl,h3⟩⟩,h4⟩
   .rename_i hc
    exact⟨0,.undef,h,_,(go 0 _ _ _ _).2 ⟨false,jch.2 ⟨_,hx,.inl ⟨c,rfl,(decide_eq_false hc).symm⟩⟩,.inl ⟨rfl,rfl,rfl,rfl⟩⟩,h1⟩
  .exact ⟨0,.undef,h,_,(go 0 _ _ _ _).2 ⟨false,jch.2 ⟨_,hx,.inr ⟨h1,rfl⟩⟩,.inl ⟨rfl,rfl,rfl,rfl⟩⟩,h2⟩
end
def j7c (res:List IR) (Q:AV->Hp->Prop) (e:Ex) (s:St):Prop:=Ex.casesOn (motive:=fun _=>Prop) e (obP (jbi s res) (fun p=>Q p.1 p.2)) (fun _=>False) (obP (jbi s res) (fun p=>Q p.1 p.2))
section
variable {F:Fns} {h:Hp} {vs:List AV} {f:FuncId} {Q:AV->Hp->Prop}
theorem jbz {body:IC} {nargs nslots:Nat} {res:List IR} (hx:jig F f vs h=none) (hT:jzv F f=some (.mk body nargs nslots res)) (hl:vs.length=nargs)
 (h1:W F body (.mk (vs++jcd nslots) h) (j7c res Q)):WC F f vs h Q:=by
 obtain⟨n,e,s',h2,h3⟩:=h1
 cases F with
 | mk T X =>
 have hx':X f vs h=none:=hx
 rw[←jb1] at h2
 cases e with
 | normal =>
  obtain⟨p,h4,h5⟩:=(show obP (jbi s' res) (fun p=>Q p.1 p.2) from h3)
  obtain⟨m,hm⟩:=j02 (v:=p.1) (h':=p.2) hx' hT (by rw[jan];exact hl) ⟨n,h2⟩ (.inl rfl) h4
  exact⟨m,p.1,p.2,hm,h5⟩
 | exit k=>exact h3.elim
 | ret =>
  obtain⟨p,h4,h5⟩:=(show obP (jbi s' res) (fun p=>Q p.1 p.2) from h3)
  obtain⟨m,hm⟩:=j02 (v:=p.1) (h':=p.2) hx' hT (by rw[jan];exact hl) ⟨n,h2⟩ (.inr rfl) h4
  exact⟨m,p.1,p.2,hm,h5⟩
theorem j5r {h':Hp} (hx:jig F f vs h=some (u,h')) (hq:Q u h'):WC F f vs h Q:=by
 cases F with
 | mk T X =>
 have hx':X f vs h=some (u,h'):=hx
 refine⟨0,u,h',?_,hq⟩
 show Option.rec (motive:=fun _=>R) _ (fun r=>some r) (X f vs h)=_
 rw[hx']
end
theorem jgj {f g:SV->Option SV} (hf:∀ x y,f x=some y->g x=some y):∀ {l r:List SV},jl8 f l=some r->jl8 g l=some r
 | [],r,h=>h
 | a::l,r,h=>by
  obtain⟨x,h1,h2⟩:=jaa.1 (show ob (f a) (fun x=>ob (jl8 f l) (fun r=>some (x::r)))=some r from h)
  obtain⟨r',h3,h4⟩:=jaa.1 h2
  exact jaa.2 ⟨x,hf _ _ h1,jaa.2 ⟨r',jgj hf h3,h4⟩⟩
theorem jmd {h:Hp}:∀ (d:Nat) (x y:SV),jih k h d x=some y->jih k h (d+1) x=some y
 | 0,x,y,hx=>by cases hx
 | d+1,x,y,hx=>by
  cases x with
  | slice b off len mc ex sz =>
   cases len with
   | zero=>exact hx
   | succ len =>
    obtain⟨cs,h1,h2⟩:=jaa.1 (show ob (rd h b off (Nat.mul (len+1) sz)) (fun cs=>ob (jl8 (jih k h d) cs) (fun cs=>ob (jl9 sz (len+1) cs) (fun rows=>some (.lst rows))))=some y from hx)
    obtain⟨cs',h3,h4⟩:=jaa.1 h2
    exact jaa.2 ⟨cs,h1,jaa.2 ⟨cs',jgj (jmd d) h3,h4⟩⟩
  | _=>exact hx
theorem jj4 {h:Hp} (hd:d<=e) {x y:SV} (hx:jih k h d x=some y):jih k h e x=some y:=by
 induction e with
 | zero=>obtain rfl:d=0:=by omega
         exact hx
 | succ e ih =>
  rcases f0d e d with h1 | h1
  .obtain rfl:d=e+1:=by omega
   exact hx
  .exact jmd e _ _ (ih h1)
theorem jp7 {f g:SV->Option SV} (hf:∀ x y,f x=some y->g x=some y):∀ {l r:List (Bool×List SV)},jv5 f l=some r->jv5 g l=some r
 | [],r,h=>h
 | p::l,r,h=>by
  obtain⟨x,h1,h2⟩:=jaa.1 (show ob (jl8 f p.2) (fun x=>ob (jv5 f l) (fun r=>some ((p.1,x)::r)))=some r from h)
  obtain⟨r',h3,h4⟩:=jaa.1 h2
  exact jaa.2 ⟨x,jgj hf h1,jaa.2 ⟨r',jp7 hf h3,h4⟩⟩
theorem jj5 {h:Hp} (hd:d<=e) {x y:AV} (hx:jo7 k h d x=some y):jo7 k h e x=some y:=by
 cases x with
 | s x =>
  obtain⟨y',h1,h2⟩:=jaa.1 (show ob (jih k h d x) (fun y=>some (AV.s y))=some y from hx)
  exact jaa.2 ⟨y',jj4 hd h1,h2⟩
 | agg l =>
  obtain⟨y',h1,h2⟩:=jaa.1 (show ob (jl8 (jih k h d) l) (fun y=>some (AV.agg y))=some y from hx)
  exact jaa.2 ⟨y',jgj (fun _ _=>jj4 hd) h1,h2⟩
 | tup l =>
  obtain⟨y',h1,h2⟩:=jaa.1 (show ob (jv5 (jih k h d) l) (fun y=>some (AV.tup y))=some y from hx)
  exact jaa.2 ⟨y',jp7 (fun _ _=>jj4 hd) h1,h2⟩
 | _=>exact hx
theorem jhe {h:Hp} (hd:d<=e):∀ {l r:List AV},jm5 k h d l=some r->jm5 k h e l=some r
 | [],r,h=>h
 | a::l,r,hr=>by
  obtain⟨x,h1,h2⟩:=jaa.1 (show ob (jo7 k h d a) (fun x=>ob (jm5 k h d l) (fun r=>some (x::r)))=some r from hr)
  obtain⟨r',h3,h4⟩:=jaa.1 h2
  exact jaa.2 ⟨x,jj5 hd h1,jaa.2 ⟨r',jhe hd h3,h4⟩⟩
def jna (k:Bool) (F:Fns) (f:FuncId) (vs:List AV) (u:AV):Prop:=WC F f vs h0 (fun v hi=>∃ d,jo7 k hi d v=some u)
theorem jna.one {F:Fns} {f:FuncId} {vs:List AV} (h:jna k F f vs u) (h':jna k F f vs u'):u=u':=by
 obtain⟨n,v,hi,h1,d,h2⟩:=h
 obtain⟨m,v',hi',h3,d',h4⟩:=h'
 have e1:jli F (max n m) f vs h0=some (v,hi):=jbf (jbu F (f00 n m)) _ _ _ _ h1
 have e2:jli F (max n m) f vs h0=some (v',hi'):=jbf (jbu F (f0w n m)) _ _ _ _ h3
 rw[e1] at e2
 cases e2
 have e3:=jj5 (f00 d d') h2
 have e4:=jj5 (f0w d d') h4
 rw[e3] at e4
 exact Option.some.inj e4
def j03 (F:Fns) (f:FuncId) (vs:List AV) (h:Hp) (u:AV):Prop:=∃ us d,jm5 true h d vs=some us/\jna false F f us u
theorem j03.one {F:Fns} {f:FuncId} {vs:List AV} {h:Hp} (k:j03 F f vs h u) (k':j03 F f vs h u'):u=u':=by
 obtain⟨us,d,h1,h2⟩:=k
 obtain⟨us',d',h3,h4⟩:=k'
 have e3:=jhe (f00 d d') h1
 have e4:=jhe (f0w d d') h3
 rw[e3] at e4
 cases e4
 exact h2.one h4
open Classical in
def pxA (F:Fns) (f:FuncId) (vs:List AV) (h:Hp):Option AV :=
 if h1:jm4 vs=true/\∃ u,jna true F f vs u then some (Classical.choose h1.2)
 else if h2:∃ u,j03 F f vs h u then some (Classical.choose h2) else none
theorem jz8 {F:Fns} {f:FuncId} {vs:List AV} {h:Hp} (hg:jm4 vs=true) (k:jna true F f vs u):pxA F f vs h=some u:=by
 unfold pxA
 rw[dif_pos ⟨hg,u,k⟩]
 exact congrArg some ((Classical.choose_spec (p:=fun u=>jna true F f vs u) ⟨u,k⟩).one k)
theorem jz9 {F:Fns} {f:FuncId} {vs:List AV} {h:Hp} (hg:jm4 vs=false) (k:j03 F f vs h u):pxA F f vs h=some u:=by
 unfold pxA
 rw[dif_neg (fun e=>by rw[hg] at e;cases e.1),dif_pos ⟨u,k⟩]
 exact congrArg some ((Classical.choose_spec (p:=fun u=>j03 F f vs h u) ⟨u,k⟩).one k)
theorem j0a {F:Fns} {f:FuncId} {vs:List AV} {h:Hp} (k:pxA F f vs h=some u):(jm4 vs=true/\jna true F f vs u)∨j03 F f vs h u:=by
 unfold pxA at k
 split at k
 .rename_i h1
  cases k
  exact .inl ⟨h1.1,Classical.choose_spec h1.2⟩
 .split at k
  .rename_i h2
   cases k
   exact .inr (Classical.choose_spec h2)
  .cases k
def PX (S:FuncId->Bool) (F:Fns):Fns:=.mk (jzv F) (fun f vs h=>Bool.rec (motive:=fun _=>R) (jig F f vs h) (ob (pxA F f vs h) (fun u=>ok u h)) (S f))
theorem jd4 {S:FuncId->Bool} {F:Fns} {f:FuncId} {vs:List AV} {h:Hp} (hS:S f=true) (hg:jm4 vs=true) (k:jna true F f vs u):jig (PX S F) f vs h=some (u,h):=by
 show Bool.rec (motive:=fun _=>R) (jig F f vs h) (ob (pxA F f vs h) (fun u=>ok u h)) (S f)=_
 rw[hS,jz8 hg k];rfl
theorem j2q {S:FuncId->Bool} {F:Fns} {f:FuncId} {vs:List AV} {h:Hp} (hS:S f=true) (hg:jm4 vs=false) (k:j03 F f vs h u):jig (PX S F) f vs h=some (u,h):=by
 show Bool.rec (motive:=fun _=>R) (jig F f vs h) (ob (pxA F f vs h) (fun u=>ok u h)) (S f)=_
 rw[hS,jz9 hg k];rfl
theorem jgk {S:FuncId->Bool} {F:Fns} {f:FuncId} {vs:List AV} {h:Hp} (hS:S f=false):jig (PX S F) f vs h=jig F f vs h:=by
 show Bool.rec (motive:=fun _=>R) (jig F f vs h) (ob (pxA F f vs h) (fun u=>ok u h)) (S f)=_
 rw[hS]
theorem jwu {P:Program} {A:Nat->Int} {T:Tr TI} {S:FuncId->Bool} {F:Fns} (env:Env P A T F):Env P A T (PX S F) where
 tys:=env.tys
 mix:=env.mix
 fn:=env.fn
 ext:=fun f vs h v h' hx=>by
  cases hS:S f with
  | false=>rw[jgk hS] at hx;exact env.ext f vs h v h' hx
  | true =>
   have hx':ob (pxA F f vs h) (fun u=>ok u h)=some (v,h'):=by
    have e:jig (PX S F) f vs h=Bool.rec (motive:=fun _=>R) (jig F f vs h) (ob (pxA F f vs h) (fun u=>ok u h)) (S f):=rfl
    rw[e,hS] at hx
    exact hx
   obtain⟨u,hu,h1⟩:=jaa.1 hx'
   cases h1
   rcases j0a hu with⟨hg,n,v0,hi,h1,d,h2⟩ | ⟨us,d,h1,n,v0,hi,h2,d',h3⟩
   .exact ⟨(jd3 env (jjw env n).1 f vs h0 v0 hi h1).1,fun k=>Abs.refl _ k,fun φ w args rel ha=>jv7 env h1 h2 hg rel args ha⟩
   .exact ⟨(jd3 env (jjw env n).1 f us h0 v0 hi h2).1,fun k=>Abs.refl _ k,fun φ w args rel ha=>juk env h1 h2 h3 rel args ha⟩
theorem jwv {P:Program} {A:Nat->Int} {T:Tr TI} {F:Fns} (env:Env P A T F) {f:FuncId} {vs:List AV} {d:Unit} (k:WC F f vs h0 (fun v _=>v=.s (.bool true))) {c:Nat->Option (Array Value)} {w:World} (hk:jm2 c w) (args:Array Value) (ha:All2 (cV A (jzx c)) vs args.toList) :
 Calls P f args w (fun e w'=>e=.returned (.bool true)/\Below w.heap.size w w'):=by
 obtain⟨n,v,h',h1,rfl⟩:=k
 exact jzy env (n:=n) (by rw[h1];rfl) hk args ha
end
end Go.Proofs.Ytmcfkgjjnhlkiaa.Ev
