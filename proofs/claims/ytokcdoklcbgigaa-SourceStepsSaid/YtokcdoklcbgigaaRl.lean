/- Runs of the interpreter step by step: more fuel answers the same; rules for code, regions, calls. No program in sight. -/
import Derived.Test.YtokcdoklcbgigaaRun
namespace Go.Proofs.Ytokcdoklcbgigaa.Ev
open Go
set_option linter.all false
def j6q (cl cl':FuncId->List AV->Hp->R):Prop:=∀ f vs h r,cl f vs h=some r->cl' f vs h=some r
def qob (ih ih':RC):Prop:=∀ c s r,ih c s=some r->ih' c s=some r
section
variable {cl cl':FuncId->List AV->Hp->R} {st fr:List AV} {h:Hp} {F:Fns} {ih ih':RC}
theorem jm5 (hc:j6q cl cl') {op:IOp} {r:AV×Hp} (hr:iop cl st fr h op=some r):iop cl' st fr h op=some r:=by
 cases op with
 | p o=>exact hr
 | a o =>
  cases o with
  | call f as =>
   obtain ⟨vs,h1,h2⟩:=jac.1 (show ob (evs st fr as) (fun vs=>cl f vs h)=some r from hr)
   exact jac.2 ⟨vs,h1,hc _ _ _ _ h2⟩
  | callv x as =>
   obtain ⟨v,h1,h2⟩:=jac.1 (show ob (ev st fr x) (fun v=>jvt v (fun f caps=>ob (evs st fr as) (fun vs=>cl f (jgq vs (jgr caps)) h)))=some r from hr)
   obtain ⟨f,caps,rfl,h3⟩:=jd8 h2
   obtain ⟨vs,h4,h5⟩:=jac.1 h3
   exact jac.2 ⟨_,h1,jac.2 ⟨vs,h4,hc _ _ _ _ h5⟩⟩
  | _=>exact hr
theorem jwj (hc:j6q cl cl') {op:IOp} {g:Option (Nat×Bool)} {r:AV×Hp} (hr:j31 cl st fr h op g=some r):j31 cl' st fr h op g=some r:=by
 obtain ⟨b,h1,h2⟩:=jac.1 hr
 refine jac.2 ⟨b,h1,?_⟩
 cases b with
 | false=>exact h2
 | true=>exact jm5 hc h2
theorem jok (hc:j6q cl cl'):∀ {l:List IOper} {st fr:List AV} {h:Hp} {s:St},jqr cl l st fr h=some s->jqr cl' l st fr h=some s
 | [],st,fr,h,s,hr=>hr
 | .mk dst op g::l,st,fr,h,s,hr=>by
  obtain ⟨p,h1,h2⟩:=jac.1 (show ob (j31 cl st fr h op g) (fun p=>jqr cl l (p.1::st) (jch fr dst p.1) p.2)=some s from hr)
  exact jac.2 ⟨p,jwj hc h1,jok hc h2⟩
theorem jh8 (hc:j6q cl cl') {n:Nat} {t:Tr AB} {lo lo':Nat} {hid hid':List (Nat×Nat)} {op:IOp} {e:Nat->Ent} {d:DR} (hr:jkx cl st fr n t lo lo' hid hid' op e=some d):jkx cl' st fr n t lo lo' hid hid' op e=some d:=by
 obtain ⟨p,h1,h2⟩:=jac.1 hr
 exact jac.2 ⟨p,jm5 hc h1,h2⟩
theorem jyy (hc:j6q cl cl') {es:List Ent} {op:IOp} {js:List Nat} {d:DR} (hr:jmc cl st fr es h op js=some d):jmc cl' st fr es h op js=some d:=by
 cases h with
 | mk n t lo hid =>
  obtain ⟨hid',h1,h2⟩:=jac.1 (show ob (sel es js hid) (fun hid'=>Cls.casesOn (motive:=fun _=>Option DR) (jbz st fr op)
   (jkx cl st fr n t lo n hid hid' op (fun n'=>.mk [(n,n')] (some [])))
   (fun x=>jkx cl st fr n t lo n hid hid' op (fun _=>.mk [] (some [x])))
   (fun b=>oif (jgt es js b) (oif (Nat.ble lo b) (ob (Hp.get (.mk n t lo hid') b) (fun _=>jkx cl st fr n t lo lo hid hid' op (fun n'=>.mk [(b,Nat.succ b),(n,n')] none))) none) none)
   (jkx cl st fr n t lo n hid hid' op (fun _=>.mk [] (some [])))
   (jkx cl st fr n t lo n hid hid' op (fun n'=>.mk [(n,n')] none)))=some d from hr)
  refine jac.2 ⟨hid',h1,?_⟩
  revert h2
  cases jbz st fr op with
  | fresh=>exact fun h=>jh8 hc h
  | load x=>exact fun h=>jh8 hc h
  | quiet=>exact fun h=>jh8 hc h
  | other=>exact fun h=>jh8 hc h
  | app b =>
   intro h2
   obtain ⟨h3,h4⟩:=jae.1 h2
   obtain ⟨h5,h6⟩:=jae.1 h4
   obtain ⟨x,h7,h8⟩:=jac.1 h6
   exact jae.2 ⟨h3,jae.2 ⟨h5,jac.2 ⟨x,h7,jh8 hc h8⟩⟩⟩
theorem jwk (hc:j6q cl cl') {es:List Ent} {op:IOp} {g:Option (Nat×Bool)} {m:Option (List Nat)} {d:DR} (hr:jyc cl st fr es h op g m=some d):jyc cl' st fr es h op g m=some d:=by
 obtain ⟨b,h1,h2⟩:=jac.1 hr
 refine jac.2 ⟨b,h1,?_⟩
 cases b with
 | false=>exact h2
 | true =>
  cases m with
  | none =>
   obtain ⟨p,h3,h4⟩:=jac.1 (show ob (iop cl st fr h op) (fun p=>some (.mk p.1 p.2 (.mk [] (some []))))=some d from h2)
   exact jac.2 ⟨p,jm5 hc h3,h4⟩
  | some js=>exact jyy hc h2
theorem jol (hc:j6q cl cl'):∀ {l:List (IOper×Option (List Nat))} {st:List AV} {es:List Ent} {fr:List AV} {h:Hp} {s:St},jyh cl l st es fr h=some s->jyh cl' l st es fr h=some s
 | [],st,es,fr,h,s,hr=>hr
 | (.mk dst op g,m)::l,st,es,fr,h,s,hr=>by
  obtain ⟨p,h1,h2⟩:=jac.1 (show ob (jyc cl st fr es h op g m) (fun p=>DR.casesOn (motive:=fun _=>Option St) p (fun v h' e=>jyh cl l (v::st) (e::es) (jch fr dst v) h'))=some s from hr)
  obtain ⟨v,h',e⟩:=p
  exact jac.2 ⟨_,jwk hc h1,jol hc h2⟩
theorem jcu (hi:qob ih ih'):j6q (jbt F ih) (jbt F ih'):=by
 intro f vs h r hr
 cases F with
 | mk T X =>
  cases hx:X f vs h with
  | some v =>
   have h1:∀ ih:RC,jbt (.mk T X) ih f vs h=some v:=by
    intro ih
    show Option.rec (motive:=fun _=>R) _ (fun r=>some r) (X f vs h)=_
    rw [hx]
   rw [h1] at hr ⊢
   exact hr
  | none =>
   have e:∀ ih:RC,jbt (.mk T X) ih f vs h=ob (T f) (fun fn=>IF.casesOn (motive:=fun _=>R) fn (fun body nargs nslots res=>oif (Nat.beq (jcx vs) nargs) (ob (ih body (.mk (jgq vs (jdg nslots)) h)) (fun p =>
    Ex.casesOn (motive:=fun _=>R) p.1 (jci p.2 res) (fun _=>none) (jci p.2 res))) none)):=by
    intro ih
    show Option.rec (motive:=fun _=>R) _ (fun r=>some r) (X f vs h)=_
    rw [hx]
   rw [e] at hr ⊢
   obtain ⟨fn,h1,h2⟩:=jac.1 hr
   refine jac.2 ⟨fn,h1,?_⟩
   cases fn with
   | mk body nargs nslots res =>
    obtain ⟨h3,h4⟩:=jae.1 (show oif (Nat.beq (jcx vs) nargs) (ob (ih body (.mk (jgq vs (jdg nslots)) h)) (fun p=>Ex.casesOn (motive:=fun _=>R) p.1 (jci p.2 res) (fun _=>none) (jci p.2 res))) none=some r from h2)
    obtain ⟨p,h5,h6⟩:=jac.1 h4
    exact jae.2 ⟨h3,jac.2 ⟨p,hi _ _ _ h5,h6⟩⟩
theorem jyz (hi:qob ih ih'):qob (j02 F ih) (j02 F ih'):=by
 intro c s r hr
 have hc:=jcu (F:=F) hi
 cases c with
 | skip=>exact hr
 | exit id=>exact hr
 | ret=>exact hr
 | region ops =>
  cases s with
  | mk fr h =>
   obtain ⟨s,h1,h2⟩:=jac.1 (show ob (jqr (jbt F ih) ops [] fr h) (fun s=>some (.normal,s))=some r from hr)
   exact jac.2 ⟨s,jok hc h1,h2⟩
 | draw ops =>
  cases s with
  | mk fr h =>
   obtain ⟨s,h1,h2⟩:=jac.1 (show ob (jyh (jbt F ih) ops [] [] fr h) (fun s=>some (.normal,s))=some r from hr)
   exact jac.2 ⟨s,jol hc h1,h2⟩
 | seq a b =>
  obtain ⟨p,h1,h2⟩:=jac.1 (show ob (ih a s) (fun p=>Ex.casesOn (motive:=fun _=>Option (Ex×St)) p.1 (ih b p.2) (fun _=>some p) (some p))=some r from hr)
  refine jac.2 ⟨p,hi _ _ _ h1,?_⟩
  obtain ⟨e,s'⟩:=p
  cases e with
  | normal=>exact hi _ _ _ h2
  | exit id=>exact h2
  | ret=>exact h2
 | cond c x y =>
  cases s with
  | mk fr h =>
   obtain ⟨v,h1,h2⟩:=jac.1 (show ob (ev [] fr c) (fun v=>ji2 v (fun t=>ih (oif t x y) (.mk fr h)))=some r from hr)
   obtain ⟨t,rfl,h3⟩:=jd7 h2
   exact jac.2 ⟨_,h1,hi _ _ _ h3⟩
 | block id b =>
  obtain ⟨p,h1,h2⟩:=jac.1 (show ob (ih b s) (fun p=>Ex.casesOn (motive:=fun _=>Option (Ex×St)) p.1 (some p) (fun k=>oif (Nat.beq k id) (some (.normal,p.2)) (some p)) (some p))=some r from hr)
  exact jac.2 ⟨p,hi _ _ _ h1,h2⟩
 | loop b =>
  obtain ⟨p,h1,h2⟩:=jac.1 (show ob (ih b s) (fun p=>Ex.casesOn (motive:=fun _=>Option (Ex×St)) p.1 (ih (.loop b) p.2) (fun _=>some p) (some p))=some r from hr)
  refine jac.2 ⟨p,hi _ _ _ h1,?_⟩
  obtain ⟨e,s'⟩:=p
  cases e with
  | normal=>exact hi _ _ _ h2
  | exit id=>exact h2
  | ret=>exact h2
theorem jwl (F:Fns):∀ n,qob (run F n) (run F (n+1))
 | 0=>fun c s r hr=>by cases hr
 | n+1=>jyz (jwl F n)
theorem jdk (F:Fns) {n m:Nat} (h:n<=m):qob (run F n) (run F m):=by
 induction m with
 | zero=>obtain rfl:n=0:=by omega
         exact fun c s r hr=>hr
 | succ m ih =>
  rcases f0l m n with h1 | h1
  ·obtain rfl:n=m+1:=by omega
   exact fun c s r hr=>hr
  ·exact fun c s r hr=>jwl F m _ _ _ (ih h1 _ _ _ hr)
end
def qry (F:Fns) (c:IC) (s:St) (e:Ex) (s':St):Prop:=∃ n,run F n c s=some (e,s')
def FnR (F:Fns) (f:FuncId) (vs:List AV) (h:Hp) (v:AV) (h':Hp):Prop:=∃ n,jnp F n f vs h=some (v,h')
section
variable {F:Fns} {st fr:List AV} {h h' h'':Hp} {s s' s'':St} {e:Ex}
theorem qeo {T:FuncId->Option IF} {X:FuncId->List AV->Hp->R} {f:FuncId} {vs:List AV} {v:AV} {body:IC} {nargs nslots:Nat} {res:List IR} (hx:X f vs h=none) (hT:T f=some (.mk body nargs nslots res)) (hl:jcx vs=nargs)
 (h1:qry (.mk T X) body (.mk (jgq vs (jdg nslots)) h) e s') (he:e=.normal∨e=.ret) (hr:jci s' res=some (v,h')):FnR (.mk T X) f vs h v h':=by
 obtain ⟨n,h1⟩:=h1
 refine ⟨n,?_⟩
 show Option.rec (motive:=fun _=>R) _ (fun r=>some r) (X f vs h)=_
 rw [hx]
 refine jac.2 ⟨_,hT,?_⟩
 refine jae.2 ⟨by rw [jha];exact hl,jac.2 ⟨_,h1,?_⟩⟩
 rcases he with rfl | rfl<;>exact hr
end
end Go.Proofs.Ytokcdoklcbgigaa.Ev
