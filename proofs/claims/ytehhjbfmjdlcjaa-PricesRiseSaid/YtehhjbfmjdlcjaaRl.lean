/- Runs of the interpreter step by step: more fuel answers the same; rules for code, regions, calls. No program in sight. -/
import Derived.Test.YtehhjbfmjdlcjaaRun
namespace Go.Proofs.Ytehhjbfmjdlcjaa.Ev
open Go
set_option linter.all false
def j48 (cl cl':FuncId->List AV->Hp->R):Prop:=∀ f vs h r,cl f vs h=some r->cl' f vs h=some r
def qms (ih ih':RC):Prop:=∀ c s r,ih c s=some r->ih' c s=some r
section
variable {cl cl':FuncId->List AV->Hp->R} {st fr:List AV} {h:Hp} {F:Fns} {ih ih':RC}
theorem jm1 (hc:j48 cl cl') {op:IOp} {r:AV×Hp} (hr:iop cl st fr h op=some r):iop cl' st fr h op=some r:=by
 cases op with
 | p o=>exact hr
 | a o =>
  cases o with
  | call f as =>
   obtain ⟨vs,h1,h2⟩:=jab.1 (show ob (evs st fr as) (fun vs=>cl f vs h)=some r from hr)
   exact jab.2 ⟨vs,h1,hc _ _ _ _ h2⟩
  | callv x as =>
   obtain ⟨v,h1,h2⟩:=jab.1 (show ob (ev st fr x) (fun v=>jvf v (fun f caps=>ob (evs st fr as) (fun vs=>cl f (jhf vs (jge caps)) h)))=some r from hr)
   obtain ⟨f,caps,rfl,h3⟩:=jdz h2
   obtain ⟨vs,h4,h5⟩:=jab.1 h3
   exact jab.2 ⟨_,h1,jab.2 ⟨vs,h4,hc _ _ _ _ h5⟩⟩
  | _=>exact hr
theorem jv5 (hc:j48 cl cl') {op:IOp} {g:Option (Nat×Bool)} {r:AV×Hp} (hr:j2l cl st fr h op g=some r):j2l cl' st fr h op g=some r:=by
 obtain ⟨b,h1,h2⟩:=jab.1 hr
 refine jab.2 ⟨b,h1,?_⟩
 cases b with
 | false=>exact h2
 | true=>exact jm1 hc h2
theorem joa (hc:j48 cl cl'):∀ {l:List IOper} {st fr:List AV} {h:Hp} {s:St},jqa cl l st fr h=some s->jqa cl' l st fr h=some s
 | [],st,fr,h,s,hr=>hr
 | .mk dst op g::l,st,fr,h,s,hr=>by
  obtain ⟨p,h1,h2⟩:=jab.1 (show ob (j2l cl st fr h op g) (fun p=>jqa cl l (p.1::st) (jca fr dst p.1) p.2)=some s from hr)
  exact jab.2 ⟨p,jv5 hc h1,joa hc h2⟩
theorem jhw (hc:j48 cl cl') {n:Nat} {t:Tr AB} {lo lo':Nat} {hid hid':List (Nat×Nat)} {op:IOp} {e:Nat->Ent} {d:DR} (hr:jmx cl st fr n t lo lo' hid hid' op e=some d):jmx cl' st fr n t lo lo' hid hid' op e=some d:=by
 obtain ⟨p,h1,h2⟩:=jab.1 hr
 exact jab.2 ⟨p,jm1 hc h1,h2⟩
theorem jya (hc:j48 cl cl') {es:List Ent} {op:IOp} {js:List Nat} {d:DR} (hr:jma cl st fr es h op js=some d):jma cl' st fr es h op js=some d:=by
 cases h with
 | mk n t lo hid =>
  obtain ⟨hid',h1,h2⟩:=jab.1 (show ob (sel es js hid) (fun hid'=>Cls.casesOn (motive:=fun _=>Option DR) (jb1 st fr op)
   (jmx cl st fr n t lo n hid hid' op (fun n'=>.mk [(n,n')] (some [])))
   (fun x=>jmx cl st fr n t lo n hid hid' op (fun _=>.mk [] (some [x])))
   (fun b=>oif (jjn es js b) (oif (Nat.ble lo b) (ob (Hp.get (.mk n t lo hid') b) (fun _=>jmx cl st fr n t lo lo hid hid' op (fun n'=>.mk [(b,Nat.succ b),(n,n')] none))) none) none)
   (jmx cl st fr n t lo n hid hid' op (fun _=>.mk [] (some [])))
   (jmx cl st fr n t lo n hid hid' op (fun n'=>.mk [(n,n')] none)))=some d from hr)
  refine jab.2 ⟨hid',h1,?_⟩
  revert h2
  cases jb1 st fr op with
  | fresh=>exact fun h=>jhw hc h
  | load x=>exact fun h=>jhw hc h
  | quiet=>exact fun h=>jhw hc h
  | other=>exact fun h=>jhw hc h
  | app b =>
   intro h2
   obtain ⟨h3,h4⟩:=jae.1 h2
   obtain ⟨h5,h6⟩:=jae.1 h4
   obtain ⟨x,h7,h8⟩:=jab.1 h6
   exact jae.2 ⟨h3,jae.2 ⟨h5,jab.2 ⟨x,h7,jhw hc h8⟩⟩⟩
theorem jv6 (hc:j48 cl cl') {es:List Ent} {op:IOp} {g:Option (Nat×Bool)} {m:Option (List Nat)} {d:DR} (hr:jxo cl st fr es h op g m=some d):jxo cl' st fr es h op g m=some d:=by
 obtain ⟨b,h1,h2⟩:=jab.1 hr
 refine jab.2 ⟨b,h1,?_⟩
 cases b with
 | false=>exact h2
 | true =>
  cases m with
  | none =>
   obtain ⟨p,h3,h4⟩:=jab.1 (show ob (iop cl st fr h op) (fun p=>some (.mk p.1 p.2 (.mk [] (some []))))=some d from h2)
   exact jab.2 ⟨p,jm1 hc h3,h4⟩
  | some js=>exact jya hc h2
theorem job (hc:j48 cl cl'):∀ {l:List (IOper×Option (List Nat))} {st:List AV} {es:List Ent} {fr:List AV} {h:Hp} {s:St},jxt cl l st es fr h=some s->jxt cl' l st es fr h=some s
 | [],st,es,fr,h,s,hr=>hr
 | (.mk dst op g,m)::l,st,es,fr,h,s,hr=>by
  obtain ⟨p,h1,h2⟩:=jab.1 (show ob (jxo cl st fr es h op g m) (fun p=>DR.casesOn (motive:=fun _=>Option St) p (fun v h' e=>jxt cl l (v::st) (e::es) (jca fr dst v) h'))=some s from hr)
  obtain ⟨v,h',e⟩:=p
  exact jab.2 ⟨_,jv6 hc h1,job hc h2⟩
theorem jcq (hi:qms ih ih'):j48 (jbo F ih) (jbo F ih'):=by
 intro f vs h r hr
 cases F with
 | mk T X =>
  cases hx:X f vs h with
  | some v =>
   have h1:∀ ih:RC,jbo (.mk T X) ih f vs h=some v:=by
    intro ih
    show Option.rec (motive:=fun _=>R) _ (fun r=>some r) (X f vs h)=_
    rw [hx]
   rw [h1] at hr ⊢
   exact hr
  | none =>
   have e:∀ ih:RC,jbo (.mk T X) ih f vs h=ob (T f) (fun fn=>IF.casesOn (motive:=fun _=>R) fn (fun body nargs nslots res=>oif (Nat.beq (jc3 vs) nargs) (ob (ih body (.mk (jhf vs (jc6 nslots)) h)) (fun p =>
    Ex.casesOn (motive:=fun _=>R) p.1 (jcb p.2 res) (fun _=>none) (jcb p.2 res))) none)):=by
    intro ih
    show Option.rec (motive:=fun _=>R) _ (fun r=>some r) (X f vs h)=_
    rw [hx]
   rw [e] at hr ⊢
   obtain ⟨fn,h1,h2⟩:=jab.1 hr
   refine jab.2 ⟨fn,h1,?_⟩
   cases fn with
   | mk body nargs nslots res =>
    obtain ⟨h3,h4⟩:=jae.1 (show oif (Nat.beq (jc3 vs) nargs) (ob (ih body (.mk (jhf vs (jc6 nslots)) h)) (fun p=>Ex.casesOn (motive:=fun _=>R) p.1 (jcb p.2 res) (fun _=>none) (jcb p.2 res))) none=some r from h2)
    obtain ⟨p,h5,h6⟩:=jab.1 h4
    exact jae.2 ⟨h3,jab.2 ⟨p,hi _ _ _ h5,h6⟩⟩
theorem jyb (hi:qms ih ih'):qms (jz5 F ih) (jz5 F ih'):=by
 intro c s r hr
 have hc:=jcq (F:=F) hi
 cases c with
 | skip=>exact hr
 | exit id=>exact hr
 | ret=>exact hr
 | region ops =>
  cases s with
  | mk fr h =>
   obtain ⟨s,h1,h2⟩:=jab.1 (show ob (jqa (jbo F ih) ops [] fr h) (fun s=>some (.normal,s))=some r from hr)
   exact jab.2 ⟨s,joa hc h1,h2⟩
 | draw ops =>
  cases s with
  | mk fr h =>
   obtain ⟨s,h1,h2⟩:=jab.1 (show ob (jxt (jbo F ih) ops [] [] fr h) (fun s=>some (.normal,s))=some r from hr)
   exact jab.2 ⟨s,job hc h1,h2⟩
 | seq a b =>
  obtain ⟨p,h1,h2⟩:=jab.1 (show ob (ih a s) (fun p=>Ex.casesOn (motive:=fun _=>Option (Ex×St)) p.1 (ih b p.2) (fun _=>some p) (some p))=some r from hr)
  refine jab.2 ⟨p,hi _ _ _ h1,?_⟩
  obtain ⟨e,s'⟩:=p
  cases e with
  | normal=>exact hi _ _ _ h2
  | exit id=>exact h2
  | ret=>exact h2
 | cond c x y =>
  cases s with
  | mk fr h =>
   obtain ⟨v,h1,h2⟩:=jab.1 (show ob (ev [] fr c) (fun v=>jiw v (fun t=>ih (oif t x y) (.mk fr h)))=some r from hr)
   obtain ⟨t,rfl,h3⟩:=jdy h2
   exact jab.2 ⟨_,h1,hi _ _ _ h3⟩
 | block id b =>
  obtain ⟨p,h1,h2⟩:=jab.1 (show ob (ih b s) (fun p=>Ex.casesOn (motive:=fun _=>Option (Ex×St)) p.1 (some p) (fun k=>oif (Nat.beq k id) (some (.normal,p.2)) (some p)) (some p))=some r from hr)
  exact jab.2 ⟨p,hi _ _ _ h1,h2⟩
 | loop b =>
  obtain ⟨p,h1,h2⟩:=jab.1 (show ob (ih b s) (fun p=>Ex.casesOn (motive:=fun _=>Option (Ex×St)) p.1 (ih (.loop b) p.2) (fun _=>some p) (some p))=some r from hr)
  refine jab.2 ⟨p,hi _ _ _ h1,?_⟩
  obtain ⟨e,s'⟩:=p
  cases e with
  | normal=>exact hi _ _ _ h2
  | exit id=>exact h2
  | ret=>exact h2
theorem jv7 (F:Fns):∀ n,qms (run F n) (run F (n+1))
 | 0=>fun c s r hr=>by cases hr
 | n+1=>jyb (jv7 F n)
theorem jdb (F:Fns) {n m:Nat} (h:n<=m):qms (run F n) (run F m):=by
 induction m with
 | zero=>obtain rfl:n=0:=by omega
         exact fun c s r hr=>hr
 | succ m ih =>
  rcases f0h m n with h1 | h1
  ·obtain rfl:n=m+1:=by omega
   exact fun c s r hr=>hr
  ·exact fun c s r hr=>jv7 F m _ _ _ (ih h1 _ _ _ hr)
end
def qqt (F:Fns) (c:IC) (s:St) (e:Ex) (s':St):Prop:=∃ n,run F n c s=some (e,s')
def FnR (F:Fns) (f:FuncId) (vs:List AV) (h:Hp) (v:AV) (h':Hp):Prop:=∃ n,jnf F n f vs h=some (v,h')
section
variable {F:Fns} {st fr:List AV} {h h' h'':Hp} {s s' s'':St} {e:Ex}
theorem qck {T:FuncId->Option IF} {X:FuncId->List AV->Hp->R} {f:FuncId} {vs:List AV} {v:AV} {body:IC} {nargs nslots:Nat} {res:List IR} (hx:X f vs h=none) (hT:T f=some (.mk body nargs nslots res)) (hl:jc3 vs=nargs)
 (h1:qqt (.mk T X) body (.mk (jhf vs (jc6 nslots)) h) e s') (he:e=.normal∨e=.ret) (hr:jcb s' res=some (v,h')):FnR (.mk T X) f vs h v h':=by
 obtain ⟨n,h1⟩:=h1
 refine ⟨n,?_⟩
 show Option.rec (motive:=fun _=>R) _ (fun r=>some r) (X f vs h)=_
 rw [hx]
 refine jab.2 ⟨_,hT,?_⟩
 refine jae.2 ⟨by rw [jgh];exact hl,jab.2 ⟨_,h1,?_⟩⟩
 rcases he with rfl | rfl<;>exact hr
end
end Go.Proofs.Ytehhjbfmjdlcjaa.Ev
