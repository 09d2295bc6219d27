/- Runs of the interpreter step by step. -/
import Derived.Test.YtkpadfebkaangaaGreatDoorRun
import Derived.Test.YtkpadfebkaangaaGreatDoorBack3
namespace Go.Proofs.YtkpadfebkaangaaGreatDoor.Ev
noncomputable section
open Go
set_option linter.all false
def j7i (cl cl':FuncId->List AV->Hp->R):Prop:=∀ f vs h r,cl f vs h=some r->cl' f vs h=some r
def qq9 (ih ih':RC):Prop:=∀ c s r,ih c s=some r->ih' c s=some r
section
variable {cl cl':FuncId->List AV->Hp->R} {st fr:List AV} {h:Hp} {F:Fns} {ih ih':RC}
theorem jm3 (hc:j7i cl cl') {op:IOp} {r:AV×Hp} (hr:iop cl st fr h op=some r):iop cl' st fr h op=some r:=by
 cases op with
 | p o=>exact hr
 | a o =>
  cases o with
  | call f as =>
   obtain⟨vs,h1,h2⟩:=jaa.1 (show ob (evs st fr as) (fun vs=>cl f vs h)=some r from hr)
   exact jaa.2 ⟨vs,h1,hc _ _ _ _ h2⟩
  | callv x as =>
   obtain⟨v,h1,h2⟩:=jaa.1 (show ob (ev st fr x) (fun v=>j3x v (fun f caps=>ob (evs st fr as) (fun vs=>cl f (jf8 vs (jg5 caps)) h)))=some r from hr)
   obtain⟨f,caps,rfl,h3⟩:=jh3 h2
   obtain⟨vs,h4,h5⟩:=jaa.1 h3
   exact jaa.2 ⟨_,h1,jaa.2 ⟨vs,h4,hc _ _ _ _ h5⟩⟩
  | _=>exact hr
theorem jvp (hc:j7i cl cl') {op:IOp} {g:Option (Nat×Bool)} {r:AV×Hp} (hr:qdd cl st fr h op g=some r):qdd cl' st fr h op g=some r:=by
 obtain⟨b,h1,h2⟩:=jaa.1 hr
 refine jaa.2 ⟨b,h1,?_⟩
 cases b with
 | false=>exact h2
 | true=>exact jm3 hc h2
theorem jo2 (hc:j7i cl cl'):∀ {l:List IOper} {st fr:List AV} {h:Hp} {s:St},jz5 cl l st fr h=some s->jz5 cl' l st fr h=some s
 | [],st,fr,h,s,hr=>hr
 | .mk dst op g::l,st,fr,h,s,hr=>by
  obtain⟨p,h1,h2⟩:=jaa.1 (show ob (qdd cl st fr h op g) (fun p=>jz5 cl l (p.1::st) (jc0 fr dst p.1) p.2)=some s from hr)
  exact jaa.2 ⟨p,jvp hc h1,jo2 hc h2⟩
theorem jhr (hc:j7i cl cl') {n:Nat} {t:Tr AB} {lo lo':Nat} {hid hid':List (Nat×Nat)} {op:IOp} {e:Nat->Ent} {d:DR} (hr:jmm cl st fr n t lo lo' hid hid' op e=some d):jmm cl' st fr n t lo lo' hid hid' op e=some d:=by
 obtain⟨p,h1,h2⟩:=jaa.1 hr
 exact jaa.2 ⟨p,jm3 hc h1,h2⟩
theorem jyl (hc:j7i cl cl') {es:List Ent} {op:IOp} {js:List Nat} {d:DR} (hr:jma cl st fr es h op js=some d):jma cl' st fr es h op js=some d:=by
 cases h with
 | mk n t lo hid =>
  obtain⟨hid',h1,h2⟩:=jaa.1 (show ob (sel es js hid) (fun hid'=>Cls.casesOn (motive:=fun _=>Option DR) (jca st fr op)
   (jmm cl st fr n t lo n hid hid' op (fun n'=>.mk [(n,n')] (some [])))
   (fun x=>jmm cl st fr n t lo n hid hid' op (fun _=>.mk [] (some [x])))
   (fun b=>oif (jjn es js b) (oif (Nat.ble lo b) (ob (Hp.get (.mk n t lo hid') b) (fun _=>jmm cl st fr n t lo lo hid hid' op (fun n'=>.mk [(b,Nat.succ b),(n,n')] none))) none) none)
   (jmm cl st fr n t lo n hid hid' op (fun _=>.mk [] (some [])))
   (jmm cl st fr n t lo n hid hid' op (fun n'=>.mk [(n,n')] none)))=some d from hr)
  refine jaa.2 ⟨hid',h1,?_⟩
  revert h2
  cases jca st fr op with
  | fresh=>exact fun h=>jhr hc h
  | load x=>exact fun h=>jhr hc h
  | quiet=>exact fun h=>jhr hc h
  | other=>exact fun h=>jhr hc h
  | app b =>
   intro h2
   obtain⟨h3,h4⟩:=jae.1 h2
   obtain⟨h5,h6⟩:=jae.1 h4
   obtain⟨x,h7,h8⟩:=jaa.1 h6
   exact jae.2 ⟨h3,jae.2 ⟨h5,jaa.2 ⟨x,h7,jhr hc h8⟩⟩⟩
theorem jvq (hc:j7i cl cl') {es:List Ent} {op:IOp} {g:Option (Nat×Bool)} {m:Option (List Nat)} {d:DR} (hr:jxw cl st fr es h op g m=some d):jxw cl' st fr es h op g m=some d:=by
 obtain⟨b,h1,h2⟩:=jaa.1 hr
 refine jaa.2 ⟨b,h1,?_⟩
 cases b with
 | false=>exact h2
 | true =>
  cases m with
  | none =>
   obtain⟨p,h3,h4⟩:=jaa.1 (show ob (iop cl st fr h op) (fun p=>some (.mk p.1 p.2 (.mk [] (some []))))=some d from h2)
   exact jaa.2 ⟨p,jm3 hc h3,h4⟩
  | some js=>exact jyl hc h2
theorem jo3 (hc:j7i cl cl'):∀ {l:List (IOper×Option (List Nat))} {st:List AV} {es:List Ent} {fr:List AV} {h:Hp} {s:St},jx4 cl l st es fr h=some s->jx4 cl' l st es fr h=some s
 | [],st,es,fr,h,s,hr=>hr
 | (.mk dst op g,m)::l,st,es,fr,h,s,hr=>by
  obtain⟨p,h1,h2⟩:=jaa.1 (show ob (jxw cl st fr es h op g m) (fun p=>DR.casesOn (motive:=fun _=>Option St) p (fun v h' e=>jx4 cl l (v::st) (e::es) (jc0 fr dst v) h'))=some s from hr)
  obtain⟨v,h',e⟩:=p
  exact jaa.2 ⟨_,jvq hc h1,jo3 hc h2⟩
theorem jcs (hi:qq9 ih ih'):j7i (jbv F ih) (jbv F ih'):=by
 intro f vs h r hr
 cases F with
 | mk T X =>
  cases hx:X f vs h with
  | some v =>
   have h1:∀ ih:RC,jbv (.mk T X) ih f vs h=some v:=by
    intro ih
    show Option.rec (motive:=fun _=>R) _ (fun r=>some r) (X f vs h)=_
    rw[hx]
   rw[h1] at hr ⊢
   exact hr
  | none =>
   have e:∀ ih:RC,jbv (.mk T X) ih f vs h=ob (T f) (fun fn=>IF.casesOn (motive:=fun _=>R) fn (fun body nargs nslots res=>oif (Nat.beq (jb6 vs) nargs) (ob (ih body (.mk (jf8 vs (jdq nslots)) h)) (fun p =>
    Ex.casesOn (motive:=fun _=>R) p.1 (jcj p.2 res) (fun _=>none) (jcj p.2 res))) none)):=by
    intro ih
    show Option.rec (motive:=fun _=>R) _ (fun r=>some r) (X f vs h)=_
    rw[hx]
   rw[e] at hr ⊢
   obtain⟨fn,h1,h2⟩:=jaa.1 hr
   refine jaa.2 ⟨fn,h1,?_⟩
   cases fn with
   | mk body nargs nslots res =>
    obtain⟨h3,h4⟩:=jae.1 (show oif (Nat.beq (jb6 vs) nargs) (ob (ih body (.mk (jf8 vs (jdq nslots)) h)) (fun p=>Ex.casesOn (motive:=fun _=>R) p.1 (jcj p.2 res) (fun _=>none) (jcj p.2 res))) none=some r from h2)
    obtain⟨p,h5,h6⟩:=jaa.1 h4
    exact jae.2 ⟨h3,jaa.2 ⟨p,hi _ _ _ h5,h6⟩⟩
theorem jym (hi:qq9 ih ih'):qq9 (jz6 F ih) (jz6 F ih'):=by
 intro c s r hr
 have hc:=jcs (F:=F) hi
 cases c with
 | skip=>exact hr
 | exit id=>exact hr
 | ret=>exact hr
 | region ops =>
  cases s with
  | mk fr h =>
   obtain⟨s,h1,h2⟩:=jaa.1 (show ob (jz5 (jbv F ih) ops [] fr h) (fun s=>some (.normal,s))=some r from hr)
   exact jaa.2 ⟨s,jo2 hc h1,h2⟩
 | draw ops =>
  cases s with
  | mk fr h =>
   obtain⟨s,h1,h2⟩:=jaa.1 (show ob (jx4 (jbv F ih) ops [] [] fr h) (fun s=>some (.normal,s))=some r from hr)
   exact jaa.2 ⟨s,jo3 hc h1,h2⟩
 | seq a b =>
  obtain⟨p,h1,h2⟩:=jaa.1 (show ob (ih a s) (fun p=>Ex.casesOn (motive:=fun _=>Option (Ex×St)) p.1 (ih b p.2) (fun _=>some p) (some p))=some r from hr)
  refine jaa.2 ⟨p,hi _ _ _ h1,?_⟩
  obtain⟨e,s'⟩:=p
  cases e with
  | normal=>exact hi _ _ _ h2
  | exit id=>exact h2
  | ret=>exact h2
 | cond c x y =>
  cases s with
  | mk fr h =>
   obtain⟨v,h1,h2⟩:=jaa.1 (show ob (ev [] fr c) (fun v=>jgt v (fun t=>ih (oif t x y) (.mk fr h)))=some r from hr)
   obtain⟨t,rfl,h3⟩:=jda h2
   exact jaa.2 ⟨_,h1,hi _ _ _ h3⟩
 | block id b =>
  obtain⟨p,h1,h2⟩:=jaa.1 (show ob (ih b s) (fun p=>Ex.casesOn (motive:=fun _=>Option (Ex×St)) p.1 (some p) (fun k=>oif (Nat.beq k id) (some (.normal,p.2)) (some p)) (some p))=some r from hr)
  exact jaa.2 ⟨p,hi _ _ _ h1,h2⟩
 | loop b =>
  obtain⟨p,h1,h2⟩:=jaa.1 (show ob (ih b s) (fun p=>Ex.casesOn (motive:=fun _=>Option (Ex×St)) p.1 (ih (.loop b) p.2) (fun _=>some p) (some p))=some r from hr)
  refine jaa.2 ⟨p,hi _ _ _ h1,?_⟩
  obtain⟨e,s'⟩:=p
  cases e with
  | normal=>exact hi _ _ _ h2
  | exit id=>exact h2
  | ret=>exact h2
theorem jvr (F:Fns):∀ n,qq9 (run F n) (run F (n+1))
 | 0=>fun c s r hr=>by cases hr
 | n+1=>jym (jvr F n)
theorem jd0 (F:Fns) {n m:Nat} (h:n<=m):qq9 (run F n) (run F m):=by
 induction m with
 | zero=>obtain rfl:n=0:=oa
         exact fun c s r hr=>hr
 | succ m ih =>
  rcases f0n m n with h1 | h1
  .obtain rfl:n=m+1:=oa
   exact fun c s r hr=>hr
  .exact fun c s r hr=>jvr F m _ _ _ (ih h1 _ _ _ hr)
end
def qvr (F:Fns) (c:IC) (s:St) (e:Ex) (s':St):Prop:=∃ n,run F n c s=some (e,s')
def FnR (F:Fns) (f:FuncId) (vs:List AV) (h:Hp) (v:AV) (h':Hp):Prop:=∃ n,jn2 F n f vs h=some (v,h')
section
variable {F:Fns} {st fr:List AV} {h h' h'':Hp} {s s' s'':St} {e:Ex}
theorem qhq {T:FuncId->Option IF} {X:FuncId->List AV->Hp->R} {f:FuncId} {vs:List AV} {v:AV} {body:IC} {nargs nslots:Nat} {res:List IR} (hx:X f vs h=none) (hT:T f=some (.mk body nargs nslots res)) (hl:jb6 vs=nargs)
 (h1:qvr (.mk T X) body (.mk (jf8 vs (jdq nslots)) h) e s') (he:e=.normal∨e=.ret) (hr:jcj s' res=some (v,h')):FnR (.mk T X) f vs h v h':=by
 obtain⟨n,h1⟩:=h1
 refine⟨n,?_⟩
 show Option.rec (motive:=fun _=>R) _ (fun r=>some r) (X f vs h)=_
 rw[hx]
 refine jaa.2 ⟨_,hT,?_⟩
 refine jae.2 ⟨by rw[jiu];exact hl,jaa.2 ⟨_,h1,?_⟩⟩
 rcases he with rfl | rfl<;>exact hr
end
open Go Go.RowKit
variable {u u':AV} {k t agg ex':Bool} {rows:List (List SV)} {js:List Nat} {z xs row:List SV} {d e g i j n o b' id lo o' mc' sz' bytes:Nat} {y:SV}
def W (F:Fns) (c:IC) (s:St) (Q:Ex->St->Prop):Prop:=∃ n e s',run F n c s=some (e,s')/\Q e s'
def WO (F:Fns) (l:List IOper) (st fr:List AV) (h:Hp) (Q:Ex->St->Prop):Prop:=∃ n s',jz5 (jbv F (run F n)) l st fr h=some s'/\Q .normal s'
def WD (F:Fns) (l:List (IOper×Option (List Nat))) (st:List AV) (es:List Ent) (fr:List AV) (h:Hp) (Q:Ex->St->Prop):Prop:=∃ n s',jx4 (jbv F (run F n)) l st es fr h=some s'/\Q .normal s'
def WC (F:Fns) (f:FuncId) (vs:List AV) (h:Hp) (Q:AV->Hp->Prop):Prop:=∃ n v h',jn2 F n f vs h=some (v,h')/\Q v h'
def j4r (F:Fns) (b:IC) (Q:Ex->St->Prop) (e:Ex) (s:St):Prop:=Ex.casesOn e (W F b s Q) (fun k=>Q (.exit k) s) (Q .ret s)
def qdv (id:Nat) (Q:Ex->St->Prop) (e:Ex) (s:St):Prop:=Ex.casesOn e (Q .normal s) (fun k=>if k=id then Q .normal s else Q (.exit k) s) (Q .ret s)
def j4s (F:Fns) (b:IC) (Q:Ex->St->Prop) (e:Ex) (s:St):Prop:=Ex.casesOn e (W F (.loop b) s Q) (fun k=>Q (.exit k) s) (Q .ret s)
def obP {α:Type} (x:Option α) (f:α->Prop):Prop:=∃ a,x=some a/\f a
def qvs (v:Option AV) (X Y:Prop):Prop:=∃ b,v=some (.s (.bool b))/\(if b=true then X else Y)
section
variable {F:Fns} {s:St} {st fr:List AV} {h:Hp} {Q:Ex->St->Prop} {α:Type}
theorem jfz {b:IC}:j4r F b Q .normal s=W F b s Q:=rfl
theorem j4t {b:IC} {k:Nat}:j4r F b Q (.exit k) s=Q (.exit k) s:=rfl
theorem j7j {b:IC}:j4r F b Q .ret s=Q .ret s:=rfl
theorem jdj:qdv id Q .normal s=Q .normal s:=rfl
theorem j7k {k:Nat}:qdv id Q (.exit k) s=if k=id then Q .normal s else Q (.exit k) s:=rfl
theorem qdw:qdv id Q .ret s=Q .ret s:=rfl
theorem jvs {b:IC}:j4s F b Q .normal s=W F (.loop b) s Q:=rfl
theorem j4u {b:IC} {k:Nat}:j4s F b Q (.exit k) s=Q (.exit k) s:=rfl
theorem j7l {b:IC}:j4s F b Q .ret s=Q .ret s:=rfl
theorem jcy {a:α} {f:α->Prop}:obP (some a) f=f a:=propext ⟨fun⟨b,e,h⟩=>by grind,fun h=>⟨a,rfl,h⟩⟩
theorem j7m {b:Bool} {X Y:Prop}:qvs (some (.s (.bool b))) X Y=if b=true then X else Y:=propext ⟨fun⟨c,e,h⟩=>by grind,fun h=>⟨b,rfl,h⟩⟩
theorem j0o {c:IC} {m:Nat} {e:Ex} {s':St} (hn:n<=m) (h:run F n c s=some (e,s')):run F m c s=some (e,s'):=jd0 F hn _ _ _ h
theorem W.imp {c:IC} {Q':Ex->St->Prop} (h:W F c s Q) (hq:∀ e s,Q e s->Q' e s):W F c s Q':=let ⟨n,e,s',h1,h2⟩:=h;⟨n,e,s',h1,hq _ _ h2⟩
theorem WC.imp {f:FuncId} {vs:List AV} {Q Q':AV->Hp->Prop} (k:WC F f vs h Q) (hq:∀ v h,Q v h->Q' v h):WC F f vs h Q':=let ⟨n,e,s',h1,h2⟩:=k;⟨n,e,s',h1,hq _ _ h2⟩
theorem qhr:W F .skip s Q=Q .normal s:=propext ⟨fun⟨n,e,s',h1,h2⟩=>by cases n with
 | zero=>trivial
 | succ n=>cases h1;omega,fun h=>⟨1,_,_,rfl,h⟩⟩
theorem qvt:W F .ret s Q=Q .ret s:=propext ⟨fun⟨n,e,s',h1,h2⟩=>by cases n with
 | zero=>trivial
 | succ n=>cases h1;omega,fun h=>⟨1,_,_,rfl,h⟩⟩
theorem qra:W F (.exit id) s Q=Q (.exit id) s:=propext ⟨fun⟨n,e,s',h1,h2⟩=>by cases n with
 | zero=>trivial
 | succ n=>cases h1;omega,fun h=>⟨1,_,_,rfl,h⟩⟩
theorem j4v {a b:IC}:W F (.seq a b) s Q=W F a s (j4r F b Q):=by
 refine propext ⟨fun⟨n,e,s',h1,h2⟩=>?_,fun⟨n,e,s',h1,h2⟩=>?_⟩
 .cases n with
  | zero=>trivial
  | succ n =>
   obtain⟨p,h3,h4⟩:=jaa.1 (show ob (run F n a s) (fun p=>Ex.casesOn  p.1 (run F n b p.2) (fun _=>some p) (some p))=some (e,s') from h1)
   obtain⟨e1,s1⟩:=p
   refine⟨n,e1,s1,h3,?_⟩
   cases e1 with
   | normal=>exact⟨n,e,s',h4,h2⟩
   | exit k=>cases h4;trivial
   | ret=>cases h4;trivial
 .cases e with
  | normal =>
   obtain⟨m,e2,s2,h3,h4⟩:=h2
   exact⟨max n m+1,e2,s2,jaa.2 ⟨_,j0o (f1t n m) h1,j0o (f1o n m) h3⟩,h4⟩
  | exit k=>exact⟨n+1,_,_,jaa.2 ⟨_,h1,rfl⟩,h2⟩
  | ret=>exact⟨n+1,_,_,jaa.2 ⟨_,h1,rfl⟩,h2⟩
theorem jai {b:IC}:W F (.loop b) s Q=W F b s (j4s F b Q):=by
 refine propext ⟨fun⟨n,e,s',h1,h2⟩=>?_,fun⟨n,e,s',h1,h2⟩=>?_⟩
 .cases n with
  | zero=>trivial
  | succ n =>
   obtain⟨p,h3,h4⟩:=jaa.1 (show ob (run F n b s) (fun p=>Ex.casesOn  p.1 (run F n (.loop b) p.2) (fun _=>some p) (some p))=some (e,s') from h1)
   obtain⟨e1,s1⟩:=p
   refine⟨n,e1,s1,h3,?_⟩
   cases e1 with
   | normal=>exact⟨n,e,s',h4,h2⟩
   | exit k=>cases h4;trivial
   | ret=>cases h4;trivial
 .cases e with
  | normal =>
   obtain⟨m,e2,s2,h3,h4⟩:=h2
   exact⟨max n m+1,e2,s2,jaa.2 ⟨_,j0o (f1t n m) h1,j0o (f1o n m) h3⟩,h4⟩
  | exit k=>exact⟨n+1,_,_,jaa.2 ⟨_,h1,rfl⟩,h2⟩
  | ret=>exact⟨n+1,_,_,jaa.2 ⟨_,h1,rfl⟩,h2⟩
theorem jyn {b:IC}:W F (.block id b) s Q=W F b s (qdv id Q):=by
 have key:∀ k (s1:St),oif (Nat.beq k id) (some (Ex.normal,s1)) (some (.exit k,s1))=if k=id then some (.normal,s1) else some (.exit k,s1):=fun k s1=>by
  simp[jat,jiu]
 refine propext ⟨fun⟨n,e,s',h1,h2⟩=>?_,fun⟨n,e,s',h1,h2⟩=>?_⟩
 .cases n with
  | zero=>trivial
  | succ n =>
   obtain⟨p,h3,h4⟩:=jaa.1 (show ob (run F n b s) (fun p=>Ex.casesOn (motive:=fun _=>Option (Ex×St)) p.1 (some p) (fun k=>oif (Nat.beq k id) (some (.normal,p.2)) (some p)) (some p))=some (e,s') from h1)
   obtain⟨e1,s1⟩:=p
   refine⟨n,e1,s1,h3,?_⟩
   cases e1 with
   | normal=>cases h4;trivial
   | exit k =>
    have h5:oif (Nat.beq k id) (some (Ex.normal,s1)) (some (.exit k,s1))=some (e,s'):=h4
    rw[key] at h5
    show if k=id then Q .normal s1 else Q (.exit k) s1
    grind
   | ret=>cases h4;trivial
 .cases e with
  | normal=>exact⟨n+1,_,_,jaa.2 ⟨_,h1,rfl⟩,h2⟩
  | exit k =>
   have h3:if k=id then Q .normal s' else Q (.exit k) s':=h2
   split at h3
   .rename_i hk
    exact⟨n+1,_,_,jaa.2 ⟨_,h1,(key k s').trans (if_pos hk)⟩,h3⟩
   .rename_i hk
    exact⟨n+1,_,_,jaa.2 ⟨_,h1,(key k s').trans (if_neg hk)⟩,h3⟩
  | ret=>exact⟨n+1,_,_,jaa.2 ⟨_,h1,rfl⟩,h2⟩
theorem qrb {c:Od} {x y:IC}:W F (.cond c x y) (.mk fr h) Q=qvs (ev [] fr c) (W F x (.mk fr h) Q) (W F y (.mk fr h) Q):=by
 refine propext ⟨fun⟨n,e,s',h1,h2⟩=>?_,fun⟨b,hb,h2⟩=>?_⟩
 .cases n with
  | zero=>trivial
  | succ n =>
   obtain⟨v,h3,h4⟩:=jaa.1 (show ob (ev [] fr c) (fun v=>jgt v fun t=>run F n (oif t x y) (.mk fr h))=some (e,s') from h1)
   obtain⟨t,rfl,h5⟩:=jda h4
   refine⟨t,h3,?_⟩
   cases t with
   | true=>exact⟨n,e,s',h5,h2⟩
   | false=>exact⟨n,e,s',h5,h2⟩
 .cases b with
  | true =>
   obtain⟨n,e,s',h3,h4⟩:=show W F x (.mk fr h) Q from h2
   exact⟨n+1,e,s',jaa.2 ⟨_,hb,h3⟩,h4⟩
  | false =>
   obtain⟨n,e,s',h3,h4⟩:=show W F y (.mk fr h) Q from h2
   exact⟨n+1,e,s',jaa.2 ⟨_,hb,h3⟩,h4⟩
theorem jsm {ops:List IOper}:W F (.region ops) (.mk fr h) Q=WO F ops [] fr h Q:=by
 refine propext ⟨fun⟨n,e,s',h1,h2⟩=>?_,fun⟨n,s',h1,h2⟩=>⟨n+1,.normal,s',jaa.2 ⟨_,h1,rfl⟩,h2⟩⟩
 cases n with
 | zero=>trivial
 | succ n =>
  obtain⟨s1,h3,h4⟩:=jaa.1 (show ob (jz5 (jbv F (run F n)) ops [] fr h) (fun s=>some (Ex.normal,s))=some (e,s') from h1)
  cases h4
  exact⟨n,_,h3,h2⟩
theorem qrc {ops:List (IOper×Option (List Nat))}:W F (.draw ops) (.mk fr h) Q=WD F ops [] [] fr h Q:=by
 refine propext ⟨fun⟨n,e,s',h1,h2⟩=>?_,fun⟨n,s',h1,h2⟩=>⟨n+1,.normal,s',jaa.2 ⟨_,h1,rfl⟩,h2⟩⟩
 cases n with
 | zero=>trivial
 | succ n =>
  obtain⟨s1,h3,h4⟩:=jaa.1 (show ob (jx4 (jbv F (run F n)) ops [] [] fr h) (fun s=>some (Ex.normal,s))=some (e,s') from h1)
  cases h4
  exact⟨n,_,h3,h2⟩
theorem j7n:WO F [] st fr h Q=Q .normal (.mk fr h):=propext ⟨fun⟨n,s',h1,h2⟩=>by cases h1;omega,fun h=>⟨0,_,rfl,h⟩⟩
theorem jo4 {dst:Option Nat} {op:IOp} {g:Option (Nat×Bool)} {l:List IOper}:WO F (.mk dst op g::l) st fr h Q=∃ n v h',qdd (jbv F (run F n)) st fr h op g=some (v,h')/\WO F l (v::st) (jc0 fr dst v) h' Q:=by
 refine propext ⟨fun⟨n,s',h1,h2⟩=>?_,fun⟨n,v,h',h1,m,s',h2,h3⟩=>?_⟩
 .obtain ⟨p,h3,h4⟩:=jaa.1 (show ob (qdd (jbv F (run F n)) st fr h op g) (fun p=>jz5 (jbv F (run F n)) l (p.1::st) (jc0 fr dst p.1) p.2)=some s' from h1)
  exact⟨n,p.1,p.2,h3,n,s',h4,h2⟩
 .exact ⟨max n m,s',jaa.2 ⟨(v,h'),jvp (jcs (jd0 F (f1t n m))) h1,jo2 (jcs (jd0 F (f1o n m))) h2⟩,h3⟩
theorem qrd {dst:Option Nat} {op:IOp} {l:List IOper} {x:R} (hx:∀ cl,iop cl st fr h op=x):WO F (.mk dst op none::l) st fr h Q=obP x (fun p=>WO F l (p.1::st) (jc0 fr dst p.1) p.2 Q):=by
 rw[jo4]
 refine propext ⟨fun⟨n,v,h',h1,h2⟩=>⟨(v,h'),?_,h2⟩,fun⟨p,h1,h2⟩=>⟨0,p.1,p.2,?_,h2⟩⟩
 .rw [←hx (jbv F (run F n))];trivial
 .rw [←hx (jbv F (run F 0))] at h1;trivial
theorem qk5 {dst:Option Nat} {o:PO} {l:List IOper}:WO F (.mk dst (.p o) none::l) st fr h Q=obP (pop st fr o) (fun v=>WO F l (v::st) (jc0 fr dst v) h Q):=by
 rw[qrd  fun _=>rfl]
 refine propext ⟨fun⟨p,h1,h2⟩=>?_,fun⟨v,h1,h2⟩=>⟨(v,h),jaa.2 ⟨v,h1,rfl⟩,h2⟩⟩
 obtain⟨v,h3,h4⟩:=jaa.1 h1
 cases h4
 exact⟨v,h3,h2⟩
def AO.calls:AO->Bool
 | .call _ _=>true
 | .callv _ _=>true
 | _=>false
def jd8 (st fr:List AV) (h:Hp) (o:AO):R:=aop (fun _ _ _=>none) st fr h o
theorem ji6 {cl:FuncId->List AV->Hp->R} {o:AO} (ho:o.calls=false):aop cl st fr h o=jd8 st fr h o:=by
 cases o<;>first | rfl | trivial
theorem jg6 {dst:Option Nat} {o:AO} {l:List IOper} (ho:o.calls=false):WO F (.mk dst (.a o) none::l) st fr h Q=obP (jd8 st fr h o) (fun p=>WO F l (p.1::st) (jc0 fr dst p.1) p.2 Q) :=
 qrd fun _=>ji6 ho
theorem qk6 {dst:Option Nat} {f:FuncId} {as:List Od} {l:List IOper}:WO F (.mk dst (.a (.call f as)) none::l) st fr h Q=obP (evs st fr as) (fun vs=>WC F f vs h (fun v h'=>WO F l (v::st) (jc0 fr dst v) h' Q)):=by
 rw[jo4]
 refine propext ⟨fun⟨n,v,h',h1,h2⟩=>?_,fun⟨vs,h1,n,v,h',h2,h3⟩=>⟨n,v,h',jaa.2 ⟨true,rfl,jaa.2 ⟨vs,h1,h2⟩⟩,h3⟩⟩
 have h1':ob (evs st fr as) (fun vs=>jbv F (run F n) f vs h)=some (v,h'):=h1
 obtain⟨vs,h4,h5⟩:=jaa.1 h1'
 exact⟨vs,h4,n,v,h',h5,h2⟩
theorem qdx {dst:Option Nat} {x:Od} {as:List Od} {l:List IOper}:WO F (.mk dst (.a (.callv x as)) none::l) st fr h Q=∃ f caps,ev st fr x=some (.s (.func f caps))/\obP (evs st fr as) (fun vs=>WC F f (vs++jg5 caps) h (fun v h'=>WO F l (v::st) (jc0 fr dst v) h' Q)):=by
 rw[jo4]
 refine propext ⟨fun⟨n,v,h',h1,h2⟩=>?_,fun⟨f,caps,hx,vs,h1,n,v,h',h2,h3⟩=>⟨n,v,h',jaa.2 ⟨true,rfl,jaa.2 ⟨_,hx,?_⟩⟩,h3⟩⟩
 .have h1':ob (ev st fr x) (fun v=>j3x v fun f caps=>ob (evs st fr as) fun vs=>jbv F (run F n) f (jf8 vs (jg5 caps)) h)=some (v,h'):=h1
  obtain⟨w,hw,h4⟩:=jaa.1 h1'
  obtain⟨f,caps,rfl,h5⟩:=jh3 h4
  obtain⟨vs,h6,h7⟩:=jaa.1 h5
  rw[jcv] at h7
  exact⟨f,caps,hw,vs,h6,n,v,h',h7,h2⟩
 .refine jaa.2 ⟨vs,h1,?_⟩
  rw[jcv]
  trivial
def gP (v:Option AV) (t:Bool) (X Y:Prop):Prop:=∃ x,v=some x/\((∃ b,x=.s (.bool b)/\if b=t then X else Y)∨(x=.undef/\Y))
theorem j7o {b:Bool} {X Y:Prop}:gP (some (.s (.bool b))) t X Y=if b=t then X else Y:=propext ⟨fun⟨x,e,h⟩=>by
 grind,fun h=>⟨_,rfl,.inl ⟨b,rfl,h⟩⟩⟩
theorem j0p {X Y:Prop}:gP (some .undef) t X Y=Y:=propext ⟨fun⟨x,e,h⟩=>by
 grind,fun h=>⟨_,rfl,.inr ⟨rfl,h⟩⟩⟩
theorem jej {b:Bool}:j6f st (some (i,t))=some b↔∃ x,je6 st i=some x/\((∃ c,x=.s (.bool c)/\b=decide (c=t))∨(x=.undef/\b=false)):=by
 have e:j6f st (some (i,t))=ob (je6 st i) (fun v=>svc (some false) v (fun s=>jqi s (fun b=>some (oif t b (jis b))))):=rfl
 rw[e]
 constructor
 .intro h1
  obtain⟨x,hx,h2⟩:=jaa.1 h1
  refine⟨x,hx,?_⟩
  cases x with
  | s x =>
   cases x with
   | bool c=>left;exact⟨c,rfl,by cases c<;>cases t<;>exact(Option.some.inj h2).symm⟩
   | _=>cases h2
  | undef=>right;exact⟨rfl,(Option.some.inj h2).symm⟩
  | _=>cases h2
 .rintro ⟨x,hx,h1⟩
  refine jaa.2 ⟨x,hx,?_⟩
  rcases h1 with⟨c,rfl,rfl⟩ | ⟨rfl,rfl⟩
  .cases c<;>cases t<;>rfl
  .rfl
theorem qdy {dst:Option Nat} {op:IOp} {l:List IOper}:WO F (.mk dst op (some (i,t))::l) st fr h Q=gP (je6 st i) t (WO F (.mk dst op none::l) st fr h Q) (WO F l (.undef::st) (jc0 fr dst .undef) h Q):=by
 rw[jo4,jo4]
 refine propext ⟨fun⟨n,v,h',h1,h2⟩=>?_,fun⟨x,hx,h1⟩=>?_⟩
 .obtain ⟨b,hb,h3⟩:=jaa.1 (show ob (j6f st (some (i,t))) (fun b=>Bool.rec (motive:=fun _=>R) (ok .undef h) (iop (jbv F (run F n)) st fr h op) b)=some (v,h') from h1)
  obtain⟨x,hx,h4⟩:=jej.1 hb
  refine⟨x,hx,?_⟩
  rcases h4 with⟨c,rfl,rfl⟩ | ⟨h4,rfl⟩
  .left
   refine⟨c,rfl,?_⟩
   split
   .rename_i hc;rw[hc,decide_eq_true rfl] at h3;exact⟨n,v,h',jaa.2 ⟨true,rfl,h3⟩,h2⟩
   .rename_i hc;rw[decide_eq_false hc] at h3;cases h3;omega
  .right;cases h3;exact⟨h4,h2⟩
 .rcases h1 with⟨c,rfl,h1⟩ | ⟨h1,h2⟩
  .split at h1
   .rename_i hc
    obtain⟨n,v,h',h3,h4⟩:=h1
    refine⟨n,v,h',jaa.2 ⟨true,jej.2 ⟨_,hx,.inl ⟨c,rfl,(decide_eq_true hc).symm⟩⟩,?_⟩,h4⟩
    obtain⟨b,hb,h5⟩:=jaa.1 h3
    cases hb
    exact h5
   .rename_i hc
    exact⟨0,.undef,h,jaa.2 ⟨false,jej.2 ⟨_,hx,.inl ⟨c,rfl,(decide_eq_false hc).symm⟩⟩,rfl⟩,h1⟩
  .exact ⟨0,.undef,h,jaa.2 ⟨false,jej.2 ⟨_,hx,.inr ⟨h1,rfl⟩⟩,rfl⟩,h2⟩
theorem qre {es:List Ent}:WD F [] st es fr h Q=Q .normal (.mk fr h):=propext ⟨fun⟨n,s',h1,h2⟩=>by cases h1;omega,fun h=>⟨0,_,rfl,h⟩⟩
theorem jo5 {es:List Ent} {dst:Option Nat} {op:IOp} {g:Option (Nat×Bool)} {m:Option (List Nat)} {l:List (IOper×Option (List Nat))}:WD F ((.mk dst op g,m)::l) st es fr h Q=∃ n v h' e,jxw (jbv F (run F n)) st fr es h op g m=some (.mk v h' e)/\WD F l (v::st) (e::es) (jc0 fr dst v) h' Q:=by
 refine propext ⟨fun⟨n,s',h1,h2⟩=>?_,fun⟨n,v,h',e,h1,k,s',h2,h3⟩=>?_⟩
 .obtain ⟨p,h3,h4⟩:=jaa.1 (show ob (jxw (jbv F (run F n)) st fr es h op g m) (fun p=>DR.casesOn  p fun v h' e=>jx4 (jbv F (run F n)) l (v::st) (e::es) (jc0 fr dst v) h')=some s' from h1)
  obtain⟨v,h',e⟩:=p
  exact⟨n,v,h',e,h3,n,s',h4,h2⟩
 .exact ⟨max n k,s',jaa.2 ⟨.mk v h' e,jvq (jcs (jd0 F (f1t n k))) h1,jo3 (jcs (jd0 F (f1o n k))) h2⟩,h3⟩
theorem jyo {es:List Ent} {dst:Option Nat} {op:IOp} {m:Option (List Nat)} {l:List (IOper×Option (List Nat))} {x:Option DR} (hx:∀ cl,jxw cl st fr es h op none m=x):WD F ((.mk dst op none,m)::l) st es fr h Q=obP x (fun p=>DR.casesOn (motive:=fun _=>Prop) p (fun v h' e=>WD F l (v::st) (e::es) (jc0 fr dst v) h' Q)):=by
 rw[jo5]
 refine propext ⟨fun⟨n,v,h',e,h1,h2⟩=>⟨.mk v h' e,?_,h2⟩,fun⟨p,h1,h2⟩=>?_⟩
 .grind
 .obtain ⟨v,h',e⟩:=p
  exact⟨0,v,h',e,by grind,h2⟩
theorem qk7 {es:List Ent} {dst:Option Nat} {o:PO} {l:List (IOper×Option (List Nat))}:WD F ((.mk dst (.p o) none,none)::l) st es fr h Q=obP (pop st fr o) (fun v=>WD F l (v::st) (.mk [] (some [])::es) (jc0 fr dst v) h Q):=by
 rw[jyo  fun cl=>?_]
 .refine propext ⟨fun⟨p,h1,h2⟩=>?_,fun⟨v,h1,h2⟩=>⟨.mk v h (.mk [] (some [])),jaa.2 ⟨v,h1,rfl⟩,h2⟩⟩
  obtain⟨v,h3,h4⟩:=jaa.1 h1
  cases h4
  exact⟨v,h3,h2⟩
 .show ob (ob (pop st fr o) fun v=>ok v h) (fun p=>some (DR.mk p.1 p.2 (.mk [] (some []))))=_
  cases pop st fr o<;>rfl
theorem jix {es:List Ent} {dst:Option Nat} {o:AO} {l:List (IOper×Option (List Nat))} (ho:o.calls=false):WD F ((.mk dst (.a o) none,none)::l) st es fr h Q=obP (jd8 st fr h o) (fun p=>WD F l (p.1::st) (.mk [] (some [])::es) (jc0 fr dst p.1) p.2 Q):=by
 rw[jyo  fun cl=>?_]
 .refine propext ⟨fun⟨p,h1,h2⟩=>?_,fun⟨p,h1,h2⟩=>⟨.mk p.1 p.2 (.mk [] (some [])),jaa.2 ⟨p,h1,rfl⟩,h2⟩⟩
  obtain⟨q,h3,h4⟩:=jaa.1 h1
  cases h4
  exact⟨q,h3,h2⟩
 .show ob (aop cl st fr h o) (fun p=>some (DR.mk p.1 p.2 (.mk [] (some []))))=_
  rw[ji6 ho]
theorem qk8 {es:List Ent} {dst:Option Nat} {f:FuncId} {as:List Od} {l:List (IOper×Option (List Nat))}:WD F ((.mk dst (.a (.call f as)) none,none)::l) st es fr h Q=obP (evs st fr as) (fun vs=>WC F f vs h (fun v h'=>WD F l (v::st) (.mk [] (some [])::es) (jc0 fr dst v) h' Q)):=by
 rw[jo5]
 refine propext ⟨fun⟨n,v,h',e,h1,h2⟩=>?_,fun⟨vs,h1,n,v,h',h2,h3⟩=>⟨n,v,h',.mk [] (some []),jaa.2 ⟨true,rfl,jaa.2 ⟨(v,h'),jaa.2 ⟨vs,h1,h2⟩,rfl⟩⟩,h3⟩⟩
 have h1':ob (ob (evs st fr as) fun vs=>jbv F (run F n) f vs h) (fun p=>some (DR.mk p.1 p.2 (.mk [] (some []))))=some (.mk v h' e):=h1
 obtain⟨p,h4,h5⟩:=jaa.1 h1'
 obtain⟨vs,h6,h7⟩:=jaa.1 h4
 cases h5
 exact⟨vs,h6,n,p.1,p.2,h7,h2⟩
theorem jvt {es:List Ent} {dst:Option Nat} {o:PO} {l:List (IOper×Option (List Nat))}:WD F ((.mk dst (.p o) none,some js)::l) st es fr h Q=obP (sel es js h.hid) (fun _=>obP (pop st fr o) (fun v=>WD F l (v::st) (.mk [(h.next,h.next)] (some [])::es) (jc0 fr dst v) h Q)):=by
 cases h with
 | mk n t lo hid =>
 rw[jyo  fun cl=>?_]
 .refine propext ⟨fun⟨p,h1,h2⟩=>?_,fun⟨hid',h0,v,h1,h2⟩=>⟨.mk v (.mk n t lo hid) (.mk [(n,n)] (some [])),jaa.2 ⟨hid',h0,jaa.2 ⟨v,h1,rfl⟩⟩,h2⟩⟩
  obtain⟨hid',h3,h4⟩:=jaa.1 h1
  obtain⟨v,h5,h6⟩:=jaa.1 h4
  cases h6
  exact⟨hid',h3,v,h5,h2⟩
 .show ob (sel es js hid) (fun hid'=>ob (ob (pop st fr o) fun v=>ok v (.mk n t n hid')) fun p=>Hp.casesOn (motive:=fun _=>Option DR) p.2 fun n' t' _ _=>some (.mk p.1 (.mk n' t' lo hid) (.mk [(n,n')] (some []))))=_
  cases pop st fr o<;>rfl
theorem qdz {es:List Ent} {dst:Option Nat} {op:IOp} {m:Option (List Nat)} {l:List (IOper×Option (List Nat))}:WD F ((.mk dst op (some (i,t)),m)::l) st es fr h Q=gP (je6 st i) t (WD F ((.mk dst op none,m)::l) st es fr h Q) (WD F l (.undef::st) (.mk [] (some [])::es) (jc0 fr dst .undef) h Q):=by
 rw[jo5,jo5]
 have go:∀ n g v h' e,jxw (jbv F (run F n)) st fr es h op g m=some (.mk v h' e)↔∃ b,j6f st g=some b/\((b=false/\v=.undef/\h'=h/\e=.mk [] (some []))∨(b=true/\jxw (jbv F (run F n)) st fr es h op none m=some (.mk v h' e))):=fun n g v h' e=>by
  constructor
  .intro h1
   obtain⟨b,hb,h3⟩:=jaa.1 h1
   refine⟨b,hb,?_⟩
   cases b with
   | false=>grind
   | true=>exact .inr ⟨rfl,jaa.2 ⟨true,rfl,h3⟩⟩
  .rintro ⟨b,hb,⟨rfl,rfl,rfl,rfl⟩ | ⟨rfl,h1⟩⟩
   .exact jaa.2 ⟨false,hb,rfl⟩
   .obtain ⟨c,hc,h2⟩:=jaa.1 h1
    cases hc
    exact jaa.2 ⟨true,hb,h2⟩
 refine propext ⟨fun⟨n,v,h',e,h1,h2⟩=>?_,fun⟨x,hx,h1⟩=>?_⟩
 .obtain ⟨b,hb,h3⟩:=(go n _ v h' e).1 h1
  obtain⟨x,hx,h4⟩:=jej.1 hb
  refine⟨x,hx,?_⟩
  rcases h4 with⟨c,rfl,rfl⟩ | ⟨h4,rfl⟩
  .left
   refine⟨c,rfl,?_⟩
   split
   .rename_i hc
    rcases h3 with⟨h3,_⟩ | ⟨_,h3⟩
    .rw [decide_eq_true hc] at h3;cases h3
    .exact ⟨n,v,h',e,h3,h2⟩
   .rename_i hc
    rcases h3 with⟨_,rfl,rfl,rfl⟩ | ⟨h3,_⟩
    .exact h2
    .rw [decide_eq_false hc] at h3;cases h3
  .right
   rcases h3 with⟨_,rfl,rfl,rfl⟩ | ⟨h3,_⟩
   .exact ⟨h4,h2⟩
   .cases h3
 .rcases h1 with⟨c,rfl,h1⟩ | ⟨h1,h2⟩
  .split at h1
   .rename_i hc
    obtain⟨n,v,h',e,h3,h4⟩:=h1
    exact⟨n,v,h',e,(go n _ v h' e).2 ⟨true,jej.2 ⟨_,hx,.inl ⟨c,rfl,(decide_eq_true hc).symm⟩⟩,.inr ⟨rfl,h3⟩⟩,h4⟩
   .rename_i hc
    exact⟨0,.undef,h,_,(go 0 _ _ _ _).2 ⟨false,jej.2 ⟨_,hx,.inl ⟨c,rfl,(decide_eq_false hc).symm⟩⟩,.inl ⟨rfl,rfl,rfl,rfl⟩⟩,h1⟩
  .exact ⟨0,.undef,h,_,(go 0 _ _ _ _).2 ⟨false,jej.2 ⟨_,hx,.inr ⟨h1,rfl⟩⟩,.inl ⟨rfl,rfl,rfl,rfl⟩⟩,h2⟩
end
def jqh (res:List IR) (Q:AV->Hp->Prop) (e:Ex) (s:St):Prop:=Ex.casesOn e (obP (jcj s res) (fun p=>Q p.1 p.2)) (fun _=>False) (obP (jcj s res) (fun p=>Q p.1 p.2))
section
variable {F:Fns} {h:Hp} {vs:List AV} {f:FuncId} {Q:AV->Hp->Prop}
theorem jaz {body:IC} {nargs nslots:Nat} {res:List IR} (hx:jc1 F f vs h=none) (hT:j4i F f=some (.mk body nargs nslots res)) (hl:vs.length=nargs)
 (h1:W F body (.mk (vs++jdq nslots) h) (jqh res Q)):WC F f vs h Q:=by
 obtain⟨n,e,s',h2,h3⟩:=h1
 cases F with
 | mk T X =>
 have hx' :=hx
 rw[←jcv] at h2
 cases e with
 | normal =>
  obtain⟨p,h4,h5⟩:=show obP (jcj s' res) (fun p=>Q p.1 p.2) from h3
  obtain⟨m,hm⟩:=qhq   hx' hT (by grind[jba]) ⟨n,h2⟩ (.inl rfl) h4
  exact⟨m,p.1,p.2,hm,h5⟩
 | exit k=>trivial
 | ret =>
  obtain⟨p,h4,h5⟩:=show obP (jcj s' res) fun p=>Q p.1 p.2 from h3
  obtain⟨m,hm⟩:=qhq   hx' hT (by simp_all[jba]) ⟨n,h2⟩ (.inr rfl) h4
  exact⟨m,p.1,p.2,hm,h5⟩
theorem qhs {h':Hp} (hx:jc1 F f vs h=some (u,h')) (hq:Q u h'):WC F f vs h Q:=by
 cases F with
 | mk T X =>
 have hx':X f vs h=some (u,h'):=hx
 refine⟨0,u,h',?_,hq⟩
 show Option.rec (motive:=fun _=>R) _ (fun r=>some r) (X f vs h)=_
 rw[hx']
end
theorem jj7 {f g:SV->Option SV} (hf:∀ x y,f x=some y->g x=some y):∀ {l r:List SV},jgb f l=some r->jgb g l=some r
 | [],r,h=>h
 | a::l,r,h=>by
  obtain⟨x,h1,h2⟩:=jaa.1 (show ob (f a) (fun x=>ob (jgb f l) fun r=>some (x::r))=some r from h)
  obtain⟨r',h3,h4⟩:=jaa.1 h2
  exact jaa.2 ⟨x,hf _ _ h1,jaa.2 ⟨r',jj7 hf h3,h4⟩⟩
theorem jrh {h:Hp}:∀ (d:Nat) (x y:SV),jfl k h d x=some y->jfl k h (d+1) x=some y
 | 0,x,y,hx=>by trivial
 | d+1,x,y,hx=>by
  cases x with
  | slice b off len mc ex sz =>
   cases len with
   | zero=>trivial
   | succ len =>
    obtain⟨cs,h1,h2⟩:=jaa.1 (show ob (rd h b off (Nat.mul (len+1) sz)) (fun cs=>ob (jgb (jfl k h d) cs) (fun cs=>ob (jox sz (len+1) cs) fun rows=>some (.lst rows)))=some y from hx)
    obtain⟨cs',h3,h4⟩:=jaa.1 h2
    exact jaa.2 ⟨cs,h1,jaa.2 ⟨cs',jj7 (jrh d) h3,h4⟩⟩
  | _=>trivial
theorem jo6 {h:Hp} (hd:d<=e) {x:SV} (hx:jfl k h d x=some y):jfl k h e x=some y:=by
 induction e with
 | zero=>grind
 | succ e ih =>
  grind[f0n,jrh]
theorem jvu {f g:SV->Option SV} (hf:∀ x y,f x=some y->g x=some y):∀ {l r:List (Bool×List SV)},qc6 f l=some r->qc6 g l=some r
 | [],r,h=>h
 | p::l,r,h=>by
  obtain⟨x,h1,h2⟩:=jaa.1 (show ob (jgb f p.2) (fun x=>ob (qc6 f l) fun r=>some ((p.1,x)::r))=some r from h)
  obtain⟨r',h3,h4⟩:=jaa.1 h2
  exact jaa.2 ⟨x,jj7 hf h1,jaa.2 ⟨r',jvu hf h3,h4⟩⟩
theorem jo7 {h:Hp} (hd:d<=e) {x y:AV} (hx:jf9 k h d x=some y):jf9 k h e x=some y:=by
 cases x with
 | s x =>
  obtain⟨y',h1,h2⟩:=jaa.1 (show ob (jfl k h d x) (fun y=>some (AV.s y))=some y from hx)
  exact jaa.2 ⟨y',jo6 hd h1,h2⟩
 | agg l =>
  obtain⟨y',h1,h2⟩:=jaa.1 (show ob (jgb (jfl k h d) l) (fun y=>some (AV.agg y))=some y from hx)
  exact jaa.2 ⟨y',jj7 (fun _ _=>jo6 hd) h1,h2⟩
 | tup l =>
  obtain⟨y',h1,h2⟩:=jaa.1 (show ob (qc6 (jfl k h d) l) (fun y=>some (AV.tup y))=some y from hx)
  exact jaa.2 ⟨y',jvu (fun _ _=>jo6 hd) h1,h2⟩
 | _=>trivial
theorem jlw {h:Hp} (hd:d<=e):∀ {l r:List AV},jqm k h d l=some r->jqm k h e l=some r
 | [],r,h=>h
 | a::l,r,hr=>by
  obtain⟨x,h1,h2⟩:=jaa.1 (show ob (jf9 k h d a) (fun x=>ob (jqm k h d l) fun r=>some (x::r))=some r from hr)
  obtain⟨r',h3,h4⟩:=jaa.1 h2
  exact jaa.2 ⟨x,jo7 hd h1,jaa.2 ⟨r',jlw hd h3,h4⟩⟩
def ji7 (k:Bool) (F:Fns) (f:FuncId) (vs:List AV) (u:AV):Prop:=WC F f vs h0 (fun v hi=>∃ d,jf9 k hi d v=some u)
theorem ji7.one {F:Fns} {f:FuncId} {vs:List AV} (h:ji7 k F f vs u) (h':ji7 k F f vs u'):u=u':=by
 obtain⟨n,v,hi,h1,d,h2⟩:=h
 obtain⟨m,v',hi',h3,d',h4⟩:=h'
 have e1:jn2 F (max n m) f vs h0=some (v,hi):=jcs (jd0 F (f1t n m)) _ _ _ _ h1
 have e2:jn2 F (max n m) f vs h0=some (v',hi'):=jcs (jd0 F (f1o n m)) _ _ _ _ h3
 rw[e1] at e2
 have e3:=jo7 (f1t d d') h2
 grind[jo7,f1o,Option.some.inj]
def qk9 (F:Fns) (f:FuncId) (vs:List AV) (h:Hp) (u:AV):Prop:=∃ us d,jqm true h d vs=some us/\ji7 false F f us u
theorem qk9.one {F:Fns} {f:FuncId} {vs:List AV} {h:Hp} (k:qk9 F f vs h u) (k':qk9 F f vs h u'):u=u':=by
 obtain⟨us,d,h1,h2⟩:=k
 obtain⟨us',d',h3,h4⟩:=k'
 have e3:=jlw (f1t d d') h1
 have e4:=jlw (f1o d d') h3
 rw[e3] at e4
 cases e4
 exact h2.one h4
open Classical in
def pxA (F:Fns) (f:FuncId) (vs:List AV) (h:Hp):Option AV :=
 if h1:ji5 vs=true/\∃ u,ji7 true F f vs u then some (Classical.choose h1.2)
 else if h2:∃ u,qk9 F f vs h u then some (Classical.choose h2) else none
theorem qd0 {F:Fns} {f:FuncId} {vs:List AV} {h:Hp} (hg:ji5 vs=true) (k:ji7 true F f vs u):pxA F f vs h=some u:=by
 unfold pxA
 rw[dif_pos ⟨hg,u,k⟩]
 exact congrArg some ((Classical.choose_spec  ⟨u,k⟩).one k)
theorem qd1 {F:Fns} {f:FuncId} {vs:List AV} {h:Hp} (hg:ji5 vs=false) (k:qk9 F f vs h u):pxA F f vs h=some u:=by
 unfold pxA
 rw[dif_neg fun e=>by grind,dif_pos ⟨u,k⟩]
 exact congrArg some ((Classical.choose_spec  ⟨u,k⟩).one k)
theorem qd2 {F:Fns} {f:FuncId} {vs:List AV} {h:Hp} (k:pxA F f vs h=some u):(ji5 vs=true/\ji7 true F f vs u)∨qk9 F f vs h u:=by
 unfold pxA at k
 split at k
 .grind
 .split at k
  .grind
  grind
def PX (S:FuncId->Bool) (F:Fns):Fns:=.mk (j4i F) (fun f vs h=>Bool.rec (jc1 F f vs h) (ob (pxA F f vs h) (fun u=>ok u h)) (S f))
theorem jbg {S:FuncId->Bool} {F:Fns} {f:FuncId} {vs:List AV} {h:Hp} (hS:S f=true) (hg:ji5 vs=true) (k:ji7 true F f vs u):jc1 (PX S F) f vs h=some (u,h):=by
 show Bool.rec (motive:=fun _=>R) (jc1 F f vs h) (ob (pxA F f vs h) fun u=>ok u h) (S f)=_
 rw[hS,qd0 hg k];rfl
theorem qla {S:FuncId->Bool} {F:Fns} {f:FuncId} {vs:List AV} {h:Hp} (hS:S f=true) (hg:ji5 vs=false) (k:qk9 F f vs h u):jc1 (PX S F) f vs h=some (u,h):=by
 show Bool.rec (motive:=fun _=>R) (jc1 F f vs h) (ob (pxA F f vs h) fun u=>ok u h) (S f)=_
 rw[hS,qd1 hg k];rfl
theorem ja0 {S:FuncId->Bool} {F:Fns} {f:FuncId} {vs:List AV} {h:Hp} (hS:S f=false):jc1 (PX S F) f vs h=jc1 F f vs h:=by
 show Bool.rec (motive:=fun _=>R) (jc1 F f vs h) (ob (pxA F f vs h) fun u=>ok u h) (S f)=_
 rw[hS]
theorem jer {P:Program} {A:Nat->Int} {T:Tr TI} {S:FuncId->Bool} {F:Fns} (env:Env P A T F):Env P A T (PX S F) where
 tys:=env.tys
 mix:=env.mix
 fn:=env.fn
 ext:=fun f vs h v h' hx=>by
  cases hS:S f with
  | false=>rw[ja0 hS] at hx;exact env.ext f vs h v h' hx
  | true =>
   have hx':ob (pxA F f vs h) (fun u=>ok u h)=some (v,h'):=by
    have e:jc1 (PX S F) f vs h=Bool.rec  (jc1 F f vs h) (ob (pxA F f vs h) fun u=>ok u h) (S f):=rfl
    simp_all
   obtain⟨u,hu,h1⟩:=jaa.1 hx'
   cases h1
   rcases qd2 hu with⟨hg,n,v0,hi,h1,d,h2⟩ | ⟨us,d,h1,n,v0,hi,h2,d',h3⟩
   .exact ⟨(jfb env (jhq env n).1 f vs h0 v0 hi h1).1,fun k=>Abs.refl _ k,fun φ w args rel ha=>j7a env h1 h2 hg rel args ha⟩
   .exact ⟨(jfb env (jhq env n).1 f us h0 v0 hi h2).1,fun k=>Abs.refl _ k,fun φ w args rel ha=>j4j env h1 h2 h3 rel args ha⟩
theorem j7p {P:Program} {A:Nat->Int} {T:Tr TI} {F:Fns} (env:Env P A T F) {f:FuncId} {vs:List AV} {d:Unit} (k:WC F f vs h0 (fun v _=>v=.s (.bool true))) {c:Nat->Option (Array Value)} [GK c] {w:World} (hk:jvj c w) (args:Array Value) (ha:All2 (cV A (qhp c)) vs args.toList) :
 Calls P f args w (fun e w'=>e=.returned (.bool true)/\Below w.heap.size w w'):=by
 obtain⟨n,v,h',h1,rfl⟩:=k
 exact qdq env  (by rw[h1];rfl) hk args ha
abbrev vi (n:Int):AV:=.s (.int .i64 n)
abbrev vb (b:Bool):AV:=.s (.bool b)
abbrev si (n:Int):SV:=.int .i64 n
section
variable {st fr:List AV} {h:Hp} {α β:Type}
theorem qvu:ev st fr (.l i)=je6 st i:=rfl
theorem qvv:ev st fr (.g i)=je6 fr i:=rfl
theorem qvw {v:AV}:ev st fr (.c v)=some v:=rfl
theorem qlb:evs st fr []=some []:=rfl
theorem qd3 {o:Od} {l:List Od}:evs st fr (o::l)=ob (ev st fr o) (fun v=>ob (evs st fr l) (fun r=>some (v::r))):=rfl
theorem jo8 {a:α} {l:List α}:je6 (a::l) 0=some a:=rfl
theorem jo9 {a:α} {l:List α}:je6 (a::l) (n+1)=je6 l n:=rfl
theorem jpa {a x:α} {l:List α}:j3w (a::l) 0 x=x::l:=rfl
theorem jpb {a x:α} {l:List α}:j3w (a::l) (n+1) x=a::j3w l n x:=rfl
theorem jpc {v:AV}:jc0 fr none v=fr:=rfl
theorem jpd {v:AV}:jc0 fr (some d) v=j3w fr d v:=rfl
theorem ji8:jdq 0=[]:=rfl
theorem ji9:jdq (n+1)=.undef::jdq n:=rfl
theorem qpy {a:α} {f:α->Option β}:ob (some a) f=f a:=rfl
theorem q1o {f:α->Option β}:ob none f=none:=rfl
theorem jbl {b:Bool} {x y:α}:oif b x y=if b=true then x else y:=by cases b<;>rfl
theorem qvx {e:Option β} {x:SV} {f:SV->Option β}:svc e (.s x) f=f x:=rfl
theorem j7q {e:Option β} {f:SV->Option β}:svc e .undef f=e:=rfl
theorem qd4 {k:IntKind} {n:Int} {f:IntKind->Int->Option β}:qda (.int k n) f=f k n:=rfl
theorem j4w {b:Bool} {f:Bool->Option β}:jqi (.bool b) f=f b:=rfl
theorem j0q {k:IntKind} {n:Int} {f:IntKind->Int->Option β}:jk5 (.s (.int k n)) f=f k n:=rfl
theorem j4x {b:Bool} {f:Bool->Option β}:jgt (.s (.bool b)) f=f b:=rfl
theorem qvy {x:SV} {f:List SV->Option β}:cel (.s x) f=f [x]:=rfl
theorem qlc {l:List SV} {f:List SV->Option β}:cel (.agg l) f=f l:=rfl
theorem qrf {a:SV}:jgs false [a]=some (.s a):=rfl
theorem qrg {l:List SV}:jgs true l=some (.agg l):=rfl
theorem qrh {x:SV} {f:List SV->Option β}:qdb false (.s x) f=f [x]:=rfl
theorem qd5 {l:List SV} {f:List SV->Option β}:qdb true (.agg l) f=f l:=rfl
theorem j4y {l:List α}:jbp 0 l=some []:=rfl
theorem j4z {a:α} {l:List α}:jbp (n+1) (a::l)=ob (jbp n l) (fun x=>some (a::x)):=rfl
theorem j40 {l:List α}:jb9 0 l=l:=rfl
theorem j41 {a:α} {l:List α}:jb9 (n+1) (a::l)=jb9 n l:=rfl
theorem j7r:jb9 n ([]:List α)=[]:=by cases n<;>rfl
theorem qd6:jb6 ([]:List α)=0:=rfl
theorem j7s {a:α} {l:List α}:jb6 (a::l)=jb6 l+1:=rfl
theorem j7t {l:List α}:jn0 [] l=some l:=rfl
theorem j42 {x a:α} {xs l:List α}:jn0 (x::xs) (a::l)=ob (jn0 xs l) (fun y=>some (x::y)):=rfl
theorem jvv {xs l:List α}:jbo 0 xs l=jn0 xs l:=rfl
theorem jf0 {a:α} {xs l:List α}:jbo (n+1) xs (a::l)=ob (jbo n xs l) (fun y=>some (a::y)):=rfl
theorem j7u {a:Nat}:Nat.beq a a=true:=f1w a
theorem qld {a b:Nat}:(Nat.beq a b=true)=(a=b):=jiu a b
theorem qle {a b:Nat}:(Nat.ble a b=true)=(a<=b):=jr7 a b
theorem j7v {x:Od}:pop st fr (.mv x)=ev st fr x:=rfl
theorem j7w {ps:List (Nat×Nat×Od)}:pop st fr (.build z ps)=ob (fill st fr ps z) (fun cs=>some (.agg cs)):=rfl
theorem qd7 {cs:List SV}:fill st fr [] cs=some cs:=rfl
theorem j7x {off:Nat} {o:Od} {ps:List (Nat×Nat×Od)} {cs:List SV}:fill st fr ((off,n,o)::ps) cs=ob (ev st fr o) (fun v=>cel v (fun xs=>oif (Nat.beq (jb6 xs) n) (ob (jbo off xs cs) (fill st fr ps)) none)):=rfl
theorem qlf {x:Od}:pop st fr (.not x)=ob (ev st fr x) (fun v=>jgt v (fun b=>some (.s (.bool (!b))))):=by
 show ob (ev st fr x) (fun v=>jgt v (fun b=>some (AV.s (.bool (jis b)))))=_
 congr 1;funext v;congr 1;funext b;cases b<;>rfl
theorem j7y {x:Od}:pop st fr (.neg x)=ob (ev st fr x) (fun v=>jk5 v (fun k n=>j6a k (-n))):=rfl
theorem qd8 {off:Nat} {x:Od}:pop st fr (.fval off n agg x)=none:=rfl
theorem qd9 {k:IntKind} {x:Od}:pop st fr (.conv k x)=ob (ev st fr x) (fun v=>jk5 v (fun _ n=>j6b k n)):=rfl
theorem jvw {f:FuncId} {cs:List Od}:pop st fr (.mkfun f cs)=ob (evs st fr cs) (fun vs=>ob (qhe vs) (fun ps=>some (.s (.func f ps)))):=rfl
theorem qea:qhe []=some []:=rfl
theorem j7z {b:Nat} {l:List AV}:qhe (.s (.ptr b o)::l)=ob (qhe l) (fun r=>some ((b,o)::r)):=rfl
theorem j43:jg5 []=[]:=rfl
theorem jyp {b:Nat} {l:List (Nat×Nat)}:jg5 ((b,o)::l)=.s (.ptr b o)::jg5 l:=rfl
theorem j70 {b:Nat} {f:Nat->Nat->Option β} {g:List SV->Option β}:jeh (.s (.ptr b o)) f g=f b o:=rfl
theorem qeb {cs:List SV} {f:Nat->Nat->Option β} {g:List SV->Option β}:jeh (.s (.cp cs)) f g=g cs:=rfl
theorem qec {b:Nat} {f:Nat->Nat->Option β}:jux (.s (.ptr b o)) f=f b o:=rfl
def jsn (v:AV):Option AV:=jdh v (some (.s (.int .i64 0))) (fun _ _ n _ _ _=>some (.s (.int .i64 (Int.ofNat n)))) (fun rows=>some (.s (.int .i64 (Int.ofNat (jb6 rows))))) (some (.s (.int .i64 0)))
theorem qed:jsn (.s .nilSlice)=some (vi 0):=rfl
theorem jso:jsn (.s (.lst rows))=some (vi rows.length):=by
 show some (AV.s (.int .i64 (Int.ofNat (jb6 rows))))=_
 rw[jba];rfl
theorem j44 {b mc sz:Nat} {e:Bool}:jsn (.s (.slice b o n mc e sz))=some (vi n):=rfl
def j71 (n:Int):Option AV:=if -9223372036854775808<=n/\n<=9223372036854775807 then some (vi n) else none
theorem qee {n:Int} (h1:-9223372036854775808<=n) (h2:n<=9223372036854775807):inR .i64 n=true:=by
 cases n with
 | ofNat m=>exact(jr7 m 9223372036854775807).symm▸(by have:(m:Int)<=9223372036854775807:=h2
                                                      omega)
 | negSucc m=>exact(jr7 m 9223372036854775807).symm▸(by have:-9223372036854775808<=Int.negSucc m:=h1
                                                        omega)
theorem jsp {n:Int}:j6a .i64 n=j71 n:=by
 unfold j71
 show oif (inR .i64 n) (some (AV.s (.int .i64 n))) none=_
 split
 .rename_i h;rw[qee h.1 h.2];rfl
 .rename_i h
  cases e:inR .i64 n with
  | false=>rfl
  | true =>
   rcases je0 e with⟨_,a,b⟩ | ⟨e,_⟩ | ⟨e,_⟩
   .exact absurd ⟨a,b⟩ h
   .cases e
   .cases e
theorem jj8 {n:Int} (h1:-9223372036854775808<=n) (h2:n<=9223372036854775807):j71 n=some (vi n):=if_pos ⟨h1,h2⟩
def w64 (n:Int):Int:=IntKind.wrap .i64 n
theorem jad {n:Int} (h1:-9223372036854775808<=n) (h2:n<=9223372036854775807):w64 n=n:=jjr (qee h1 h2)
theorem jyq {n:Int}:qc9 .i64 n=some (vi (w64 n)):=by
 show oif (inR .i64 n) (some (AV.s (.int .i64 n))) (some (AV.s (.int .i64 (IntKind.wrap .i64 n))))=_
 cases e:inR .i64 n with
 | true=>rw[show w64 n=n from jjr e];rfl
 | false=>rfl
variable {a b:Int}
theorem j72:jel .add (.int .i64 a) (.int .i64 b)=some (vi (w64 (a+b))):=by
 rw[←jyq];show qc9 .i64 (qps a b)=_;rw[j6m]
theorem qlg:jel .sub (.int .i64 a) (.int .i64 b)=some (vi (w64 (a - b))):=by rw[←jyq];rfl
theorem qlh:jel .mul (.int .i64 a) (.int .i64 b)=some (vi (w64 (a*b))):=by rw[←jyq];rfl
theorem qli:jel .quo (.int .i64 a) (.int .i64 b)=if b=0 then none else j71 (a.tdiv b):=by
 rw[←jsp]
 show oif (ieq b 0) none (j6a .i64 (a.tdiv b))=_
 rw[jat,jdi];simp only[decide_eq_true_eq]
theorem jyr:jel .rem (.int .i64 a) (.int .i64 b)=if b=0 then none else j71 (a.tmod b):=by
 rw[←jsp]
 show oif (ieq b 0) none (j6a .i64 (a.tmod b))=_
 rw[jat,jdi];simp only[decide_eq_true_eq]
theorem qri:jel .eq (.int .i64 a) (.int .i64 b)=some (vb (decide (a=b))):=by
 show some (AV.s (.bool (ieq a b)))=_;rw[jdi]
theorem qrj:jel .ne (.int .i64 a) (.int .i64 b)=some (vb (decide (a≠b))):=by
 show some (AV.s (.bool (jis (ieq a b))))=_;rw[jdi,jhk];congr 3;by_cases h:a=b<;>simp[h]
theorem j73:jel .lt (.int .i64 a) (.int .i64 b)=some (vb (decide (a<b))):=by
 show some (AV.s (.bool (jis (ile b a))))=_;rw[jem,jhk];congr 3;by_cases h:a<b<;>simp[h]
 omega
theorem qrk:jel .le (.int .i64 a) (.int .i64 b)=some (vb (decide (a<=b))):=by
 show some (AV.s (.bool (ile a b)))=_;rw[jem]
theorem qrl:jel .gt (.int .i64 a) (.int .i64 b)=some (vb (decide (b<a))):=by
 show some (AV.s (.bool (jis (ile a b))))=_;rw[jem,jhk];congr 3;by_cases h:b<a<;>simp[h]
 omega
theorem qrm:jel .ge (.int .i64 a) (.int .i64 b)=some (vb (decide (b<=a))):=by
 show some (AV.s (.bool (ile b a)))=_;rw[jem]
theorem qlj {k:IntKind} (hn:n<=63):jel .shr (.int .i64 a) (.int k (n:Int))=some (vi (a / 2 ^ n)):=by
 have hs:qhd .i64 n=true:=by
  have hI:jn1 .i64=true:=rfl
  unfold qhd
  simp[jat,jr7,hn,hI]
 have e:jel .shr (.int .i64 a) (.int k (n:Int))=juz .shr .i64 a (n:Int):=by
  show oif (Nat.beq (ikn .i64) (ikn k)) (juz .shr .i64 a n) (oif true (juz .shr .i64 a n) none)=_
  cases Nat.beq (ikn .i64) (ikn k)<;>rfl
 rw[e]
 cases a with
 | ofNat m =>
  show oif (qhd .i64 n) (some (AV.s (.int .i64 (Int.ofNat (Nat.div m (Nat.pow 2 n)))))) none=_
  rw[hs]
  have:Int.ofNat (Nat.div m (Nat.pow 2 n))=Int.ofNat m / 2 ^ n:=by
   show((m / 2 ^ n:Nat):Int)=(m:Int) / 2 ^ n
   rw[Int.natCast_ediv,Int.natCast_pow];rfl
  rw[this];rfl
 | negSucc m =>
  show oif (qhd .i64 n) (some (AV.s (.int .i64 (Int.negSucc (Nat.div m (Nat.pow 2 n)))))) none=_
  rw[hs]
  have:Int.negSucc (Nat.div m (Nat.pow 2 n))=Int.negSucc m / 2 ^ n:=by
   obtain⟨q,hq⟩:∃ q,2 ^ n=q+1:=⟨2 ^ n - 1,by have:=Nat.two_pow_pos n;omega⟩
   have h2:(2:Int) ^ n=((q+1:Nat):Int):=by rw[←hq,Int.natCast_pow];rfl
   have h3:Nat.pow 2 n=q+1:=hq
   rw[h2,h3];rfl
  rw[this];rfl
theorem jgx (h1:-9223372036854775808<=a) (h2:a<=9223372036854775807):jel .and (.int .i64 a) (.int .i64 1)=some (vi (a % 2)):=by
 have hr:=qee h1 h2
 cases a with
 | ofNat m =>
  show oif (inR .i64 (.ofNat m)) (some (AV.s (.int .i64 (.ofNat (Nat.land m 1))))) none=_
  rw[hr]
  have:Int.ofNat (Nat.land m 1)=Int.ofNat m % 2:=by
   rw[show Nat.land m 1=m % 2 from f11 m];rfl
  rw[this];rfl
 | negSucc m =>
  show oif (inR .i64 (.negSucc m)) (some (AV.s (.int .i64 (.ofNat (Nat.xor 1 (Nat.land 1 m)))))) none=_
  rw[hr]
  have:Int.ofNat (Nat.xor 1 (Nat.land 1 m))=Int.negSucc m % 2:=by
   have e:Nat.land 1 m=m % 2:=(Nat.and_comm 1 m).trans (f11 m)
   rw[e]
   rcases Nat.mod_two_eq_zero_or_one m with h | h
   .rw [h];show(1:Int)=_;omega
   .rw [h];show(0:Int)=_;omega
  rw[this];rfl
theorem qlk (h1:-9223372036854775808<=a) (h2:a<=9223372036854775807):jel .or (.int .i64 a) (.int .i64 1)=some (vi (a+(1 - a % 2))):=by
 have hr:=qee h1 h2
 cases a with
 | ofNat m =>
  show oif (inR .i64 (.ofNat m)) (some (AV.s (.int .i64 (.ofNat (Nat.lor m 1))))) none=_
  rw[hr]
  have:Int.ofNat (Nat.lor m 1)=Int.ofNat m+(1 - Int.ofNat m % 2):=by
   have e:m ||| 1=m+(1 - m % 2):=by
    have h1:(m ||| 1) / 2=m / 2:=by rw[Nat.or_div_two];simp
    have h2:(m ||| 1) % 2=1:=by rw[Nat.or_mod_two_eq_one];simp
    omega
   show((m ||| 1:Nat):Int)=(m:Int)+(1 - (m:Int) % 2)
   rw[e];omega
  rw[this];rfl
 | negSucc m =>
  show oif (inR .i64 (.negSucc m)) (some (AV.s (.int .i64 (.negSucc (Nat.xor m (Nat.land m 1)))))) none=_
  rw[hr]
  have:Int.negSucc (Nat.xor m (Nat.land m 1))=Int.negSucc m+(1 - Int.negSucc m % 2):=by
   have e:m ^^^ (m &&& 1)=m - m % 2:=by
    have h1:(m ^^^ (m &&& 1)) / 2=m / 2:=by rw[Nat.xor_div_two,Nat.and_div_two];simp
    have h2:¬ (m ^^^ (m &&& 1)) % 2=1:=by
     have e:m &&& 1=m % 2:=f11 m
     rw[e,Nat.xor_mod_two_eq_one];omega
    omega
   show Int.negSucc (m ^^^ (m &&& 1))=_
   rw[e];omega
  rw[this];rfl
end
class Ok (h:Hp):Prop where
 hid:h.hid=[]
 lo:h.lo=0
 pos:1<=h.next
theorem jbn {a b:Nat} (h:a<=b):Nat.ble a b=true:=by rw[jr7];exact h
theorem jdv:Ok h0:=⟨rfl,rfl,f0h 1⟩
section
variable {h:Hp} {F:Fns} {st fr:List AV} {Q:Ex->St->Prop} {β:Type}
theorem ja9 {x:AB} (k:Ok h):Ok (h.push x):=⟨k.hid,k.lo,f17 k.pos⟩
theorem jas {b:Nat} {x:Option AB} (k:Ok h):Ok (h.put b x):=⟨by rw[Hp.hid_put];exact k.hid,by rw[Hp.lo_put];exact k.lo,by rw[Hp.next_put];exact k.pos⟩
instance iPush {x:AB} [k:Ok h]:Ok (h.push x):=ja9 k
instance iPut {b:Nat} {x:Option AB} [k:Ok h]:Ok (h.put b x):=jas k
theorem ja3 {x:AB} (k:Ok h):(h.push x).get n=if n=h.next then some x else h.get n:=by
 rw[Hp.get_eq,Hp.get_eq,Hp.hid_push,k.hid]
 have e:jaq [] n=false:=rfl
 rw[e]
 show(h.tr.put (Nat.succ h.next) h.next (some x)).get n=_
 split
 .rename_i hn;subst hn;exact jbr _ _ _ _ k.pos (jmb _)
 .rename_i hn;exact jb1 _ _ _ _ n k.pos (jmb _) hn
theorem jak {b:Nat} {x:Option AB} (k:Ok h) (hb:1<=b):(h.put b x).get n=if n=b then x else h.get n:=by
 rw[Hp.get_eq,Hp.get_eq,Hp.hid_put,k.hid,Hp.tr_put]
 have e:jaq [] n=false:=rfl
 rw[e]
 show(h.tr.put (Nat.succ b) b x).get n=_
 split
 .rename_i hn;subst hn;exact jbr _ _ _ _ hb (jmb _)
 .rename_i hn;exact jb1 _ _ _ _ n hb (jmb _) hn
def Hp.hide (h:Hp) (lo:Nat) (hid:List (Nat×Nat)):Hp:=.mk h.next h.tr lo hid
theorem j45:jaq [] n=false:=by cases n<;>rfl
theorem jys {a b:Nat} {l:List (Nat×Nat)}:jaq ((a,b)::l) n=if a<=n/\n<b then true else jaq l n:=by
 show oif (Nat.ble a n) (oif (Nat.ble (n+1) b) true (jaq l n)) (jaq l n)=_
 simp only[jat,jr7]
 by_cases h1:a<=n
 .by_cases h2:n+1<=b
  .rw [if_pos h1,if_pos h2,if_pos ⟨h1,h2⟩]
  .rw [if_pos h1,if_neg h2,if_neg (fun h=>h2 h.2)]
 .rw [if_neg h1,if_neg (fun h=>h1 h.1)]
theorem qef {hid:List (Nat×Nat)} (k:Ok h):(h.hide lo hid).get n=if jaq hid n=true then none else h.get n:=by
 rw[Hp.get_eq,Hp.get_eq,k.hid];rfl
theorem jvx {cs:List SV} {ty:TypeId} {f:Nat->Hp->Option β} (k:Ok h):nw h cs ty f=f h.next (h.push (.arr cs ty)):=by
 cases h with
 | mk n t lo hid =>
  obtain rfl:hid=[]:=k.hid
  rfl
def rdB (x:Option AB) (off n:Nat):Option (List SV):=ob x (fun x=>AB.casesOn x (fun cs _=>jbp n (jb9 off cs)) (fun _ _=>none))
theorem qrn {b off:Nat}:rd h b off n=rdB (h.get b) off n:=rfl
theorem jhs {cs:List SV} {ty:TypeId} {off:Nat}:rdB (some (.arr cs ty)) off n=jbp n (jb9 off cs):=rfl
def wrB (h:Hp) (b:Nat) (x:Option AB) (off:Nat) (xs:List SV):Option Hp:=ob x (fun x=>AB.casesOn x (fun cs ty=>ob (jbo off xs cs) (fun cs'=>some (h.put b (some (.arr cs' ty))))) (fun _ _=>none))
theorem qll {b off:Nat} (k:Ok h):wr h b off xs=wrB h b (h.get b) off xs:=by
 show oif (Nat.ble h.lo b) _ none=_
 rw[k.lo];rfl
theorem jsq {b:Nat} {cs:List SV} {ty:TypeId} {off:Nat}:wrB h b (some (.arr cs ty)) off xs=ob (jbo off xs cs) (fun cs'=>some (h.put b (some (.arr cs' ty)))):=rfl
def jmq (h:Hp) (n:Nat) (agg:Bool) (v:AV):Option AV:=jeh v (fun b off=>ob (rd h b off n) (fun cs=>jgs agg cs)) (fun cs=>ob (jbp n cs) (fun cs=>jgs agg cs))
theorem qlm {α γ:Type} {x:Option α} {f:α->Option β} {g:β->Option γ}:ob (ob x f) g=ob x (fun a=>ob (f a) g):=by cases x<;>rfl
theorem j0r {x:Od}:jd8 st fr h (.load n agg x)=ob (ev st fr x) (fun v=>ob (jmq h n agg v) (fun v=>ok v h)):=by
 show ob (ev st fr x) (fun v=>jeh v (fun b off=>ob (rd h b off n) (fun cs=>ob (jgs agg cs) (fun v=>ok v h))) (fun cs=>ob (jbp n cs) (fun cs=>ob (jgs agg cs) (fun v=>ok v h))))=_
 congr 1
 funext v
 cases v with
 | s v=>cases v<;>first | rfl | (show ob _ _=ob (ob _ _) _;rw[qlm])
 | _=>rfl
def j74 (h:Hp) (n:Nat) (p v:AV):R:=jux p (fun b off=>cel v (fun cs=>oif (Nat.beq (jb6 cs) n) (ob (wr h b off cs) (fun h=>ok .undef h)) none))
theorem qeg {b:Nat} {v:SV} (k:Ok h):j74 h 1 (.s (.ptr b o)) (.s v)=ob (wrB h b (h.get b) o [v]) (fun h=>ok .undef h):=by
 show ob (wr h b o [v]) _=_
 rw[qll k]
theorem j46 {b:Nat} {cs:List SV} (k:Ok h) (hn:cs.length=n):j74 h n (.s (.ptr b o)) (.agg cs)=ob (wrB h b (h.get b) o cs) (fun h=>ok .undef h):=by
 show oif (Nat.beq (jb6 cs) n) (ob (wr h b o cs) _) none=_
 rw[qll k,jba,hn,f1w];rfl
theorem qln {e:TypeId} (k:Ok h):jd8 st fr h (.new e z)=some (.s (.ptr h.next 0),h.push (.arr z e)):=by
 show nw h z e (fun n h=>ok (.s (.ptr n 0)) h)=_
 rw[jvx k];rfl
theorem qlo {e:TypeId} {x:Od} (k:Ok h):jd8 st fr h (.box e x)=ob (ev st fr x) (fun v=>cel v (fun cs=>some (.s (.ptr h.next 0),h.push (.arr cs e)))):=by
 show ob (ev st fr x) (fun v=>cel v (fun cs=>nw h cs e (fun n h=>ok (.s (.ptr n 0)) h)))=_
 congr 1;funext v;congr 1;funext cs;rw[jvx k];rfl
theorem j47 {e:TypeId} {size:Nat} {len:Nat} {ps:List (Nat×Nat×Od)} (k:Ok h):jd8 st fr h (.bslice e size z len ps)=ob (fill st fr ps z) (fun cs=>some (.s (.slice h.next 0 len len true size),h.push (.arr cs e))):=by
 show ob (fill st fr ps z) (fun cs=>nw h cs e (fun n h=>ok (.s (.slice n 0 len len true size)) h))=_
 congr 1;funext cs;rw[jvx k];rfl
def qro (h:Hp) (e:TypeId) (size bytes:Nat) (z:List SV) (l c:AV):R:=qhf l (fun m=>qhf c (fun k=>oif (Nat.ble m k) (oif (Nat.ble (Nat.mul bytes k) 1000000000) (oif (Nat.ble k 1000000000) (nw h (rep z k) e (fun b h=>ok (.s (.slice b 0 m k true size)) h)) none) none) none))
theorem jyt {e:TypeId} {size:Nat} {m:Nat} (k:Ok h) (h1:bytes*m<=1000000000) (h2:m<=1000000000):qro h e size bytes z (vi m) (vi m)=some (.s (.slice h.next 0 m m true size),h.push (.arr (rep z m) e)):=by
 show oif (Nat.ble m m) (oif (Nat.ble (Nat.mul bytes m) 1000000000) (oif (Nat.ble m 1000000000) (nw h (rep z m) e _) none) none) none=_
 rw[jvx k,jbn (f0h m),jbn h2,show Nat.ble (Nat.mul bytes m) 1000000000=true from jbn h1];rfl
def jqo (size:Nat) (v w:AV):Option AV:=jdh v none (fun b off len _ _ _=>below w len (fun m=>some (.s (.ptr b (Nat.add off (Nat.mul m size))))))
 (fun rows=>below w (jb6 rows) (fun m=>ob (je6 rows m) (fun row=>oif (Nat.beq (jb6 row) size) (some (.s (.cp row))) none))) none
theorem jht {m:Nat} {f:Nat->Option β} (hm:m<n):below (vi (m:Int)) n f=f m:=by
 show oif (Nat.ble (Nat.succ m) n) (f m) none=_
 rw[jbn (show Nat.succ m<=n from hm)];rfl
theorem jct {size b off len mc sz m:Nat} {ex:Bool} (hm:m<len):jqo size (.s (.slice b off len mc ex sz)) (vi (m:Int))=some (.s (.ptr b (off+m*size))):=jht (f:=fun m=>some (AV.s (.ptr b (Nat.add off (Nat.mul m size))))) hm
theorem jyu {size b off len mc sz:Nat} {ex:Bool} (hm:0<len):jqo size (.s (.slice b off len mc ex sz)) (vi 0)=some (.s (.ptr b off)):=by
 have:=jht (f:=fun m=>some (AV.s (.ptr b (Nat.add off (Nat.mul m size))))) hm
 refine this.trans ?_
 show some (AV.s (.ptr b (off+0*size)))=_
 rw[f2a,f1z]
theorem jm4 {size m:Nat} (hr:rows[m]?=some row) (hl:row.length=size):jqo size (.s (.lst rows)) (vi (m:Int))=some (.s (.cp row)):=by
 have hm:m<rows.length:=by
  rcases f0n m rows.length with h | h
  .exact h
  .rw [f0y h] at hr;cases hr
 have:=jht (f:=fun m=>ob (je6 rows m) (fun row=>oif (Nat.beq (jb6 row) size) (some (AV.s (.cp row))) none)) (show m<jb6 rows by rw[jba];exact hm)
 refine this.trans ?_
 rw[jc3,hr]
 show oif (Nat.beq (jb6 row) size) _ none=_
 rw[jba,hl,f1w];rfl
def qht (n size:Nat) (v w:AV):Option AV:=jeh v (fun b off=>below w n (fun m=>some (.s (.ptr b (Nat.add off (Nat.mul m size)))))) (fun cs=>below w n (fun m=>some (.s (.cp (jb9 (Nat.mul m size) cs)))))
theorem jic {size b off m:Nat} (hm:m<n):qht n size (.s (.ptr b off)) (vi (m:Int))=some (.s (.ptr b (off+m*size))):=jht (f:=fun m=>some (AV.s (.ptr b (Nat.add off (Nat.mul m size))))) hm
theorem jyv {size m:Nat} {cs:List SV} (hm:m<n):qht n size (.s (.cp cs)) (vi (m:Int))=some (.s (.cp (jb9 (m*size) cs))):=jht (f:=fun m=>some (AV.s (.cp (jb9 (Nat.mul m size) cs)))) hm
def q0y (h:Hp) (e:TypeId) (size bytes b n m:Nat) (x:Option AB) (new:List SV):R :=
 jjm bytes (Nat.add n m) (ob x (fun x=>AB.casesOn x (fun cs ty =>
  ob (jbp (Nat.mul n size) (jb9 0 cs)) (fun old=>(oif (Nat.ble h.lo b) (oif (Nat.beq ty e) (nw (h.put b none) (jf8 old new) e (fun k h=>ok (.s (.slice k 0 (Nat.add n m) (Nat.add n m) false size)) h)) none) none))) (fun _ _=>none)))
def jmr (h:Hp) (e:TypeId) (size bytes:Nat) (v w:AV):R:=jdh w (qc3 v (ok v h)) (fun b' off' m _ _ _=>ob (rd h b' off' (Nat.mul m size)) (fun new=>jlb h e size bytes m v new))
 (fun rows=>ob (jx2 size rows) (fun new=>jlb h e size bytes (jb6 rows) v new)) (qc3 v (ok v h))
theorem jqp {e:TypeId} {size m:Nat}:jmr h e size bytes (.s .nilSlice) (.s (.slice b' o' m mc' ex' sz'))=ob (rdB (h.get b') o' (m*size)) (fun new=>Nat.casesOn (motive:=fun _=>R) m (some (.s .nilSlice,h)) (fun _=>jjm bytes m (nw h new e (fun k h=>ok (.s (.slice k 0 m m false size)) h)))):=rfl
theorem j75 {x:R} (h1:n*bytes<=140737488355328) (h2:n<=140737488355328):jjm bytes n x=x:=by
 show oif (Nat.ble (Nat.mul n bytes) 140737488355328) (oif (Nat.ble n 140737488355328) x none) none=_
 rw[show Nat.ble (Nat.mul n bytes) 140737488355328=true from jbn h1,jbn h2];rfl
theorem jm5 {x:R} (h1:n*bytes<=1000000000) (h2:n<=1000000000):jjm bytes n x=x:=j75 oa oa
theorem jms {e:TypeId} {size b m:Nat} (hm:1<=m):jmr h e size bytes (.s (.slice b 0 n n false size)) (.s (.slice b' o' m mc' ex' sz'))=ob (rdB (h.get b') o' (m*size)) (fun new=>q0y h e size bytes b n m (h.get b) new):=by
 show ob (rdB (h.get b') o' (m*size)) (fun new=>oif (Nat.beq size size) (oif (Nat.ble (Nat.add n m) n) _ (jjm bytes (Nat.add n m) (jla h e size b 0 n m false new))) none)=_
 congr 1
 funext new
 have e1:Nat.ble (Nat.add n m) n=false:=by
  cases e:Nat.ble (Nat.add n m) n with
  | false=>rfl
  | true=>rw[jr7] at e;have:n+m<=n:=e;omega
 rw[f1w]
 show oif (Nat.ble (Nat.add n m) n) _ _=_
 rw[e1]
 rfl
theorem qlp {e:TypeId} {size b m:Nat} {cs new:List SV} (k:Ok h) (hc:cs.length=n*size) (h1:(n+m)*bytes<=1000000000) (h2:n+m<=1000000000) :
 q0y h e size bytes b n m (some (.arr cs e)) new=some (.s (.slice h.next 0 (n+m) (n+m) false size),(h.put b none).push (.arr (cs++new) e)):=by
 show jjm bytes (n+m) (ob (jbp (n*size) cs) (fun old=>oif (Nat.ble h.lo b) (oif (Nat.beq e e) (nw (h.put b none) (jf8 old new) e _) none) none))=_
 rw[jm5 h1 h2,(ja8 _).2 ⟨f2t hc.symm,rfl⟩,←hc,f2v]
 show oif (Nat.ble h.lo b) (oif (Nat.beq e e) (nw (h.put b none) (jf8 cs new) e _) none) none=_
 rw[k.lo,f1w,jvx (jas k),jcv,Hp.next_put]
 rfl
def q1p (v:AV):Option (Bool×List SV):=AV.casesOn v (fun s=>some (false,[s])) (fun l=>some (true,l)) (fun _=>none) none none
theorem j48:jfu fr h []=some []:=rfl
theorem jja {r:IR} {l:List IR}:jfu fr h (r::l)=ob (jmn fr h r) (fun v=>ob (jfu fr h l) (fun x=>some (v::x))):=rfl
theorem j49:jcj (.mk fr h) []=some (.tup [],h):=rfl
theorem j5a {r:IR}:jcj (.mk fr h) [r]=ob (jmn fr h r) (fun p=>ob (jgs p.1 p.2) (fun v=>some (v,h))):=by
 show ob (ob (jmn fr h r) (fun v=>ob (some []) (fun x=>some (v::x)))) (fun vs=>List.casesOn (motive:=fun _=>R) vs (ok (.tup []) h) (fun p r=>List.casesOn (motive:=fun _=>R) r (ob (jgs p.1 p.2) (fun v=>ok v h)) (fun _ _=>ok (.tup vs) h)))=_
 cases jmn fr h r<;>rfl
theorem j5b {r r':IR} {l:List IR}:jcj (.mk fr h) (r::r'::l)=ob (jfu fr h (r::r'::l)) (fun vs=>some (.tup vs,h)):=by
 show ob (jfu fr h (r::r'::l)) (fun vs=>List.casesOn (motive:=fun _=>R) vs (ok (.tup []) h) (fun p r=>List.casesOn (motive:=fun _=>R) r (ob (jgs p.1 p.2) (fun v=>ok v h)) (fun _ _=>ok (.tup vs) h)))=_
 rw[jja,jja]
 cases jmn fr h r with
 | none=>rfl
 | some a=>cases jmn fr h r' with
  | none=>rfl
  | some b=>cases jfu fr h l<;>rfl
theorem qvz {v:AV}:ok v h=some (v,h):=rfl
theorem qlq {es:List Ent} {hid:List (Nat×Nat)}:sel es [] hid=some hid:=rfl
theorem qeh {es:List Ent} {hid:List (Nat×Nat)}:sel es (j::js) hid=ob (je6 es j) (fun e=>ob (sel es js hid) (fun l=>Ent.casesOn (motive:=fun _=>Option (List (Nat×Nat))) e (fun iv _=>some (iv++l)))):=by
 show ob (je6 es j) (fun e=>ob (sel es js hid) (fun l=>Ent.casesOn (motive:=fun _=>Option (List (Nat×Nat))) e (fun iv _=>some (jf8 iv l))))=_
 simp only[jcv]
def fpV:AV->List Nat
 | .s (.ptr b _)=>[b]
 | _=>[]
theorem qlr {b:Nat}:fpV (.s (.ptr b o))=[b]:=rfl
theorem qrp {cs:List SV}:fpV (.s (.cp cs))=[]:=rfl
theorem jvy {es:List Ent} {dst:Option Nat} {x:Od} {l:List (IOper×Option (List Nat))}:WD F ((.mk dst (.a (.load n agg x)) none,some js)::l) st es fr h Q=obP (sel es js h.hid) (fun hid'=>obP (ev st fr x) (fun p=>obP (jmq (h.hide h.next hid') n agg p) (fun v=>WD F l (v::st) (.mk [] (some (fpV p))::es) (jc0 fr dst v) h Q))):=by
 cases h with
 | mk k t lo hid =>
 rw[jyo (x:=ob (sel es js hid) (fun hid'=>ob (ev st fr x) (fun p=>ob (jmq (.mk k t k hid') n agg p) (fun v=>some (DR.mk v (.mk k t lo hid) (.mk [] (some (fpV p)))))))) (fun cl=>?_)]
 .refine propext ⟨fun⟨p,h1,h2⟩=>?_,fun⟨hid',h0,q,h1,v,h2,h3⟩=>⟨.mk v (.mk k t lo hid) (.mk [] (some (fpV q))),jaa.2 ⟨hid',h0,jaa.2 ⟨q,h1,jaa.2 ⟨v,h2,rfl⟩⟩⟩,h3⟩⟩
  obtain⟨hid',h3,h4⟩:=jaa.1 h1
  obtain⟨q,h5,h6⟩:=jaa.1 h4
  obtain⟨v,h7,h8⟩:=jaa.1 h6
  cases h8
  exact⟨hid',h3,q,h5,v,h7,h2⟩
 .show jma cl st fr es (.mk k t lo hid) (.a (.load n agg x)) js=_
  show ob (sel es js hid) (fun hid'=>Cls.casesOn (motive:=fun _=>Option DR) (jr4 (ob (ev st fr x) (fun v=>jeh v (fun b _=>some (Cls.load b)) (fun _=>some .quiet))) (fun c=>c))
   (jmm cl st fr k t lo k hid hid' (.a (.load n agg x)) (fun n'=>.mk [(k,n')] (some [])))
   (fun x'=>jmm cl st fr k t lo k hid hid' (.a (.load n agg x)) (fun _=>.mk [] (some [x'])))
   (fun b=>oif (jjn es js b) (oif (Nat.ble lo b) (ob (Hp.get (.mk k t lo hid') b) (fun _=>jmm cl st fr k t lo lo hid hid' (.a (.load n agg x)) (fun n'=>.mk [(b,Nat.succ b),(k,n')] none))) none) none)
   (jmm cl st fr k t lo k hid hid' (.a (.load n agg x)) (fun _=>.mk [] (some [])))
   (jmm cl st fr k t lo k hid hid' (.a (.load n agg x)) (fun n'=>.mk [(k,n')] none)))=_
  congr 1
  funext hid'
  have key:∀ e:Nat->Ent,jmm cl st fr k t lo k hid hid' (.a (.load n agg x)) e=ob (ev st fr x) (fun p=>ob (jmq (.mk k t k hid') n agg p) (fun v=>some (DR.mk v (.mk k t lo hid) (e k)))):=fun e=>by
   show ob (aop cl st fr (.mk k t k hid') (.load n agg x)) _=_
   rw[ji6 (show AO.calls (.load n agg x)=false from rfl),j0r]
   cases ev st fr x with
   | none=>rfl
   | some p =>
    show ob (ob (jmq (.mk k t k hid') n agg p) _) _=ob (jmq (.mk k t k hid') n agg p) _
    cases jmq (.mk k t k hid') n agg p<;>rfl
  have k1:=key (fun n'=>.mk [(k,n')] none)
  have k3:=key (fun _=>.mk [] (some []))
  have k2:=fun b=>key (fun _=>.mk [] (some [b]))
  cases hx:ev st fr x with
  | none =>
   rw[hx] at k1
   exact k1
  | some p =>
   rw[hx] at k1 k3
   simp only[hx] at k2
   cases p with
   | s p =>
    cases p with
    | ptr b o=>exact k2 b
    | cp cs=>exact k3
    | _=>exact k1
   | _=>exact k1
theorem jqq {es:List Ent} {dst:Option Nat} {e:TypeId} {size:Nat} {len:Nat} {ps:List (Nat×Nat×Od)} {l:List (IOper×Option (List Nat))}:WD F ((.mk dst (.a (.bslice e size z len ps)) none,some js)::l) st es fr h Q=obP (sel es js h.hid) (fun hid'=>obP (fill st fr ps z) (fun cs=>jaq hid' h.next=false/\WD F l (.s (.slice h.next 0 len len true size)::st) (.mk [(h.next,h.next+1)] (some [])::es) (jc0 fr dst (.s (.slice h.next 0 len len true size))) (h.push (.arr cs e)) Q)):=by
 cases h with
 | mk k t lo hid =>
 rw[jyo (x:=ob (sel es js hid) (fun hid'=>ob (fill st fr ps z) (fun cs=>oif (jaq hid' k) none (some (DR.mk (.s (.slice k 0 len len true size)) ((Hp.mk k t lo hid).push (.arr cs e)) (.mk [(k,k+1)] (some []))))))) (fun cl=>?_)]
 .refine propext ⟨fun⟨p,h1,h2⟩=>?_,fun⟨hid',h0,cs,h1,h2,h3⟩=>⟨DR.mk (.s (.slice k 0 len len true size)) ((Hp.mk k t lo hid).push (.arr cs e)) (.mk [(k,k+1)] (some [])),jaa.2 ⟨hid',h0,jaa.2 ⟨cs,h1,?_⟩⟩,h3⟩⟩
  .obtain ⟨hid',h3,h4⟩:=jaa.1 h1
   obtain⟨cs,h5,h6⟩:=jaa.1 h4
   rw[jat] at h6
   split at h6
   .cases h6
   .rename_i h7
    cases h6
    exact⟨hid',h3,cs,h5,Bool.eq_false_iff.2 h7,h2⟩
  .have h2':jaq hid' k=false:=h2
   rw[h2'];rfl
 .show jma cl st fr es (.mk k t lo hid) (.a (.bslice e size z len ps)) js=_
  show ob (sel es js hid) (fun hid'=>ob (ob (fill st fr ps z) (fun cs=>oif (jaq hid' k) none (ok (.s (.slice k 0 len len true size)) (Hp.mk (Nat.succ k) (t.put (Nat.succ k) k (some (.arr cs e))) k hid')))) (fun p=>Hp.casesOn (motive:=fun _=>Option DR) p.2 (fun n' t' _ _=>some (.mk p.1 (.mk n' t' lo hid) (.mk [(k,n')] (some []))))))=_
  congr 1
  funext hid'
  cases fill st fr ps z with
  | none=>rfl
  | some cs =>
   show ob (oif (jaq hid' k) none _) _=oif (jaq hid' k) none _
   cases jaq hid' k<;>rfl
end
section
variable {F:Fns} {s:St} {st fr:List AV} {h h':Hp} {Q:Ex->St->Prop} {l:List IOper} {dst:Option Nat} {v w:AV} {m:List (IOper×Option (List Nat))} {es:List Ent}
def zpO (F:Fns) (x:Option AV) (dst:Option Nat) (l:List IOper) (st fr:List AV) (h:Hp) (Q:Ex->St->Prop):Prop:=obP x (fun v=>WO F l (v::st) (jc0 fr dst v) h Q)
theorem jsr:zpO F (some v) dst l st fr h Q=WO F l (v::st) (jc0 fr dst v) h Q:=jcy
def zmO (F:Fns) (x:R) (dst:Option Nat) (l:List IOper) (st fr:List AV) (Q:Ex->St->Prop):Prop:=obP x (fun p=>WO F l (p.1::st) (jc0 fr dst p.1) p.2 Q)
theorem qei:zmO F (some (v,h)) dst l st fr Q=WO F l (v::st) (jc0 fr dst v) h Q:=jcy
def qls (F:Fns) (dst:Option Nat) (l:List IOper) (st fr:List AV) (Q:Ex->St->Prop) (v:AV) (h:Hp):Prop:=WO F l (v::st) (jc0 fr dst v) h Q
theorem qej:qls F dst l st fr Q v h=WO F l (v::st) (jc0 fr dst v) h Q:=rfl
def zkO (F:Fns) (x:Option (List AV)) (f:FuncId) (dst:Option Nat) (l:List IOper) (st fr:List AV) (h:Hp) (Q:Ex->St->Prop):Prop:=obP x (fun vs=>WC F f vs h (qls F dst l st fr Q))
theorem qek {vs:List AV} {f:FuncId}:zkO F (some vs) f dst l st fr h Q=WC F f vs h (qls F dst l st fr Q):=jcy
def zgO (F:Fns) (x:Option AV) (t:Bool) (dst:Option Nat) (op:IOp) (l:List IOper) (st fr:List AV) (h:Hp) (Q:Ex->St->Prop):Prop:=gP x t (WO F (.mk dst op none::l) st fr h Q) (WO F l (.undef::st) (jc0 fr dst .undef) h Q)
theorem qel {b:Bool} {op:IOp}:zgO F (some (.s (.bool b))) t dst op l st fr h Q=if b=t then WO F (.mk dst op none::l) st fr h Q else WO F l (.undef::st) (jc0 fr dst .undef) h Q:=j7o
theorem j76 {op:IOp}:zgO F (some .undef) t dst op l st fr h Q=WO F l (.undef::st) (jc0 fr dst .undef) h Q:=j0p
def zcO (F:Fns) (x:Option AV) (a b:IC) (fr:List AV) (h:Hp) (Q:Ex->St->Prop):Prop:=qvs x (W F a (.mk fr h) Q) (W F b (.mk fr h) Q)
theorem jss {b:Bool} {x y:IC}:zcO F (some (.s (.bool b))) x y fr h Q=if b=true then W F x (.mk fr h) Q else W F y (.mk fr h) Q:=j7m
theorem jyw {c:Od} {x y:IC}:W F (.cond c x y) (.mk fr h) Q=zcO F (ev [] fr c) x y fr h Q:=qrb
theorem jyx {o:PO}:WO F (.mk dst (.p o) none::l) st fr h Q=zpO F (pop st fr o) dst l st fr h Q:=qk5
theorem qlt {f:FuncId} {as:List Od}:WO F (.mk dst (.a (.call f as)) none::l) st fr h Q=zkO F (evs st fr as) f dst l st fr h Q:=qk6
theorem qem {op:IOp}:WO F (.mk dst op (some (i,t))::l) st fr h Q=zgO F (je6 st i) t dst op l st fr h Q:=qdy
theorem j0s {x:Od} {as:List Od} {f:FuncId} {caps:List (Nat×Nat)} (hx:ev st fr x=some (.s (.func f caps))):WO F (.mk dst (.a (.callv x as)) none::l) st fr h Q=zkO F (ob (evs st fr as) (fun vs=>some (vs++jg5 caps))) f dst l st fr h Q:=by
 rw[qdx]
 refine propext ⟨fun⟨g,cs,h1,vs,h2,h3⟩=>?_,fun⟨vs,h1,h2⟩=>?_⟩
 .rw [hx] at h1;cases h1
  exact⟨_,jaa.2 ⟨vs,h2,rfl⟩,h3⟩
 .obtain ⟨us,h3,h4⟩:=jaa.1 h1
  cases h4
  exact⟨f,caps,hx,us,h3,h2⟩
def zpD (F:Fns) (x:Option AV) (e:Ent) (dst:Option Nat) (m:List (IOper×Option (List Nat))) (st:List AV) (es:List Ent) (fr:List AV) (h:Hp) (Q:Ex->St->Prop):Prop:=obP x (fun v=>WD F m (v::st) (e::es) (jc0 fr dst v) h Q)
theorem qen {e:Ent}:zpD F (some v) e dst m st es fr h Q=WD F m (v::st) (e::es) (jc0 fr dst v) h Q:=jcy
def zmD (F:Fns) (x:R) (dst:Option Nat) (m:List (IOper×Option (List Nat))) (st:List AV) (es:List Ent) (fr:List AV) (Q:Ex->St->Prop):Prop:=obP x (fun p=>WD F m (p.1::st) (.mk [] (some [])::es) (jc0 fr dst p.1) p.2 Q)
theorem qeo:zmD F (some (v,h)) dst m st es fr Q=WD F m (v::st) (.mk [] (some [])::es) (jc0 fr dst v) h Q:=jcy
def qlu (F:Fns) (dst:Option Nat) (m:List (IOper×Option (List Nat))) (st:List AV) (es:List Ent) (fr:List AV) (Q:Ex->St->Prop) (v:AV) (h:Hp):Prop:=WD F m (v::st) (.mk [] (some [])::es) (jc0 fr dst v) h Q
theorem qep:qlu F dst m st es fr Q v h=WD F m (v::st) (.mk [] (some [])::es) (jc0 fr dst v) h Q:=rfl
def zkD (F:Fns) (x:Option (List AV)) (f:FuncId) (dst:Option Nat) (m:List (IOper×Option (List Nat))) (st:List AV) (es:List Ent) (fr:List AV) (h:Hp) (Q:Ex->St->Prop):Prop:=obP x (fun vs=>WC F f vs h (qlu F dst m st es fr Q))
theorem qeq {vs:List AV} {f:FuncId}:zkD F (some vs) f dst m st es fr h Q=WC F f vs h (qlu F dst m st es fr Q):=jcy
def zgD (F:Fns) (x:Option AV) (t:Bool) (dst:Option Nat) (op:IOp) (o:Option (List Nat)) (m:List (IOper×Option (List Nat))) (st:List AV) (es:List Ent) (fr:List AV) (h:Hp) (Q:Ex->St->Prop):Prop:=gP x t (WD F ((.mk dst op none,o)::m) st es fr h Q) (WD F m (.undef::st) (.mk [] (some [])::es) (jc0 fr dst .undef) h Q)
theorem qer {b:Bool} {op:IOp} {o:Option (List Nat)}:zgD F (some (.s (.bool b))) t dst op o m st es fr h Q=if b=t then WD F ((.mk dst op none,o)::m) st es fr h Q else WD F m (.undef::st) (.mk [] (some [])::es) (jc0 fr dst .undef) h Q:=j7o
theorem j77 {op:IOp} {o:Option (List Nat)}:zgD F (some .undef) t dst op o m st es fr h Q=WD F m (.undef::st) (.mk [] (some [])::es) (jc0 fr dst .undef) h Q:=j0p
theorem qlv {o:PO}:WD F ((.mk dst (.p o) none,none)::m) st es fr h Q=zpD F (pop st fr o) (.mk [] (some [])) dst m st es fr h Q:=qk7
theorem qlw {f:FuncId} {as:List Od}:WD F ((.mk dst (.a (.call f as)) none,none)::m) st es fr h Q=zkD F (evs st fr as) f dst m st es fr h Q:=qk8
theorem qes {op:IOp} {o:Option (List Nat)}:WD F ((.mk dst op (some (i,t)),o)::m) st es fr h Q=zgD F (je6 st i) t dst op o m st es fr h Q:=qdz
def q0z (F:Fns) (x:Option (List (Nat×Nat))) (o:Option AV) (dst:Option Nat) (m:List (IOper×Option (List Nat))) (st:List AV) (es:List Ent) (fr:List AV) (h:Hp) (Q:Ex->St->Prop):Prop:=obP x (fun _=>zpD F o (.mk [(h.next,h.next)] (some [])) dst m st es fr h Q)
theorem j78 {x:List (Nat×Nat)} {o:Option AV}:q0z F (some x) o dst m st es fr h Q=zpD F o (.mk [(h.next,h.next)] (some [])) dst m st es fr h Q:=jcy
theorem jvz {o:PO}:WD F ((.mk dst (.p o) none,some js)::m) st es fr h Q=q0z F (sel es js h.hid) (pop st fr o) dst m st es fr h Q:=jvt
def qv0 (F:Fns) (x:Option (List (Nat×Nat))) (n:Nat) (agg:Bool) (p:Option AV) (dst:Option Nat) (m:List (IOper×Option (List Nat))) (st:List AV) (es:List Ent) (fr:List AV) (h:Hp) (Q:Ex->St->Prop):Prop:=obP x (fun hid'=>obP p (fun p=>zpD F (jmq (h.hide h.next hid') n agg p) (.mk [] (some (fpV p))) dst m st es fr h Q))
theorem j79 {x:List (Nat×Nat)}:qv0 F (some x) n agg (some w) dst m st es fr h Q=zpD F (jmq (h.hide h.next x) n agg w) (.mk [] (some (fpV w))) dst m st es fr h Q:=by
 unfold qv0;simp[jcy]
theorem jv0 {x:Od}:WD F ((.mk dst (.a (.load n agg x)) none,some js)::m) st es fr h Q=qv0 F (sel es js h.hid) n agg (ev st fr x) dst m st es fr h Q:=jvy
def qut (F:Fns) (x:Option (List (Nat×Nat))) (cs:Option (List SV)) (e:TypeId) (size len:Nat) (dst:Option Nat) (m:List (IOper×Option (List Nat))) (st:List AV) (es:List Ent) (fr:List AV) (h:Hp) (Q:Ex->St->Prop):Prop:=obP x (fun hid'=>obP cs (fun cs=>jaq hid' h.next=false/\WD F m (.s (.slice h.next 0 len len true size)::st) (.mk [(h.next,h.next+1)] (some [])::es) (jc0 fr dst (.s (.slice h.next 0 len len true size))) (h.push (.arr cs e)) Q))
theorem jv1 {x:List (Nat×Nat)} {cs:List SV} {e:TypeId} {size len:Nat} (hx:jaq x h.next=false):qut F (some x) (some cs) e size len dst m st es fr h Q=WD F m (.s (.slice h.next 0 len len true size)::st) (.mk [(h.next,h.next+1)] (some [])::es) (jc0 fr dst (.s (.slice h.next 0 len len true size))) (h.push (.arr cs e)) Q:=by
 unfold qut;grind[jcy]
theorem qlx {cs:List SV} {e:TypeId} {size len:Nat}:qut F (some []) (some cs) e size len dst m st es fr h Q=WD F m (.s (.slice h.next 0 len len true size)::st) (.mk [(h.next,h.next+1)] (some [])::es) (jc0 fr dst (.s (.slice h.next 0 len len true size))) (h.push (.arr cs e)) Q:=jv1 rfl
theorem jqr {e:TypeId} {size:Nat} {len:Nat} {ps:List (Nat×Nat×Od)}:WD F ((.mk dst (.a (.bslice e size z len ps)) none,some js)::m) st es fr h Q=qut F (sel es js h.hid) (fill st fr ps z) e size len dst m st es fr h Q:=jqq
def q1q (F:Fns) (x:Option (List (Nat×Nat))) (u:AV) (dst:Option Nat) (m:List (IOper×Option (List Nat))) (st:List AV) (es:List Ent) (fr:List AV) (h:Hp) (Q:Ex->St->Prop):Prop:=obP x (fun _=>WD F m (u::st) (.mk [(h.next,h.next)] none::es) (jc0 fr dst u) h Q)
theorem j8a {x:List (Nat×Nat)}:q1q F (some x) u dst m st es fr h Q=WD F m (u::st) (.mk [(h.next,h.next)] none::es) (jc0 fr dst u) h Q:=jcy
theorem qrq {e:TypeId}:WO F (.mk dst (.a (.new e z)) none::l) st fr h Q=zmO F (jd8 st fr h (.new e z)) dst l st fr Q:=jg6 rfl
theorem qrr {e:TypeId}:WD F ((.mk dst (.a (.new e z)) none,none)::m) st es fr h Q=zmD F (jd8 st fr h (.new e z)) dst m st es fr Q:=jix rfl
theorem qrs {e:TypeId} {x:Od}:WO F (.mk dst (.a (.box e x)) none::l) st fr h Q=zmO F (jd8 st fr h (.box e x)) dst l st fr Q:=jg6 rfl
theorem qrt {e:TypeId} {x:Od}:WD F ((.mk dst (.a (.box e x)) none,none)::m) st es fr h Q=zmD F (jd8 st fr h (.box e x)) dst m st es fr Q:=jix rfl
theorem j8b {e:TypeId} {size:Nat} {len:Nat} {ps:List (Nat×Nat×Od)}:WO F (.mk dst (.a (.bslice e size z len ps)) none::l) st fr h Q=zmO F (jd8 st fr h (.bslice e size z len ps)) dst l st fr Q:=jg6 rfl
theorem j8c {e:TypeId} {size:Nat} {len:Nat} {ps:List (Nat×Nat×Od)}:WD F ((.mk dst (.a (.bslice e size z len ps)) none,none)::m) st es fr h Q=zmD F (jd8 st fr h (.bslice e size z len ps)) dst m st es fr Q:=jix rfl
theorem j5c {e:TypeId} {size:Nat} {x y:Od}:WO F (.mk dst (.a (.mkslice e size bytes z x y)) none::l) st fr h Q=zmO F (jd8 st fr h (.mkslice e size bytes z x y)) dst l st fr Q:=jg6 rfl
theorem j5d {e:TypeId} {size:Nat} {x y:Od}:WD F ((.mk dst (.a (.mkslice e size bytes z x y)) none,none)::m) st es fr h Q=zmD F (jd8 st fr h (.mkslice e size bytes z x y)) dst m st es fr Q:=jix rfl
theorem qly {x:Od}:WO F (.mk dst (.a (.load n agg x)) none::l) st fr h Q=zmO F (jd8 st fr h (.load n agg x)) dst l st fr Q:=jg6 rfl
theorem qlz {x:Od}:WD F ((.mk dst (.a (.load n agg x)) none,none)::m) st es fr h Q=zmD F (jd8 st fr h (.load n agg x)) dst m st es fr Q:=jix rfl
theorem qet {x y:Od}:WO F (.mk dst (.a (.store n x y)) none::l) st fr h Q=zmO F (jd8 st fr h (.store n x y)) dst l st fr Q:=jg6 rfl
theorem qeu {x y:Od}:WD F ((.mk dst (.a (.store n x y)) none,none)::m) st es fr h Q=zmD F (jd8 st fr h (.store n x y)) dst m st es fr Q:=jix rfl
theorem qru {e:TypeId} {size:Nat} {x y:Od}:WO F (.mk dst (.a (.app e size bytes x y)) none::l) st fr h Q=zmO F (jd8 st fr h (.app e size bytes x y)) dst l st fr Q:=jg6 rfl
theorem qrv {e:TypeId} {size:Nat} {x y:Od}:WD F ((.mk dst (.a (.app e size bytes x y)) none,none)::m) st es fr h Q=zmD F (jd8 st fr h (.app e size bytes x y)) dst m st es fr Q:=jix rfl
theorem ql0 {size:Nat} {x y:Od}:WO F (.mk dst (.a (.copy size x y)) none::l) st fr h Q=zmO F (jd8 st fr h (.copy size x y)) dst l st fr Q:=jg6 rfl
theorem ql1 {size:Nat} {x y:Od}:WD F ((.mk dst (.a (.copy size x y)) none,none)::m) st es fr h Q=zmD F (jd8 st fr h (.copy size x y)) dst m st es fr Q:=jix rfl
theorem j8d {size:Nat} {x:Od}:WO F (.mk dst (.a (.slicea n size x)) none::l) st fr h Q=zmO F (jd8 st fr h (.slicea n size x)) dst l st fr Q:=jg6 rfl
theorem j8e {size:Nat} {x:Od}:WD F ((.mk dst (.a (.slicea n size x)) none,none)::m) st es fr h Q=zmD F (jd8 st fr h (.slicea n size x)) dst m st es fr Q:=jix rfl
def q00 (o:BO) (x y:Option AV):Option AV:=ob x (fun a=>ob y (fun b=>svc none a (fun a=>svc none b (fun b=>jel o a b))))
theorem j8f {o:BO} {x y:Od}:pop st fr (.bin o x y)=q00 o (ev st fr x) (ev st fr y):=rfl
theorem jpe {o:BO} {a b:SV}:q00 o (some (.s a)) (some (.s b))=jel o a b:=rfl
def qv1 (off:Nat) (x:Option AV):Option AV:=ob x (fun v=>jeh v (fun b o=>some (.s (.ptr b (o+off)))) (fun cs=>some (.s (.cp (jb9 off cs)))))
theorem qrw {off:Nat} {x:Od}:pop st fr (.fld off x)=qv1 off (ev st fr x):=rfl
theorem qev {off b:Nat}:qv1 off (some (.s (.ptr b o)))=some (.s (.ptr b (o+off))):=rfl
theorem ql2 {off:Nat} {cs:List SV}:qv1 off (some (.s (.cp cs)))=some (.s (.cp (jb9 off cs))):=rfl
def ql3 (x:Option AV):Option AV:=ob x (fun v=>jeh v (fun b o=>some (.s (.ptr b o))) (fun cs=>some (.s (.cp cs))))
theorem ql4 {x:Od}:pop st fr (.nchk x)=ql3 (ev st fr x):=rfl
theorem j8g {b:Nat}:ql3 (some (.s (.ptr b o)))=some (.s (.ptr b o)):=rfl
theorem qew {cs:List SV}:ql3 (some (.s (.cp cs)))=some (.s (.cp cs)):=rfl
def q01 (x:Option AV):Option AV:=ob x jsn
theorem qrx {x:Od}:pop st fr (.len x)=q01 (ev st fr x):=rfl
theorem j8h:q01 (some v)=jsn v:=rfl
def q02 (size:Nat) (x y:Option AV):Option AV:=ob x (fun v=>ob y (fun w=>jqo size v w))
theorem qry {size:Nat} {x i:Od}:pop st fr (.ixs size x i)=q02 size (ev st fr x) (ev st fr i):=rfl
theorem j8i {size:Nat}:q02 size (some v) (some w)=jqo size v w:=rfl
def q03 (n size:Nat) (x y:Option AV):Option AV:=ob x (fun v=>ob y (fun w=>qht n size v w))
theorem qrz {size:Nat} {x i:Od}:pop st fr (.ixa n size x i)=q03 n size (ev st fr x) (ev st fr i):=rfl
theorem j8j {size:Nat}:q03 n size (some v) (some w)=qht n size v w:=rfl
def qr0 (x:Option AV) (a b:Od) (st fr:List AV):Option AV:=ob x (fun v=>jgt v (fun t=>ev st fr (oif t a b)))
theorem ql5 {c a b:Od}:pop st fr (.pick c a b)=qr0 (ev st fr c) a b st fr:=rfl
theorem j5e {a b:Od}:qr0 (some (.s (.bool t))) a b st fr=if t=true then ev st fr a else ev st fr b:=by cases t<;>rfl
def q04 (i:Nat) (x:Option AV):Option AV:=ob x (fun v=>AV.casesOn v (fun _=>none) (fun _=>none) (fun l=>ob (je6 l i) (fun p=>jgs p.1 p.2)) none none)
theorem qr1 {x:Od}:pop st fr (.ext i x)=q04 i (ev st fr x):=rfl
def mk1 (p:Option (Bool×List SV)):Option AV:=ob p (fun p=>jgs p.1 p.2)
theorem qex {a:Bool} {l:List SV}:mk1 (some (a,l))=jgs a l:=rfl
theorem qey {l:List (Bool×List SV)}:q04 i (some (.tup l))=mk1 (je6 l i):=rfl
def ldR (h:Hp) (agg:Bool) (cs:Option (List SV)):R:=ob cs (fun cs=>ob (jgs agg cs) (fun v=>ok v h))
theorem qv2 {cs:List SV}:ldR h true (some cs)=some (.agg cs,h):=rfl
theorem qv3 {a:SV}:ldR h false (some [a])=some (.s a,h):=rfl
def ql6 (h:Hp) (n:Nat) (agg:Bool) (x:Option AV):R:=ob x (fun v=>ob (jmq h n agg v) (fun v=>ok v h))
theorem ql7 {x:Od}:jd8 st fr h (.load n agg x)=ql6 h n agg (ev st fr x):=j0r
theorem j8k {b:Nat}:ql6 h n agg (some (.s (.ptr b o)))=ldR h agg (rdB (h.get b) o n):=by
 show ob (ob (rdB (h.get b) o n) _) _=_
 rw[qlm];rfl
theorem qez {cs:List SV}:ql6 h n agg (some (.s (.cp cs)))=ldR h agg (jbp n cs):=by
 show ob (ob (jbp n cs) _) _=_
 rw[qlm];rfl
def jhu (h:Hp) (n:Nat) (x y:Option AV):R:=ob x (fun p=>ob y (fun v=>j74 h n p v))
theorem qe0 {x v:Od}:jd8 st fr h (.store n x v)=jhu h n (ev st fr x) (ev st fr v):=rfl
def stR (h:Option Hp):R:=ob h (fun h=>ok .undef h)
theorem qe1:stR (some h)=some (.undef,h):=rfl
theorem qe2 {b:Nat} {x:SV} (k:Ok h):jhu h 1 (some (.s (.ptr b o))) (some (.s x))=stR (wrB h b (h.get b) o [x]):=qeg k
theorem j5f {b:Nat} {cs:List SV} (k:Ok h) (hn:cs.length=n):jhu h n (some (.s (.ptr b o))) (some (.agg cs))=stR (wrB h b (h.get b) o cs):=j46 k hn
def q05 (h:Hp) (e:TypeId) (size bytes:Nat) (x y:Option AV):R:=ob x (fun v=>ob y (fun w=>jmr h e size bytes v w))
theorem qr2 {e:TypeId} {size:Nat} {x y:Od}:jd8 st fr h (.app e size bytes x y)=q05 h e size bytes (ev st fr x) (ev st fr y):=rfl
theorem j8l {e:TypeId} {size:Nat}:q05 h e size bytes (some v) (some w)=jmr h e size bytes v w:=rfl
def bsO (h:Hp) (e:TypeId) (size len:Nat) (x:Option (List SV)):R:=ob x (fun cs=>some (.s (.slice h.next 0 len len true size),h.push (.arr cs e)))
theorem qe3 {e:TypeId} {size len:Nat} {cs:List SV}:bsO h e size len (some cs)=some (.s (.slice h.next 0 len len true size),h.push (.arr cs e)):=rfl
theorem j8m {e:TypeId} {size:Nat} {len:Nat} {ps:List (Nat×Nat×Od)} (k:Ok h):jd8 st fr h (.bslice e size z len ps)=bsO h e size len (fill st fr ps z):=j47 k
def quu (h:Hp) (e:TypeId) (x:Option AV):R:=ob x (fun v=>cel v (fun cs=>some (.s (.ptr h.next 0),h.push (.arr cs e))))
theorem qr3 {e:TypeId} {x:Od} (k:Ok h):jd8 st fr h (.box e x)=quu h e (ev st fr x):=qlo k
theorem qr4 {e:TypeId} {x:SV}:quu h e (some (.s x))=some (.s (.ptr h.next 0),h.push (.arr [x] e)):=rfl
theorem qe4 {e:TypeId} {cs:List SV}:quu h e (some (.agg cs))=some (.s (.ptr h.next 0),h.push (.arr cs e)):=rfl
def q06 (h:Hp) (e:TypeId) (size bytes:Nat) (z:List SV) (x y:Option AV):R:=ob x (fun v=>ob y (fun u=>qro h e size bytes z v u))
theorem j5g {e:TypeId} {size:Nat} {l c:Od}:jd8 st fr h (.mkslice e size bytes z l c)=q06 h e size bytes z (ev st fr l) (ev st fr c):=rfl
theorem j8n {e:TypeId} {size:Nat}:q06 h e size bytes z (some v) (some w)=qro h e size bytes z v w:=rfl
def re1 (h:Hp) (x:Option (Bool×List SV)):R:=ob x (fun p=>ob (jgs p.1 p.2) (fun v=>some (v,h)))
theorem qr5 {r:IR}:jcj (.mk fr h) [r]=re1 h (jmn fr h r):=j5a
theorem qv4 {a:SV}:re1 h (some (false,[a]))=some (.s a,h):=rfl
theorem qv5 {l:List SV}:re1 h (some (true,l))=some (.agg l,h):=rfl
def reT (g:Option AV):Option (Bool×List SV):=ob g q1p
theorem qr6:jmn fr h (.tmp g)=reT (je6 fr g):=rfl
theorem qv6 {x:SV}:reT (some (.s x))=some (false,[x]):=rfl
theorem ql8 {x:List SV}:reT (some (.agg x))=some (true,x):=rfl
def reC (h:Hp) (n:Nat) (agg:Bool) (g:Option AV):Option (Bool×List SV):=ob g (fun v=>jux v (fun b off=>ob (rdB (h.get b) off n) (fun cs=>some (agg,cs))))
theorem ql9:jmn fr h (.cell g n agg)=reC h n agg (je6 fr g):=rfl
def reP (agg:Bool) (x:Option (List SV)):Option (Bool×List SV):=ob x (fun cs=>some (agg,cs))
theorem qe5 {cs:List SV}:reP agg (some cs)=some (agg,cs):=rfl
theorem qma {b:Nat}:reC h n agg (some (.s (.ptr b o)))=reP agg (rdB (h.get b) o n):=rfl
def qv7 (x:R) (Q:AV->Hp->Prop):Prop:=obP x (fun p=>Q p.1 p.2)
theorem j8o {Q:AV->Hp->Prop}:qv7 (some (v,h)) Q=Q v h:=jcy
theorem jyy {res:List IR} {Q:AV->Hp->Prop}:jqh res Q .normal s=qv7 (jcj s res) Q:=rfl
theorem qe6 {res:List IR} {Q:AV->Hp->Prop}:jqh res Q .ret s=qv7 (jcj s res) Q:=rfl
def re2 (h:Hp) (x:Option (List (Bool×List SV))):R:=ob x (fun vs=>some (.tup vs,h))
theorem qe7 {l:List (Bool×List SV)}:re2 h (some l)=some (.tup l,h):=rfl
theorem qr7 {r r':IR} {k:List IR}:jcj (.mk fr h) (r::r'::k)=re2 h (jfu fr h (r::r'::k)):=j5b
theorem jyz {size b off len mc sz:Nat} {ex:Bool} (hm:1<len):jqo size (.s (.slice b off len mc ex sz)) (vi 1)=some (.s (.ptr b (off+size))):=by
 have:=jct (size:=size) (b:=b) (off:=off)  (mc:=mc) (sz:=sz) (ex:=ex) hm
 grind
theorem j8p {size b off:Nat} (hm:0<n):qht n size (.s (.ptr b off)) (vi 0)=some (.s (.ptr b off)):=by
 have:=jic  (size:=size) (b:=b) (off:=off) hm
 grind
theorem j8q {size b off:Nat} (hm:1<n):qht n size (.s (.ptr b off)) (vi 1)=some (.s (.ptr b (off+size))):=by
 have:=jic  (size:=size) (b:=b) (off:=off) hm
 grind
theorem qe8 {size:Nat} {cs:List SV} (hm:0<n):qht n size (.s (.cp cs)) (vi 0)=some (.s (.cp cs)):=by
 have:=jyv  (size:=size) (cs:=cs) hm
 rw[f2a] at this;trivial
theorem qe9 {size:Nat} {cs:List SV} (hm:1<n):qht n size (.s (.cp cs)) (vi 1)=some (.s (.cp (jb9 size cs))):=by
 have:=jyv  (size:=size) (cs:=cs) hm
 grind
theorem qv8 [k:Ok h]:h.hid=[]:=k.hid
theorem qr8 [k:Ok h] {hid:List (Nat×Nat)}:(h.hide lo hid).get n=if jaq hid n=true then none else h.get n:=qef k
theorem qr9 [k:Ok h] {e:TypeId} {size:Nat} {len:Nat} {ps:List (Nat×Nat×Od)}:jd8 st fr h (.bslice e size z len ps)=bsO h e size len (fill st fr ps z):=j8m k
theorem qv9 [k:Ok h] {e:TypeId} {x:Od}:jd8 st fr h (.box e x)=quu h e (ev st fr x):=qr3 k
theorem qsa [k:Ok h] {e:TypeId}:jd8 st fr h (.new e z)=some (.s (.ptr h.next 0),h.push (.arr z e)):=qln k
theorem qwa [k:Ok h] {b:Nat} {x:SV}:jhu h 1 (some (.s (.ptr b o))) (some (.s x))=stR (wrB h b (h.get b) o [x]):=qe2 k
theorem jy0 [k:Ok h] {b:Nat} {cs:List SV} (hn:cs.length=n):jhu h n (some (.s (.ptr b o))) (some (.agg cs))=stR (wrB h b (h.get b) o cs):=j5f k hn
theorem qsb [k:Ok h] {b:Nat} {t u:SV}:jhu h 2 (some (.s (.ptr b o))) (some (.agg [t,u]))=stR (wrB h b (h.get b) o [t,u]):=jy0 rfl
theorem qsc [k:Ok h] {b:Nat} {t u v:SV}:jhu h 3 (some (.s (.ptr b o))) (some (.agg [t,u,v]))=stR (wrB h b (h.get b) o [t,u,v]):=jy0 rfl
theorem qsd [k:Ok h] {b:Nat} {t u v w:SV}:jhu h 4 (some (.s (.ptr b o))) (some (.agg [t,u,v,w]))=stR (wrB h b (h.get b) o [t,u,v,w]):=jy0 rfl
theorem qse [k:Ok h] {b:Nat} {t u v w x:SV}:jhu h 5 (some (.s (.ptr b o))) (some (.agg [t,u,v,w,x]))=stR (wrB h b (h.get b) o [t,u,v,w,x]):=jy0 rfl
theorem qsf [k:Ok h] {b:Nat} {t u v w x:SV}:jhu h 6 (some (.s (.ptr b o))) (some (.agg [t,u,v,w,x,y]))=stR (wrB h b (h.get b) o [t,u,v,w,x,y]):=jy0 rfl
theorem qsg [k:Ok h] {b:Nat} {t u v w x z:SV}:jhu h 7 (some (.s (.ptr b o))) (some (.agg [t,u,v,w,x,y,z]))=stR (wrB h b (h.get b) o [t,u,v,w,x,y,z]):=jy0 rfl
theorem jpf [k:Ok h] {x:AB}:(h.push x).get n=if n=h.next then some x else h.get n:=ja3 k
theorem jv2 [k:Ok h] {b:Nat} {x:Option AB} (hb:1<=b):(h.put b x).get n=if n=b then x else h.get n:=jak k hb
def mkL (agg:Bool) (x:Option (List SV)):Option AV:=ob x (fun cs=>jgs agg cs)
theorem qwb {cs:List SV}:mkL true (some cs)=some (.agg cs):=rfl
theorem qwc {a:SV}:mkL false (some [a])=some (.s a):=rfl
theorem qsh {b:Nat}:jmq h n agg (.s (.ptr b o))=mkL agg (rdB (h.get b) o n):=rfl
theorem qwd {cs:List SV}:jmq h n agg (.s (.cp cs))=mkL agg (jbp n cs):=rfl
theorem qmb {a b:Int} (h1:0<=a) (h3:0<b):0<=a % b/\a % b<=a:=by
 have h2:=Int.emod_add_mul_ediv a b
 have h:=Int.ediv_nonneg h1 (Int.le_of_lt h3)
 have h4:=Int.mul_nonneg (Int.le_of_lt h3) h
 exact⟨Int.emod_nonneg a oa,oa⟩
theorem jy1 {a b:Int} (h1:0<=a) (h2:a<=9223372036854775807) (h3:0<b):jel .rem (.int .i64 a) (.int .i64 b)=some (vi (a % b)):=by
 have:=qmb h1 h3
 rw[jyr,if_neg oa,f2i h1,jj8 oa oa]
theorem j8r {a b:Int} (h1:-9223372036854775808<=a) (h2:a<=9223372036854775807) (h3:0<b):-9223372036854775808<=a.tdiv b/\a.tdiv b<=9223372036854775807:=by
 have h:=Int.natAbs_tdiv_le_natAbs a b
 rcases(by omega:a<0∨0<=a) with h4 | h4
 .have h5:a.tdiv b<=0:=by
   obtain⟨c,rfl⟩:∃ c,a=-c:=⟨-a,oa⟩
   simp_all[Int.neg_tdiv,Int.tdiv_nonneg,Int.le_of_lt]
  omega
 omega
theorem jy2 {a b:Int} (h1:-9223372036854775808<=a) (h2:a<=9223372036854775807) (h3:0<b):jel .quo (.int .i64 a) (.int .i64 b)=some (vi (a.tdiv b)):=by
 have:=j8r h1 h2 h3
 rw[qli,if_neg oa,jj8 this.1 this.2]
theorem jy3 {a n:Int} {k:IntKind} (h1:0<=n) (h2:n<=63):jel .shr (.int .i64 a) (.int k n)=some (vi (a / 2 ^ n.toNat)):=by
 grind[Int.eq_ofNat_of_zero_le,qlj]
theorem qfa {a:Nat}:(a=a+(n+1))=False:=eq_false oa
theorem qfb {a:Nat}:(a+(n+1)=a)=False:=eq_false oa
theorem qfc {e:TypeId} {x:SV} (ok:Ok h) (h1:bytes<=1000):qro h e 1 bytes [x] (vi 2) (vi 2)=some (.s (.slice h.next 0 2 2 true 1),h.push (.arr [x,x] e)) :=
 jyt (m:=2) ok oa oa
theorem qmc [ok:Ok h] {e:TypeId} {x:SV} (h1:bytes<=1000):qro h e 1 bytes [x] (vi 2) (vi 2)=some (.s (.slice h.next 0 2 2 true 1),h.push (.arr [x,x] e)):=qfc ok h1
theorem jj9 {a b:Nat} (h:a≠b):(a=b)=False:=eq_false h
theorem jet {a b:Nat} (h:b<a):(a<=b)=False:=eq_false oa
theorem jeu {a b:Nat} (h:b<=a):(a<b)=False:=eq_false oa
theorem jm6 {a b:Nat} (h:a<=b):(a<=b)=True:=eq_true h
theorem jm7 {a b:Nat} (h:a<b):(a<b)=True:=eq_true h
theorem q1r {a b:Int} (h:a<=b):(a<=b)=True:=eq_true h
theorem q1s {a b:Int} (h:a<b):(a<b)=True:=eq_true h
def qmd (F:Fns) (dst:Option Nat) (m:List (IOper×Option (List Nat))) (st:List AV) (es:List Ent) (fr:List AV) (h:Hp) (Q:Ex->St->Prop) (v:AV) (h':Hp):Prop:=WD F m (v::st) (.mk [(h.next,h'.next)] none::es) (jc0 fr dst v) (.mk h'.next h'.tr h.lo h.hid) Q
def zkH (F:Fns) (x:Option (List (Nat×Nat))) (vs:Option (List AV)) (f:FuncId) (dst:Option Nat) (m:List (IOper×Option (List Nat))) (st:List AV) (es:List Ent) (fr:List AV) (h:Hp) (Q:Ex->St->Prop):Prop:=obP x (fun hid'=>obP vs (fun vs=>WC F f vs (h.hide h.next hid') (qmd F dst m st es fr h Q)))
theorem qfd {x:List (Nat×Nat)} {vs:List AV} {f:FuncId}:zkH F (some x) (some vs) f dst m st es fr h Q=WC F f vs (h.hide h.next x) (qmd F dst m st es fr h Q):=by
 unfold zkH;simp[jcy]
theorem j5h {x:List (Nat×Nat)}:qmd F dst m st es fr h Q v (h.hide lo x)=WD F m (v::st) (.mk [(h.next,h.next)] none::es) (jc0 fr dst v) h Q:=by rfl
theorem jst {f:FuncId} {as:List Od}:WD F ((.mk dst (.a (.call f as)) none,some js)::m) st es fr h Q=zkH F (sel es js h.hid) (evs st fr as) f dst m st es fr h Q:=by
 cases h with
 | mk k t lo hid =>
 rw[jo5]
 have key:∀ n v h' e,jxw (jbv F (run F n)) st fr es (.mk k t lo hid) (.a (.call f as)) none (some js)=some (.mk v h' e)↔∃ x vs h1,sel es js hid=some x/\evs st fr as=some vs/\jbv F (run F n) f vs (.mk k t k x)=some (v,h1)/\h'=.mk h1.next h1.tr lo hid/\e=.mk [(k,h1.next)] none:=fun n v h' e=>by
  have e0:jxw (jbv F (run F n)) st fr es (.mk k t lo hid) (.a (.call f as)) none (some js)=ob (sel es js hid) (fun x=>ob (ob (evs st fr as) (fun vs=>jbv F (run F n) f vs (.mk k t k x))) (fun p=>Hp.casesOn (motive:=fun _=>Option DR) p.2 (fun n' t' _ _=>some (.mk p.1 (.mk n' t' lo hid) (.mk [(k,n')] none))))):=rfl
  rw[e0]
  constructor
  .intro h1
   obtain⟨x,hx,h2⟩:=jaa.1 h1
   obtain⟨p,hp,h3⟩:=jaa.1 h2
   obtain⟨vs,hvs,h4⟩:=jaa.1 hp
   cases h3
   exact⟨x,vs,_,hx,hvs,h4,rfl,rfl⟩
  .rintro ⟨x,vs,⟨n1,t1,l1,d1⟩,hx,hvs,h4,rfl,rfl⟩
   exact jaa.2 ⟨x,hx,jaa.2 ⟨(v,.mk n1 t1 l1 d1),jaa.2 ⟨vs,hvs,h4⟩,rfl⟩⟩
 refine propext ⟨fun⟨n,v,h',e,h1,h2⟩=>?_,fun⟨x,hx,vs,hvs,n,v,h1,h2,h3⟩=>⟨n,v,_,_,(key n v _ _).2 ⟨x,vs,h1,hx,hvs,h2,rfl,rfl⟩,h3⟩⟩
 obtain⟨x,vs,h3,hx,hvs,h4,rfl,rfl⟩:=(key n v h' e).1 h1
 exact⟨x,hx,vs,hvs,n,v,h3,h4,h2⟩
theorem jdk {a:Nat}:((a:Int) / 2 ^ n)=((a / 2 ^ n:Nat):Int):=by
 rfl
theorem jdl:(4+(i:Int)).toNat=4+i:=oa
theorem jdm:(9+(i:Int)).toNat=9+i:=oa
theorem jdn:(i:Int).toNat=i:=oa
theorem jjb {a:Nat}:decide ((a:Int) % 2=1)=decide (a % 2=1):=decide_eq_decide.2 oa
theorem jfe {a:Nat}:(a:Int).tdiv 4=((a / 4:Nat):Int):=rfl
theorem jff {a:Nat}:(a:Int).tdiv 5=((a / 5:Nat):Int):=rfl
theorem jd1 {x:Option AB} {off sz:Nat} {c:SV} (hr:rdB x off sz=some row) (hj:row[j]?=some c):rdB x (off+j) 1=some [c]:=by
 cases x with
 | none=>trivial
 | some x =>
  cases x with
  | map va es=>trivial
  | arr cs ty =>
   rw[jhs,jcb] at hr ⊢
   obtain⟨h1,rfl⟩:=(ja8 _).1 hr
   have hjs:j<sz:=by
    rcases f0n j sz with h | h
    .exact h
    .rw [f0y (by simp;omega)] at hj;cases hj
   have hj2:cs[off+j]?=some c:=by
    rw[f2d,if_pos hjs,f1h] at hj;exact hj
   grind[f0n,f0y,ja8,f0w,f0b,Option.some.inj]
def mmV (mx:Bool) (x y:Option AV):Option AV:=ob x (fun a=>ob y (fun b=>jk5 a (fun k m=>jk5 b (fun k' n=>oif (Nat.beq (ikn k) (ikn k')) (some (.s (.int k (oif (ile m n) (oif mx n m) (oif mx m n))))) none))))
theorem qwe {mx:Bool} {x y:Od}:pop st fr (.mm mx x y)=mmV mx (ev st fr x) (ev st fr y):=rfl
theorem qme {a b:Int}:mmV false (some (.s (.int .i64 a))) (some (.s (.int .i64 b)))=some (vi (if a<=b then a else b)):=by
 show some (AV.s (.int .i64 (oif (ile a b) a b)))=_
 simp[jat,jem]
theorem qmf {a b:Int}:mmV true (some (.s (.int .i64 a))) (some (.s (.int .i64 b)))=some (vi (if a<=b then b else a)):=by
 show some (AV.s (.int .i64 (oif (ile a b) b a)))=_
 simp[jat,jem]
end
theorem q1t:type_of% @Int.cast_ofNat_Int:=@Int.cast_ofNat_Int
theorem q1u:type_of% @Int.natCast_zero:=@Int.natCast_zero
theorem q1v:type_of% @Int.natCast_one:=@Int.natCast_one
theorem q1w:type_of% @decide_eq_true_eq:=@decide_eq_true_eq
theorem q1x:type_of% @decide_eq_false_iff_not:=@decide_eq_false_iff_not
theorem q1y:type_of% @Bool.false_eq_true:=@Bool.false_eq_true
theorem q1z:type_of% @and_true:=@and_true
theorem q15:type_of% @true_and:=@true_and
theorem q16:type_of% @List.cons_append:=@List.cons_append
theorem q17:type_of% @List.nil_append:=@List.nil_append
theorem qwf:type_of% @decide_true:=@decide_true
theorem qwg:type_of% @decide_false:=@decide_false
theorem qwh:type_of% @Bool.not_true:=@Bool.not_true
theorem qwi:type_of% @Bool.not_false:=@Bool.not_false
theorem qwj:type_of% @Nat.add_zero:=@Nat.add_zero
theorem qwk:type_of% @Nat.zero_add:=@Nat.zero_add
theorem qwl:type_of% @Option.some.injEq:=@Option.some.injEq
theorem qwm:type_of% @Bool.true_eq_false:=@Bool.true_eq_false
theorem qwn:type_of% @not_true_eq_false:=@not_true_eq_false
theorem qwo:type_of% @not_false_eq_true:=@not_false_eq_true
theorem qwp:type_of% @Hp.next_push:=@Hp.next_push
theorem qwq:type_of% @Hp.next_put:=@Hp.next_put
theorem qwr:type_of% @Nat.add_assoc:=@Nat.add_assoc
attribute [go_sem] jst qfd j5h qhr qvt qra j4v jyn jyw jss jsm qrc j7n jyx jsr qlt qek qej qem qel j76 qei qre qlv qen qeo qlw qeq qep qes qer j77 jvz j78 jv0 j79 jqr j8a qlx jv1 jfz j4t j7j jdj j7k qdw jvs j4u j7l qrq qrs j8b j5c qly qet qru ql0 j8d qrr qrt j8c j5d qlz qeu qrv ql1 j8e qvu qvv qvw qlb qd3 jo8 jo9 jpa jpb jpc jpd ji8 ji9 qpy q1o jbl qvx j7q qd4 j4w j0q j4x qvy qlc qrf qrg qrh qd5 j4y j4z j40 j41 j7r qd6 j7s j7t j42 jvv jf0 j7u qld qle qwe qme qmf j7v ql5 j5e j7w qd7 j7x j8f jpe qlf j7y qrw qev ql2 qd8 qr1 qey qex ql4 j8g qew qd9 jvw qea j7z j43 jyp j70 qeb qec qrx j8h qed jso j44 jsp j72 qlg qlh jy2 jy1 jy3 qri qrj j73 qrk qrl qrm qry j8i qrz j8j qr5 qv4 qv5 qr6 qv6 ql8 ql9 qe5 qma j8o jyy qe6 j48 jja j49 qr7 qe7 qvz jhs jsq ql7 j8k qez qv2 qv3 qe0 qe1 j5g j8n qr2 j8l qe3 qr4 qe4 qlr qrp qlq qeh j45 jys qsh qwd qwb qwc qfa qfb jyz jic jyv j8p j8q qe8 qe9 qv8 qr8 qr9 qv9 qsa qwa qsb qsc qsd qse qsf qsg jy0 jpf jv2 qmc jyu jct q1t q1u q1v q1w q1x q1y q1z q15 q16 q17 qwf qwg qwh qwi qwj qwk qwl qwm qwn qwo qwp qwq qwr Int.reduceToNat reduceCtorEq Nat.reduceAdd Nat.reduceMul Nat.reduceEqDiff Int.reduceEq Int.reduceLT Int.reduceLE Int.reduceNeg Int.reduceAdd Int.reduceSub Int.reduceMul Int.reduceNe
attribute [go_sem ↓] reduceIte
end
end Go.Proofs.YtkpadfebkaangaaGreatDoor.Ev
