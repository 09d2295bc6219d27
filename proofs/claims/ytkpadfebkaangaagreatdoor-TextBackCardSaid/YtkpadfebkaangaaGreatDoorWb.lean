/- Functions with regions in which loads stand in no order. -/
import Derived.Test.YtkpadfebkaangaaGreatDoorBack3
import Derived.Test.YtkpadfebkaangaaGreatDoorLz
namespace Go.Proofs.YtkpadfebkaangaaGreatDoor.Ev
noncomputable section
open Go Go.RowKit
set_option linter.all false
variable {v:AV} {f:FuncId} {h':Hp} {vs:List AV} {js:List Nat}
section
variable {cl cl':FuncId->List AV->Hp->R} {st fr:List AV} {h:Hp} {F:Fns}
theorem jrq {op:IOp} (h:jyi op=true):∃ o,op=.a o/\o.calls=false:=by
 cases op with
 | p _=>cases h
 | a o=>cases o<;>first | exact⟨_,rfl,rfl⟩ | cases h
theorem j5o (hc:j7i cl cl') {es:List FE} {op:IOp} {x:AV×Hp×FE} (hr:jmp cl st fr es h op js=some x):jmp cl' st fr es h op js=some x:=by
 cases hl:jyi op with
 | true =>
  obtain⟨o,rfl,ho⟩:=jrq hl
  have e:∀ h,iop cl st fr h (.a o)=iop cl' st fr h (.a o):=fun h=>(ji6 ho).trans (ji6 ho).symm
  have e2:jmp cl st fr es h (.a o) js=jmp cl' st fr es h (.a o) js:=by unfold jmp;simp only[e]
  rw[←e2];exact hr
 | false =>
  obtain⟨p,h1,h2⟩:=jaa.1 hr
  refine jaa.2 ⟨p,jm3 hc h1,?_⟩
  rw[hl] at h2 ⊢
  exact h2
theorem jrr (hc:j7i cl cl') {es:List FE} {op:IOp} {g:Option (Nat×Bool)} {x:AV×Hp×FE} (hr:jqn cl st fr es h op g js=some x):jqn cl' st fr es h op g js=some x:=by
 obtain⟨b,h1,h2⟩:=jaa.1 hr
 refine jaa.2 ⟨b,h1,?_⟩
 cases b with
 | false=>exact h2
 | true=>exact j5o hc h2
theorem jl1 (hc:j7i cl cl'):∀ {l:List (IOper×List Nat)} {st:List AV} {es:List FE} {fr:List AV} {h:Hp} {s:St},jlv cl l st es fr h=some s->jlv cl' l st es fr h=some s
 | [],st,es,fr,h,s,hr=>hr
 | (.mk dst op g,m)::l,st,es,fr,h,s,hr=>by
  obtain⟨d,hd,h1⟩:=jaa.1 (show ob (jqn cl st fr es h op g m) (fun p=>jlv cl l (p.1::st) (p.2.2::es) (jc0 fr dst p.1) p.2.1)=some s from hr)
  exact jaa.2 ⟨d,jrr hc hd,jl1 hc h1⟩
theorem jgj {B:FuncId->Bool} {m m':Nat} (hm:m<=m'):∀ n n',n<=n'->∀ c s r,jk7 F m B n c s=some r->jk7 F m' B n' c s=some r:=by
 intro n
 induction n with
 | zero=>intro n' _ c s r hr;cases hr
 | succ n ih =>
  intro n' hn c s r hr
  obtain⟨k,rfl⟩:∃ k,n'=k+1:=⟨n' - 1,oa⟩
  have ih':=ih k oa
  cases c with
  | c ic=>exact jd0 F hm _ _ _ (show run F m ic s=some r from hr)
  | seq a b =>
   obtain⟨p,h1,h2⟩:=jaa.1 (show ob (jk7 F m B n a s) (fun p=>Ex.casesOn (motive:=fun _=>Option (Ex×St)) p.1 (jk7 F m B n b p.2) (fun _=>some p) (some p))=some r from hr)
   refine jaa.2 ⟨p,ih' _ _ _ h1,?_⟩
   obtain⟨e,s1⟩:=p
   cases e with
   | normal=>exact ih' _ _ _ h2
   | exit _=>exact h2
   | ret=>exact h2
  | block id b =>
   obtain⟨p,h1,h2⟩:=jaa.1 (show ob (jk7 F m B n b s) (fun p=>Ex.casesOn (motive:=fun _=>Option (Ex×St)) p.1 (some p) (fun k=>oif (Nat.beq k id) (some (.normal,p.2)) (some p)) (some p))=some r from hr)
   exact jaa.2 ⟨p,ih' _ _ _ h1,h2⟩
  | loop b =>
   obtain⟨p,h1,h2⟩:=jaa.1 (show ob (jk7 F m B n b s) (fun p=>Ex.casesOn (motive:=fun _=>Option (Ex×St)) p.1 (jk7 F m B n (.loop b) p.2) (fun _=>some p) (some p))=some r from hr)
   refine jaa.2 ⟨p,ih' _ _ _ h1,?_⟩
   obtain⟨e,s1⟩:=p
   cases e with
   | normal=>exact ih' _ _ _ h2
   | exit _=>exact h2
   | ret=>exact h2
  | cond c x y =>
   cases s with
   | mk fr h =>
   obtain⟨v,h1,h2⟩:=jaa.1 (show ob (ev [] fr c) (fun v=>jgt v (fun t=>jk7 F m B n (oif t x y) (.mk fr h)))=some r from hr)
   obtain⟨t,rfl,h3⟩:=jda h2
   exact jaa.2 ⟨_,h1,ih' _ _ _ h3⟩
  | flo l =>
   cases s with
   | mk fr h =>
   obtain⟨s1,h1,h2⟩:=jaa.1 (show ob (jlv (jbv F (run F m)) l [] [] fr h) (fun s=>some (.normal,s))=some r from hr)
   exact jaa.2 ⟨s1,jl1 (jcs (jd0 F hm)) h1,h2⟩
end
structure FB1 where
 f:FuncId
 ib:IB
 nargs:Nat
 nslots:Nat
 res:List IR
def jsx (F:Fns) (B:FuncId->Bool) (q:FB1) (vs:List AV) (h:Hp) (r:AV×Hp):Prop :=
 vs.length=q.nargs/\∃ n m e s,jk7 F m B n q.ib (.mk (vs++jdq q.nslots) h)=some (e,s)/\(e=.normal∨e=.ret)/\jcj s q.res=some r
theorem jsx.one {F:Fns} {B:FuncId->Bool} {q:FB1} {h:Hp} {r r':AV×Hp} (a:jsx F B q vs h r) (b:jsx F B q vs h r'):r=r':=by
 obtain⟨_,n,m,e,s,h1,_,h2⟩:=a
 obtain⟨_,n',m',e',s',h1',_,h2'⟩:=b
 have h3:=jgj (m:=m) (m':=max m m') (f1t _ _) n (max n n') (f1t _ _) _ _ _ h1
 have h4:=jgj (m:=m') (m':=max m m') (f1o _ _) n' (max n n') (f1o _ _) _ _ _ h1'
 rw[h3] at h4
 cases h4
 rw[h2] at h2'
 exact Option.some.inj h2'
open Classical in
def bxA (F:Fns) (B:FuncId->Bool) (q:FB1) (vs:List AV) (h:Hp):R:=if k:∃ r,jsx F B q vs h r then some (Classical.choose k) else none
theorem qfn {F:Fns} {B:FuncId->Bool} {q:FB1} {h:Hp} {r:AV×Hp} (k:jsx F B q vs h r):bxA F B q vs h=some r:=by
 unfold bxA
 rw[dif_pos ⟨r,k⟩]
 exact congrArg some ((Classical.choose_spec (p:=fun r=>jsx F B q vs h r) ⟨r,k⟩).one k)
theorem qfo {F:Fns} {B:FuncId->Bool} {q:FB1} {h:Hp} {r:AV×Hp} (k:bxA F B q vs h=some r):jsx F B q vs h r:=by
 unfold bxA at k
 split at k
 .rename_i h1
  cases k
  exact Classical.choose_spec h1
 .cases k
def BX (B:FuncId->Bool) (q:FB1) (F:Fns):Fns:=.mk (j4i F) (fun f vs h=>Bool.rec (jc1 F f vs h) (bxA F B q vs h) (Nat.beq f q.f))
theorem qzt {B:FuncId->Bool} {q:FB1} {F:Fns} {h:Hp} {r:AV×Hp} (k:jsx F B q vs h r):jc1 (BX B q F) q.f vs h=some r:=by
 show Bool.rec (motive:=fun _=>R) (jc1 F q.f vs h) (bxA F B q vs h) (Nat.beq q.f q.f)=_
 rw[f1w]
 exact qfn k
theorem jg7 {B:FuncId->Bool} {q:FB1} {F:Fns} {h:Hp} (hf:Nat.beq f q.f=false):jc1 (BX B q F) f vs h=jc1 F f vs h:=by
 show Bool.rec (motive:=fun _=>R) (jc1 F f vs h) (bxA F B q vs h) (Nat.beq f q.f)=_
 rw[hf]
structure FbOk (P:Program) (T:Tr TI) (q:FB1):Prop where
 ok:qky P q.f
 ex:∃ fn b acc fl,P.funcs[q.f]?=some fn/\fn.body=some b/\q.nargs<=fn.ntmps/\cB T fl (j31 0 q.nargs++acc) fn.ntmps b=some q.ib/\qc5 T (j31 0 q.nargs++acc) fn.results.toList=some q.res
theorem j0z {P:Program} {A:Nat->Int} {T:Tr TI} {B:FuncId->Bool} {q:FB1} {F:Fns} (env:Env P A T F) (hB:∀ f,B f=true->qus P f) (hq:FbOk P T q):Env P A T (BX B q F) where
 tys:=env.tys
 mix:=env.mix
 fn:=env.fn
 ext:=fun f vs h v h' hx=>by
  cases hf:Nat.beq f q.f with
  | false=>rw[jg7 hf] at hx;exact env.ext f vs h v h' hx
  | true =>
   obtain rfl:=f0k hf
   have hx':bxA F B q vs h=some (v,h'):=by
    have e:jc1 (BX B q F) q.f vs h=Bool.rec (motive:=fun _=>R) (jc1 F q.f vs h) (bxA F B q vs h) (Nat.beq q.f q.f):=rfl
    rw[e,f1w] at hx
    exact hx
   obtain⟨hl,n,m,e,s,h1,h2,h3⟩:=qfo hx'
   obtain⟨hok,fn,b,acc,fl,g1,g2,g3,g4,g5⟩:=hq
   refine⟨hok,fun k=>?_,qvq env hB g1 g2 g3 g4 g5 hl h1 h2 h3⟩
   obtain⟨fr',h5,rfl,a⟩:=qdu (fun f vs h v h' hx=>(env.ext f vs h v h' hx).2.1) _ _ _ _ _ _ h1 k
   obtain⟨rfl,_⟩:=jgw h3
   exact a
def WB (F:Fns) (B:FuncId->Bool) (c:IB) (s:St) (Q:Ex->St->Prop):Prop:=∃ n m e s',jk7 F m B n c s=some (e,s')/\Q e s'
def WL (F:Fns) (l:List (IOper×List Nat)) (st:List AV) (es:List FE) (fr:List AV) (h:Hp) (Q:Ex->St->Prop):Prop:=∃ n s',jlv (jbv F (run F n)) l st es fr h=some s'/\Q .normal s'
section
variable {F:Fns} {B:FuncId->Bool} {s:St} {st fr:List AV} {es:List FE} {h:Hp} {Q:Ex->St->Prop}
theorem WB.imp {c:IB} {Q':Ex->St->Prop} (k:WB F B c s Q) (hq:∀ e s,Q e s->Q' e s):WB F B c s Q':=let ⟨n,m,e,s',h1,h2⟩:=k;⟨n,m,e,s',h1,hq _ _ h2⟩
theorem WB.c {ic:IC} (k:W F ic s Q):WB F B (.c ic) s Q:=let ⟨m,e,s',h1,h2⟩:=k;⟨1,m,e,s',h1,h2⟩
theorem WB.seq {a b:IB} (k:WB F B a s (fun e s=>Ex.casesOn (motive:=fun _=>Prop) e (WB F B b s Q) (fun k=>Q (.exit k) s) (Q .ret s))):WB F B (.seq a b) s Q:=by
 obtain⟨n,m,e,s',h1,h2⟩:=k
 cases e with
 | normal =>
  obtain⟨n',m',e2,s2,h3,h4⟩:=h2
  exact⟨max n n'+1,max m m',e2,s2,jaa.2 ⟨_,jgj (f1t m m') _ _ (f1t n n') _ _ _ h1,jgj (f1o m m') _ _ (f1o n n') _ _ _ h3⟩,h4⟩
 | exit k=>exact⟨n+1,m,_,_,jaa.2 ⟨_,h1,rfl⟩,h2⟩
 | ret=>exact⟨n+1,m,_,_,jaa.2 ⟨_,h1,rfl⟩,h2⟩
theorem WB.loop {b:IB} (k:WB F B b s (fun e s=>Ex.casesOn (motive:=fun _=>Prop) e (WB F B (.loop b) s Q) (fun k=>Q (.exit k) s) (Q .ret s))):WB F B (.loop b) s Q:=by
 obtain⟨n,m,e,s',h1,h2⟩:=k
 cases e with
 | normal =>
  obtain⟨n',m',e2,s2,h3,h4⟩:=h2
  exact⟨max n n'+1,max m m',e2,s2,jaa.2 ⟨_,jgj (f1t m m') _ _ (f1t n n') _ _ _ h1,jgj (f1o m m') _ _ (f1o n n') _ _ _ h3⟩,h4⟩
 | exit k=>exact⟨n+1,m,_,_,jaa.2 ⟨_,h1,rfl⟩,h2⟩
 | ret=>exact⟨n+1,m,_,_,jaa.2 ⟨_,h1,rfl⟩,h2⟩
theorem WB.block {id:Nat} {b:IB} (k:WB F B b s (qdv id Q)):WB F B (.block id b) s Q:=by
 obtain⟨n,m,e,s',h1,h2⟩:=k
 cases e with
 | normal=>exact⟨n+1,m,_,_,jaa.2 ⟨_,h1,rfl⟩,h2⟩
 | exit k =>
  have h3:if k=id then Q .normal s' else Q (.exit k) s':=h2
  have key:oif (Nat.beq k id) (some (Ex.normal,s')) (some (.exit k,s'))=if k=id then some (.normal,s') else some (.exit k,s'):=by
   rw[jat];congr 1;exact jiu k id
  split at h3
  .rename_i hk
   exact⟨n+1,m,_,_,jaa.2 ⟨_,h1,key.trans (if_pos hk)⟩,h3⟩
  .rename_i hk
   exact⟨n+1,m,_,_,jaa.2 ⟨_,h1,key.trans (if_neg hk)⟩,h3⟩
 | ret=>exact⟨n+1,m,_,_,jaa.2 ⟨_,h1,rfl⟩,h2⟩
theorem WB.flo {l:List (IOper×List Nat)} (k:WL F l [] [] fr h Q):WB F B (.flo l) (.mk fr h) Q:=by
 obtain⟨n,s',h1,h2⟩:=k
 exact⟨1,n,_,_,jaa.2 ⟨_,h1,rfl⟩,h2⟩
theorem WL.nil (k:Q .normal (.mk fr h)):WL F [] st es fr h Q:=⟨0,_,rfl,k⟩
theorem WL.cons {dst:Option Nat} {op:IOp} {g:Option (Nat×Bool)} {l:List (IOper×List Nat)} (k:∃ n v h' x,jqn (jbv F (run F n)) st fr es h op g js=some (v,h',x)/\WL F l (v::st) (x::es) (jc0 fr dst v) h' Q):WL F ((.mk dst op g,js)::l) st es fr h Q:=by
 obtain⟨n,v,h',x,h1,m,s',h2,h3⟩:=k
 exact⟨max n m,s',jaa.2 ⟨(v,h',x),jrr (jcs (jd0 F (f1t n m))) h1,jl1 (jcs (jd0 F (f1o n m))) h2⟩,h3⟩
def fpE (h:Hp) (v:AV):FE:=.mk true (fun _=>some v) h v
def flE (st fr:List AV) (o:AO) (h:Hp) (v:AV):FE:=.mk true (fun h'=>ob (jd8 st fr h' o) (fun q=>some q.1)) h v
def foE (h:Hp):FE:=.mk false (fun _=>none) h .undef
theorem WL.pure {dst:Option Nat} {o:PO} {l:List (IOper×List Nat)} (hv:pop st fr o=some v) (k:WL F l (v::st) (fpE h v::es) (jc0 fr dst v) h Q):WL F ((.mk dst (.p o) none,js)::l) st es fr h Q :=
 WL.cons ⟨0,v,h,fpE h v,jaa.2 ⟨true,rfl,jaa.2 ⟨(v,h),jaa.2 ⟨v,hv,rfl⟩,rfl⟩⟩,k⟩
theorem WL.ld {dst:Option Nat} {o:AO} {l:List (IOper×List Nat)} (ho:jyi (.a o)=true) (hv:jd8 st fr h o=some (v,h')) (hj:∀ j∈js,∃ e,es[j]?=some e/\(e.ld=true∨∃ h2,jd8 st fr e.h o=some (v,h2)))
 (hn:eqN v v=true) (k:WL F l (v::st) (flE st fr o h v::es) (jc0 fr dst v) h Q):WL F ((.mk dst (.a o) none,js)::l) st es fr h Q:=by
 obtain⟨o',ho',hc⟩:=jrq ho
 cases ho'
 have e:∀ cl h,iop cl st fr h (.a o)=jd8 st fr h o:=fun cl h=>ji6 hc
 refine WL.cons ⟨0,v,h,flE st fr o h v,jaa.2 ⟨true,rfl,?_⟩,k⟩
 show jmp _ st fr es h (.a o) js=_
 unfold jmp
 simp only[e]
 rw[hv]
 show Bool.rec (motive:=fun _=>Option (AV×Hp×FE)) _ (oif (jyj (fun e=>oif e.ld true (j4l (ob (jd8 st fr e.h o) (fun q=>some q.1)) v)) es js) (some (v,h,FE.mk true (fun h'=>ob (jd8 st fr h' o) (fun q=>some q.1)) h v)) none) (jyi (.a o))=_
 rw[ho]
 refine jae.2 ⟨?_,rfl⟩
 clear k
 induction js with
 | nil=>rfl
 | cons j js ih =>
  obtain⟨x,hx,h1⟩:=hj j se
  show Option.rec (motive:=fun _=>Bool) false (fun e=>oif (oif e.ld true (j4l (ob (jd8 st fr e.h o) (fun q=>some q.1)) v)) (jyj _ es js) false) (je6 es j)=true
  rw[jc3,hx]
  show oif (oif x.ld true (j4l (ob (jd8 st fr x.h o) (fun q=>some q.1)) v)) (jyj _ es js) false=true
  rw[show oif x.ld true (j4l (ob (jd8 st fr x.h o) (fun q=>some q.1)) v)=true by
   rcases h1 with h1 | ⟨h2,h1⟩
   .rw [h1];rfl
   .rw [h1,jat]
    split
    .rfl
    .exact hn]
  exact ih (fun j hj'=>hj j (by simp[hj']))
theorem j85 (hj:∀ j∈js,∃ e,es[j]?=some e/\e.ld=true/\e.ev h'=some e.v/\eqN e.v e.v=true):jyj (fun e=>oif e.ld (j4l (e.ev h') e.v) false) es js=true:=by
 induction js with
 | nil=>rfl
 | cons j js ih =>
  obtain⟨x,hx,h1,h2,h3⟩:=hj j se
  show Option.rec (motive:=fun _=>Bool) false (fun e=>oif (oif e.ld (j4l (e.ev h') e.v) false) (jyj _ es js) false) (je6 es j)=true
  rw[jc3,hx]
  show oif (oif x.ld (j4l (x.ev h') x.v) false) (jyj _ es js) false=true
  rw[h1,h2]
  show oif (eqN x.v x.v) (jyj _ es js) false=true
  rw[h3]
  exact ih (fun j hj'=>hj j (by simp[hj']))
theorem WL.mem {dst:Option Nat} {o:AO} {l:List (IOper×List Nat)} (ho:jyi (.a o)=false) (hc:o.calls=false) (hv:jd8 st fr h o=some (v,h')) (hj:∀ j∈js,∃ e,es[j]?=some e/\e.ld=true/\e.ev h'=some e.v/\eqN e.v e.v=true)
 (k:WL F l (v::st) (foE h::es) (jc0 fr dst v) h' Q):WL F ((.mk dst (.a o) none,js)::l) st es fr h Q:=by
 have e:∀ cl h,iop cl st fr h (.a o)=jd8 st fr h o:=fun cl h=>ji6 hc
 refine WL.cons ⟨0,v,h',foE h,jaa.2 ⟨true,rfl,?_⟩,k⟩
 show jmp _ st fr es h (.a o) js=_
 unfold jmp
 simp only[e]
 rw[hv]
 show Bool.rec (motive:=fun _=>Option (AV×Hp×FE)) (oif (jyj (fun e=>oif e.ld (j4l (e.ev h') e.v) false) es js) (some (v,h',FE.mk false (fun _=>none) h .undef)) none) _ (jyi (.a o))=_
 rw[ho]
 exact jae.2 ⟨j85 hj,rfl⟩
theorem WL.call {dst:Option Nat} {us:List Od} {l:List (IOper×List Nat)} (hv:evs st fr us=some vs)
 (k:WC F f vs h (fun v h'=>(∀ j∈js,∃ e,es[j]?=some e/\e.ld=true/\e.ev h'=some e.v/\eqN e.v e.v=true)/\WL F l (v::st) (foE h::es) (jc0 fr dst v) h' Q)):WL F ((.mk dst (.a (.call f us)) none,js)::l) st es fr h Q:=by
 obtain⟨n,v,h',h1,h2,h3⟩:=k
 refine WL.cons ⟨n,v,h',foE h,jaa.2 ⟨true,rfl,?_⟩,h3⟩
 refine jaa.2 ⟨(v,h'),jaa.2 ⟨vs,hv,h1⟩,?_⟩
 exact jae.2 ⟨j85 h2,rfl⟩
theorem qfp {q:FB1} (hl:vs.length=q.nargs) {R:AV->Hp->Prop} (k:WB F B q.ib (.mk (vs++jdq q.nslots) h) (jqh q.res R)):∃ v h',jsx F B q vs h (v,h')/\R v h':=by
 obtain⟨n,m,e,s,h1,h2⟩:=k
 cases e with
 | normal =>
  obtain⟨p,h3,h4⟩:=(show obP (jcj s q.res) (fun p=>R p.1 p.2) from h2)
  exact⟨p.1,p.2,⟨hl,n,m,_,s,h1,.inl rfl,h3⟩,h4⟩
 | exit k=>exact h2.elim
 | ret =>
  obtain⟨p,h3,h4⟩:=(show obP (jcj s q.res) (fun p=>R p.1 p.2) from h2)
  exact⟨p.1,p.2,⟨hl,n,m,_,s,h1,.inr rfl,h3⟩,h4⟩
theorem qfq {q:FB1} (hl:vs.length=q.nargs) {R:AV->Hp->Prop} (k:WB F B q.ib (.mk (vs++jdq q.nslots) h) (jqh q.res R)):WC (BX B q F) q.f vs h R:=by
 obtain⟨v,h',h1,h2⟩:=qfp hl k
 exact qhs (qzt h1) h2
end
end
end Go.Proofs.YtkpadfebkaangaaGreatDoor.Ev
