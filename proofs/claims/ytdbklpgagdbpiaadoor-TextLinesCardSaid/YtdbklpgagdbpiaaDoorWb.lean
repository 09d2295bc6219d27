/- Functions with regions in which loads stand in no order: their runs, whatever the fuel; such functions among what is answered. No program in sight. -/
import Derived.Test.YtdbklpgagdbpiaaDoorBack3
import Derived.Test.YtdbklpgagdbpiaaDoorOp
namespace Go.Proofs.YtdbklpgagdbpiaaDoor.Ev
noncomputable section
open Go Go.RowKit
set_option linter.all false
variable {v:AV} {f:FuncId} {h':Hp} {vs:List AV} {js:List Nat} {d n:Nat}
section
variable {cl cl':FuncId->List AV->Hp->R} {st fr:List AV} {h:Hp} {F:Fns}
theorem js8 {op:IOp} (h:j09 op=true):∃ o,op=.a o/\o.calls=false:=by
 cases op with
 | p _=>cases h
 | a o=>cases o<;>first | exact⟨_,rfl,rfl⟩ | cases h
theorem j5z (hc:j7j cl cl') {es:List FE} {op:IOp} {x:AV×Hp×FE} (hr:jn0 cl st fr es h op js=some x):jn0 cl' st fr es h op js=some x:=by
 cases hl:j09 op with
 | true =>
  obtain⟨o,rfl,ho⟩:=js8 hl
  have e:∀ h,iop cl st fr h (.a o)=iop cl' st fr h (.a o):=fun h=>(jjn ho).trans (jjn ho).symm
  have e2:jn0 cl st fr es h (.a o) js=jn0 cl' st fr es h (.a o) js:=by unfold jn0;simp only[e]
  rw[←e2];exact hr
 | false =>
  obtain⟨p,h1,h2⟩:=jaa.1 hr
  refine jaa.2 ⟨p,jn8 hc h1,?_⟩
  rw[hl] at h2 ⊢
  exact h2
theorem js9 (hc:j7j cl cl') {es:List FE} {op:IOp} {g:Option (Nat×Bool)} {x:AV×Hp×FE} (hr:jr4 cl st fr es h op g js=some x):jr4 cl' st fr es h op g js=some x:=by
 obtain⟨b,h1,h2⟩:=jaa.1 hr
 refine jaa.2 ⟨b,h1,?_⟩
 cases b with
 | false=>exact h2
 | true=>exact j5z hc h2
theorem jm7 (hc:j7j cl cl'):∀ {l:List (IOper×List Nat)} {st:List AV} {es:List FE} {fr:List AV} {h:Hp} {s:St},jm3 cl l st es fr h=some s->jm3 cl' l st es fr h=some s
 | [],st,es,fr,h,s,hr=>hr
 | (.mk dst op g,m)::l,st,es,fr,h,s,hr=>by
  obtain⟨d,hd,h1⟩:=jaa.1 (show ob (jr4 cl st fr es h op g m) (fun p=>jm3 cl l (p.1::st) (p.2.2::es) (jcn fr dst p.1) p.2.1)=some s from hr)
  exact jaa.2 ⟨d,js9 hc hd,jm7 hc h1⟩
theorem jq8 {m:Nat} (hn:n<=m) {ib:IC} {bs off b o N:Nat} {es:List SV}:∀ (k:Nat) (h h':Hp),rounds F n ib fr d bs off b o N es k h=some h'->rounds F m ib fr d bs off b o N es k h=some h'
 | 0,h,h',hr=>hr
 | j+1,h,h',hr=>by
  obtain⟨e,he,h1⟩:=jaa.1 (show ob (jec es j) (fun e=>ob (run F n ib (.mk (jr8 fr d (.s e)) h)) (fun p =>
   Ex.casesOn (motive:=fun _=>Option Hp) p.1 (St.casesOn (motive:=fun _=>Option Hp) p.2 (fun _ h'=>oif (j1d h' bs off b o N es) (rounds F n ib fr d bs off b o N es j h') none)) (fun _=>none) none))=some h' from hr)
  obtain⟨p,hp,h2⟩:=jaa.1 h1
  refine jaa.2 ⟨e,he,jaa.2 ⟨p,jdn F hn _ _ _ hp,?_⟩⟩
  obtain⟨ex,s⟩:=p
  cases ex with
  | normal =>
   cases s with
   | mk fr' h3 =>
    obtain⟨h4,h5⟩:=jab.1 (show oif (j1d h3 bs off b o N es) (rounds F n ib fr d bs off b o N es j h3) none=some h' from h2)
    exact jab.2 ⟨h4,jq8 hn j _ _ h5⟩
  | exit _=>cases h2
  | ret=>cases h2
theorem j1i {m:Nat} (hn:n<=m) {B:FuncId->Bool} {s:St} {x:Od} {ib:IC} {r:Ex×St} (hr:jq7 F n B s x d ib=some r):jq7 F m B s x d ib=some r:=by
 cases s with
 | mk fr h =>
  obtain⟨v,hv,h1⟩:=jaa.1 (show ob (ev [] fr x) (fun v=>jwu v (fun gf caps=>oif (B gf) (List.casesOn (motive:=fun _=>Option (Ex×St)) caps none (fun p r=>List.casesOn (motive:=fun _=>Option (Ex×St)) r (jsy F n fr h d ib p.1 p.2) (fun _ _=>none))) none))=some r from hr)
  obtain⟨gf,caps,rfl,h2⟩:=jee h1
  refine jaa.2 ⟨_,hv,?_⟩
  show oif (B gf) (List.casesOn (motive:=fun _=>Option (Ex×St)) caps none (fun p r=>List.casesOn (motive:=fun _=>Option (Ex×St)) r (jsy F m fr h d ib p.1 p.2) (fun _ _=>none))) none=some r
  obtain⟨h3,h4⟩:=jab.1 h2
  refine jab.2 ⟨h3,?_⟩
  match caps,h4 with
  | [p],h4 =>
   obtain⟨c,hc,h5⟩:=jaa.1 (show jsy F n fr h d ib p.1 p.2=some r from h4)
   refine jaa.2 ⟨c,hc,?_⟩
   match c,h5 with
   | v0::rest,h5 =>
    obtain⟨⟨b,o,N,es⟩,h6,h7⟩:=jaa.1 (show ob (qdl h v0) (fun q =>
     oif (Nat.ble 1 q.2.2.1) (oif (Nat.ble q.2.2.1 1000000) (oif (j1d h p.1 p.2 q.1 q.2.1 q.2.2.1 q.2.2.2) (ob (rounds F n ib fr d p.1 p.2 q.1 q.2.1 q.2.2.1 q.2.2.2 q.2.2.1 h) (fun h'=>some (.normal,.mk fr h'))) none) none) none)=some r from h5)
    obtain⟨h8,h9⟩:=jab.1 h7
    obtain⟨h10,h11⟩:=jab.1 h9
    obtain⟨h12,h13⟩:=jab.1 h11
    obtain⟨hf,h15,h16⟩:=jaa.1 h13
    exact jaa.2 ⟨_,h6,jab.2 ⟨h8,jab.2 ⟨h10,jab.2 ⟨h12,jaa.2 ⟨hf,jq8 hn _ _ _ h15,h16⟩⟩⟩⟩⟩
   | [],h5=>cases h5
  | [],h4=>cases h4
  | _::_::_,h4=>cases h4
theorem jg8 {B:FuncId->Bool} {m m':Nat} (hm:m<=m'):∀ n n',n<=n'->∀ c s r,jns F m B n c s=some r->jns F m' B n' c s=some r:=by
 intro n
 induction n with
 | zero=>intro n' _ c s r hr;cases hr
 | succ n ih =>
  intro n' hn c s r hr
  obtain⟨k,rfl⟩:∃ k,n'=k+1:=⟨n' - 1,by omega⟩
  have ih':=ih k (by omega)
  cases c with
  | c ic=>exact jdn F hm _ _ _ (show run F m ic s=some r from hr)
  | seq a b =>
   obtain⟨p,h1,h2⟩:=jaa.1 (show ob (jns F m B n a s) (fun p=>Ex.casesOn (motive:=fun _=>Option (Ex×St)) p.1 (jns F m B n b p.2) (fun _=>some p) (some p))=some r from hr)
   refine jaa.2 ⟨p,ih' _ _ _ h1,?_⟩
   obtain⟨e,s1⟩:=p
   cases e with
   | normal=>exact ih' _ _ _ h2
   | exit _=>exact h2
   | ret=>exact h2
  | block id b =>
   obtain⟨p,h1,h2⟩:=jaa.1 (show ob (jns F m B n b s) (fun p=>Ex.casesOn (motive:=fun _=>Option (Ex×St)) p.1 (some p) (fun k=>oif (Nat.beq k id) (some (.normal,p.2)) (some p)) (some p))=some r from hr)
   exact jaa.2 ⟨p,ih' _ _ _ h1,h2⟩
  | loop b =>
   obtain⟨p,h1,h2⟩:=jaa.1 (show ob (jns F m B n b s) (fun p=>Ex.casesOn (motive:=fun _=>Option (Ex×St)) p.1 (jns F m B n (.loop b) p.2) (fun _=>some p) (some p))=some r from hr)
   refine jaa.2 ⟨p,ih' _ _ _ h1,?_⟩
   obtain⟨e,s1⟩:=p
   cases e with
   | normal=>exact ih' _ _ _ h2
   | exit _=>exact h2
   | ret=>exact h2
  | back x d ib=>exact j1i hm (show jq7 F m B s x d ib=some r from hr)
  | cond c x y =>
   cases s with
   | mk fr h =>
   obtain⟨v,h1,h2⟩:=jaa.1 (show ob (ev [] fr c) (fun v=>jhe v (fun t=>jns F m B n (oif t x y) (.mk fr h)))=some r from hr)
   obtain⟨t,rfl,h3⟩:=jcx h2
   exact jaa.2 ⟨_,h1,ih' _ _ _ h3⟩
  | flo l =>
   cases s with
   | mk fr h =>
   obtain⟨s1,h1,h2⟩:=jaa.1 (show ob (jm3 (jbr F (run F m)) l [] [] fr h) (fun s=>some (.normal,s))=some r from hr)
   exact jaa.2 ⟨s1,jm7 (jcy (jdn F hm)) h1,h2⟩
end
structure FB1 where
 f:FuncId
 ib:IB
 nargs:Nat
 nslots:Nat
 res:List IR
def jvr (F:Fns) (B:FuncId->Bool) (q:FB1) (vs:List AV) (h:Hp) (r:AV×Hp):Prop :=
 vs.length=q.nargs/\∃ n m e s,jns F m B n q.ib (.mk (vs++jdg q.nslots) h)=some (e,s)/\(e=.normal∨e=.ret)/\jco s q.res=some r
theorem jvr.one {F:Fns} {B:FuncId->Bool} {q:FB1} {h:Hp} {r r':AV×Hp} (a:jvr F B q vs h r) (b:jvr F B q vs h r'):r=r':=by
 obtain⟨_,n,m,e,s,h1,_,h2⟩:=a
 obtain⟨_,n',m',e',s',h1',_,h2'⟩:=b
 have h3:=jg8 (m:=m) (m':=max m m') (f1v _ _) n (max n n') (f1v _ _) _ _ _ h1
 have h4:=jg8 (m:=m') (m':=max m m') (f1o _ _) n' (max n n') (f1o _ _) _ _ _ h1'
 rw[h3] at h4
 cases h4
 rw[h2] at h2'
 exact Option.some.inj h2'
open Classical in
def bxA (F:Fns) (B:FuncId->Bool) (q:FB1) (vs:List AV) (h:Hp):R:=if k:∃ r,jvr F B q vs h r then some (Classical.choose k) else none
theorem qdt {F:Fns} {B:FuncId->Bool} {q:FB1} {h:Hp} {r:AV×Hp} (k:jvr F B q vs h r):bxA F B q vs h=some r:=by
 unfold bxA
 rw[dif_pos ⟨r,k⟩]
 exact congrArg some ((Classical.choose_spec (p:=fun r=>jvr F B q vs h r) ⟨r,k⟩).one k)
theorem qdu {F:Fns} {B:FuncId->Bool} {q:FB1} {h:Hp} {r:AV×Hp} (k:bxA F B q vs h=some r):jvr F B q vs h r:=by
 unfold bxA at k
 split at k
 .rename_i h1
  cases k
  exact Classical.choose_spec h1
 .cases k
def BX (B:FuncId->Bool) (q:FB1) (F:Fns):Fns:=.mk (qcx F) (fun f vs h=>Bool.rec (motive:=fun _=>R) (jdx F f vs h) (bxA F B q vs h) (Nat.beq f q.f))
theorem qub {B:FuncId->Bool} {q:FB1} {F:Fns} {h:Hp} {r:AV×Hp} (k:jvr F B q vs h r):jdx (BX B q F) q.f vs h=some r:=by
 show Bool.rec (motive:=fun _=>R) (jdx F q.f vs h) (bxA F B q vs h) (Nat.beq q.f q.f)=_
 rw[f1l]
 exact qdt k
theorem j3f {B:FuncId->Bool} {q:FB1} {F:Fns} {h:Hp} (hf:Nat.beq f q.f=false):jdx (BX B q F) f vs h=jdx F f vs h:=by
 show Bool.rec (motive:=fun _=>R) (jdx F f vs h) (bxA F B q vs h) (Nat.beq f q.f)=_
 rw[hf]
structure FbOk (P:Program) (T:Tr TI) (q:FB1):Prop where
 ok:qe5 P q.f
 ex:∃ fn b acc fl,P.funcs[q.f]?=some fn/\fn.body=some b/\q.nargs<=fn.ntmps/\cB T fl (j4t 0 q.nargs++acc) fn.ntmps b=some q.ib/\qck T (j4t 0 q.nargs++acc) fn.results.toList=some q.res
theorem qp4 {P:Program} {A:Nat->Int} {T:Tr TI} {B:FuncId->Bool} {q:FB1} {F:Fns} (env:Env P A T F) (hB:∀ f,B f=true->qom P f) (hq:FbOk P T q):Env P A T (BX B q F) where
 tys:=env.tys
 mix:=env.mix
 fn:=env.fn
 ext:=fun f vs h v h' hx=>by
  cases hf:Nat.beq f q.f with
  | false=>rw[j3f hf] at hx;exact env.ext f vs h v h' hx
  | true =>
   obtain rfl:=f0i hf
   have hx':bxA F B q vs h=some (v,h'):=by
    have e:jdx (BX B q F) q.f vs h=Bool.rec (motive:=fun _=>R) (jdx F q.f vs h) (bxA F B q vs h) (Nat.beq q.f q.f):=rfl
    rw[e,f1l] at hx
    exact hx
   obtain⟨hl,n,m,e,s,h1,h2,h3⟩:=qdu hx'
   obtain⟨hok,fn,b,acc,fl,g1,g2,g3,g4,g5⟩:=hq
   refine⟨hok,fun k=>?_,qt7 env hB g1 g2 g3 g4 g5 hl h1 h2 h3⟩
   obtain⟨fr',h5,rfl,a⟩:=qdn (fun f vs h v h' hx=>(env.ext f vs h v h' hx).2.1) _ _ _ _ _ _ h1 k
   obtain⟨rfl,_⟩:=jhk h3
   exact a
def WB (F:Fns) (B:FuncId->Bool) (c:IB) (s:St) (Q:Ex->St->Prop):Prop:=∃ n m e s',jns F m B n c s=some (e,s')/\Q e s'
def WL (F:Fns) (l:List (IOper×List Nat)) (st:List AV) (es:List FE) (fr:List AV) (h:Hp) (Q:Ex->St->Prop):Prop:=∃ n s',jm3 (jbr F (run F n)) l st es fr h=some s'/\Q .normal s'
section
variable {F:Fns} {B:FuncId->Bool} {s:St} {st fr:List AV} {es:List FE} {h:Hp} {Q:Ex->St->Prop}
theorem WB.c {ic:IC} (k:W F ic s Q):WB F B (.c ic) s Q:=let ⟨m,e,s',h1,h2⟩:=k;⟨1,m,e,s',h1,h2⟩
theorem WB.seq {a b:IB} (k:WB F B a s (fun e s=>Ex.casesOn (motive:=fun _=>Prop) e (WB F B b s Q) (fun k=>Q (.exit k) s) (Q .ret s))):WB F B (.seq a b) s Q:=by
 obtain⟨n,m,e,s',h1,h2⟩:=k
 cases e with
 | normal =>
  obtain⟨n',m',e2,s2,h3,h4⟩:=h2
  exact⟨max n n'+1,max m m',e2,s2,jaa.2 ⟨_,jg8 (f1v m m') _ _ (f1v n n') _ _ _ h1,jg8 (f1o m m') _ _ (f1o n n') _ _ _ h3⟩,h4⟩
 | exit k=>exact⟨n+1,m,_,_,jaa.2 ⟨_,h1,rfl⟩,h2⟩
 | ret=>exact⟨n+1,m,_,_,jaa.2 ⟨_,h1,rfl⟩,h2⟩
theorem WB.loop {b:IB} (k:WB F B b s (fun e s=>Ex.casesOn (motive:=fun _=>Prop) e (WB F B (.loop b) s Q) (fun k=>Q (.exit k) s) (Q .ret s))):WB F B (.loop b) s Q:=by
 obtain⟨n,m,e,s',h1,h2⟩:=k
 cases e with
 | normal =>
  obtain⟨n',m',e2,s2,h3,h4⟩:=h2
  exact⟨max n n'+1,max m m',e2,s2,jaa.2 ⟨_,jg8 (f1v m m') _ _ (f1v n n') _ _ _ h1,jg8 (f1o m m') _ _ (f1o n n') _ _ _ h3⟩,h4⟩
 | exit k=>exact⟨n+1,m,_,_,jaa.2 ⟨_,h1,rfl⟩,h2⟩
 | ret=>exact⟨n+1,m,_,_,jaa.2 ⟨_,h1,rfl⟩,h2⟩
theorem WB.block {id:Nat} {b:IB} (k:WB F B b s (qh7 id Q)):WB F B (.block id b) s Q:=by
 obtain⟨n,m,e,s',h1,h2⟩:=k
 cases e with
 | normal=>exact⟨n+1,m,_,_,jaa.2 ⟨_,h1,rfl⟩,h2⟩
 | exit k =>
  have h3:if k=id then Q .normal s' else Q (.exit k) s':=h2
  have key:oif (Nat.beq k id) (some (Ex.normal,s')) (some (.exit k,s'))=if k=id then some (.normal,s') else some (.exit k,s'):=by
   rw[jap];congr 1;exact jgt k id
  split at h3
  .rename_i hk
   exact⟨n+1,m,_,_,jaa.2 ⟨_,h1,key.trans (if_pos hk)⟩,h3⟩
  .rename_i hk
   exact⟨n+1,m,_,_,jaa.2 ⟨_,h1,key.trans (if_neg hk)⟩,h3⟩
 | ret=>exact⟨n+1,m,_,_,jaa.2 ⟨_,h1,rfl⟩,h2⟩
theorem WB.flo {l:List (IOper×List Nat)} (k:WL F l [] [] fr h Q):WB F B (.flo l) (.mk fr h) Q:=by
 obtain⟨n,s',h1,h2⟩:=k
 exact⟨1,n,_,_,jaa.2 ⟨_,h1,rfl⟩,h2⟩
theorem WL.nil (k:Q .normal (.mk fr h)):WL F [] st es fr h Q:=⟨0,_,rfl,k⟩
theorem WL.cons {dst:Option Nat} {op:IOp} {g:Option (Nat×Bool)} {l:List (IOper×List Nat)} (k:∃ n v h' x,jr4 (jbr F (run F n)) st fr es h op g js=some (v,h',x)/\WL F l (v::st) (x::es) (jcn fr dst v) h' Q):WL F ((.mk dst op g,js)::l) st es fr h Q:=by
 obtain⟨n,v,h',x,h1,m,s',h2,h3⟩:=k
 exact⟨max n m,s',jaa.2 ⟨(v,h',x),js9 (jcy (jdn F (f1v n m))) h1,jm7 (jcy (jdn F (f1o n m))) h2⟩,h3⟩
def fpE (h:Hp) (v:AV):FE:=.mk true (fun _=>some v) h v
def flE (st fr:List AV) (o:AO) (h:Hp) (v:AV):FE:=.mk true (fun h'=>ob (jdy st fr h' o) (fun q=>some q.1)) h v
def foE (h:Hp):FE:=.mk false (fun _=>none) h .undef
theorem WL.pure {dst:Option Nat} {o:PO} {l:List (IOper×List Nat)} (hv:pop st fr o=some v) (k:WL F l (v::st) (fpE h v::es) (jcn fr dst v) h Q):WL F ((.mk dst (.p o) none,js)::l) st es fr h Q :=
 WL.cons ⟨0,v,h,fpE h v,jaa.2 ⟨true,rfl,jaa.2 ⟨(v,h),jaa.2 ⟨v,hv,rfl⟩,rfl⟩⟩,k⟩
theorem WL.ld {dst:Option Nat} {o:AO} {l:List (IOper×List Nat)} (ho:j09 (.a o)=true) (hv:jdy st fr h o=some (v,h')) (hj:∀ j∈js,∃ e,es[j]?=some e/\(e.ld=true∨∃ h2,jdy st fr e.h o=some (v,h2)))
 (hn:eqN v v=true) (k:WL F l (v::st) (flE st fr o h v::es) (jcn fr dst v) h Q):WL F ((.mk dst (.a o) none,js)::l) st es fr h Q:=by
 obtain⟨o',ho',hc⟩:=js8 ho
 cases ho'
 have e:∀ cl h,iop cl st fr h (.a o)=jdy st fr h o:=fun cl h=>jjn hc
 refine WL.cons ⟨0,v,h,flE st fr o h v,jaa.2 ⟨true,rfl,?_⟩,k⟩
 show jn0 _ st fr es h (.a o) js=_
 unfold jn0
 simp only[e]
 rw[hv]
 show Bool.rec (motive:=fun _=>Option (AV×Hp×FE)) _ (oif (jxx (fun e=>oif e.ld true (j1a (ob (jdy st fr e.h o) (fun q=>some q.1)) v)) es js) (some (v,h,FE.mk true (fun h'=>ob (jdy st fr h' o) (fun q=>some q.1)) h v)) none) (j09 (.a o))=_
 rw[ho]
 refine jab.2 ⟨?_,rfl⟩
 clear k
 induction js with
 | nil=>rfl
 | cons j js ih =>
  obtain⟨x,hx,h1⟩:=hj j (by simp)
  show Option.rec (motive:=fun _=>Bool) false (fun e=>oif (oif e.ld true (j1a (ob (jdy st fr e.h o) (fun q=>some q.1)) v)) (jxx _ es js) false) (jec es j)=true
  rw[jcl,hx]
  show oif (oif x.ld true (j1a (ob (jdy st fr x.h o) (fun q=>some q.1)) v)) (jxx _ es js) false=true
  rw[show oif x.ld true (j1a (ob (jdy st fr x.h o) (fun q=>some q.1)) v)=true by
   rcases h1 with h1 | ⟨h2,h1⟩
   .rw [h1];rfl
   .rw [h1,jap]
    split
    .rfl
    .exact hn]
  exact ih (fun j hj'=>hj j (by simp[hj']))
theorem j9g (hj:∀ j∈js,∃ e,es[j]?=some e/\e.ld=true/\e.ev h'=some e.v/\eqN e.v e.v=true):jxx (fun e=>oif e.ld (j1a (e.ev h') e.v) false) es js=true:=by
 induction js with
 | nil=>rfl
 | cons j js ih =>
  obtain⟨x,hx,h1,h2,h3⟩:=hj j (by simp)
  show Option.rec (motive:=fun _=>Bool) false (fun e=>oif (oif e.ld (j1a (e.ev h') e.v) false) (jxx _ es js) false) (jec es j)=true
  rw[jcl,hx]
  show oif (oif x.ld (j1a (x.ev h') x.v) false) (jxx _ es js) false=true
  rw[h1,h2]
  show oif (eqN x.v x.v) (jxx _ es js) false=true
  rw[h3]
  exact ih (fun j hj'=>hj j (by simp[hj']))
theorem WL.mem {dst:Option Nat} {o:AO} {l:List (IOper×List Nat)} (ho:j09 (.a o)=false) (hc:o.calls=false) (hv:jdy st fr h o=some (v,h')) (hj:∀ j∈js,∃ e,es[j]?=some e/\e.ld=true/\e.ev h'=some e.v/\eqN e.v e.v=true)
 (k:WL F l (v::st) (foE h::es) (jcn fr dst v) h' Q):WL F ((.mk dst (.a o) none,js)::l) st es fr h Q:=by
 have e:∀ cl h,iop cl st fr h (.a o)=jdy st fr h o:=fun cl h=>jjn hc
 refine WL.cons ⟨0,v,h',foE h,jaa.2 ⟨true,rfl,?_⟩,k⟩
 show jn0 _ st fr es h (.a o) js=_
 unfold jn0
 simp only[e]
 rw[hv]
 show Bool.rec (motive:=fun _=>Option (AV×Hp×FE)) (oif (jxx (fun e=>oif e.ld (j1a (e.ev h') e.v) false) es js) (some (v,h',FE.mk false (fun _=>none) h .undef)) none) _ (j09 (.a o))=_
 rw[ho]
 exact jab.2 ⟨j9g hj,rfl⟩
theorem WL.call {dst:Option Nat} {us:List Od} {l:List (IOper×List Nat)} (hv:evs st fr us=some vs)
 (k:WC F f vs h (fun v h'=>(∀ j∈js,∃ e,es[j]?=some e/\e.ld=true/\e.ev h'=some e.v/\eqN e.v e.v=true)/\WL F l (v::st) (foE h::es) (jcn fr dst v) h' Q)):WL F ((.mk dst (.a (.call f us)) none,js)::l) st es fr h Q:=by
 obtain⟨n,v,h',h1,h2,h3⟩:=k
 refine WL.cons ⟨n,v,h',foE h,jaa.2 ⟨true,rfl,?_⟩,h3⟩
 refine jaa.2 ⟨(v,h'),jaa.2 ⟨vs,hv,h1⟩,?_⟩
 exact jab.2 ⟨j9g h2,rfl⟩
theorem qdv {q:FB1} (hl:vs.length=q.nargs) {R:AV->Hp->Prop} (k:WB F B q.ib (.mk (vs++jdg q.nslots) h) (qc5 q.res R)):∃ v h',jvr F B q vs h (v,h')/\R v h':=by
 obtain⟨n,m,e,s,h1,h2⟩:=k
 cases e with
 | normal =>
  obtain⟨p,h3,h4⟩:=(show obP (jco s q.res) (fun p=>R p.1 p.2) from h2)
  exact⟨p.1,p.2,⟨hl,n,m,_,s,h1,.inl rfl,h3⟩,h4⟩
 | exit k=>exact h2.elim
 | ret =>
  obtain⟨p,h3,h4⟩:=(show obP (jco s q.res) (fun p=>R p.1 p.2) from h2)
  exact⟨p.1,p.2,⟨hl,n,m,_,s,h1,.inr rfl,h3⟩,h4⟩
theorem quc {q:FB1} (hl:vs.length=q.nargs) {R:AV->Hp->Prop} (k:WB F B q.ib (.mk (vs++jdg q.nslots) h) (qc5 q.res R)):WC (BX B q F) q.f vs h R:=by
 obtain⟨v,h',h1,h2⟩:=qdv hl k
 exact qfd (qub h1) h2
end
end
end Go.Proofs.YtdbklpgagdbpiaaDoor.Ev
