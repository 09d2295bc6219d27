/- Functions with regions in which loads stand in no order: their runs, whatever the fuel; such functions among what is answered. No program in sight. -/
import Derived.Test.YtmcfkgjjnhlkiaaBack3
import Derived.Test.YtmcfkgjjnhlkiaaOp
namespace Go.Proofs.Ytmcfkgjjnhlkiaa.Ev
open Go Go.RowKit
set_option linter.all false
variable {v:AV} {js:List Nat} {d n:Nat}
section
variable {cl cl':FuncId->List AV->Hp->R} {st fr:List AV} {h:Hp} {F:Fns}
theorem jme {op:IOp} (h:jv8 op=true):∃ o,op=.a o/\o.calls=false:=by
 cases op with
 | p _=>cases h
 | a o=>cases o<;>first | exact⟨_,rfl,rfl⟩ | cases h
theorem jur (hc:jwm cl cl') {es:List FE} {op:IOp} {x:AV×Hp×FE} (hr:jp2 cl st fr es h op js=some x):jp2 cl' st fr es h op js=some x:=by
 cases hl:jv8 op with
 | true =>
  obtain⟨o,rfl,ho⟩:=jme hl
  have e:∀ h,iop cl st fr h (.a o)=iop cl' st fr h (.a o):=fun h=>(jhc ho).trans (jhc ho).symm
  have e2:jp2 cl st fr es h (.a o) js=jp2 cl' st fr es h (.a o) js:=by unfold jp2;simp only[e]
  rw[←e2];exact hr
 | false =>
  obtain⟨p,h1,h2⟩:=jaa.1 hr
  refine jaa.2 ⟨p,jiv hc h1,?_⟩
  rw[hl] at h2 ⊢
  exact h2
theorem jmf (hc:jwm cl cl') {es:List FE} {op:IOp} {g:Option (Nat×Bool)} {x:AV×Hp×FE} (hr:jv9 cl st fr es h op g js=some x):jv9 cl' st fr es h op g js=some x:=by
 obtain⟨b,h1,h2⟩:=jaa.1 hr
 refine jaa.2 ⟨b,h1,?_⟩
 cases b with
 | false=>exact h2
 | true=>exact jur hc h2
theorem jhf (hc:jwm cl cl'):∀ {l:List (IOper×List Nat)} {st:List AV} {es:List FE} {fr:List AV} {h:Hp} {s:St},jul cl l st es fr h=some s->jul cl' l st es fr h=some s
 | [],st,es,fr,h,s,hr=>hr
 | (.mk dst op g,m)::l,st,es,fr,h,s,hr=>by
  obtain⟨d,hd,h1⟩:=jaa.1 (show ob (jv9 cl st fr es h op g m) (fun p=>jul cl l (p.1::st) (p.2.2::es) (jbc fr dst p.1) p.2.1)=some s from hr)
  exact jaa.2 ⟨d,jmf hc hd,jhf hc h1⟩
theorem jj6 {m:Nat} (hn:n<=m) {ib:IC} {bs off b o N:Nat} {es:List SV}:∀ (k:Nat) (h h':Hp),rounds F n ib fr d bs off b o N es k h=some h'->rounds F m ib fr d bs off b o N es k h=some h'
 | 0,h,h',hr=>hr
 | j+1,h,h',hr=>by
  obtain⟨e,he,h1⟩:=jaa.1 (show ob (jc5 es j) (fun e=>ob (run F n ib (.mk (jsw fr d (.s e)) h)) (fun p =>
   Ex.casesOn (motive:=fun _=>Option Hp) p.1 (St.casesOn (motive:=fun _=>Option Hp) p.2 (fun _ h'=>oif (j5g h' bs off b o N es) (rounds F n ib fr d bs off b o N es j h') none)) (fun _=>none) none))=some h' from hr)
  obtain⟨p,hp,h2⟩:=jaa.1 h1
  refine jaa.2 ⟨e,he,jaa.2 ⟨p,jbu F hn _ _ _ hp,?_⟩⟩
  obtain⟨ex,s⟩:=p
  cases ex with
  | normal =>
   cases s with
   | mk fr' h3 =>
    obtain⟨h4,h5⟩:=jab.1 (show oif (j5g h3 bs off b o N es) (rounds F n ib fr d bs off b o N es j h3) none=some h' from h2)
    exact jab.2 ⟨h4,jj6 hn j _ _ h5⟩
  | exit _=>cases h2
  | ret=>cases h2
theorem jre {m:Nat} (hn:n<=m) {B:FuncId->Bool} {s:St} {x:Od} {ib:IC} {r:Ex×St} (hr:jtl F n B s x d ib=some r):jtl F m B s x d ib=some r:=by
 cases s with
 | mk fr h =>
  obtain⟨v,hv,h1⟩:=jaa.1 (show ob (ev [] fr x) (fun v=>jmi v (fun gf caps=>oif (B gf) (List.casesOn (motive:=fun _=>Option (Ex×St)) caps none (fun p r=>List.casesOn (motive:=fun _=>Option (Ex×St)) r (jtk F n fr h d ib p.1 p.2) (fun _ _=>none))) none))=some r from hr)
  obtain⟨gf,caps,rfl,h2⟩:=jdo h1
  refine jaa.2 ⟨_,hv,?_⟩
  show oif (B gf) (List.casesOn (motive:=fun _=>Option (Ex×St)) caps none (fun p r=>List.casesOn (motive:=fun _=>Option (Ex×St)) r (jtk F m fr h d ib p.1 p.2) (fun _ _=>none))) none=some r
  obtain⟨h3,h4⟩:=jab.1 h2
  refine jab.2 ⟨h3,?_⟩
  match caps,h4 with
  | [p],h4 =>
   obtain⟨c,hc,h5⟩:=jaa.1 (show jtk F n fr h d ib p.1 p.2=some r from h4)
   refine jaa.2 ⟨c,hc,?_⟩
   match c,h5 with
   | v0::rest,h5 =>
    obtain⟨⟨b,o,N,es⟩,h6,h7⟩:=jaa.1 (show ob (j5i h v0) (fun q =>
     oif (Nat.ble 1 q.2.2.1) (oif (Nat.ble q.2.2.1 1000000) (oif (j5g h p.1 p.2 q.1 q.2.1 q.2.2.1 q.2.2.2) (ob (rounds F n ib fr d p.1 p.2 q.1 q.2.1 q.2.2.1 q.2.2.2 q.2.2.1 h) (fun h'=>some (.normal,.mk fr h'))) none) none) none)=some r from h5)
    obtain⟨h8,h9⟩:=jab.1 h7
    obtain⟨h10,h11⟩:=jab.1 h9
    obtain⟨h12,h13⟩:=jab.1 h11
    obtain⟨hf,h15,h16⟩:=jaa.1 h13
    exact jaa.2 ⟨_,h6,jab.2 ⟨h8,jab.2 ⟨h10,jab.2 ⟨h12,jaa.2 ⟨hf,jj6 hn _ _ _ h15,h16⟩⟩⟩⟩⟩
   | [],h5=>cases h5
  | [],h4=>cases h4
  | _::_::_,h4=>cases h4
theorem jdt {B:FuncId->Bool} {m m':Nat} (hm:m<=m'):∀ n n',n<=n'->∀ c s r,jz0 F m B n c s=some r->jz0 F m' B n' c s=some r:=by
 intro n
 induction n with
 | zero=>intro n' _ c s r hr;cases hr
 | succ n ih =>
  intro n' hn c s r hr
  obtain⟨k,rfl⟩:∃ k,n'=k+1:=⟨n' - 1,by omega⟩
  have ih':=ih k (by omega)
  cases c with
  | c ic=>exact jbu F hm _ _ _ (show run F m ic s=some r from hr)
  | seq a b =>
   obtain⟨p,h1,h2⟩:=jaa.1 (show ob (jz0 F m B n a s) (fun p=>Ex.casesOn (motive:=fun _=>Option (Ex×St)) p.1 (jz0 F m B n b p.2) (fun _=>some p) (some p))=some r from hr)
   refine jaa.2 ⟨p,ih' _ _ _ h1,?_⟩
   obtain⟨e,s1⟩:=p
   cases e with
   | normal=>exact ih' _ _ _ h2
   | exit _=>exact h2
   | ret=>exact h2
  | block id b =>
   obtain⟨p,h1,h2⟩:=jaa.1 (show ob (jz0 F m B n b s) (fun p=>Ex.casesOn (motive:=fun _=>Option (Ex×St)) p.1 (some p) (fun k=>oif (Nat.beq k id) (some (.normal,p.2)) (some p)) (some p))=some r from hr)
   exact jaa.2 ⟨p,ih' _ _ _ h1,h2⟩
  | loop b =>
   obtain⟨p,h1,h2⟩:=jaa.1 (show ob (jz0 F m B n b s) (fun p=>Ex.casesOn (motive:=fun _=>Option (Ex×St)) p.1 (jz0 F m B n (.loop b) p.2) (fun _=>some p) (some p))=some r from hr)
   refine jaa.2 ⟨p,ih' _ _ _ h1,?_⟩
   obtain⟨e,s1⟩:=p
   cases e with
   | normal=>exact ih' _ _ _ h2
   | exit _=>exact h2
   | ret=>exact h2
  | back x d ib=>exact jre hm (show jtl F m B s x d ib=some r from hr)
  | flo l =>
   cases s with
   | mk fr h =>
   obtain⟨s1,h1,h2⟩:=jaa.1 (show ob (jul (jam F (run F m)) l [] [] fr h) (fun s=>some (.normal,s))=some r from hr)
   exact jaa.2 ⟨s1,jhf (jbf (jbu F hm)) h1,h2⟩
end
structure FB1 where
 f:FuncId
 ib:IB
 nargs:Nat
 nslots:Nat
 res:List IR
def j2r (F:Fns) (B:FuncId->Bool) (q:FB1) (vs:List AV) (h:Hp) (r:AV×Hp):Prop :=
 vs.length=q.nargs/\∃ n m e s,jz0 F m B n q.ib (.mk (vs++jcd q.nslots) h)=some (e,s)/\(e=.normal∨e=.ret)/\jbi s q.res=some r
theorem j2r.one {F:Fns} {B:FuncId->Bool} {q:FB1} {vs:List AV} {h:Hp} {r r':AV×Hp} (a:j2r F B q vs h r) (b:j2r F B q vs h r'):r=r':=by
 obtain⟨_,n,m,e,s,h1,_,h2⟩:=a
 obtain⟨_,n',m',e',s',h1',_,h2'⟩:=b
 have h3:=jdt (m:=m) (m':=max m m') (f00 _ _) n (max n n') (f00 _ _) _ _ _ h1
 have h4:=jdt (m:=m') (m':=max m m') (f0w _ _) n' (max n n') (f0w _ _) _ _ _ h1'
 rw[h3] at h4
 cases h4
 rw[h2] at h2'
 exact Option.some.inj h2'
structure FbOk (P:Program) (T:Tr TI) (q:FB1):Prop where
 ok:j45 P q.f
 ex:∃ fn b acc fl,P.funcs[q.f]?=some fn/\fn.body=some b/\q.nargs<=fn.ntmps/\cB T fl (j0v 0 q.nargs++acc) fn.ntmps b=some q.ib/\j10 T (j0v 0 q.nargs++acc) fn.results.toList=some q.res
def WB (F:Fns) (B:FuncId->Bool) (c:IB) (s:St) (Q:Ex->St->Prop):Prop:=∃ n m e s',jz0 F m B n c s=some (e,s')/\Q e s'
def WL (F:Fns) (l:List (IOper×List Nat)) (st:List AV) (es:List FE) (fr:List AV) (h:Hp) (Q:Ex->St->Prop):Prop:=∃ n s',jul (jam F (run F n)) l st es fr h=some s'/\Q .normal s'
section
variable {F:Fns} {B:FuncId->Bool} {s:St} {st fr:List AV} {es:List FE} {h:Hp} {Q:Ex->St->Prop}
theorem WB.imp {c:IB} {Q':Ex->St->Prop} (k:WB F B c s Q) (hq:∀ e s,Q e s->Q' e s):WB F B c s Q':=let ⟨n,m,e,s',h1,h2⟩:=k;⟨n,m,e,s',h1,hq _ _ h2⟩
theorem WB.c {ic:IC} (k:W F ic s Q):WB F B (.c ic) s Q:=let ⟨m,e,s',h1,h2⟩:=k;⟨1,m,e,s',h1,h2⟩
theorem WB.seq {a b:IB} (k:WB F B a s (fun e s=>Ex.casesOn (motive:=fun _=>Prop) e (WB F B b s Q) (fun k=>Q (.exit k) s) (Q .ret s))):WB F B (.seq a b) s Q:=by
 obtain⟨n,m,e,s',h1,h2⟩:=k
 cases e with
 | normal =>
  obtain⟨n',m',e2,s2,h3,h4⟩:=h2
  exact⟨max n n'+1,max m m',e2,s2,jaa.2 ⟨_,jdt (f00 m m') _ _ (f00 n n') _ _ _ h1,jdt (f0w m m') _ _ (f0w n n') _ _ _ h3⟩,h4⟩
 | exit k=>exact⟨n+1,m,_,_,jaa.2 ⟨_,h1,rfl⟩,h2⟩
 | ret=>exact⟨n+1,m,_,_,jaa.2 ⟨_,h1,rfl⟩,h2⟩
theorem WB.loop {b:IB} (k:WB F B b s (fun e s=>Ex.casesOn (motive:=fun _=>Prop) e (WB F B (.loop b) s Q) (fun k=>Q (.exit k) s) (Q .ret s))):WB F B (.loop b) s Q:=by
 obtain⟨n,m,e,s',h1,h2⟩:=k
 cases e with
 | normal =>
  obtain⟨n',m',e2,s2,h3,h4⟩:=h2
  exact⟨max n n'+1,max m m',e2,s2,jaa.2 ⟨_,jdt (f00 m m') _ _ (f00 n n') _ _ _ h1,jdt (f0w m m') _ _ (f0w n n') _ _ _ h3⟩,h4⟩
 | exit k=>exact⟨n+1,m,_,_,jaa.2 ⟨_,h1,rfl⟩,h2⟩
 | ret=>exact⟨n+1,m,_,_,jaa.2 ⟨_,h1,rfl⟩,h2⟩
theorem WB.block {id:Nat} {b:IB} (k:WB F B b s (j5o id Q)):WB F B (.block id b) s Q:=by
 obtain⟨n,m,e,s',h1,h2⟩:=k
 cases e with
 | normal=>exact⟨n+1,m,_,_,jaa.2 ⟨_,h1,rfl⟩,h2⟩
 | exit k =>
  have h3:if k=id then Q .normal s' else Q (.exit k) s':=h2
  have key:oif (Nat.beq k id) (some (Ex.normal,s')) (some (.exit k,s'))=if k=id then some (.normal,s') else some (.exit k,s'):=by
   rw[jag];congr 1;exact jfi k id
  split at h3
  .rename_i hk
   exact⟨n+1,m,_,_,jaa.2 ⟨_,h1,key.trans (if_pos hk)⟩,h3⟩
  .rename_i hk
   exact⟨n+1,m,_,_,jaa.2 ⟨_,h1,key.trans (if_neg hk)⟩,h3⟩
 | ret=>exact⟨n+1,m,_,_,jaa.2 ⟨_,h1,rfl⟩,h2⟩
theorem WB.flo {l:List (IOper×List Nat)} (k:WL F l [] [] fr h Q):WB F B (.flo l) (.mk fr h) Q:=by
 obtain⟨n,s',h1,h2⟩:=k
 exact⟨1,n,_,_,jaa.2 ⟨_,h1,rfl⟩,h2⟩
theorem WL.nil (k:Q .normal (.mk fr h)):WL F [] st es fr h Q:=⟨0,_,rfl,k⟩
theorem WL.cons {dst:Option Nat} {op:IOp} {g:Option (Nat×Bool)} {l:List (IOper×List Nat)} (k:∃ n v h' x,jv9 (jam F (run F n)) st fr es h op g js=some (v,h',x)/\WL F l (v::st) (x::es) (jbc fr dst v) h' Q):WL F ((.mk dst op g,js)::l) st es fr h Q:=by
 obtain⟨n,v,h',x,h1,m,s',h2,h3⟩:=k
 exact⟨max n m,s',jaa.2 ⟨(v,h',x),jmf (jbf (jbu F (f00 n m))) h1,jhf (jbf (jbu F (f0w n m))) h2⟩,h3⟩
def fpE (h:Hp) (v:AV):FE:=.mk true (fun _=>some v) h v
noncomputable def flE (st fr:List AV) (o:AO) (h:Hp) (v:AV):FE:=.mk true (fun h'=>ob (jb6 st fr h' o) (fun q=>some q.1)) h v
theorem WL.pure {dst:Option Nat} {o:PO} {l:List (IOper×List Nat)} (hv:pop st fr o=some v) (k:WL F l (v::st) (fpE h v::es) (jbc fr dst v) h Q):WL F ((.mk dst (.p o) none,js)::l) st es fr h Q :=
 WL.cons ⟨0,v,h,fpE h v,jaa.2 ⟨true,rfl,jaa.2 ⟨(v,h),jaa.2 ⟨v,hv,rfl⟩,rfl⟩⟩,k⟩
theorem WL.ld {dst:Option Nat} {o:AO} {l:List (IOper×List Nat)} {h':Hp} (ho:jv8 (.a o)=true) (hv:jb6 st fr h o=some (v,h')) (hj:∀ j∈js,∃ e,es[j]?=some e/\(e.ld=true∨∃ h2,jb6 st fr e.h o=some (v,h2)))
 (hn:eqN v v=true) (k:WL F l (v::st) (flE st fr o h v::es) (jbc fr dst v) h Q):WL F ((.mk dst (.a o) none,js)::l) st es fr h Q:=by
 obtain⟨o',ho',hc⟩:=jme ho
 cases ho'
 have e:∀ cl h,iop cl st fr h (.a o)=jb6 st fr h o:=fun cl h=>jhc hc
 refine WL.cons ⟨0,v,h,flE st fr o h v,jaa.2 ⟨true,rfl,?_⟩,k⟩
 show jp2 _ st fr es h (.a o) js=_
 unfold jp2
 simp only[e]
 rw[hv]
 show Bool.rec (motive:=fun _=>Option (AV×Hp×FE)) _ (oif (j5d (fun e=>oif e.ld true (j4d (ob (jb6 st fr e.h o) (fun q=>some q.1)) v)) es js) (some (v,h,FE.mk true (fun h'=>ob (jb6 st fr h' o) (fun q=>some q.1)) h v)) none) (jv8 (.a o))=_
 rw[ho]
 refine jab.2 ⟨?_,rfl⟩
 clear k
 induction js with
 | nil=>rfl
 | cons j js ih =>
  obtain⟨x,hx,h1⟩:=hj j (by simp)
  show Option.rec (motive:=fun _=>Bool) false (fun e=>oif (oif e.ld true (j4d (ob (jb6 st fr e.h o) (fun q=>some q.1)) v)) (j5d _ es js) false) (jc5 es j)=true
  rw[jb0,hx]
  show oif (oif x.ld true (j4d (ob (jb6 st fr x.h o) (fun q=>some q.1)) v)) (j5d _ es js) false=true
  rw[show oif x.ld true (j4d (ob (jb6 st fr x.h o) (fun q=>some q.1)) v)=true by
   rcases h1 with h1 | ⟨h2,h1⟩
   .rw [h1];rfl
   .rw [h1,jag]
    split
    .rfl
    .exact hn]
  exact ih (fun j hj'=>hj j (by simp[hj']))
end
end Go.Proofs.Ytmcfkgjjnhlkiaa.Ev
