/- Code of functions as the interpreter has it prepared, cut at loops. -/
import Derived.Test.YtehhjbfmjdlcjaaOr
import Derived.Test.YtehhjbfmjdlcjaaBk
namespace Go.Proofs.Ytehhjbfmjdlcjaa.Ev
open Go Go.RowKit
set_option linter.all false
set_option maxRecDepth 100000
open Go Go.RowKit Go.Proofs.Ytehhjbfmjdlcjaa.Ms
set_option maxHeartbeats 4000000
noncomputable def neB (v w:AV):Option AV:=qqu [v,w] [] true false [true] (.l 0) (.l 1)
theorem qcl {st fr:List AV} {x y:Od}:pop st fr (.eqv true false [true] x y)=ob (ev st fr x) (fun v=>ob (ev st fr y) (fun w=>neB v w)):=rfl
theorem j4h {a:Bool}:neB (.s (.bool a)) (.s (.bool a))=some (.s (.bool false)):=by cases a<;>rfl
theorem j4i {ws:List Nat} {n v:Nat} (hv:v<n):jv9 (jbo ws n) v=jbn ws v:=by
 unfold jv9 jbo
 cases h:jbn ws v with
 | true=>exact f3x.2 ⟨v,f1t.2 ⟨f2b.2 hv,h⟩,by simp⟩
 | false =>
  refine Bool.eq_false_iff.2 (fun e=>?_)
  obtain⟨x,hx,e⟩:=f3x.1 e
  have e':x=v:=Int.ofNat.inj (of_decide_eq_true e)
  subst e'
  have:=(f1t.1 hx).2
  rw[h] at this;cases this
theorem qf2 {l:List Nat} {v:Nat}:jv9 l v=true↔v∈l:=by
 unfold jv9
 rw[f3x]
 constructor
 .rintro ⟨x,hx,e⟩
  have e':x=v:=Int.ofNat.inj (of_decide_eq_true e)
  exact e'▸hx
 .intro h;exact⟨v,h,by simp⟩
section
variable {h:Hp} {m:Nat×Nat} {Q:AV->Hp->Prop}
end
end Go.Proofs.Ytehhjbfmjdlcjaa.Ev
namespace Go.Proofs.Ytehhjbfmjdlcjaa.Ms
set_option linter.all false
set_option maxRecDepth 100000
open Go.Proofs.Ytehhjbfmjdlcjaa.Ev (FlOk)
open Go.Proofs.Ytehhjbfmjdlcjaa.Ev (FlOk jan jdl)
structure Sp where
 a:Nat
 z:Nat
 t:Bool
def jk2 (v e:Nat) (s:Sp) (o:Opd):Sp :=
 if o.value=v then
  (if o.kind=2 then (if o.late=true then ⟨e+1,e+2,true⟩ else ⟨e,e+2,true⟩)
  else if o.late=true then ⟨s.a,max s.z (e+2),s.t⟩ else ⟨s.a,max s.z (e+1),s.t⟩)
 else s
def jic (v st:Nat):Nat->List Ins->Sp->Sp
 | _,[],s=>s
 | i,y::l,s=>jic v st (i+1) l (y.ops.foldl (jk2 v (st+1+2*i)) s)
def sp0 (b:Blk) (v st:Nat) (ib:Bool):Sp:=if (ib||decide (v∈b.params))=true then ⟨st,st+1,true⟩ else ⟨0,0,false⟩
def qcm (b:Blk) (v st:Nat) (ib ob:Bool):Sp :=
 if ob=true then ⟨(jic v st 0 b.instrs (sp0 b v st ib)).a,st+2+2*b.instrs.length,(jic v st 0 b.instrs (sp0 b v st ib)).t⟩ else jic v st 0 b.instrs (sp0 b v st ib)
def jkx (l:List (Nat×Nat)) (s:Sp):List (Nat×Nat) :=
 if s.t=true then (match l.getLast? with
  | some q=>if q.2=s.a then l.dropLast++[(q.1,s.z)] else l++[(s.a,s.z)]
  | none=>[(s.a,s.z)])
 else l
def jsj (bs:List Blk) (ins outs:List (List Nat)) (v k:Nat):Sp:=qcm (bs.getD k jgo) v ((jan bs).getD k 0) (jbn (ins.getD k []) v) (jbn (outs.getD k []) v)
def jg2 (bs:List Blk) (ins outs:List (List Nat)) (v:Nat):Nat->List (Nat×Nat)
 | 0=>[]
 | k+1=>jkx (jg2 bs ins outs v k) (jsj bs ins outs v k)
def jf0 (bs:List Blk) (ins outs:List (List Nat)) (n:Nat):List (List (Nat×Nat)):=(List.range n).map (fun v=>jg2 bs ins outs v bs.length)
def jes (l:List (Nat×Nat)) (p:Nat):Bool:=l.any (fun q=>decide (q.1<=p/\p<q.2))
def lt1 (o:Opd):Nat:=if o.late=true then 1 else 0
theorem j4j {v st:Nat}:∀ (l r:List Ins) (i:Nat) (s:Sp),jic v st i (l++r) s=jic v st (i+l.length) r (jic v st i l s)
 | [],r,i,s=>rfl
 | y::l,r,i,s=>by
  show jic v st (i+1) (l++r) (y.ops.foldl (jk2 v (st+1+2*i)) s)=jic v st (i+(l.length+1)) r (jic v st (i+1) l (y.ops.foldl (jk2 v (st+1+2*i)) s))
  rw[j4j l r (i+1),show i+1+l.length=i+(l.length+1) by omega]
theorem jns {v e:Nat}:∀ (l:List Opd) (s:Sp),(∀ o∈l,o.value≠v)->l.foldl (jk2 v e) s=s
 | [],s,h=>rfl
 | o::l,s,h=>by
  rw[f1o,show jk2 v e s o=s from if_neg (h o (by simp))]
  exact jns l s (fun o ho=>h o (by simp[ho]))
theorem jvv {v st:Nat}:∀ (l:List Ins) (i:Nat) (s:Sp),(∀ y∈l,∀ o∈y.ops,o.value≠v)->jic v st i l s=s
 | [],i,s,h=>rfl
 | y::l,i,s,h=>by
  unfold jic
  rw[jns y.ops s (h y (by simp))]
  exact jvv l (i+1) s (fun y hy=>h y (by simp[hy]))
structure Ext1 (s r:Sp) (lim:Nat):Prop where
 a:r.a=s.a
 t:r.t=s.t
 z:s.z<=r.z
 b:r.z<=max s.z lim
theorem qcn {v e:Nat}:∀ (l:List Opd) (s:Sp),(∀ o∈l,o.value=v->o.kind≠2) ->
 Ext1 s (l.foldl (jk2 v e) s) (e+2)/\∀ o∈l,o.value=v->e+lt1 o<(l.foldl (jk2 v e) s).z
 | [],s,h=>⟨⟨rfl,rfl,f0f _,f1h _ _⟩,fun o ho=>by simp at ho⟩
 | o::l,s,h=>by
  rw[f1o]
  obtain⟨k,u⟩:=qcn (e:=e) l (jk2 v e s o) (fun o ho=>h o (by simp[ho]))
  have hk:=h o (by simp)
  generalize l.foldl (jk2 v e) (jk2 v e s o)=r at k u ⊢
  obtain⟨k1,k2,k3,k4⟩:=k
  by_cases ev:o.value=v
  .have e2:jk2 v e s o=if o.late=true then ⟨s.a,max s.z (e+2),s.t⟩ else ⟨s.a,max s.z (e+1),s.t⟩:=by
    unfold jk2
    rw[if_pos ev,if_neg (hk ev)]
   rw[e2] at k1 k2 k3 k4
   by_cases el:o.late=true
   .rw [if_pos el] at k1 k2 k3 k4
    have l1:lt1 o=1:=if_pos el
    refine⟨⟨k1,k2,?_,?_⟩,fun o' ho' hv=>?_⟩
    .exact f0y (f1h _ _) k3
    .dsimp only at k4;omega
    .rcases f0e.1 ho' with rfl | ho'
     .dsimp only at k3;omega
     .exact u o' ho' hv
   .rw [if_neg el] at k1 k2 k3 k4
    have l1:lt1 o=0:=if_neg el
    refine⟨⟨k1,k2,?_,?_⟩,fun o' ho' hv=>?_⟩
    .exact f0y (f1h _ _) k3
    .dsimp only at k4;omega
    .rcases f0e.1 ho' with rfl | ho'
     .dsimp only at k3;omega
     .exact u o' ho' hv
  .have e2:jk2 v e s o=s:=if_neg ev
   rw[e2] at k1 k2 k3 k4
   refine⟨⟨k1,k2,k3,k4⟩,fun o' ho' hv=>?_⟩
   rcases f0e.1 ho' with rfl | ho'
   .exact absurd hv ev
   .exact u o' ho' hv
theorem j1c {v st:Nat}:∀ (l:List Ins) (i:Nat) (s:Sp),(∀ y∈l,∀ o∈y.ops,o.value=v->o.kind≠2) ->
 Ext1 s (jic v st i l s) (st+1+2*(i+l.length))/\∀ (j:Nat) (y:Ins) (o:Opd),l[j]?=some y->o∈y.ops->o.value=v->st+1+2*(i+j)+lt1 o<(jic v st i l s).z
 | [],i,s,h=>⟨⟨rfl,rfl,f0f _,f1h _ _⟩,fun j y o hj=>by simp at hj⟩
 | y::l,i,s,h=>by
  unfold jic
  obtain⟨⟨k1,k2,k3,k4⟩,u⟩:=qcn (e:=st+1+2*i) y.ops s (h y (by simp))
  generalize y.ops.foldl (jk2 v (st+1+2*i)) s=r at k1 k2 k3 k4 u ⊢
  obtain⟨⟨q1,q2,q3,q4⟩,w⟩:=j1c (st:=st) l (i+1) r (fun y hy=>h y (by simp[hy]))
  generalize jic v st (i+1) l r=q at q1 q2 q3 q4 w ⊢
  rw[f1d]
  refine⟨⟨q1.trans k1,q2.trans k2,f0y k3 q3,by omega⟩,fun j y' o hj ho hv=>?_⟩
  cases j with
  | zero =>
   simp only[f1e,Option.some.injEq] at hj
   subst hj
   have:=u o ho hv
   rw[f1n];omega
  | succ j =>
   rw[f2i] at hj
   have:=w j y' o hj ho hv
   rw[show i+(j+1)=i+1+j by omega]
   exact this
theorem qco {v:Nat} {P X Y Z W:List Nat} (h:(P++(X++((Y++v::Z)++W))).Nodup):v∉P/\v∉X/\v∉Y/\v∉Z/\v∉W:=by
 obtain⟨_,h2,h3⟩:=f0l.1 h
 obtain⟨_,h5,h6⟩:=f0l.1 h2
 obtain⟨h7,_,h9⟩:=f0l.1 h5
 obtain⟨_,h10,h11⟩:=f0l.1 h7
 exact⟨fun hm=>h3 v hm v (by simp) rfl,fun hm=>h6 v hm v (by simp) rfl,fun hm=>h11 v hm v (by simp) rfl,(f0v.1 h10).1,fun hm=>h9 v (by simp) v hm rfl⟩
theorem jgm {x:Ins} {v:Nat}:v∈jbm x↔∃ o∈x.ops,o.kind=2/\o.value=v:=by
 unfold jbm
 rw[f1a]
 constructor
 .rintro ⟨o,ho,rfl⟩
  obtain⟨h1,h2⟩:=f1t.1 ho
  exact⟨o,h1,of_decide_eq_true h2,rfl⟩
 .rintro ⟨o,h1,h2,h3⟩
  exact⟨o,f1t.2 ⟨h1,decide_eq_true h2⟩,h3⟩
theorem jky {b:Blk} {v:Nat}:v∈jck b↔v∈b.params∨∃ (i:Nat) (x:Ins) (o:Opd),b.instrs[i]?=some x/\o∈x.ops/\o.kind=2/\o.value=v:=by
 unfold jck
 rw[f0g]
 refine or_congr Iff.rfl ?_
 constructor
 .intro h
  obtain⟨l,hl,hv⟩:=f2o.1 h
  obtain⟨x,hx,rfl⟩:=f1a.1 hl
  obtain⟨i,hi⟩:=f1w hx
  obtain⟨o,h1,h2,h3⟩:=jgm.1 hv
  exact⟨i,x,o,hi,h1,h2,h3⟩
 .rintro ⟨i,x,o,h1,h2,h3,h4⟩
  exact f2o.2 ⟨_,f1a.2 ⟨x,f0b h1,rfl⟩,jgm.2 ⟨o,h2,h3,h4⟩⟩
theorem qqe {α:Type} {l:List α} {i:Nat} {x:α} (h:l[i]?=some x):l=l.take i++x::l.drop (i+1)/\(l.take i).length=i:=by
 have hi:=(f0h.1 h).1
 refine⟨?_,by rw[f1m];omega⟩
 have e:l.drop i=x::l.drop (i+1):=by
  rw[f03 hi];congr 1;exact(f0h.1 h).2
 rw[←e,List.take_append_drop]
theorem qu3 {b:Blk} {v st i:Nat} {x:Ins} {o:Opd} {s:Sp} (hn:(jck b).Nodup) (hi:b.instrs[i]?=some x) (ho:o∈x.ops) (hk:o.kind=2) (hv:o.value=v)
 (hu:∀ (j:Nat) (y:Ins) (q:Opd),b.instrs[j]?=some y->q∈y.ops->q.kind≠2->q.value=v->i<j) :
 v∉b.params/\(jic v st 0 b.instrs s).t=true/\(jic v st 0 b.instrs s).a=st+1+2*i+lt1 o/\st+1+2*i+2<=(jic v st 0 b.instrs s).z/\(jic v st 0 b.instrs s).z<=st+1+2*b.instrs.length /\
  ∀ (j:Nat) (y:Ins) (q:Opd),b.instrs[j]?=some y->q∈y.ops->q.kind≠2->q.value=v->st+1+2*j+lt1 q<(jic v st 0 b.instrs s).z:=by
 obtain⟨e1,e2⟩:=qqe hi
 generalize hA:b.instrs.take i=A at e1 e2
 generalize hB:b.instrs.drop (i+1)=B at e1
 obtain⟨C,D,e3⟩:=List.append_of_mem ho
 have hl:b.instrs.length=i+1+B.length:=by rw[e1];simp;omega
 have em:jck b=b.params++((A.map jbm).flatten++((((C.filter (fun o=>decide (o.kind=2))).map (·.value))++v::((D.filter (fun o=>decide (o.kind=2))).map (·.value)))++(B.map jbm).flatten)):=by
  unfold jck
  rw[e1,f2l,f2u,f18,f1j]
  congr 2
  congr 1
  unfold jbm
  rw[e3,List.filter_append,List.filter_cons,if_pos (decide_eq_true hk),f2l,f2u,hv]
 rw[em] at hn
 obtain⟨n1,n2,n3,n4,n5⟩:=qco hn
 have aA:∀ y∈A,∀ q∈y.ops,q.value≠v:=fun y hy q hq hqv=>by
  obtain⟨j,hj⟩:=f1w hy
  have hjl:=(f0h.1 hj).1
  by_cases h2:q.kind=2
  .exact n2 (f2o.2 ⟨_,f1a.2 ⟨y,hy,rfl⟩,jgm.2 ⟨q,hq,h2,hqv⟩⟩)
  .have:=hu j y q (by rw[e1,f0q hjl];exact hj) hq h2 hqv
   omega
 have aX:∀ q∈x.ops,q.kind≠2->q.value≠v:=fun q hq h2 hqv=>by
  have:=hu i x q hi hq h2 hqv
  omega
 have fl:∀ {l:List Opd} {q:Opd},q∈l->q.kind=2->q.value=v->v∈(l.filter (fun o=>decide (o.kind=2))).map (·.value):=fun {l q} h1 h2 h3 =>
  f1a.2 ⟨q,f1t.2 ⟨h1,decide_eq_true h2⟩,h3⟩
 have aC:∀ q∈C,q.value≠v:=fun q hq hqv=>by
  by_cases h2:q.kind=2
  .exact n3 (fl hq h2 hqv)
  .exact aX q (by rw[e3];simp[hq]) h2 hqv
 have aD:∀ q∈D,q.value≠v:=fun q hq hqv=>by
  by_cases h2:q.kind=2
  .exact n4 (fl hq h2 hqv)
  .exact aX q (by rw[e3];simp[hq]) h2 hqv
 have aB:∀ y∈B,∀ q∈y.ops,q.value=v->q.kind≠2:=fun y hy q hq hqv h2 =>
  n5 (f2o.2 ⟨_,f1a.2 ⟨y,hy,rfl⟩,jgm.2 ⟨q,hq,h2,hqv⟩⟩)
 have eS:jic v st 0 b.instrs s=jic v st (i+1) B ⟨st+1+2*i+lt1 o,st+1+2*i+2,true⟩:=by
  rw[e1,j4j,jvv A 0 s aA,e2,f0z]
  show jic v st (i+1) B (x.ops.foldl (jk2 v (st+1+2*i)) s)=_
  rw[e3,f2t,f1o,jns C s aC,jns D _ aD]
  congr 1
  unfold jk2 lt1
  rw[if_pos hv,if_pos hk]
  by_cases el:o.late=true
  .rw [if_pos el,if_pos el]
  .rw [if_neg el,if_neg el];rfl
 rw[eS]
 obtain⟨⟨k1,k2,k3,k4⟩,u⟩:=j1c (st:=st) B (i+1) ⟨st+1+2*i+lt1 o,st+1+2*i+2,true⟩ aB
 generalize jic v st (i+1) B ⟨st+1+2*i+lt1 o,st+1+2*i+2,true⟩=r at k1 k2 k3 k4 u ⊢
 refine⟨n1,k2,k1,k3,by dsimp only at k4;omega,fun j y q hj hq h2 hqv=>?_⟩
 have hij:=hu j y q hj hq h2 hqv
 obtain⟨t,rfl⟩:∃ t,j=i+1+t:=⟨j - (i+1),by omega⟩
 have hj':B[t]?=some y:=by
  rw[←hB,f1l];exact hj
 exact u t y q hj' hq hqv
structure SpF (b:Blk) (v st:Nat) (ib ob:Bool) (s:Sp):Prop where
 t1:s.t=true↔(ib=true∨v∈jck b)
 bd:s.t=true->st<=s.a/\s.a<s.z/\s.z<=st+2+2*b.instrs.length
 fr:s.t=true->(s.a=st↔(ib=true∨v∈b.params))
 to:s.t=true->(s.z=st+2+2*b.instrs.length↔ob=true)
 ot:ob=true->s.t=true
 us:∀ (i:Nat) (x:Ins) (o:Opd),b.instrs[i]?=some x->o∈x.ops->o.kind≠2->o.value=v->s.t=true/\s.a<=st+1+2*i+lt1 o/\st+1+2*i+lt1 o<s.z
 df:∀ (i:Nat) (x:Ins) (o:Opd),b.instrs[i]?=some x->o∈x.ops->o.kind=2->o.value=v->s.t=true/\s.a=st+1+2*i+lt1 o/\s.a<s.z
theorem jyq (o:Opd):lt1 o<=1:=by unfold lt1;split<;>omega
theorem qu4 {b:Blk} {v st:Nat} {ib ob:Bool} (hn:(jck b).Nodup)
 (hu:∀ (i:Nat) (x:Ins) (o:Opd),b.instrs[i]?=some x->o∈x.ops->o.kind=2->o.value=v->∀ (j:Nat) (y:Ins) (q:Opd),b.instrs[j]?=some y->q∈y.ops->q.kind≠2->q.value=v->i<j)
 (hk:∀ x∈b.instrs,∀ o∈x.ops,o.kind=1∨o.kind=2)
 (hf:ib=true↔((ob=true∨v∈j3r b)/\v∉jck b)):SpF b v st ib ob (qcm b v st ib ob):=by
 have hus:∀ (i:Nat) (x:Ins) (o:Opd),b.instrs[i]?=some x->o∈x.ops->o.kind≠2->o.value=v->v∈j3r b:=fun i x o h1 h2 h3 h4=>by
  have h5:=hk x (f0b h1) o h2
  unfold j3r
  refine f2o.2 ⟨_,f1a.2 ⟨x,f0b h1,rfl⟩,?_⟩
  unfold jx4
  exact f1a.2 ⟨o,f1t.2 ⟨h2,decide_eq_true (by omega)⟩,h4⟩
 have hil:∀ {i:Nat} {x:Ins},b.instrs[i]?=some x->i<b.instrs.length:=fun h=>(f0h.1 h).1
 by_cases hd:∃ (i:Nat) (x:Ins) (o:Opd),b.instrs[i]?=some x/\o∈x.ops/\o.kind=2/\o.value=v
 ·
  have hm:v∈jck b:=jky.2 (.inr hd)
  have hib:ib≠true:=fun h=>(hf.1 h).2 hm
  have key:=fun(i:Nat) (x:Ins) (o:Opd) (h1:b.instrs[i]?=some x) (h2:o∈x.ops) (h3:o.kind=2) (h4:o.value=v)=>qu3 (st:=st) (s:=sp0 b v st ib) hn h1 h2 h3 h4 (fun j y q a1 a2 a3 a4=>hu i x o h1 h2 h3 h4 j y q a1 a2 a3 a4)
  obtain⟨i,x,o,h1,h2,h3,h4⟩:=hd
  obtain⟨p1,p2,p3,p4,p5,p6⟩:=key i x o h1 h2 h3 h4
  have l1:=jyq o
  have hi:=hil h1
  unfold qcm
  generalize jic v st 0 b.instrs (sp0 b v st ib)=r at key p2 p3 p4 p5 p6 ⊢
  cases ob with
  | true =>
   simp only[if_true]
   refine⟨⟨fun _=>.inr hm,fun _=>p2⟩,fun _=>by dsimp only;omega,fun _=>⟨fun h=>(by dsimp only at h;omega),fun h=>?_⟩,fun _=>⟨fun _=>rfl,fun _=>rfl⟩,fun _=>p2,fun j y q a1 a2 a3 a4=>?_,fun j y q a1 a2 a3 a4=>?_⟩
   .rcases h with h | h
    .exact absurd h hib
    .exact absurd h p1
   .have h5:=p6 j y q a1 a2 a3 a4
    have h6:=hu i x o h1 h2 h3 h4 j y q a1 a2 a3 a4
    have h7:=jyq q
    have h8:=hil a1
    exact⟨p2,by dsimp only;omega,by dsimp only;omega⟩
   .obtain ⟨_,c2,c3,c4,c5,_⟩:=key j y q a1 a2 a3 a4
    have h7:=jyq q
    exact⟨c2,c3,by dsimp only;omega⟩
  | false =>
   simp only[f01,if_false]
   refine⟨⟨fun _=>.inr hm,fun _=>p2⟩,fun _=>by omega,fun _=>⟨fun h=>by omega,fun h=>?_⟩,fun _=>⟨fun h=>by omega,fun h=>(by cases h)⟩,fun h=>(by cases h),fun j y q a1 a2 a3 a4=>?_,fun j y q a1 a2 a3 a4=>?_⟩
   .rcases h with h | h
    .exact absurd h hib
    .exact absurd h p1
   .have h5:=p6 j y q a1 a2 a3 a4
    have h6:=hu i x o h1 h2 h3 h4 j y q a1 a2 a3 a4
    exact⟨p2,by omega,h5⟩
   .obtain ⟨_,c2,c3,c4,c5,_⟩:=key j y q a1 a2 a3 a4
    have h7:=jyq q
    exact⟨c2,c3,by omega⟩
 .have hno:∀ y∈b.instrs,∀ o∈y.ops,o.value=v->o.kind≠2:=fun y hy o ho hv h2=>by
   obtain⟨i,hi⟩:=f1w hy
   exact hd ⟨i,y,o,hi,ho,h2,hv⟩
  have hmp:v∈jck b↔v∈b.params:=jky.trans ⟨fun h=>h.resolve_right hd,.inl⟩
  by_cases hp:(ib||decide (v∈b.params))=true
  ·
   have hip:ib=true∨v∈b.params:=by
    rcases Bool.or_eq_true_iff.1 hp with h | h
    .exact .inl h
    .exact .inr (of_decide_eq_true h)
   have e0:sp0 b v st ib=⟨st,st+1,true⟩:=if_pos hp
   obtain⟨⟨k1,k2,k3,k4⟩,u⟩:=j1c (st:=st) b.instrs 0 (sp0 b v st ib) hno
   unfold qcm
   generalize jic v st 0 b.instrs (sp0 b v st ib)=r at k1 k2 k3 k4 u ⊢
   rw[e0] at k1 k2 k3 k4
   dsimp only at k1 k2 k3 k4
   cases ob with
   | true =>
    simp only[if_true]
    refine⟨⟨fun _=>hip.imp id hmp.2,fun _=>k2⟩,fun _=>by dsimp only;omega,fun _=>⟨fun _=>hip,fun _=>k1⟩,fun _=>⟨fun _=>rfl,fun _=>rfl⟩,fun _=>k2,fun j y q a1 a2 a3 a4=>?_,fun j y q a1 a2 a3 a4=>absurd a3 (hno y (f0b a1) q a2 a4)⟩
    have h5:=u j y q a1 a2 a4
    have h7:=jyq q
    have h8:=hil a1
    exact⟨k2,by dsimp only;omega,by dsimp only;omega⟩
   | false =>
    simp only[f01,if_false]
    refine⟨⟨fun _=>hip.imp id hmp.2,fun _=>k2⟩,fun _=>by omega,fun _=>⟨fun _=>hip,fun _=>k1⟩,fun _=>⟨fun h=>by omega,fun h=>(by cases h)⟩,fun h=>(by cases h),fun j y q a1 a2 a3 a4=>?_,fun j y q a1 a2 a3 a4=>absurd a3 (hno y (f0b a1) q a2 a4)⟩
    have h5:=u j y q a1 a2 a4
    exact⟨k2,by omega,by omega⟩
  ·
   have hpf:(ib||decide (v∈b.params))=false:=by cases h:(ib||decide (v∈b.params))<;>first | rfl | exact absurd h hp
   obtain⟨hif,hpp⟩:=Bool.or_eq_false_iff.1 hpf
   have hpm:=of_decide_eq_false hpp
   have hnm:v∉jck b:=fun h=>hpm (hmp.1 h)
   have hnu:v∉j3r b:=fun h=>by
    have:=hf.2 ⟨.inr h,hnm⟩
    rw[hif] at this;cases this
   have hob:ob=false:=by
    cases h:ob with
    | false=>rfl
    | true =>
     have:=hf.2 ⟨.inl h,hnm⟩
     rw[hif] at this;cases this
   subst hob
   have e0:sp0 b v st ib=⟨0,0,false⟩:=if_neg hp
   have e1:qcm b v st ib false=⟨0,0,false⟩:=by
    unfold qcm
    simp only[f01,if_false]
    rw[jvv b.instrs 0 _ (fun y hy o ho hv=>?_),e0]
    obtain⟨i,hi⟩:=f1w hy
    exact hnu (hus i y o hi ho (hno y hy o ho hv) hv)
   rw[e1]
   refine⟨⟨fun h=>(by cases h),fun h=>?_⟩,fun h=>(by cases h),fun h=>(by cases h),fun h=>(by cases h),fun h=>(by cases h),fun j y q a1 a2 a3 a4=>absurd (hus j y q a1 a2 a3 a4) hnu,fun j y q a1 a2 a3 a4=>absurd a3 (hno y (f0b a1) q a2 a4)⟩
   rcases h with h | h
   .rw [hif] at h;cases h
   .exact absurd h hnm
structure j43 (l:List (Nat×Nat)) (lim:Nat):Prop where
 ap:l.Pairwise (fun p q=>p.2<q.1)
 lt:∀ q∈l,q.1<q.2/\q.2<=lim
theorem jqp (l r:List (Nat×Nat)) (p:Nat):jes (l++r) p=(jes l p||jes r p):=by unfold jes;rw[List.any_append]
theorem jkz (q:Nat×Nat) (p:Nat):jes [q] p=decide (q.1<=p/\p<q.2):=by unfold jes;simp
theorem j43.add {l:List (Nat×Nat)} {lim lim':Nat} {s:Sp} (k:j43 l lim) (h:s.t=true->lim<=s.a/\s.a<s.z/\s.z<=lim') (hl:lim<=lim') :
 j43 (jkx l s) lim'/\(∀ p,jes (jkx l s) p=true↔(jes l p=true∨(s.t=true/\s.a<=p/\p<s.z)))/\(s.t=true->jkx l s≠[])/\(l≠[]->jkx l s≠[]):=by
 unfold jkx
 by_cases ht:s.t=true
 .obtain ⟨h1,h2,h3⟩:=h ht
  rw[if_pos ht]
  rcases List.eq_nil_or_concat l with rfl | ⟨r,q,e⟩
  .refine ⟨⟨by simp,fun q hq=>?_⟩,fun p=>?_,fun _=>by simp,fun _=>by simp⟩
   .obtain rfl:q=(s.a,s.z):=by simpa using hq
    exact⟨h2,h3⟩
   .show jes [(s.a,s.z)] p=true↔_
    rw[jkz]
    simp[jes,ht]
  .rw [List.concat_eq_append] at e
   subst e
   have hg:(r++[q]).getLast?=some q:=by simp
   have hdl:(r++[q]).dropLast=r:=by simp
   obtain⟨k1,k2⟩:=k
   obtain⟨p1,p2,p3⟩:=List.pairwise_append.1 k1
   have hq:=k2 q (by simp)
   rw[hg,hdl]
   dsimp only
   by_cases e:q.2=s.a
   .rw [if_pos e]
    refine⟨⟨List.pairwise_append.2 ⟨p1,by simp,fun a ha b hb=>?_⟩,fun x hx=>?_⟩,fun p=>?_,fun _=>by simp,fun _=>by simp⟩
    .obtain rfl:b=(q.1,s.z):=by simpa using hb
     exact p3 a ha q (by simp)
    .rcases f0g.1 hx with hx | hx
     .have:=k2 x (by simp[hx]);exact⟨this.1,by omega⟩
     .obtain rfl:x=(q.1,s.z):=by simpa using hx
      exact⟨by dsimp only;omega,h3⟩
    .rw [jqp,jqp,jkz,jkz]
     simp only[f1z,decide_eq_true_eq,ht,true_and]
     constructor
     .rintro (h | h)
      .exact .inl (.inl h)
      .rcases f0i p q.2 with h5 | h5
       .exact .inl (.inr ⟨h.1,h5⟩)
       .exact .inr ⟨by omega,h.2⟩
     .rintro ((h | h) | h)
      .exact .inl h
      .exact .inr ⟨h.1,by omega⟩
      .exact .inr ⟨by omega,h.2⟩
   .rw [if_neg e]
    refine⟨⟨List.pairwise_append.2 ⟨k1,by simp,fun a ha b hb=>?_⟩,fun x hx=>?_⟩,fun p=>?_,fun _=>by simp,fun _=>by simp⟩
    .obtain rfl:b=(s.a,s.z):=by simpa using hb
     show a.2<s.a
     rcases f0g.1 ha with ha | ha
     .have h5:=p3 a ha q (by simp);omega
     .obtain rfl:a=q:=by simpa using ha
      omega
    .rcases f0g.1 hx with hx | hx
     .have:=k2 x hx;exact⟨this.1,by omega⟩
     .obtain rfl:x=(s.a,s.z):=by simpa using hx
      exact⟨h2,h3⟩
    .rw [jqp,jkz]
     simp only[f1z,decide_eq_true_eq,ht,true_and]
 .rw [if_neg ht]
  refine⟨⟨k.ap,fun q hq=>⟨(k.lt q hq).1,by have:=(k.lt q hq).2;omega⟩⟩,fun p=>⟨.inl,fun h=>h.resolve_right (fun h=>ht h.1)⟩,fun h=>absurd h ht,id⟩
theorem qil {bs:List Blk} {ins outs:List (List Nat)} {v:Nat} (hb:∀ k b,bs[k]?=some b->SpF b v ((jan bs).getD k 0) (jbn (ins.getD k []) v) (jbn (outs.getD k []) v) (jsj bs ins outs v k)) :
 ∀ K,K<=bs.length->j43 (jg2 bs ins outs v K) ((jan bs).getD K 0)/\(∀ p,jes (jg2 bs ins outs v K) p=true↔∃ j,j<K/\(jsj bs ins outs v j).t=true/\(jsj bs ins outs v j).a<=p/\p<(jsj bs ins outs v j).z)/\((∃ j,j<K/\(jsj bs ins outs v j).t=true)->jg2 bs ins outs v K≠[])
 | 0,_=>⟨⟨by simp[jg2],by simp[jg2]⟩,fun p=>⟨fun h=>by simp[jg2,jes] at h,fun⟨j,h,_⟩=>by omega⟩,fun⟨j,h,_⟩=>by omega⟩
 | K+1,hK=>by
  obtain⟨k1,k2,k3⟩:=qil hb K (by omega)
  obtain⟨b,hbk⟩:∃ b,bs[K]?=some b:=⟨_,f0a (by omega)⟩
  have f:=hb K b hbk
  obtain⟨n,h1,h2⟩:=jdl hbk
  have e1:(jan bs).getD K 0=n:=by rw[f0c,h1];rfl
  have e2:(jan bs).getD (K+1) 0=n+2+2*b.instrs.length:=by rw[f0c,h2];rfl
  have f1:=f.bd
  rw[e1] at k1 f1
  obtain⟨q1,q2,q3,q4⟩:=k1.add (s:=jsj bs ins outs v K) (lim':=n+2+2*b.instrs.length) f1 (by omega)
  rw[e2]
  refine⟨q1,fun p=>?_,fun⟨j,hj,ht⟩=>?_⟩
  .show jes (jkx _ _) p=true↔_
   rw[q2,k2]
   constructor
   .rintro (⟨j,hj,h⟩ | h)
    .exact ⟨j,by omega,h⟩
    .exact ⟨K,by omega,h⟩
   .rintro ⟨j,hj,h⟩
    rcases f0i j K with h5 | h5
    .exact .inl ⟨j,h5,h⟩
    .obtain rfl:j=K:=by omega
     exact .inr h
  .rcases f0i j K with h5 | h5
   .exact q4 (k3 ⟨j,h5,ht⟩)
   .obtain rfl:j=K:=by omega
    exact q3 ht
theorem jyr {L:List (List Nat)} (h:L.flatten.Nodup) {i j v:Nat} {a b:List Nat} (ha:L[i]?=some a) (hb:L[j]?=some b) (va:v∈a) (vb:v∈b):i=j:=by
 have hp:=(List.pairwise_flatten.1 h).2
 obtain⟨hi,ea⟩:=f0h.1 ha
 obtain⟨hj,eb⟩:=f0h.1 hb
 have hg:=List.pairwise_iff_getElem.1 hp
 rcases Nat.lt_trichotomy i j with h1 | h1 | h1
 .exact absurd rfl (hg i j hi hj h1 v (by rw[ea];exact va) v (by rw[eb];exact vb))
 .exact h1
 .exact absurd rfl (hg j i hj hi h1 v (by rw[eb];exact vb) v (by rw[ea];exact va))
structure SpFc (bs:List Blk) (n:Nat) (ins outs:List (List Nat)) (s:List Bool):Prop where
 nd:(jc3 bs).Perm (List.range n)
 kd:∀ b∈bs,∀ x∈b.instrs,∀ o∈x.ops,o.kind=1∨o.kind=2
 us:∀ (k i:Nat) (b:Blk) (x:Ins) (o:Opd),bs[k]?=some b->b.instrs[i]?=some x->o∈x.ops->o.kind=1->jq9 (jeb s) bs o.value k i
 fx:∀ q,q<bs.length->FxB bs ins outs q
section
variable {bs:List Blk} {n:Nat} {ins outs:List (List Nat)} {s:List Bool}
theorem SpFc.at (k:SpFc bs n ins outs s) {v q:Nat} {b:Blk} (hb:bs[q]?=some b):SpF b v ((jan bs).getD q 0) (jbn (ins.getD q []) v) (jbn (outs.getD q []) v) (jsj bs ins outs v q):=by
 have hnd:(jc3 bs).Nodup:=k.nd.nodup_iff.2 List.nodup_range
 have hbm:(jck b).Nodup:=(List.pairwise_flatten.1 hnd).1 _ (f1a.2 ⟨b,f0b hb,rfl⟩)
 have e:jsj bs ins outs v q=qcm b v ((jan bs).getD q 0) (jbn (ins.getD q []) v) (jbn (outs.getD q []) v):=by
  unfold jsj
  rw[f0c (l:=bs),hb];rfl
 rw[e]
 refine qu4 hbm (fun i x o h1 h2 h3 h4 j y p a1 a2 a3 a4=>?_) (k.kd b (f0b hb)) ((k.fx q (f0h.1 hb).1 b hb).2 v)
 have a5:p.kind=1:=by have:=k.kd b (f0b hb) y (f0b a1) p a2;omega
 obtain⟨c,m,d1,d2⟩:=k.us q j b y p hb a1 a2 a5
 rw[a4] at d1
 have vm:v∈jck b:=jky.2 (.inr ⟨i,x,o,h1,h2,h3,h4⟩)
 obtain⟨bc,g1,g2⟩:=d1
 have vc:v∈jck bc:=by
  unfold jck
  rcases g2 with⟨_,g2⟩ | ⟨t,z,_,g3,g4⟩
  .exact f06 _ g2
  .exact f00 _ (f2o.2 ⟨_,f1a.2 ⟨z,f0b g3,rfl⟩,g4⟩)
 have ecq:c=q:=jyr (L:=bs.map jck) hnd (by rw[f0p,g1];rfl) (by rw[f0p,hb];rfl) vc vm
 subst ecq
 rw[hb] at g1;cases g1
 rcases d2 with⟨_,d2⟩ | ⟨d2,_⟩
 .unfold jck at hbm
  obtain⟨_,m2,m3⟩:=f0l.1 hbm
  have vi:v∈jbm x:=jgm.2 ⟨o,h2,h3,h4⟩
  rcases g2 with⟨_,g2⟩ | ⟨t,z,rfl,g3,g4⟩
  .exact absurd rfl (m3 v g2 v (f2o.2 ⟨_,f1a.2 ⟨x,f0b h1,rfl⟩,vi⟩))
  .have:=jyr (L:=b.instrs.map jbm) m2 (i:=i) (j:=t) (by rw[f0p,h1];rfl) (by rw[f0p,g3];rfl) vi g4
   omega
 .exact absurd rfl d2
theorem SpFc.row (k:SpFc bs n ins outs s) (v:Nat):j43 (jg2 bs ins outs v bs.length) ((jan bs).getD bs.length 0)/\(∀ p,jes (jg2 bs ins outs v bs.length) p=true↔∃ j,j<bs.length/\(jsj bs ins outs v j).t=true/\(jsj bs ins outs v j).a<=p/\p<(jsj bs ins outs v j).z)/\((∃ j,j<bs.length/\(jsj bs ins outs v j).t=true)->jg2 bs ins outs v bs.length≠[]):=qil (bs:=bs) (ins:=ins) (outs:=outs) (v:=v) (fun q b hb=>k.at hb) bs.length (f0f _)
theorem jqq {bs:List Blk}:∀ {i j:Nat},i<=j->j<=bs.length->(jan bs).getD i 0<=(jan bs).getD j 0:=by
 intro i j hij hj
 induction j with
 | zero=>obtain rfl:i=0:=by omega
         exact f0f _
 | succ j ih =>
  rcases f0i i (j+1) with h | h
  .obtain ⟨b,hb⟩:∃ b,bs[j]?=some b:=⟨_,f0a (by omega)⟩
   obtain⟨m,h1,h2⟩:=jdl hb
   have h3:=ih (by omega) (by omega)
   have e1:(jan bs).getD j 0=m:=by rw[f0c,h1];rfl
   have e2:(jan bs).getD (j+1) 0=m+2+2*b.instrs.length:=by rw[f0c,h2];rfl
   omega
  .obtain rfl:i=j+1:=by omega
   exact f0f _
theorem SpFc.need (k:SpFc bs n ins outs s) {v q p:Nat} {b:Blk} (hb:bs[q]?=some b) (h1:(jan bs).getD q 0<=p) (h2:p<(jan bs).getD (q+1) 0) :
 jes (jg2 bs ins outs v bs.length) p=true↔((jsj bs ins outs v q).t=true/\(jsj bs ins outs v q).a<=p/\p<(jsj bs ins outs v q).z):=by
 have hq:=(f0h.1 hb).1
 rw[(k.row v).2.1]
 constructor
 .rintro ⟨j,hj,h3,h4,h5⟩
  obtain⟨c,hc⟩:∃ c,bs[j]?=some c:=⟨_,f0a hj⟩
  have f:=(k.at (v:=v) hc).bd h3
  obtain⟨m,m1,m2⟩:=jdl hc
  have e1:(jan bs).getD j 0=m:=by rw[f0c,m1];rfl
  have e2:(jan bs).getD (j+1) 0=m+2+2*c.instrs.length:=by rw[f0c,m2];rfl
  rw[e1] at f
  have ej:j=q:=by
   rcases Nat.lt_trichotomy j q with h | h | h
   .have:=jqq (bs:=bs) (i:=j+1) (j:=q) h (by omega);omega
   .exact h
   .have:=jqq (bs:=bs) (i:=q+1) (j:=j) h (by omega);omega
  subst ej
  exact⟨h3,h4,h5⟩
 .rintro ⟨h3,h4,h5⟩
  exact⟨q,hq,h3,h4,h5⟩
end
end Go.Proofs.Ytehhjbfmjdlcjaa.Ms
