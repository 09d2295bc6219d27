/- What functions may be: no two operands of an instruction ask for one place. -/
import Derived.Test.YtaljcpoopmedmaaSd
namespace Go.Proofs.Ytaljcpoopmedmaa.Ev
open Go Go.RowKit Go.Proofs.Ytaljcpoopmedmaa.Ms
attribute [local go_sem] Int.cast_ofNat_Int Int.natCast_zero Int.natCast_one decide_eq_true_eq decide_eq_false_iff_not Bool.false_eq_true and_true true_and List.cons_append List.nil_append reduceCtorEq decide_true decide_false Bool.not_true Bool.not_false Nat.add_zero Nat.zero_add Option.some.injEq Bool.true_eq_false not_true_eq_false not_false_eq_true Hp.next_push Hp.next_put Nat.add_assoc Int.reduceToNat Nat.reduceAdd Nat.reduceMul Nat.reduceEqDiff Int.reduceEq Int.reduceLT Int.reduceLE Int.reduceNeg Int.reduceAdd Int.reduceSub Int.reduceMul Int.reduceNe
attribute [local go_sem ↓] reduceIte
set_option linter.all false
set_option maxRecDepth 100000
set_option maxHeartbeats 2000000
section
variable {h:Hp} {f:Fc} {m:Nat×Nat} {Q:AV->Hp->Prop}
theorem j7o {op vl lm n kd:Nat} {lt:Bool} {ops:List Ms.Opd} {sp:List (Nat×Nat)} (h1:lm=5->∃ u,ops[n]?=some u/\u.value<f.values.length) (h2:vl<f.values.length):WC F4 70 [.agg [jak ja5 f.values,jak ja7 f.blocks],.agg [si op,jak jbj ops,jak jdw sp],.agg [si kd,si vl,.bool lt,si lm,si n]] h Q=Q (qji (jis f.values ops ⟨kd,vl,lt,lm,n⟩)) h :=
 jau (jb7 rfl (by simp only [ja2,jbb,jbr,jdz,jbc,jbs,jbn,jcu,jbt,jb8,if_true]) (qfh (x:=⟨op,ops,sp⟩) (o:=⟨kd,vl,lt,lm,n⟩) jem h1 h2))
theorem qfm {l:List (Nat×Nat)} {a b:Nat} (hr:(a,b)∉l) (hl:l.length<=10000):WC F4 71 [.s (jak jdw l),.agg [si a,si b]] h Q=Q (vb false) h :=
 jau (jb7 rfl (by simp only [ja2,jbb,jbr,jdz,jbc,jbs,jbn,jcu,jbt,jb8,if_true]) (qfj (r:=(a,b)) jem hr hl))
theorem qan {kd vl lm n ukd uvl ulm un:Nat} {lt ult:Bool} (ha:kd=1∨kd=2) (hb:ukd=1∨ukd=2):∃ b,∀ h Q,WC F4 72 [.agg [si kd,si vl,.bool lt,si lm,si n],.agg [si ukd,si uvl,.bool ult,si ulm,si un]] h Q=Q (vb b) h:=by
 obtain ⟨n1,v,h',h1,b,d,h2⟩:=qal (vl:=vl) (lm:=lm) (n:=n) (uvl:=uvl) (ulm:=ulm) (un:=un) (lt:=lt) (ult:=ult) jem ha hb
 exact ⟨b,fun h Q=>jau (jb7 rfl (by simp only [ja2,jbb,jbr,jdz,jbc,jbs,jbn,jcu,jbt,jb8,if_true]) ⟨n1,v,h',h1,d,h2⟩)⟩
end
def jms (l:List Ms.Opd) (i:Nat):SV:=.lst ((l.map jbj).take i)
theorem qao {l:List Ms.Opd} {i:Nat} (hi:i<l.length):qjg 5 (some (.s (jak jbj l))) (some (vi (i:Int)))=some (.s (jms l i)):=by
 cases l with
 | nil=>simp at hi
 | cons a l =>
  show oif (Nat.ble i (jc1 ((a::l).map jbj))) (oif (Nat.ble 0 i) (oif (j3g 5 ((a::l).map jbj)) (ob (jbx (Nat.sub i 0) (jcb 0 ((a::l).map jbj))) (fun r=>some (AV.s (.lst r)))) none) none) none=_
  have h1:jc1 ((a::l).map jbj)=(a::l).length:=by rw [jbd,List.length_map]
  have h2:Nat.ble i (jc1 ((a::l).map jbj))=true:=Nat.ble_eq_true_of_le (by rw [h1];omega)
  have h3:jbx (Nat.sub i 0) (jcb 0 ((a::l).map jbj))=some (((a::l).map jbj).take i):=(ja1 _).2 ⟨by show i<=(jcb 0 ((a::l).map jbj)).length;rw [jby,List.drop_zero,List.length_map];omega,by rw [jby];rfl⟩
  rw [h2,h3]
  rfl
theorem j7p {l:List Ms.Opd} {i:Nat} (hi:i<l.length):jvo (.s (jms l i))=some (vi i):=by
 unfold jms
 rw [jkd,List.length_take,List.length_map,Nat.min_eq_left (by omega)]
theorem j7q {l:List Ms.Opd} {i j:Nat} {o:Ms.Opd} (hj:j<i) (h:l[j]?=some o):jw3 5 (.s (jms l i)) (vi (j:Int))=some (.s (.cp (jbj o))):=by
 unfold jms
 exact j0f (by rw [List.getElem?_take,if_pos hj,List.getElem?_map,h];rfl) rfl
def qfn:IC->IC
 | .seq a b=>a
 | c=>c
def qfo:IC->IC
 | .seq a b=>b
 | c=>c
def qap (i j:Nat) (o p:Ms.Opd):Bool:=(decide (o.limit=5)&&decide (o.n=j))||(decide (p.limit=5)&&decide (p.n=i))
theorem qfp {hi:Hp} {o p:Ms.Opd} {i j bO bP:Nat} (xO:hi.get bO=some (.arr [si o.kind,si o.value,.bool o.late,si o.limit,si o.n] 48)) (xP:hi.get bP=some (.arr [si p.kind,si p.value,.bool p.late,si p.limit,si p.n] 48))
 {x0 x1 x2 x3 x4 x5 x6 x8 x10 x11 x12 x13 x15 x16 x17 x18 x20 x21 x22 x23 x24 x25:AV} {K:Ex->St->Prop} (hK:K .normal (.mk [x0,x1,x2,x3,vb (qap i j o p),x5,x6,vi j,x8,.s (.ptr bP 0),x10,x11,x12,x13,vi i,x15,x16,x17,x18,.s (.ptr bO 0),x20,x21,x22,x23,x24,x25] hi)) :
 W F4 (qfn jhd) (.mk [x0,x1,x2,x3,x4,x5,x6,vi j,x8,.s (.ptr bP 0),x10,x11,x12,x13,vi i,x15,x16,x17,x18,.s (.ptr bO 0),x20,x21,x22,x23,x24,x25] hi) K:=by
 have right:∀ (c:Prop) [Decidable c],(decide (p.limit=5)&&decide (p.n=i))=decide c->True:=fun _ _ _=>trivial
 unfold jhd
 simp only [qfn]
 unfold qap at hK
 by_cases e1:o.limit=5
 ·have c1:((o.limit:Int)=5)=True:=by simp;omega
  by_cases e2:o.n=j
  ·have c2:((o.n:Int)=(j:Int))=True:=by simp;omega
   simp only [e1,e2,decide_true,Bool.and_self,Bool.true_or] at hK
   simp (disch:=first|omega|simp only[List.length]|apply_rules[jaa,jac,jad]) only [go_sem,xO,xP,c1,c2]
   exact hK
  ·have c2:((o.n:Int)=(j:Int))=False:=by simp;omega
   by_cases e3:p.limit=5
   ·have c3:((p.limit:Int)=5)=True:=by simp;omega
    by_cases e4:p.n=i
    ·have c4:((p.n:Int)=(i:Int))=True:=by simp;omega
     simp only [e1,e2,e3,e4,decide_true,decide_false,Bool.and_self,Bool.and_false,Bool.false_or] at hK
     simp (disch:=first|omega|simp only[List.length]|apply_rules[jaa,jac,jad]) only [go_sem,xO,xP,c1,c2,c3,c4]
     exact hK
    ·have c4:((p.n:Int)=(i:Int))=False:=by simp;omega
     simp only [e1,e2,e3,e4,decide_true,decide_false,Bool.and_self,Bool.and_false,Bool.false_or] at hK
     simp (disch:=first|omega|simp only[List.length]|apply_rules[jaa,jac,jad]) only [go_sem,xO,xP,c1,c2,c3,c4]
     exact hK
   ·have c3:((p.limit:Int)=5)=False:=by simp;omega
    simp only [e1,e2,e3,decide_true,decide_false,Bool.and_self,Bool.and_false,Bool.false_and,Bool.false_or] at hK
    simp (disch:=first|omega|simp only[List.length]|apply_rules[jaa,jac,jad]) only [go_sem,xO,xP,c1,c2,c3]
    exact hK
 ·have c1:((o.limit:Int)=5)=False:=by simp;omega
  by_cases e3:p.limit=5
  ·have c3:((p.limit:Int)=5)=True:=by simp;omega
   by_cases e4:p.n=i
   ·have c4:((p.n:Int)=(i:Int))=True:=by simp;omega
    simp only [e1,e3,e4,decide_true,decide_false,Bool.and_self,Bool.and_false,Bool.false_and,Bool.false_or] at hK
    simp (disch:=first|omega|simp only[List.length]|apply_rules[jaa,jac,jad]) only [go_sem,xO,xP,c1,c3,c4]
    exact hK
   ·have c4:((p.n:Int)=(i:Int))=False:=by simp;omega
    simp only [e1,e3,e4,decide_true,decide_false,Bool.and_self,Bool.and_false,Bool.false_and,Bool.false_or] at hK
    simp (disch:=first|omega|simp only[List.length]|apply_rules[jaa,jac,jad]) only [go_sem,xO,xP,c1,c3,c4]
    exact hK
  ·have c3:((p.limit:Int)=5)=False:=by simp;omega
   simp only [e1,e3,decide_true,decide_false,Bool.and_self,Bool.and_false,Bool.false_and,Bool.false_or] at hK
   simp (disch:=first|omega|simp only[List.length]|apply_rules[jaa,jac,jad]) only [go_sem,xO,xP,c1,c3]
   exact hK
def qaq:Option (Nat×Nat)->List SV
 | none=>[si 0,si 0]
 | some r=>[si r.1,si r.2]
theorem j1m (x:Option (Nat×Nat)):∃ a b:Nat,qaq x=[si a,si b]:=by
 cases x with
 | none=>exact ⟨0,0,rfl⟩
 | some r=>exact ⟨r.1,r.2,rfl⟩
theorem j7r {x:Option (Nat×Nat)} {a b:Nat} (h:qaq x=[si a,si b]):qji x=.tup [(true,[si a,si b]),(false,[.bool x.isSome])]:=by
 rw [←h];cases x<;>rfl
theorem qar {hi:Hp} {o p:Ms.Opd} {fo fp:Option (Nat×Nat)} {same:Bool} {bO bP bQ bR:Nat} (ko:o.kind=1∨o.kind=2) (kp:p.kind=1∨p.kind=2) (hs:∀ r,fo=some r->fp=some r->same=true)
 (xO:hi.get bO=some (.arr [si o.kind,si o.value,.bool o.late,si o.limit,si o.n] 48)) (xP:hi.get bP=some (.arr [si p.kind,si p.value,.bool p.late,si p.limit,si p.n] 48))
 (xQ:hi.get bQ=some (.arr (qaq fp) 118)) (xR:hi.get bR=some (.arr (qaq fo) 118))
 {x0 x1 x2 x3 x7 x8 x10 x11 x12 x13 x14 x15 x16 x20 x21 x22 x23 x24 x25:AV} {K:Ex->St->Prop} (hK:K .normal (.mk [x0,x1,x2,vb false,vb same,.s (.ptr bQ 0),vb fp.isSome,x7,x8,.s (.ptr bP 0),x10,x11,x12,x13,x14,x15,x16,.s (.ptr bR 0),vb fo.isSome,.s (.ptr bO 0),x20,x21,x22,x23,x24,x25] hi)) :
 W F4 (qfo jhd) (.mk [x0,x1,x2,x3,vb same,.s (.ptr bQ 0),vb fp.isSome,x7,x8,.s (.ptr bP 0),x10,x11,x12,x13,x14,x15,x16,.s (.ptr bR 0),vb fo.isSome,.s (.ptr bO 0),x20,x21,x22,x23,x24,x25] hi) K:=by
 unfold jhd
 simp only [qfo]
 cases fo with
 | none =>
  simp only [Option.isSome_none] at hK ⊢
  simp (disch:=first|omega|simp only[List.length]|apply_rules[jaa,jac,jad]) only [go_sem]
  exact hK
 | some r =>
  cases fp with
  | none =>
   simp only [Option.isSome_none,Option.isSome_some] at hK ⊢
   simp (disch:=first|omega|simp only[List.length]|apply_rules[jaa,jac,jad]) only [go_sem]
   exact hK
  | some q =>
   simp only [Option.isSome_some] at hK ⊢
   unfold qaq at xQ xR
   simp only at xQ xR
   by_cases e:q=r
   ·subst e
    have:=hs q rfl rfl
    subst this
    have c1:((q.1:Int)=(q.1:Int)/\(q.2:Int)=(q.2:Int))=True:=by simp
    obtain ⟨b,hb⟩:=qan (vl:=o.value) (lm:=o.limit) (n:=o.n) (uvl:=p.value) (ulm:=p.limit) (un:=p.n) (lt:=o.late) (ult:=p.late) ko kp
    cases b with
    | true =>
     simp (disch:=first|omega|simp only[List.length]|apply_rules[jaa,jac,jad]) only [go_sem,xO,xP,xQ,xR,jro,qjh,c1,hb]
     exact hK
    | false =>
     simp (disch:=first|omega|simp only[List.length]|apply_rules[jaa,jac,jad]) only [go_sem,xO,xP,xQ,xR,jro,qjh,c1,hb]
     exact hK
   ·have c1:((q.1:Int)=(r.1:Int)/\(q.2:Int)=(r.2:Int))=False:=eq_false (fun h=>e (by
     obtain ⟨a,b⟩:=q
     obtain ⟨c,d⟩:=r
     simp only at h;simp;omega))
    have c2:((r.1:Int)=(q.1:Int)/\(r.2:Int)=(q.2:Int))=False:=eq_false (fun h=>e (by
     obtain ⟨a,b⟩:=q
     obtain ⟨c,d⟩:=r
     simp only at h;simp;omega))
    simp (disch:=first|omega|simp only[List.length]|apply_rules[jaa,jac,jad]) only [go_sem,xO,xP,xQ,xR,jro,qjh,c1,c2]
    exact hK
theorem qch {f:Fc} {x:Ms.Ins} {m:Nat×Nat} (k:InsOk m f.values x) {i:Nat} {o:Ms.Opd} (hio:x.ops[i]?=some o) {bF bX bO bR:Nat} {x0 x1 x2 x15 x16 x21 x22 x23 x24:AV} {Q:Ex->St->Prop} :
 ∀ (d j:Nat) (_:j+d=i) {hi:Hp} (_:Ok hi) (_:bF<hi.next/\bX<hi.next/\bO<hi.next/\bR<hi.next) (_:hi.get bF=some (.arr [jak ja5 f.values,jak ja7 f.blocks] 26)) (_:hi.get bX=some (.arr [si x.op,jak jbj x.ops,jak jdw x.spoils] 46))
  (_:hi.get bO=some (.arr [si o.kind,si o.value,.bool o.late,si o.limit,si o.n] 48)) (_:hi.get bR=some (.arr (qaq (jis f.values x.ops o)) 118)) {x3 x4 x5 x6 x7 x8 x9 x11:AV}
  (hQ:∀ hj x3 x4 x5 x6 x7 x8 x9 x11,Ok hj->hi.next<=hj.next->(∀ k,k<hi.next->hj.get k=hi.get k)->Q (.exit 2) (.mk [x0,x1,x2,x3,x4,x5,x6,x7,x8,x9,.s (jms x.ops i),x11,vi i,vi i,vi i,x15,x16,.s (.ptr bR 0),vb (jis f.values x.ops o).isSome,.s (.ptr bO 0),.s (.ptr bF 0),x21,x22,x23,x24,.s (.ptr bX 0)] hj)),
  W F4 jpx.loop (.mk [x0,x1,x2,x3,x4,x5,x6,x7,x8,x9,.s (jms x.ops i),x11,vi i,vi j,vi i,x15,x16,.s (.ptr bR 0),vb (jis f.values x.ops o).isSome,.s (.ptr bO 0),.s (.ptr bF 0),x21,x22,x23,x24,.s (.ptr bX 0)] hi) Q
 | 0,j,hd,hi,ok,hb,xF,xX,xO,xR,x3,x4,x5,x6,x7,x8,x9,x11,hQ=>by
  obtain rfl:j=i:=by omega
  rw [jao]
  unfold jpx
  simp (disch:=first|omega|simp only[List.length]|apply_rules[jaa,jac,jad]) only [go_sem,Int.lt_irrefl]
  exact hQ hi _ _ _ _ _ _ _ _ ok (Nat.le_refl _) (fun _ _=>rfl)
 | d+1,j,hd,hi,ok,hb,xF,xX,xO,xR,x3,x4,x5,x6,x7,x8,x9,x11,hQ=>by
  have hlt:(j:Int)<(i:Int):=by omega
  have hil:i<x.ops.length:=by
   rcases Nat.lt_or_ge i x.ops.length with h7 | h7
   ·exact h7
   ·rw [List.getElem?_eq_none h7] at hio;cases hio
  have hno:=k.nops
  obtain ⟨p,hget⟩:∃ y,x.ops[j]?=some y:=⟨_,List.getElem?_eq_getElem (by omega)⟩
  have hpm:=List.mem_of_getElem? hget
  have ho:=k.opd o (List.mem_of_getElem? hio)
  have hp:=k.opd p hpm
  have hcl:=k.cla i j o p (by omega) hio hget
  have hix:=j7q (l:=x.ops) (i:=i) (j:=j) (by omega) hget
  have hs:(j:Int)+1=((j+1:Nat):Int):=by omega
  obtain ⟨hA,eA,okA,nA,xA,gA⟩:=jda ok [.int .i64 0,.int .i64 0,.bool false,.int .i64 0,.int .i64 0] (jbj p) 48
  have yF:=(gA _ hb.1).trans xF
  have yX:=(gA _ hb.2.1).trans xX
  have yO:=(gA _ hb.2.2.1).trans xO
  have yR:=(gA _ hb.2.2.2).trans xR
  obtain ⟨hB,eB,okB,nB,xB,gB⟩:=jda okA [.int .i64 0,.int .i64 0] (qaq (jis f.values x.ops p)) 118
  have zF:=(gB _ (by omega)).trans yF
  have zX:=(gB _ (by omega)).trans yX
  have zO:=(gB _ (by omega)).trans yO
  have zR:=(gB _ (by omega)).trans yR
  have zA:=(gB _ (by omega)).trans xA
  obtain ⟨a,b,hab⟩:=j1m (jis f.values x.ops p)
  have wf:=fun {h:Hp} {Q:AV->Hp->Prop}=>(j7o (h:=h) (Q:=Q) (f:=f) (op:=x.op) (vl:=p.value) (lm:=p.limit) (n:=p.n) (kd:=p.kind) (lt:=p.late) (ops:=x.ops) (sp:=x.spoils) (fun e=>by
   obtain ⟨u,h1,_⟩:=k.reu p hpm e
   exact ⟨u,h1,(k.opd u (List.mem_of_getElem? h1)).val⟩) hp.val).trans (by rw [j7r hab])
  unfold jbj at xA eA zA
  rw [nA] at eB xB
  rw [hab] at eB
  have rest:∀ (x3 x4 x8 x11:AV) (K:Ex->St->Prop),K .normal (.mk [x0,x1,x2,vb false,vb (qap i j o p),.s (.ptr (hi.next+1) 0),vb (jis f.values x.ops p).isSome,vi j,x8,.s (.ptr hi.next 0),.s (jms x.ops i),x11,vi i,vi j,vi i,x15,x16,.s (.ptr bR 0),vb (jis f.values x.ops o).isSome,.s (.ptr bO 0),.s (.ptr bF 0),x21,x22,x23,x24,.s (.ptr bX 0)] hB) ->
   W F4 jhd (.mk [x0,x1,x2,x3,x4,.s (.ptr (hi.next+1) 0),vb (jis f.values x.ops p).isSome,vi j,x8,.s (.ptr hi.next 0),.s (jms x.ops i),x11,vi i,vi j,vi i,x15,x16,.s (.ptr bR 0),vb (jis f.values x.ops o).isSome,.s (.ptr bO 0),.s (.ptr bF 0),x21,x22,x23,x24,.s (.ptr bX 0)] hB) K:=fun x3 x4 x8 x11 K hK=>by
   rw [show jhd=.seq (qfn jhd) (qfo jhd) from rfl,j9s]
   refine qfp zO zA ?_
   rw [jf2]
   refine qar ho.kind hp.kind (fun r h1 h2=>?_) zO zA xB zR hK
   unfold qap
   rcases hcl.2 r h1 h2 with ⟨h3,h4⟩ | ⟨h3,h4⟩
   ·simp [h3,h4]
   ·simp [h3,h4]
  have fin:∀ (x3 x4 x8:AV),W F4 jpx.loop (.mk [x0,x1,x2,x3,x4,.s (.ptr (hi.next+1) 0),vb (jis f.values x.ops p).isSome,vi j,x8,.s (.ptr hi.next 0),.s (jms x.ops i),vb true,vi i,vi (j+1:Nat),vi i,x15,x16,.s (.ptr bR 0),vb (jis f.values x.ops o).isSome,.s (.ptr bO 0),.s (.ptr bF 0),x21,x22,x23,x24,.s (.ptr bX 0)] hB) Q:=fun x3 x4 x8 =>
   qch k hio d (j+1) (by omega) okB (by omega) zF zX zO zR (fun hj x3 x4 x5 x6 x7 x8 x9 x11 o n g=>hQ hj x3 x4 x5 x6 x7 x8 x9 x11 o (by omega) (fun k hk=>(g k (by omega)).trans ((gB k (by omega)).trans (gA k hk))))
  rw [jao]
  unfold jpx j6u
  by_cases e1:o.limit=5
  ·have c1:((o.limit:Int)=5)=True:=by simp;omega
   by_cases e2:p.limit=5
   ·have c2:((p.limit:Int)=5)=True:=by simp;omega
    have c3:((o.n:Int)=(p.n:Int))=False:=by have:=hcl.1 e1 e2;simp;omega
    simp (disch:=first|omega|simp only[List.length]|apply_rules[jaa,jac,jad]) only [go_sem,jah,eq_true hlt,hix,jbj,eA,xA,nA,yF,yX,wf,eB,zO,zA,c1,c2,c3]
    refine rest _ _ _ _ _ ?_
    simp (disch:=first|omega|simp only[List.length]|apply_rules[jaa,jac,jad]) only [go_sem,jah,hs]
    exact fin _ _ _
   ·have c2:((p.limit:Int)=5)=False:=by simp;omega
    simp (disch:=first|omega|simp only[List.length]|apply_rules[jaa,jac,jad]) only [go_sem,jah,eq_true hlt,hix,jbj,eA,xA,nA,yF,yX,wf,eB,zO,zA,c1,c2]
    refine rest _ _ _ _ _ ?_
    simp (disch:=first|omega|simp only[List.length]|apply_rules[jaa,jac,jad]) only [go_sem,jah,hs]
    exact fin _ _ _
  ·have c1:((o.limit:Int)=5)=False:=by simp;omega
   simp (disch:=first|omega|simp only[List.length]|apply_rules[jaa,jac,jad]) only [go_sem,jah,eq_true hlt,hix,jbj,eA,xA,nA,yF,yX,wf,eB,zO,zA,c1]
   refine rest _ _ _ _ _ ?_
   simp (disch:=first|omega|simp only[List.length]|apply_rules[jaa,jac,jad]) only [go_sem,jah,hs]
   exact fin _ _ _
theorem j7s {f:Fc} {x:Ms.Ins} {m:Nat×Nat} (k:InsOk m f.values x) {bF bX:Nat} {x0 x1 x2:AV} {Q:Ex->St->Prop} :
 ∀ (d i:Nat) (_:i+d=x.ops.length) {hi:Hp} (_:Ok hi) (_:bF<hi.next/\bX<hi.next) (_:hi.get bF=some (.arr [jak ja5 f.values,jak ja7 f.blocks] 26)) (_:hi.get bX=some (.arr [si x.op,jak jbj x.ops,jak jdw x.spoils] 46))
  {x3 x4 x5 x6 x7 x8 x9 x10 x11 x12 x13 x14 x15 x16 x17 x18 x19 x22:AV}
  (hQ:∀ hj x3 x4 x5 x6 x7 x8 x9 x10 x11 x12 x13 x14 x15 x16 x17 x18 x19 x22,Q (.exit 0) (.mk [x0,x1,x2,x3,x4,x5,x6,x7,x8,x9,x10,x11,x12,x13,x14,x15,x16,x17,x18,x19,.s (.ptr bF 0),.s (jak jbj x.ops),x22,vi x.ops.length,vi x.ops.length,.s (.ptr bX 0)] hj)),
  W F4 jpy.loop (.mk [x0,x1,x2,x3,x4,x5,x6,x7,x8,x9,x10,x11,x12,x13,x14,x15,x16,x17,x18,x19,.s (.ptr bF 0),.s (jak jbj x.ops),x22,vi x.ops.length,vi i,.s (.ptr bX 0)] hi) Q
 | 0,i,hd,hi,ok,hb,xF,xX,x3,x4,x5,x6,x7,x8,x9,x10,x11,x12,x13,x14,x15,x16,x17,x18,x19,x22,hQ=>by
  obtain rfl:i=x.ops.length:=by omega
  rw [jao]
  unfold jpy
  simp (disch:=first|omega|simp only[List.length]|apply_rules[jaa,jac,jad]) only [go_sem,Int.lt_irrefl]
  exact hQ hi ..
 | d+1,i,hd,hi,ok,hb,xF,xX,x3,x4,x5,x6,x7,x8,x9,x10,x11,x12,x13,x14,x15,x16,x17,x18,x19,x22,hQ=>by
  have hlt:(i:Int)<(x.ops.length:Int):=by omega
  have hil:i<x.ops.length:=by omega
  have hno:=k.nops
  have hns:=k.nsp
  obtain ⟨o,hio⟩:∃ y,x.ops[i]?=some y:=⟨_,List.getElem?_eq_getElem hil⟩
  have hom:=List.mem_of_getElem? hio
  have ho:=k.opd o hom
  have hsp:=k.sp o hom
  have hix:=jap (enc:=jbj) (size:=5) hio rfl
  have hs:(i:Int)+1=((i+1:Nat):Int):=by omega
  obtain ⟨hA,eA,okA,nA,xA,gA⟩:=jda ok [.int .i64 0,.int .i64 0,.bool false,.int .i64 0,.int .i64 0] (jbj o) 48
  have yF:=(gA _ hb.1).trans xF
  have yX:=(gA _ hb.2).trans xX
  obtain ⟨hB,eB,okB,nB,xB,gB⟩:=jda okA [.int .i64 0,.int .i64 0] (qaq (jis f.values x.ops o)) 118
  have zF:=(gB _ (by omega)).trans yF
  have zX:=(gB _ (by omega)).trans yX
  have zA:=(gB _ (by omega)).trans xA
  obtain ⟨a,b,hab⟩:=j1m (jis f.values x.ops o)
  have wf:=fun {h:Hp} {Q:AV->Hp->Prop}=>(j7o (h:=h) (Q:=Q) (f:=f) (op:=x.op) (vl:=o.value) (lm:=o.limit) (n:=o.n) (kd:=o.kind) (lt:=o.late) (ops:=x.ops) (sp:=x.spoils) (fun e=>by
   obtain ⟨u,h1,_⟩:=k.reu o hom e
   exact ⟨u,h1,(k.opd u (List.mem_of_getElem? h1)).val⟩) ho.val).trans (by rw [j7r hab])
  have xB':=xB
  have nil:(jis f.values x.ops o).isSome=false∨((jis f.values x.ops o).isSome=true/\(a,b)∉x.spoils):=by
   cases e:jis f.values x.ops o with
   | none=>exact .inl rfl
   | some r =>
    right
    refine ⟨rfl,?_⟩
    rw [e] at hab
    unfold qaq at hab
    simp only [List.cons.injEq,and_true] at hab
    have h1:r=(a,b):=by
     obtain ⟨c,d⟩:=r
     have h1:=(SV.int.inj hab.1).2
     have h2:=(SV.int.inj hab.2).2
     simp only at h1 h2;simp;omega
    rw [←h1];exact hsp r e
  have sl:=qao hil
  have ls:=j7p hil
  unfold jbj at xA eA zA
  rw [nA] at eB xB
  rw [hab] at eB
  have xB2:=xB
  rw [hab] at xB2
  have fin:∀ (x3 x4 x5 x6 x7 x8 x9 x11 x12 x13:AV) (hj:Hp),Ok hj->hB.next<=hj.next->(∀ k,k<hB.next->hj.get k=hB.get k)->∀ (x14 x15 x16 x17 x18 x19:AV),W F4 jpy.loop (.mk [x0,x1,x2,x3,x4,x5,x6,x7,x8,x9,.s (jms x.ops i),x11,x12,x13,x14,x15,x16,x17,x18,x19,.s (.ptr bF 0),.s (jak jbj x.ops),vb true,vi x.ops.length,vi (i+1:Nat),.s (.ptr bX 0)] hj) Q:=fun x3 x4 x5 x6 x7 x8 x9 x11 x12 x13 hj o n g x14 x15 x16 x17 x18 x19 =>
   j7s k d (i+1) (by omega) o ⟨by omega,by omega⟩ ((g _ (by omega)).trans zF) ((g _ (by omega)).trans zX) hQ
  have tail:∀ (x3 x4 x5 x6 x7 x8 x9 x10 x11 x12 x13 x15 x16:AV) (K:Ex->St->Prop),(∀ hj x3 x4 x5 x6 x7 x8 x9 x11,Ok hj->hB.next<=hj.next->(∀ k,k<hB.next->hj.get k=hB.get k)->K .normal (.mk [x0,x1,x2,x3,x4,x5,x6,x7,x8,x9,.s (jms x.ops i),x11,vi i,vi i,vi i,x15,x16,.s (.ptr (hi.next+1) 0),vb (jis f.values x.ops o).isSome,.s (.ptr hi.next 0),.s (.ptr bF 0),.s (jak jbj x.ops),vb true,vi x.ops.length,vi i,.s (.ptr bX 0)] hj)) ->
   W F4 jy7 (.mk [x0,x1,x2,x3,x4,x5,x6,x7,x8,x9,x10,x11,x12,x13,vi i,x15,x16,.s (.ptr (hi.next+1) 0),vb (jis f.values x.ops o).isSome,.s (.ptr hi.next 0),.s (.ptr bF 0),.s (jak jbj x.ops),vb true,vi x.ops.length,vi i,.s (.ptr bX 0)] hB) K:=fun x3 x4 x5 x6 x7 x8 x9 x10 x11 x12 x13 x15 x16 K hK=>by
   unfold jy7
   simp (disch:=first|omega|simp only[List.length]|apply_rules[jaa,jac,jad]) only [go_sem,zX,jh9,sl,ls]
   refine qch k hio i 0 (by omega) okB ⟨by omega,by omega,by omega,by omega⟩ zF zX zA xB (fun hj x3 x4 x5 x6 x7 x8 x9 x11 o n g=>?_)
   simp (disch:=first|omega|simp only[List.length]|apply_rules[jaa,jac,jad]) only [go_sem]
   exact hK hj x3 x4 x5 x6 x7 x8 x9 x11 o n g
  generalize (jis f.values x.ops o).isSome=has at *
  have kk:((o.kind:Int)=2)=False∨((o.kind:Int)=2)=True:=by
   rcases ho.kind with h | h
   ·left;simp;omega
   ·right;simp;omega
  rw [jao]
  unfold jpy j6w j6v
  rcases nil with hn | ⟨hn,hm⟩
  ·subst hn
   simp (disch:=first|omega|simp only[List.length]|apply_rules[jaa,jac,jad]) only [go_sem,jah,eq_true hlt,hix,jbj,eA,xA,nA,yF,yX,wf,eB,zA]
   refine tail _ _ _ _ _ _ _ _ _ _ _ _ _ _ (fun hj x3 x4 x5 x6 x7 x8 x9 x11 o n g=>?_)
   simp (disch:=first|omega|simp only[List.length]|apply_rules[jaa,jac,jad]) only [go_sem,jah,hs]
   exact fin _ _ _ _ _ _ _ _ _ _ hj o n g _ _ _ _ _ _
  ·subst hn
   have wc:=fun {h:Hp} {Q:AV->Hp->Prop}=>qfm (h:=h) (Q:=Q) (l:=x.spoils) (a:=a) (b:=b) hm (by omega)
   cases hlate:o.late with
   | true =>
    rw [hlate] at xA eA zA wf
    rcases kk with c1 | c1
    ·simp (disch:=first|omega|simp only[List.length]|apply_rules[jaa,jac,jad]) only [go_sem,jah,eq_true hlt,hix,jbj,hlate,eA,xA,nA,yF,yX,wf,eB,zA,zX,xB2,wc,c1]
     refine tail _ _ _ _ _ _ _ _ _ _ _ _ _ _ (fun hj x3 x4 x5 x6 x7 x8 x9 x11 o n g=>?_)
     simp (disch:=first|omega|simp only[List.length]|apply_rules[jaa,jac,jad]) only [go_sem,jah,hs]
     exact fin _ _ _ _ _ _ _ _ _ _ hj o n g _ _ _ _ _ _
    ·simp (disch:=first|omega|simp only[List.length]|apply_rules[jaa,jac,jad]) only [go_sem,jah,eq_true hlt,hix,jbj,hlate,eA,xA,nA,yF,yX,wf,eB,zA,zX,xB2,wc,c1]
     refine tail _ _ _ _ _ _ _ _ _ _ _ _ _ _ (fun hj x3 x4 x5 x6 x7 x8 x9 x11 o n g=>?_)
     simp (disch:=first|omega|simp only[List.length]|apply_rules[jaa,jac,jad]) only [go_sem,jah,hs]
     exact fin _ _ _ _ _ _ _ _ _ _ hj o n g _ _ _ _ _ _
   | false =>
    rw [hlate] at xA eA zA wf
    rcases kk with c1 | c1
    ·simp (disch:=first|omega|simp only[List.length]|apply_rules[jaa,jac,jad]) only [go_sem,jah,eq_true hlt,hix,jbj,hlate,eA,xA,nA,yF,yX,wf,eB,zA,zX,xB2,wc,c1]
     refine tail _ _ _ _ _ _ _ _ _ _ _ _ _ _ (fun hj x3 x4 x5 x6 x7 x8 x9 x11 o n g=>?_)
     simp (disch:=first|omega|simp only[List.length]|apply_rules[jaa,jac,jad]) only [go_sem,jah,hs]
     exact fin _ _ _ _ _ _ _ _ _ _ hj o n g _ _ _ _ _ _
    ·simp (disch:=first|omega|simp only[List.length]|apply_rules[jaa,jac,jad]) only [go_sem,jah,eq_true hlt,hix,jbj,hlate,eA,xA,nA,yF,yX,wf,eB,zA,zX,xB2,wc,c1]
     refine tail _ _ _ _ _ _ _ _ _ _ _ _ _ _ (fun hj x3 x4 x5 x6 x7 x8 x9 x11 o n g=>?_)
     simp (disch:=first|omega|simp only[List.length]|apply_rules[jaa,jac,jad]) only [go_sem,jah,hs]
     exact fin _ _ _ _ _ _ _ _ _ _ hj o n g _ _ _ _ _ _
theorem qfq {h:Hp} (ok:Ok h) {f:Fc} {x:Ms.Ins} {m:Nat×Nat} (k:InsOk m f.values x):WC F4 54 [.agg [jak ja5 f.values,jak ja7 f.blocks],.agg [si x.op,jak jbj x.ops,jak jdw x.spoils]] h (fun v h'=>∃ d,jhf true h' d v=some (vb false)):=by
 refine ja9 (no4 rfl rfl rfl rfl) qkn rfl ?_
 unfold qb6
 obtain ⟨hA,eA,okA,nA,xA,gA⟩:=je5 ok [jak ja5 f.values,jak ja7 f.blocks] 26
 obtain ⟨hB,eB,okB,nB,xB,gB⟩:=je5 okA [si x.op,jak jbj x.ops,jak jdw x.spoils] 46
 have yA:=(gB _ (by omega)).trans xA
 rw [nA] at xB
 have l1:=jan (enc:=jbj) (l:=x.ops)
 simp (disch:=first|omega|simp only[List.length]|apply_rules[jaa,jac,jad]) only [go_sem,eA,eB,nA,xB,l1]
 refine j7s k x.ops.length 0 (by omega) okB ⟨by omega,by omega⟩ yA xB (fun hj x3 x4 x5 x6 x7 x8 x9 x10 x11 x12 x13 x14 x15 x16 x17 x18 x19 x22=>?_)
 simp (disch:=first|omega|simp only[List.length]|apply_rules[jaa,jac,jad]) only [go_sem]
 exact ⟨1,rfl⟩
end Go.Proofs.Ytaljcpoopmedmaa.Ev
