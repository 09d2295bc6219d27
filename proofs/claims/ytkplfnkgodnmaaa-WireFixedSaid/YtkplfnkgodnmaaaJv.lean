/- Flow of any function: who dominates; where values are made. -/
import Derived.Test.YtkplfnkgodnmaaaJt
namespace Go.Proofs.Ytkplfnkgodnmaaa.Ev
open Go Go.RowKit Go.Proofs.Ytkplfnkgodnmaaa.Ms
attribute [local go_sem] Int.reduceToNat reduceCtorEq Nat.reduceAdd Nat.reduceMul Nat.reduceEqDiff Int.reduceEq Int.reduceLT Int.reduceLE Int.reduceNeg Int.reduceAdd Int.reduceSub Int.reduceMul Int.reduceNe
attribute [local go_sem ↓] reduceIte
set_option linter.all false
set_option maxRecDepth 100000
set_option maxHeartbeats 8000000
variable {x0 x1 x9 x10 x11 x12 x13 x15 x17 x18 x19 x20 x21 x22 x23 x24 x25 x26:AV} {v ty:Nat}
def jcj (q:Nat×Int):List SV:=[si q.1,.int .i64 q.2]
theorem jel (q:Nat×Int):(jcj q).length=2:=rfl
theorem j3s {l:List (Nat×Int)} {i:Nat} {c:Nat×Int} (h:l[i]?=some c):rdB (some (.arr (l.flatMap jcj) ty)) (i*2) 2=some (jcj c):=by
 rw[jdm,jaz]
 have main:∀ (l:List (Nat×Int)) (i:Nat),l[i]?=some c->∃ r,(l.flatMap jcj).drop (i*2)=jcj c++r:=by
  intro l
  induction l with
  | nil=>intro i h;simp at h
  | cons a l ih =>
   intro i h
   cases i with
   | zero =>
    simp only[f04,Option.some.injEq] at h
    subst h
    exact⟨l.flatMap jcj,by rw[f1n,f1s];rfl⟩
   | succ i =>
    obtain⟨r,e⟩:=ih i (by simpa using h)
    refine⟨r,?_⟩
    have h3:(i+1)*2=2+i*2:=by omega
    rw[f1n,List.drop_append,f1t (by rw[jel,h3];omega),jel,h3,Nat.add_sub_cancel_left,e]
    rfl
 obtain⟨r,e⟩:=main l i h
 rw[e]
 exact(jam _).2 ⟨by rw[f0g,jel];omega,by rw[f1g (by rw[jel];omega),f2n (by rw[jel];omega)]⟩
theorem jrr {c:Nat×Int}:∀ {l:List (Nat×Int)} {i:Nat},i<l.length->(l.flatMap jcj).take (i*2)++(jcj c++(l.flatMap jcj).drop (i*2+2))=(l.set i c).flatMap jcj
 | [],i,h=>by simp at h
 | a::l,0,h=>by
  rw[f1n,List.set_cons_zero,f1n]
  show List.take 0 _++_=_
  rw[List.take_zero,f1l]
  rfl
 | a::l,i+1,h=>by
  have ih:=jrr (c:=c) (l:=l) (i:=i) (by simpa using h)
  rw[f1n,List.set_cons_succ,f1n,←ih,show(i+1)*2=i*2+1+1 by omega]
  rfl
theorem j75 {l:List (Nat×Int)} {i:Nat} {c:Nat×Int} (h:i<l.length):jat (i*2) (jcj c) (l.flatMap jcj)=some ((l.set i c).flatMap jcj):=by
 have hl:(l.flatMap jcj).length=l.length*2:=by
  clear h
  induction l with
  | nil=>rfl
  | cons a l ih=>rw[f1n,f0g,jel,ih,f03];omega
 refine(jb7 _).2 ⟨by rw[jel,hl];omega,?_⟩
 rw[jel]
 exact(jrr h).symm
theorem ixS {b n:Nat} (h:v<n):jj3 2 (.s (.slice b 0 n n true 2)) (vi (v:Int))=some (.s (.ptr b (v*2))):=by
 have:=jcc (size:=2) (b:=b) (off:=0) (mc:=n) (sz:=2) (ex:=true) h
 rw[f0y] at this
 exact this
abbrev IDV (n:Nat) (L pl:Nat->Nat) (D:Nat->Option Nat):AV:=.s (jag (fun b=>[idA L pl D b]) (List.range n))
theorem ixD {n:Nat} {L pl:Nat->Nat} {D:Nat->Option Nat} (h:v<n):jj3 1 (IDV n L pl D) (vi (v:Int))=some (.s (.cp [idA L pl D v])) :=
 jaf (enc:=fun b=>[idA L pl D b]) (size:=1) (f18 h) rfl
theorem jpg {α:Type} {g:α->SV} {P:α->Prop}:∀ {l:List α},(∀ a,a∈l->P a)->Rows 1 (fun row a (ms:List Nat)=>row=[g a]/\P a) (l.map (fun a=>[g a])) l []
 | [],_=>.nil
 | a::l,h=>Rows.cons (ns:=[]) rfl ⟨rfl,h a (by simp)⟩ (jpg (fun b hb=>h b (f1b _ hb)))
theorem j3t {α:Type} {g:α->SV}:∀ l:List α,(l.map (fun a=>[g a])).flatten=l.map g
 | []=>rfl
 | a::l=>by rw[f08,f0u,j3t l];rfl
theorem j3u {α:Type} {g:α->SV} {h:Hp} {b:Nat} {ex kk:Bool} {l:List α} (hl:l≠[]) (hg:h.get b=some (.arr (l.map g) ty)) (hi:∀ a,a∈l->jc0 kk h 1 (g a)=some (g a)):jc0 kk h 2 (.slice b 0 l.length l.length ex 1)=some (jag (fun a=>[g a]) l):=by
 have s:Sl h ty 1 ex (fun row a (ms:List Nat)=>row=[g a]/\jc0 kk h 1 (g a)=some (g a)) (.slice b 0 l.length l.length ex 1) l [b]:=.inr ⟨hl,b,_,[],rfl,by rw[j3t];exact hg,jpg hi,rfl⟩
 refine s.frz (enc:=fun a=>[g a]) (d:=1) (fun row a ms e=>?_) (fun _=>rfl)
 obtain⟨rfl,e⟩:=e
 show ob (jc0 kk h 1 (g a)) _=_
 rw[e];rfl
section
variable {F:Fns} (S:SF F)
include S
theorem j3v {n:Nat} {L pl:Nat->Nat} {D:Nat->Option Nat} (T:IdT n L pl D) {h:Hp} (ok:Ok h) {a:Nat} {x3:AV} {Q:Ex->St->Prop} (hQ:∀ (b:Int) x4,Q (.exit 0) (.mk [IDV n L pl D,vi a,vi b,x3,x4] h)) :
 ∀ (m i:Nat) (_:i<=m) (_:i<n) {x4:AV},W F jl7.loop (.mk [IDV n L pl D,vi a,vi (L i),x3,x4] h) Q
 | m,i,hm,hi,x4=>by
  have N:=T.N
  have c0:(0<=(L i:Int))=True:=eq_true (by omega)
  have i1:=ixD (L:=L) (pl:=pl) (D:=D) (N.l i hi)
  rw[jae]
  by_cases e:L i=a
  .have c1:((L i:Int)≠(a:Int))=False:=eq_false (by omega)
   have c2:((L i:Int)=(a:Int))=True:=eq_true (by omega)
   unfold jl7
   simp(disch:=first|omega|rfl) only[go_sem,c0,c1,c2,ne_eq,not_true_eq_false]
   exact hQ _ _
  .have c1:((L i:Int)≠(a:Int))=True:=eq_true (by omega)
   have c2:((L i:Int)=(a:Int))=False:=eq_false (by omega)
   by_cases z:L i=0
   .have r1:idA L pl D (L i)=si (-1):=if_pos z
    have c3:((0:Int)<=-1)=False:=eq_false (by omega)
    rw[r1] at i1
    unfold jl7
    simp(disch:=first|omega|rfl) only[go_sem,c0,c1,c2,i1]
    rw[jae]
    simp(disch:=first|omega|rfl) only[go_sem,c3]
    exact hQ (-1) _
   .have i0:0<i:=Nat.pos_of_ne_zero (fun h=>z (by rw[h,N.z]))
    obtain⟨j,hj⟩:∃ j,D i=some j:=Option.ne_none_iff_exists'.1 (T.k i hi)
    have hji:=T.d.lt i j i0 hj
    have r1:idA L pl D (L i)=si (L j):=by
     show(if L i=0 then si (-1) else dv L (D (pl (L i))))=_
     rw[if_neg z,N.pL i hi,hj];rfl
    match m,hm with
    | 0,hm=>exact absurd hm (by omega)
    | m+1,hm =>
    rw[r1] at i1
    unfold jl7
    simp(disch:=first|omega|rfl) only[go_sem,c0,c1,c2,i1]
    exact j3v T ok hQ m j (by omega) (by omega)
theorem j3w {n:Nat} {L pl:Nat->Nat} {D:Nat->Option Nat} (T:IdT n L pl D) {h:Hp} (ok:Ok h) {a b:Nat} (hb:b<n):WC F 63 [IDV n L pl D,vi a,vi b] h (fun v h'=>h'=h/\∃ t,v=vb t):=by
 refine jan (S.X _ (by simp) _ _) ((S.T _).trans qlh) rfl ?_
 unfold j9s
 have N:=T.N
 simp(disch:=first|omega|rfl) only[go_sem]
 have:=j3v S T ok (a:=a) (x3:=vb false) (x4:=.undef) (Q:=j4y 0 (jol F (.seq (.region [(.mk .none (.p (.mv (.g 2))) .none),(.mk .none (.p (.mv (.g 1))) .none),(.mk .none (.p (.bin .eq (.l 1) (.l 0))) .none),(.mk (.some 3) (.p (.mv (.l 0))) .none)]) .ret) (j56 [.tmp 3] (fun v h'=>h'=h/\∃ t,v=vb t)))) (fun b x4=>by
  simp(disch:=first|omega|rfl) only[go_sem]
  exact⟨_,rfl⟩) (pl b) (pl b) (f0d _) (N.p b hb)
 rw[N.Lp b hb] at this
 exact this
theorem j3x {n:Nat} {L pl:Nat->Nat} {D:Nat->Option Nat} (T:IdT n L pl D) {h:Hp} (ok:Ok h) {q r:Nat×Int} (hr:r.1<n):WC F 57 [IDV n L pl D,.agg (jcj q),.agg (jcj r)] h (fun v h'=>(∃ t,v=vb t)/\Gw h h'):=by
 obtain⟨q1,q2⟩:=q
 obtain⟨r1,r2⟩:=r
 refine jan (S.X _ (by simp) _ _) ((S.T _).trans qd1) rfl ?_
 unfold jvj jcj
 obtain⟨hA,eA,gA,nA,xA⟩:=bxG ok [si q1,.int .i64 q2] 111
 obtain⟨hB,eB,gB,nB,xB⟩:=bxG gA.ok [si r1,.int .i64 r2] 111
 have okA:=gA.ok
 have okB:=gB.ok
 have yA:=(gB.g h.next (by omega)).trans xA
 rw[nA] at xB
 by_cases e:q1=r1
 .have c1:((q1:Int)=(r1:Int))=True:=eq_true (by omega)
  simp(disch:=first|omega|rfl) only[go_sem,eA,nA,eB,yA,xB,c1]
  exact⟨⟨_,rfl⟩,gA.trans gB⟩
 .have c1:((q1:Int)=(r1:Int))=False:=eq_false (by omega)
  simp(disch:=first|omega|rfl) only[go_sem,eA,nA,eB,yA,xB,c1]
  unfold jrh
  simp(disch:=first|omega|rfl) only[go_sem,yA,xB]
  refine WC.imp (j3w S T okB hr) ?_
  rintro _ _ ⟨rfl,t,rfl⟩
  simp(disch:=first|omega|rfl) only[go_sem]
  exact⟨⟨_,rfl⟩,gA.trans gB⟩
end
structure j_Sp (n nv o:Nat) (h:Hp):Prop where
 ok:Ok h
 o1:1<=o
 lt:o<h.next
 s:∃ sp:List (Nat×Int),h.get o=some (.arr (sp.flatMap jcj) 111)/\sp.length=nv/\∀ q,q∈sp->q.1<n
section
variable {n nv o:Nat} {h h':Hp}
theorem j_Sp.up (k:j_Sp n nv o h) (g:Gw h h'):j_Sp n nv o h':=by
 obtain⟨sp,h1,h2,h3⟩:=k.s
 exact⟨g.ok,k.o1,f0m k.lt g.nx,sp,(g.g _ k.lt).trans h1,h2,h3⟩
theorem j_Sp.wr (k:j_Sp n nv o h) {b:Nat} {c:Int} (hv:v<nv) (hb:b<n):∃ l l' hA,h.get o=some (.arr l 111)/\jat (v*2) [si b,.int .i64 c] l=some l'/\h.put o (some (.arr l' 111))=hA/\j_Sp n nv o hA/\Gb o h hA:=by
 have ok:=k.ok
 obtain⟨sp,h1,h2,h3⟩:=k.s
 obtain⟨hA,eA,okA,nA,xA,gA⟩:=pt1 ok k.o1 (some (.arr ((sp.set v (b,c)).flatMap jcj) 111))
 refine⟨_,_,hA,h1,j75 (c:=(b,c)) (by omega),eA,⟨okA,k.o1,by have:=k.lt;omega,_,xA,by rw[f2m];exact h2,fun q hq=>?_⟩,⟨okA,by omega,fun m _ hm=>gA m hm⟩⟩
 rcases List.mem_or_eq_of_mem_set hq with hq | rfl
 .exact h3 q hq
 .exact hb
theorem j_Sp.rd (k:j_Sp n nv o h) (hv:v<nv):∃ l q,h.get o=some (.arr l 111)/\rdB (some (.arr l 111)) (v*2) 2=some (jcj q)/\q.1<n:=by
 obtain⟨sp,h1,h2,h3⟩:=k.s
 obtain⟨q,hq⟩:∃ q,sp[v]?=some q:=⟨_,f0b (by omega)⟩
 exact⟨_,q,h1,j3s hq,h3 q (f0c hq)⟩
end
section
variable {F:Fns} (S:SF F)
include S
theorem j3y {n nv o b:Nat} (hb:b<n) {l:List Nat} (hl:l.length<=10000) (hall:∀ v,v∈l->v<nv) {x2 x3 x4 x5 x6 x7 x8:AV} {Q:Ex->St->Prop} :
 ∀ (d i:Nat) (_:i+d=l.length) {hi:Hp} (_:j_Sp n nv o hi) {x15 x18:AV}
  (hQ:∀ hj x15 x18,j_Sp n nv o hj->Gb o hi hj->Q (.exit 2) (.mk [x0,x1,x2,x3,x4,x5,x6,x7,x8,x9,x10,x11,x12,x13,vi b,x15,.s (.slice o 0 nv nv true 2),.s (jag jak l),x18,vi l.length,vi l.length,x21,x22,x23,x24,x25,x26] hj)),
  W F jo3.loop (.mk [x0,x1,x2,x3,x4,x5,x6,x7,x8,x9,x10,x11,x12,x13,vi b,x15,.s (.slice o 0 nv nv true 2),.s (jag jak l),x18,vi l.length,vi i,x21,x22,x23,x24,x25,x26] hi) Q
 | 0,i,hd,hi,K,x15,x18,hQ=>by
  obtain rfl:i=l.length:=by omega
  have ok:=K.ok
  rw[jae]
  unfold jo3
  simp(disch:=first|omega|rfl) only[go_sem,f0q]
  exact hQ hi _ _ K (.self ok)
 | d+1,i,hd,hi,K,x15,x18,hQ=>by
  have hil:i<l.length:=by omega
  have hlt:(i:Int)<l.length:=by omega
  have hs:(i:Int)+1=((i+1:Nat):Int):=by omega
  obtain⟨e,hget⟩:∃ x,l[i]?=some x:=⟨_,f0b (by omega)⟩
  have he:=hall e (f0c hget)
  have ok:=K.ok
  have o1:=K.o1
  have lt:=K.lt
  have hix:=jaf (enc:=jak) (size:=1) hget rfl
  have i2:=ixS (b:=o) he
  obtain⟨q,q',hA,e1,e2,e3,KA,gA⟩:=K.wr (c:=-1) he hb
  rw[jae]
  unfold jo3 j2v
  simp(disch:=first|omega|rfl) only[go_sem,jac,eq_true hlt,hix,jak,i2,e1,e2,e3,hs]
  exact j3y hb hl hall d (i+1) (by omega) KA (fun hj x15 x18 K2 g2=>hQ hj x15 x18 K2 (gA.trans g2))
theorem jtj {n nv o b t:Nat} (hb:b<n) {l:List Ms.Opd} (hl:l.length<=10000) (hall:∀ u,u∈l->u.value<nv) {Q:Ex->St->Prop} :
 ∀ (d i:Nat) (_:i+d=l.length) {hi:Hp} (_:j_Sp n nv o hi) {x3 x4 x6:AV}
  (hQ:∀ hj x3 x4 x6,j_Sp n nv o hj->Gb o hi hj->Q (.exit 6) (.mk [x0,x1,vi t,x3,x4,.s (jag jbc l),x6,vi l.length,vi l.length,x9,x10,x11,x12,x13,vi b,x15,.s (.slice o 0 nv nv true 2),x17,x18,x19,x20,x21,x22,x23,x24,x25,x26] hj)),
  W F jo4.loop (.mk [x0,x1,vi t,x3,x4,.s (jag jbc l),x6,vi l.length,vi i,x9,x10,x11,x12,x13,vi b,x15,.s (.slice o 0 nv nv true 2),x17,x18,x19,x20,x21,x22,x23,x24,x25,x26] hi) Q
 | 0,i,hd,hi,K,x3,x4,x6,hQ=>by
  obtain rfl:i=l.length:=by omega
  have ok:=K.ok
  rw[jae]
  unfold jo4
  simp(disch:=first|omega|rfl) only[go_sem,f0q]
  exact hQ hi _ _ _ K (.self ok)
 | d+1,i,hd,hi,K,x3,x4,x6,hQ=>by
  have hil:i<l.length:=by omega
  have hlt:(i:Int)<l.length:=by omega
  have hs:(i:Int)+1=((i+1:Nat):Int):=by omega
  obtain⟨e,hget⟩:∃ x,l[i]?=some x:=⟨_,f0b (by omega)⟩
  have he:=hall e (f0c hget)
  have ok:=K.ok
  have o1:=K.o1
  have lt:=K.lt
  obtain⟨kd,vl,lt',lm,nn⟩:=e
  have hix:=jaf (enc:=jbc) (size:=5) hget rfl
  have i2:=ixS (b:=o) he
  simp only at i2
  obtain⟨hA,eA,gA,nA,xA⟩:=nwG ok [.int .i64 0,.int .i64 0,.bool false,.int .i64 0,.int .i64 0] [si kd,si vl,.bool lt',si lm,si nn] 92
  have okA:=gA.ok
  have KA:=K.up gA
  obtain⟨q,q',hB,e1,e2,e3,KB,gB⟩:=KA.wr (c:=(t:Int)) he hb
  simp only at e2
  rw[jae]
  unfold jo4 j2w
  by_cases c:(kd:Int)=2
  .simp (disch:=first|omega|rfl) only[go_sem,jac,eq_true hlt,hix,jbc,eA,xA,eq_true c,i2,e1,e2,e3,hs]
   exact jtj hb hl hall d (i+1) (by omega) KB (fun hj x3 x4 x6 K2 g2=>hQ hj x3 x4 x6 K2 (gA.b.trans (gB.trans g2)))
  .simp (disch:=first|omega|rfl) only[go_sem,jac,eq_true hlt,hix,jbc,eA,xA,eq_false c,hs]
   exact jtj hb hl hall d (i+1) (by omega) KA (fun hj x3 x4 x6 K2 g2=>hQ hj x3 x4 x6 K2 (gA.b.trans g2))
theorem j3z {n nv o b:Nat} (hb:b<n) {l:List Ms.Ins} (hl:l.length<=10000) (hall:∀ x,x∈l->x.ops.length<=6/\∀ u,u∈x.ops->u.value<nv) {Q:Ex->St->Prop} :
 ∀ (d i:Nat) (_:i+d=l.length) {hi:Hp} (_:j_Sp n nv o hi) {x2 x3 x4 x5 x6 x7 x8 x9 x11:AV}
  (hQ:∀ hj x2 x3 x4 x5 x6 x7 x8 x9 x11,j_Sp n nv o hj->Gb o hi hj->Q (.exit 4) (.mk [x0,x1,x2,x3,x4,x5,x6,x7,x8,x9,.s (jag jdh l),x11,vi l.length,vi l.length,vi b,x15,.s (.slice o 0 nv nv true 2),x17,x18,x19,x20,x21,x22,x23,x24,x25,x26] hj)),
  W F jo5.loop (.mk [x0,x1,x2,x3,x4,x5,x6,x7,x8,x9,.s (jag jdh l),x11,vi l.length,vi i,vi b,x15,.s (.slice o 0 nv nv true 2),x17,x18,x19,x20,x21,x22,x23,x24,x25,x26] hi) Q
 | 0,i,hd,hi,K,x2,x3,x4,x5,x6,x7,x8,x9,x11,hQ=>by
  obtain rfl:i=l.length:=by omega
  have ok:=K.ok
  rw[jae]
  unfold jo5
  simp(disch:=first|omega|rfl) only[go_sem,f0q]
  exact hQ hi _ _ _ _ _ _ _ _ _ K (.self ok)
 | d+1,i,hd,hi,K,x2,x3,x4,x5,x6,x7,x8,x9,x11,hQ=>by
  have hil:i<l.length:=by omega
  have hlt:(i:Int)<l.length:=by omega
  have hs:(i:Int)+1=((i+1:Nat):Int):=by omega
  obtain⟨e,hget⟩:∃ x,l[i]?=some x:=⟨_,f0b (by omega)⟩
  have he:=hall e (f0c hget)
  have ok:=K.ok
  have o1:=K.o1
  have lt:=K.lt
  obtain⟨he1,he2⟩:=he
  have hix:=jaf (enc:=jdh) (size:=3) hget rfl
  obtain⟨hA,eA,gA,nA,xA⟩:=nwG ok [.int .i64 0,.nilSlice,.nilSlice] [si e.op,jag jbc e.ops,jag jcu e.spoils] 73
  have okA:=gA.ok
  have l1:=jad (enc:=jbc) (l:=e.ops)
  rw[jae]
  unfold jo5 j2x
  simp(disch:=first|omega|rfl) only[go_sem,jac,eq_true hlt,hix,jdh,eA,xA,l1]
  refine jtj S hb (t:=i) (by omega) he2 e.ops.length 0 (by omega) (K.up gA) (fun hj x3 x4 x6 K2 g2=>?_)
  have okj:=K2.ok
  simp(disch:=first|omega|rfl) only[go_sem,jac,hs]
  exact j3z hb hl hall d (i+1) (by omega) K2 (fun hk x2 x3 x4 x5 x6 x7 x8 x9 x11 K3 g3=>hQ hk x2 x3 x4 x5 x6 x7 x8 x9 x11 K3 (gA.b.trans (g2.trans g3)))
theorem j30 {n nv o:Nat} {l:List Blk} (hn:l.length<=n) (hl:l.length<=10000) (hall:∀ b,b∈l->b.params.length<=5/\b.instrs.length<=40/\(∀ v,v∈b.params->v<nv)/\∀ x,x∈b.instrs->x.ops.length<=6/\∀ u,u∈x.ops->u.value<nv) {Q:Ex->St->Prop} :
 ∀ (d i:Nat) (_:i+d=l.length) {hi:Hp} (_:j_Sp n nv o hi) {x2 x3 x4 x5 x6 x7 x8 x9 x10 x11 x12 x13 x14 x15 x17 x18 x19 x20 x21 x23:AV}
  (hQ:∀ hj x2 x3 x4 x5 x6 x7 x8 x9 x10 x11 x12 x13 x14 x15 x17 x18 x19 x20 x21 x23,j_Sp n nv o hj->Gb o hi hj->Q (.exit 0) (.mk [x0,x1,x2,x3,x4,x5,x6,x7,x8,x9,x10,x11,x12,x13,x14,x15,.s (.slice o 0 nv nv true 2),x17,x18,x19,x20,x21,.s (jag jax l),x23,vi l.length,vi l.length,x26] hj)),
  W F jo6.loop (.mk [x0,x1,x2,x3,x4,x5,x6,x7,x8,x9,x10,x11,x12,x13,x14,x15,.s (.slice o 0 nv nv true 2),x17,x18,x19,x20,x21,.s (jag jax l),x23,vi l.length,vi i,x26] hi) Q
 | 0,i,hd,hi,K,x2,x3,x4,x5,x6,x7,x8,x9,x10,x11,x12,x13,x14,x15,x17,x18,x19,x20,x21,x23,hQ=>by
  obtain rfl:i=l.length:=by omega
  have ok:=K.ok
  rw[jae]
  unfold jo6
  simp(disch:=first|omega|rfl) only[go_sem,f0q]
  exact hQ hi _ _ _ _ _ _ _ _ _ _ _ _ _ _ _ _ _ _ _ _ K (.self ok)
 | d+1,i,hd,hi,K,x2,x3,x4,x5,x6,x7,x8,x9,x10,x11,x12,x13,x14,x15,x17,x18,x19,x20,x21,x23,hQ=>by
  have hil:i<l.length:=by omega
  have hlt:(i:Int)<l.length:=by omega
  have hs:(i:Int)+1=((i+1:Nat):Int):=by omega
  obtain⟨e,hget⟩:∃ x,l[i]?=some x:=⟨_,f0b (by omega)⟩
  have he:=hall e (f0c hget)
  have ok:=K.ok
  have o1:=K.o1
  have lt:=K.lt
  obtain⟨he1,he2,he3,he4⟩:=he
  have hix:=jaf (enc:=jax) (size:=3) hget rfl
  obtain⟨hA,eA,gA,nA,xA⟩:=nwG ok [.nilSlice,.nilSlice,.nilSlice] [jag jak e.params,jag jdh e.instrs,jag jdu e.edges] 54
  have okA:=gA.ok
  have l1:=jad (enc:=jak) (l:=e.params)
  have l2:=jad (enc:=jdh) (l:=e.instrs)
  have KA:=K.up gA
  have lA:=KA.lt
  have hix':o≠hi.next:=by omega
  rw[jae]
  unfold jo6 j2y
  simp(disch:=first|omega|rfl) only[go_sem,jac,eq_true hlt,hix,jax,eA,xA,l1]
  refine j3y S (b:=i) (by omega) (by omega) he3 e.params.length 0 (by omega) KA (fun hj x15 x18 K2 g2=>?_)
  have okj:=K2.ok
  have yA:=(g2.g hi.next (by omega) (fun h=>hix' h.symm)).trans xA
  simp(disch:=first|omega|rfl) only[go_sem,jac,yA,l2]
  refine j3z S (b:=i) (by omega) (by omega) he4 e.instrs.length 0 (by omega) K2 (fun hk x2 x3 x4 x5 x6 x7 x8 x9 x11 K3 g3=>?_)
  have okk:=K3.ok
  simp(disch:=first|omega|rfl) only[go_sem,jac,hs]
  exact j30 hn hl hall d (i+1) (by omega) K3 (fun hm x2 x3 x4 x5 x6 x7 x8 x9 x10 x11 x12 x13 x14 x15 x17 x18 x19 x20 x21 x23 K4 g4=>hQ hm x2 x3 x4 x5 x6 x7 x8 x9 x10 x11 x12 x13 x14 x15 x17 x18 x19 x20 x21 x23 K4 (gA.b.trans (g2.trans (g3.trans g4))))
theorem j31 {h:Hp} (ok:Ok h) {f:Fc} (hf:ShT f):WC F 56 [FA f] h (fun v h'=>v=.s (.slice (h.next+1) 0 f.values.length f.values.length true 2)/\Gw h h'/\j_Sp f.blocks.length f.values.length (h.next+1) h'):=by
 refine jan (S.X _ (by simp) _ _) ((S.T _).trans qli) rfl ?_
 unfold j9t
 have n1:=hf.n1
 have n2:=hf.n2
 have nv:=hf.nv
 have hp:=ok.pos
 have l1:=jad (enc:=jak) (l:=f.values)
 have l2:=jad (enc:=jax) (l:=f.blocks)
 obtain⟨hA,eA,gA,nA,xA⟩:=bxG ok [jag jak f.values,jag jax f.blocks] 29
 have okA:=gA.ok
 obtain⟨hB,eB,gB,nB,xB⟩:=bxG okA (rep [si 0,si 0] f.values.length) 111
 have okB:=gB.ok
 have ms:=jhf (e:=111) (size:=2) (bytes:=16) (z:=[si 0,si 0]) (m:=f.values.length) okA (by omega) (by omega)
 rw[eB,nA] at ms
 rw[nA] at xB
 have yA:=(gB.g h.next (by omega)).trans xA
 have er:∀ n,rep [si 0,si 0] n=(List.replicate n ((0,0):Nat×Int)).flatMap jcj:=fun n=>by
  induction n with
  | zero=>rfl
  | succ n ih =>
   have:rep [si 0,si 0] (n+1)=[si 0,si 0]++rep [si 0,si 0] n:=show jeq [si 0,si 0] (rep [si 0,si 0] n)=_ from jb2 ..
   rw[this,ih];rfl
 have K:j_Sp f.blocks.length f.values.length (h.next+1) hB:=⟨okB,by omega,by omega,_,by rw[xB,er],by simp,fun q hq=>by rw[(List.mem_replicate.1 hq).2];exact n1⟩
 simp(disch:=first|omega|rfl) only[go_sem,eA,nA,xA,l1,ms,yA,l2]
 refine j30 S (f0d _) (by omega) (fun b hb=>?_) f.blocks.length 0 (by omega) K (fun hj x2 x3 x4 x5 x6 x7 x8 x9 x10 x11 x12 x13 x14 x15 x17 x18 x19 x20 x21 x23 K2 g2=>?_)
 .have sz:=hf.bs b hb
  have bl:=hf.bl b hb
  exact⟨sz.p,sz.i,hf.pa b hb,fun x hx=>⟨(sz.x x hx).1,fun u hu=>((bl.x x hx).o u hu).v⟩⟩
 .have okj:=K2.ok
  simp(disch:=first|omega|rfl) only[go_sem]
  exact⟨g2.w (gA.trans gB) (by omega),K2⟩
end
end Go.Proofs.Ytkplfnkgodnmaaa.Ev
