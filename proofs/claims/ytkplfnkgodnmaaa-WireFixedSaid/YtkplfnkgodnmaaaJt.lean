/- Dominators of any graph: the walk, pass by pass. -/
import Derived.Test.YtkplfnkgodnmaaaJq
namespace Go.Proofs.Ytkplfnkgodnmaaa.Ev
open Go Go.RowKit Go.Proofs.Ytkplfnkgodnmaaa.Ms
attribute [local go_sem] Int.reduceToNat reduceCtorEq Nat.reduceAdd Nat.reduceMul Nat.reduceEqDiff Int.reduceEq Int.reduceLT Int.reduceLE Int.reduceNeg Int.reduceAdd Int.reduceSub Int.reduceMul Int.reduceNe
attribute [local go_sem ↓] reduceIte
set_option linter.all false
set_option maxRecDepth 100000
set_option maxHeartbeats 8000000
variable {x0 x1 x2 x3 x13 x14 x15 x16 x17 x18 x19 x20 x22 x23 x24 x25 x26 x27 x28 x29:AV} {Q:Ex->St->Prop} {f:Fc} {q:List Nat} {i:Nat} {x:SV}
theorem OL.ixI {h:Hp} {l:List Nat} {b c:Nat} (k:OL 3 1 jak h x l b) (hc:l[i]?=some c):jj3 1 (.s x) (vi (i:Int))=some (.s (.ptr b i))/\rdB (h.get b) i 1=some [si c]:=by
 rcases k with⟨rfl,_,_⟩ | ⟨_,rfl,_,_,h5⟩
 .simp at hc
 .refine ⟨Ev.ixI (f0e.1 hc).1,?_⟩
  rw[h5,jmb];exact qd7 hc
abbrev plX (pl:Nat->Nat) (i:Nat):Nat->SV:=fun b=>if pl b<i then si (pl b) else si 0
def Acc (n:Nat) (pl:Nat->Nat) (D:Nat->Option Nat) (l:List Nat):Option Nat->Prop
 | none=>∀ p,p∈l->D (pl p)=none
 | some m=>m<n/\D m≠none/\∀ z,Anc D m z↔∀ p,p∈l->D (pl p)≠none->Anc D (pl p) z
structure PsS (n:Nat) (L pl:Nat->Nat) (P:Nat->List Nat) (xs:Nat->SV) (bs:Nat->Nat) (l:List Nat) (k kp:Nat) (h:Hp):Prop where
 pc:h.get (k+2)=some (.arr [.slice (k+1) 0 n n true 1] 26)
 pa:h.get (k+1)=some (.arr ((List.range n).map (fun b=>si (pl b))) 3)
 ic:h.get (k+5)=some (.arr [.slice (k+4) 0 n n true 1] 26)
 ou:h.get (kp+1)=some (.arr ((List.range n).map xs) 26)
 os:∀ j,OL 3 1 jak h (xs j) (P j) (bs j)
 bs:∀ j,bs j=0∨kp+2<=bs j
 k1:1<=k
 kp:k+6<=kp
 ln:∀ i,i<n->l[i]?=some (L i)
 ll:l.length=n
structure PsH (n:Nat) (L pl:Nat->Nat) (k:Nat) (hS h:Hp) (D:Nat->Option Nat):Prop where
 ok:Ok h
 nx:h.next=hS.next
 kp:∀ m,m≠k+4->h.get m=hS.get m
 ia:h.get (k+4)=some (.arr ((List.range n).map (idX L pl D)) 3)
section
variable {n:Nat} {L pl:Nat->Nat} {P:Nat->List Nat} {xs:Nat->SV} {bs:Nat->Nat} {l:List Nat} {k kp:Nat} {hS h:Hp} {D:Nat->Option Nat}
theorem PsH.id (a:PsH n L pl k hS h D) (s:PsS n L pl P xs bs l k kp hS):IdH n L pl k (k+5) (k+4) true h D :=
 ⟨(a.kp _ (by omega)).trans s.pc,(a.kp _ (by omega)).trans s.pa,(a.kp _ (by omega)).trans s.ic,a.ia⟩
theorem PsH.ols (a:PsH n L pl k hS h D) (s:PsS n L pl P xs bs l k kp hS) (j:Nat):OL 3 1 jak h (xs j) (P j) (bs j) :=
 (s.os j).keep (by rw[a.nx];exact f0d _) (fun h1 _=>a.kp _ (by have:=s.bs j;have:=s.kp;omega))
theorem Acc.cons {D:Nat->Option Nat} (DK:DomOk n D) (N:Num n L pl) {p:Nat} {nx:Option Nat} (a:Acc n pl D q nx) (hp:p<n):(D (pl p)=none->Acc n pl D (q++[p]) nx)/\(D (pl p)≠none->nx=none->Acc n pl D (q++[p]) (some (pl p)))/\∀ m m',nx=some m->D (pl p)≠none->m'<n->jc1 D (pl p) m m'->Acc n pl D (q++[p]) (some m'):=by
 have sp:∀ {z:Nat},z∈q++[p]↔z∈q∨z=p:=fun {z}=>by simp
 refine⟨fun h=>?_,fun h e=>?_,fun m m' e h hm' hM=>?_⟩
 .cases nx with
  | none =>
   intro r hr
   rcases sp.1 hr with hr | rfl
   .exact a r hr
   .exact h
  | some m =>
   obtain⟨a1,a2,a3⟩:=a
   refine⟨a1,a2,fun z=>(a3 z).trans ⟨fun u r hr hk=>?_,fun u r hr hk=>u r (sp.2 (.inl hr)) hk⟩⟩
   rcases sp.1 hr with hr | rfl
   .exact u r hr hk
   .exact absurd h hk
 .subst e
  refine⟨N.p p hp,h,fun z=>⟨fun u r hr hk=>?_,fun u=>u p (sp.2 (.inr rfl)) h⟩⟩
  rcases sp.1 hr with hr | rfl
  .exact absurd (a r hr) hk
  .exact u
 .subst e
  obtain⟨a1,a2,a3⟩:=a
  obtain⟨b1,b2,b3,b4⟩:=hM
  refine⟨hm',b1,fun z=>(b4 z).trans ⟨fun⟨u1,u2⟩ r hr hk=>?_,fun u=>⟨u p (sp.2 (.inr rfl)) h,(a3 z).2 (fun r hr hk=>u r (sp.2 (.inl hr)) hk)⟩⟩⟩
  rcases sp.1 hr with hr | rfl
  .exact (a3 z).1 u2 r hr hk
  .exact u1
end
section
variable {F:Fns} (S:SF F)
include S
theorem qmw {n k:Nat} {L pl:Nat->Nat} (N:Num n L pl) {l:List Nat} (hL:∀ i,i<n->l[i]?=some (L i)) (k1:1<=k) {h0:Hp} {x4 x5 x6 x7 x8 x9 x10 x11 x12 x21:AV}
 (hQ:∀ hj x22 x23 x26,Ok hj->hj.next=h0.next->hj.get (k+1)=some (.arr ((List.range n).map (fun b=>si (pl b))) 3)->(∀ m,m≠k+1->hj.get m=h0.get m)->Q (.exit 0) (.mk [x0,.s (jag jak l),x2,x3,x4,x5,x6,x7,x8,x9,x10,x11,x12,x13,x14,x15,x16,x17,x18,x19,x20,x21,x22,x23,.s (.ptr (k+2) 0),.s (jag jak l),x26,vi n,vi n,x29] hj)) (x0c:h0.get (k+2)=some (.arr [.slice (k+1) 0 n n true 1] 26)) :
 ∀ (d i:Nat) (_:i+d=n) {hi:Hp} (_:Ok hi) (_:hi.next=h0.next) (_:∀ m,m≠k+1->hi.get m=h0.get m) (_:hi.get (k+1)=some (.arr ((List.range n).map (plX pl i)) 3)) {x22 x23 x26:AV},
  W F jo8.loop (.mk [x0,.s (jag jak l),x2,x3,x4,x5,x6,x7,x8,x9,x10,x11,x12,x13,x14,x15,x16,x17,x18,x19,x20,x21,x22,x23,.s (.ptr (k+2) 0),.s (jag jak l),x26,vi n,vi i,x29] hi) Q
 | 0,i,hd,hi,ok,nx,ke,xa,x22,x23,x26=>by
  obtain rfl:i=n:=by omega
  rw[jae]
  unfold jo8
  simp(disch:=first|omega|rfl) only[go_sem,f0q]
  refine hQ hi _ _ _ ok nx ?_ ke
  rw[xa]
  refine congrArg (fun z=>some (AB.arr z 3)) (f1u (fun b hb=>?_))
  exact if_pos (N.p b (f1z.1 hb))
 | d+1,i,hd,hi,ok,nx,ke,xa,x22,x23,x26=>by
  have hi1:i<n:=by omega
  have n2:=N.n2
  have hlt:(i:Int)<n:=by omega
  have hs:(i:Int)+1=((i+1:Nat):Int):=by omega
  have i1:=jaf (enc:=jak) (size:=1) (hL i hi1) rfl
  have i2:=ixI (b:=k+1) (ex:=true) (N.l i hi1)
  have xc:=(ke (k+2) (by omega)).trans x0c
  have hw:jat (L i) [si i] ((List.range n).map (plX pl i))=some ((List.range n).map (plX pl (i+1))):=by
   rw[wr1 (by simpa using N.l i hi1),jgk]
   refine congrArg some (f1u (fun b hb=>?_))
   have hb:=f1z.1 hb
   show(if b=L i then si i else plX pl i b)=plX pl (i+1) b
   by_cases e:b=L i
   .subst e
    rw[if_pos rfl]
    show _=(if pl (L i)<i+1 then si (pl (L i)) else si 0)
    rw[N.pL i hi1,if_pos (by omega)]
   .rw [if_neg e]
    have:pl b≠i:=fun h=>e (by rw[←N.Lp b hb,h])
    show(if pl b<i then si (pl b) else si 0)=(if pl b<i+1 then si (pl b) else si 0)
    by_cases c:pl b<i
    .rw [if_pos c,if_pos (by omega)]
    .rw [if_neg c,if_neg (by omega)]
  obtain⟨hA,eA,okA,nA,xA,gA⟩:=pt1 ok (b:=k+1) (by omega) (some (.arr ((List.range n).map (plX pl (i+1))) 3))
  rw[jae]
  unfold jo8 j22
  simp(disch:=first|omega|rfl) only[go_sem,jac,eq_true hlt,i1,jak,xc,i2,xa,hw,eA,hs]
  exact qmw N hL k1 hQ x0c d (i+1) (by omega) okA (by omega) (fun m hm=>(gA m hm).trans (ke m hm)) xA
theorem j73 {n k:Nat} {L pl:Nat->Nat} (N:Num n L pl) {h:Hp} (ok:Ok h) {D:Nat->Option Nat} (H:IdH n L pl k (k+5) (k+4) true h D) (DK:DomOk n D) {b:Nat} (ol:OL 3 1 jak h x q b) (hq:∀ p,p∈q->p<n) (hq2:q.length<=10000)
 (hQ:∀ nx x5 x7 x8 x10,Acc n pl D q nx->Q (.exit 6) (.mk [x0,x1,x2,x3,.s (.func 59 [(k+2,0),(k+5,0)]),x5,.s (dv L nx),x7,x8,.s x,x10,vi q.length,vi q.length,x13,x14,x15,x16,x17,x18,x19,x20,.s (.ptr (k+5) 0),x22,x23,x24,x25,x26,x27,x28,x29] h)) :
 ∀ (d i:Nat) (_:i+d=q.length) (nx:Option Nat) (_:Acc n pl D (q.take i) nx) {x5 x7 x8 x10:AV},
  W F jo9.loop (.mk [x0,x1,x2,x3,.s (.func 59 [(k+2,0),(k+5,0)]),x5,.s (dv L nx),x7,x8,.s x,x10,vi q.length,vi i,x13,x14,x15,x16,x17,x18,x19,x20,.s (.ptr (k+5) 0),x22,x23,x24,x25,x26,x27,x28,x29] h) Q
 | 0,i,hd,nx,ac,x5,x7,x8,x10=>by
  obtain rfl:i=q.length:=by omega
  rw[f22] at ac
  rw[jae]
  unfold jo9
  simp(disch:=first|omega|rfl) only[go_sem,f0q]
  exact hQ nx _ _ _ _ ac
 | d+1,i,hd,nx,ac,x5,x7,x8,x10=>by
  have hi1:i<q.length:=by omega
  have hlt:(i:Int)<q.length:=by omega
  have hs:(i:Int)+1=((i+1:Nat):Int):=by omega
  obtain⟨p,hp⟩:∃ p,q[i]?=some p:=⟨_,f0b hi1⟩
  have hpn:=hq p (f0c hp)
  obtain⟨i1,r1⟩:=ol.ixI hp
  have tk:q.take (i+1)=q.take i++[p]:=by rw[List.take_add_one,hp];rfl
  obtain⟨c1,c2,c3⟩:=ac.cons DK N hpn
  have ic:=H.ic
  have ia:=H.ia
  have i2:=ixI (b:=k+4) (ex:=true) hpn
  rw[jae]
  unfold jo9 j23
  cases hD:D (pl p) with
  | none =>
   have r2:rdB (some (.arr ((List.range n).map (idX L pl D)) 3)) p 1=some [si (-1)]:=by
    rw[rd1 (jbn hpn)]
    show some [dv L (D (pl p))]=_
    rw[hD];rfl
   simp(disch:=first|omega|rfl) only[go_sem,jac,eq_true hlt,i1,r1,ic,i2,ia,r2,hs]
   exact j73 N ok H DK ol hq hq2 hQ d (i+1) (by omega) nx (by rw[tk];exact c1 hD)
  | some e =>
   have hk:D (pl p)≠none:=by rw[hD];simp
   have r2:rdB (some (.arr ((List.range n).map (idX L pl D)) 3)) p 1=some [si (L e)]:=by
    rw[rd1 (jbn hpn)]
    show some [dv L (D (pl p))]=_
    rw[hD];rfl
   have n0:((L e:Int)<0)=False:=eq_false (by omega)
   cases nx with
   | none =>
    have e0:dv L none=si (-1):=rfl
    simp(disch:=first|omega|rfl) only[go_sem,jac,eq_true hlt,i1,r1,ic,i2,ia,r2,n0,e0,hs]
    have:=j73 N ok H DK ol hq hq2 hQ d (i+1) (by omega) (some (pl p)) (by rw[tk];exact c2 hk rfl) (x5:=vb true) (x7:=vb false) (x8:=vi p) (x10:=vb true)
    have e1:dv L (some (pl p))=si p:=by
     show si (L (pl p))=_
     rw[N.Lp p hpn]
    rw[e1] at this
    exact this
   | some m =>
    have e0:dv L (some m)=si (L m):=rfl
    have n1:((L m:Int)<0)=False:=eq_false (by omega)
    obtain⟨m1,m2,_⟩:=ac
    simp(disch:=first|omega|rfl) only[go_sem,jac,eq_true hlt,i1,r1,ic,i2,ia,r2,n0,e0,n1]
    rw[jgx rfl]
    simp(disch:=first|omega|rfl) only[go_sem]
    have mt:=qie S N ok H DK (N.p p hpn) m1 hk m2
    rw[N.Lp p hpn] at mt
    refine WC.imp mt ?_
    rintro _ _ ⟨rfl,m',rfl,m3,m4⟩
    simp(disch:=first|omega|rfl) only[go_sem,jac,hs]
    exact j73 N ok H DK ol hq hq2 hQ d (i+1) (by omega) (some m') (by rw[tk];exact c3 m m' rfl hk m3 m4)
end
theorem qeb {n:Nat} {L pl:Nat->Nat} (N:Num n L pl) {D:Nat->Option Nat} {m:Nat} (hi:i<n):jat (L i) [si (L m)] ((List.range n).map (idX L pl D))=some ((List.range n).map (idX L pl (jfq D i m))):=by
 rw[wr1 (by simpa using N.l i hi),jgk]
 refine congrArg some (f1u (fun b hb=>?_))
 have hb:=f1z.1 hb
 show(if b=L i then si (L m) else dv L (D (pl b)))=dv L (jfq D i m (pl b))
 unfold jfq
 by_cases e:b=L i
 .subst e
  rw[if_pos rfl,N.pL i hi,if_pos rfl];rfl
 .have:pl b≠i:=fun h=>e (by rw[←N.Lp b hb,h])
  rw[if_neg e,if_neg this]
theorem j3r {D:Nat->Option Nat} {m:Nat} (h:D i=some m):jfq D i m=D:=by
 funext v
 unfold jfq
 by_cases e:v=i
 .subst e;rw[if_pos rfl,h]
 .rw [if_neg e]
section
variable {F:Fns} (S:SF F)
include S
theorem j74 {n:Nat} (hn:f.blocks.length=n) {L pl:Nat->Nat} (N:Num n L pl) (hpre:∀ i,0<i->i<n->∃ j,j<i/\Eg f (L j) (L i)) {P:Nat->List Nat} (T:IntT f P) {xs:Nat->SV} {bs:Nat->Nat} {l:List Nat} {k kp:Nat} {hS:Hp} (s:PsS n L pl P xs bs l k kp hS) {j:Nat} :
 ∀ (d t:Nat) (_:t+d=n - 1) {hi:Hp} {D:Nat->Option Nat} {ch:Bool} (_:PsH n L pl k hS hi D) (_:PassI (PPl n L pl P) n D j (t+1)) {x3 x5 x6 x7 x8 x9 x10 x11 x12 x13 x16:AV}
  (hQ:∀ hj D' ch' x3 x5 x6 x7 x8 x9 x10 x11 x12 x13 x16,PsH n L pl k hS hj D'->PassI (PPl n L pl P) n D' j n->(n<j->ch'=true->ch=true)->Q (.exit 4) (.mk [x0,x1,x2,x3,.s (.func 59 [(k+2,0),(k+5,0)]),x5,x6,x7,x8,x9,x10,x11,x12,x13,.s (.slice (kp+1) 0 n n true 1),.s (.lst (l.tail.map jak)),x16,vi ((n - 1:Nat):Int),vi ((n - 1:Nat):Int),x19,vb ch',.s (.ptr (k+5) 0),x22,x23,x24,x25,x26,x27,x28,x29] hj)),
  W F jpa.loop (.mk [x0,x1,x2,x3,.s (.func 59 [(k+2,0),(k+5,0)]),x5,x6,x7,x8,x9,x10,x11,x12,x13,.s (.slice (kp+1) 0 n n true 1),.s (.lst (l.tail.map jak)),x16,vi ((n - 1:Nat):Int),vi t,x19,vb ch,.s (.ptr (k+5) 0),x22,x23,x24,x25,x26,x27,x28,x29] hi) Q
 | 0,t,hd,hi,D,ch,H,I,x3,x5,x6,x7,x8,x9,x10,x11,x12,x13,x16,hQ=>by
  have n1:=N.n1
  obtain rfl:t=n - 1:=by omega
  have ok:=H.ok
  rw[jae]
  unfold jpa
  simp(disch:=first|omega|rfl) only[go_sem,f0q]
  refine hQ hi D ch _ _ _ _ _ _ _ _ _ _ _ H ?_ (fun _ h=>h)
  rw[show n - 1+1=n by omega] at I
  exact I
 | d+1,t,hd,hi,D,ch,H,I,x3,x5,x6,x7,x8,x9,x10,x11,x12,x13,x16,hQ=>by
  have n1:=N.n1
  have n2:=N.n2
  have k1:=s.k1
  have hkp:=s.kp
  have hi1:t+1<n:=by omega
  have hlt:(t:Int)<((n - 1:Nat):Int):=by omega
  have hs:(t:Int)+1=((t+1:Nat):Int):=by omega
  have ok:=H.ok
  have ID:=H.id s
  have DK:=I.ok
  have ht:l.tail[t]?=some (L (t+1)):=by rw[List.getElem?_tail];exact s.ln (t+1) hi1
  have i1:jj3 1 (.s (.lst (l.tail.map jak))) (vi (t:Int))=some (.s (.cp (jak (L (t+1))))):=by
   have:=jaf (enc:=jak) (size:=1) ht rfl
   cases hT:l.tail with
   | nil=>rw[hT] at ht;simp at ht
   | cons a r=>rw[hT] at this;exact this
  have i2:=ixI (b:=kp+1) (ex:=true) (N.l (t+1) hi1)
  have xo:=(H.kp (kp+1) (by omega)).trans s.ou
  have r2:rdB (some (.arr ((List.range n).map xs) 26)) (L (t+1)) 1=some [xs (L (t+1))]:=rd1 (jbn (N.l (t+1) hi1))
  have ol:=H.ols s (L (t+1))
  have l1:=ol.len
  have q1:∀ p,p∈P (L (t+1))->p<n:=fun p hp=>by rw[←hn];exact(T.s _ p hp).1
  rw[jae]
  unfold jpa j24
  simp(disch:=first|omega|rfl) only[go_sem,jac,eq_true hlt,i1,jak,i2,xo,r2,l1]
  refine j73 S N ok ID DK ol q1 (T.b _) (fun nx x5 x7 x8 x10 ac=>?_) (P (L (t+1))).length 0 (by omega) none (by intro p hp;simp at hp)
  obtain⟨j0,hj0,e0⟩:=hpre (t+1) (by omega) hi1
  have p0:L j0∈P (L (t+1)):=T.t _ _ e0
  have kj:D j0≠none:=I.kn j0 hj0 (by omega)
  have plj:pl (L j0)=j0:=N.pL j0 (by omega)
  cases nx with
  | none=>exact absurd (ac (L j0) p0) (by rw[plj];exact kj)
  | some m =>
  obtain⟨m1,m2,m3⟩:=ac
  have PE:PPl n L pl P (t+1)=(P (L (t+1))).map pl:=if_pos hi1
  have hm:∀ z,Anc D m z↔∀ p∈PPl n L pl P (t+1),D p≠none->Anc D p z:=fun z=>by
   rw[PE,m3 z]
   refine⟨fun u p hp hk=>?_,fun u p hp hk=>u (pl p) (f2a.2 ⟨p,hp,rfl⟩) hk⟩
   obtain⟨r,hr,rfl⟩:=f2a.1 hp
   exact u r hr hk
  have hP:∀ v p,p∈PPl n L pl P v->v<n/\p<n:=by subst hn;exact PPl.lt N T
  have pm:j0∈PPl n L pl P (t+1):=by rw[PE];exact f2a.2 ⟨_,p0,plj⟩
  obtain⟨mi,I'⟩:=I.step (fun v p h=>(hP v p h).2) (by omega) hi1 pm hj0 m2 hm
  have ic:=ID.ic
  have ia:=ID.ia
  have i3:=ixI (b:=k+4) (ex:=true) (N.l (t+1) hi1)
  have e1:dv L (some m)=si (L m):=rfl
  have pLt:=N.pL (t+1) hi1
  have same:∀ {c:Bool},D (t+1)=some m->True:=fun _=>trivial
  by_cases hD:D (t+1)=some m
  .have r3:rdB (some (.arr ((List.range n).map (idX L pl D)) 3)) (L (t+1)) 1=some [si (L m)]:=by
    rw[rd1 (jbn (N.l (t+1) hi1))]
    show some [dv L (D (pl (L (t+1))))]=_
    rw[pLt,hD];rfl
   have c1:((L m:Int)≠(L m:Int))=False:=eq_false (fun h=>h rfl)
   simp(disch:=first|omega|rfl) only[go_sem,jac,ic,i3,ia,r3,e1,ne_eq,not_true_eq_false,hs]
   rw[j3r hD] at I'
   exact j74 hn N hpre T s d (t+1) (by omega) H I' hQ
  .have nj:¬ n<j:=fun h=>hD (I.still hP h (by omega) hi1 pm hj0 m2 hm)
   obtain⟨hA,eA,okA,nA,xA,gA⟩:=pt1 ok (b:=k+4) (by omega) (some (.arr ((List.range n).map (idX L pl (jfq D (t+1) m))) 3))
   have HA:PsH n L pl k hS hA (jfq D (t+1) m):=⟨okA,nA.trans H.nx,fun q hq=>(gA q hq).trans (H.kp q hq),xA⟩
   have hw:=qeb N (D:=D) (m:=m) hi1
   cases hE:D (t+1) with
   | none =>
    have r3:rdB (some (.arr ((List.range n).map (idX L pl D)) 3)) (L (t+1)) 1=some [si (-1)]:=by
     rw[rd1 (jbn (N.l (t+1) hi1))]
     show some [dv L (D (pl (L (t+1))))]=_
     rw[pLt,hE];rfl
    have c1:((-1:Int)≠(L m:Int))=True:=eq_true (by omega)
    have c2:((-1:Int)=(L m:Int))=False:=eq_false (by omega)
    simp(disch:=first|omega|rfl) only[go_sem,jac,ic,i3,ia,r3,e1,c1,c2,hw,eA,hs]
    exact j74 hn N hpre T s d (t+1) (by omega) HA I' (fun hj D' ch' x3 x5 x6 x7 x8 x9 x10 x11 x12 x13 x16 a b c=>hQ hj D' ch' x3 x5 x6 x7 x8 x9 x10 x11 x12 x13 x16 a b (fun h=>absurd h nj))
   | some e =>
    have ne:e≠m:=fun h=>hD (by rw[hE,h])
    have en:e<n:=Nat.lt_trans (I.ok.lt (t+1) e (by omega) hE) hi1
    have nL:L e≠L m:=fun h=>ne (by rw[←N.pL e en,←N.pL m m1,h])
    have r3:rdB (some (.arr ((List.range n).map (idX L pl D)) 3)) (L (t+1)) 1=some [si (L e)]:=by
     rw[rd1 (jbn (N.l (t+1) hi1))]
     show some [dv L (D (pl (L (t+1))))]=_
     rw[pLt,hE];rfl
    have c1:((L e:Int)≠(L m:Int))=True:=eq_true (by omega)
    have c2:((L e:Int)=(L m:Int))=False:=eq_false (by omega)
    simp(disch:=first|omega|rfl) only[go_sem,jac,ic,i3,ia,r3,e1,c1,c2,hw,eA,hs]
    exact j74 hn N hpre T s d (t+1) (by omega) HA I' (fun hj D' ch' x3 x5 x6 x7 x8 x9 x10 x11 x12 x13 x16 a b c=>hQ hj D' ch' x3 x5 x6 x7 x8 x9 x10 x11 x12 x13 x16 a b (fun h=>absurd h nj))
theorem qij {n:Nat} (hn:f.blocks.length=n) {L pl:Nat->Nat} (N:Num n L pl) (hpre:∀ i,0<i->i<n->∃ j,j<i/\Eg f (L j) (L i)) {P:Nat->List Nat} (T:IntT f P) {xs:Nat->SV} {bs:Nat->Nat} {l:List Nat} {k kp:Nat} {hS:Hp} (s:PsS n L pl P xs bs l k kp hS)
 (hQ:∀ hj D x3 x5 x6 x7 x8 x9 x10 x11 x12 x13 x15 x16 x17 x18 x19,PsH n L pl k hS hj D->DomOk n D->(∀ v,v<n->D v≠none)->Q (.exit 2) (.mk [x0,.s (jag jak l),x2,x3,.s (.func 59 [(k+2,0),(k+5,0)]),x5,x6,x7,x8,x9,x10,x11,x12,x13,.s (.slice (kp+1) 0 n n true 1),x15,x16,x17,x18,x19,vb false,.s (.ptr (k+5) 0),x22,x23,x24,x25,x26,x27,x28,x29] hj)) :
 ∀ (d j:Nat) (_:n+2<=j+d) {hi:Hp} {D:Nat->Option Nat} {ch:Bool} (_:PsH n L pl k hS hi D) (_:PassI (PPl n L pl P) n D j 1) (_:n+1<j->ch=false) (_:ch=true∨0<j) {x3 x5 x6 x7 x8 x9 x10 x11 x12 x13 x15 x16 x17 x18 x19:AV},
  W F jpb.loop (.mk [x0,.s (jag jak l),x2,x3,.s (.func 59 [(k+2,0),(k+5,0)]),x5,x6,x7,x8,x9,x10,x11,x12,x13,.s (.slice (kp+1) 0 n n true 1),x15,x16,x17,x18,x19,vb ch,.s (.ptr (k+5) 0),x22,x23,x24,x25,x26,x27,x28,x29] hi) Q
 | d,j,hd,hi,D,ch,H,I,h1,h2,x3,x5,x6,x7,x8,x9,x10,x11,x12,x13,x15,x16,x17,x18,x19=>by
  have ok:=H.ok
  have n1:=N.n1
  rw[jae]
  cases ch with
  | false =>
   unfold jpb
   simp(disch:=first|omega|rfl) only[go_sem]
   exact hQ hi D _ _ _ _ _ _ _ _ _ _ _ _ _ _ _ H I.ok (I.all (by simpa using h2))
  | true =>
   match d,hd with
   | 0,hd=>exact absurd (h1 (by omega)) (by simp)
   | d+1,hd =>
   have hln:=s.ll
   obtain⟨a0,r0,hl0⟩:∃ a r,l=a::r:=by
    cases l with
    | nil=>simp at hln;omega
    | cons a r=>exact⟨a,r,rfl⟩
   have l0:ja9 ((a0::r0).map jak)=n:=by rw[jas,f05,←hl0,hln]
   have e1:qif 1 (some (.s (jag jak l))) (fun _=>some 1) some=some (.s (.lst (l.tail.map jak))):=by
    rw[hl0]
    show oif (Nat.ble (ja9 ((a0::r0).map jak)) (ja9 ((a0::r0).map jak))) (oif (Nat.ble 1 (ja9 ((a0::r0).map jak))) (oif (jkp 1 ((a0::r0).map jak)) (ob (ja3 (Nat.sub (ja9 ((a0::r0).map jak)) 1) (jbd 1 ((a0::r0).map jak))) (fun r=>some (AV.s (.lst r)))) none) none) none=_
    rw[l0,jb5 (f0d n),jb5 n1]
    have lr:r0.length=n - 1:=by rw[hl0] at hln;simp at hln;omega
    have tk:ja3 (Nat.sub n 1) (jbd 1 ((a0::r0).map jak))=some (r0.map jak):=by
     rw[jaz]
     exact(jam _).2 ⟨by show n - 1<=(r0.map jak).length;rw[f05];omega,by show r0.map jak=(r0.map jak).take (n - 1);rw[f2n (by rw[f05];omega)]⟩
    rw[tk]
    rfl
   have l9:jlz (.s (.lst (l.tail.map jak)))=some (vi ((n - 1:Nat):Int)):=by
    show some (vi ((ja9 (l.tail.map jak):Nat):Int))=_
    rw[jas,f05,List.length_tail,hln]
   unfold jpb j25
   simp(disch:=first|omega|rfl) only[go_sem,j3n,jvt,jvs,qlp,e1,l9]
   refine j74 S hn N hpre T s (n - 1) 0 (by omega) H I (fun hj D' ch' y3 y5 y6 y7 y8 y9 y10 y11 y12 y13 y16 H' I' h3=>?_)
   have okj:=H'.ok
   simp(disch:=first|omega|rfl) only[go_sem]
   refine qij hn N hpre T s hQ d (j+1) (by omega) H' I'.next (fun h=>?_) (.inr (by omega))
   cases ch' with
   | false=>rfl
   | true=>exact absurd (h3 (by omega) rfl) (by simp)
end
theorem jvu (x:SV) (n:Nat):List.replicate n x=(List.range n).map (fun _=>x):=by
 refine f2y (fun i=>?_)
 rw[List.getElem?_replicate,f07]
 by_cases hi:i<n
 .rw [if_pos hi,f18 hi];rfl
 .rw [if_neg hi,f0t (by simpa using hi)];rfl
abbrev D0:Nat->Option Nat:=fun v=>if v=0 then some 0 else none
theorem qlr {n:Nat} {L pl:Nat->Nat} (N:Num n L pl):jat 0 [si 0] (List.replicate n (si (-1)))=some ((List.range n).map (idX L pl D0)):=by
 have n1:=N.n1
 rw[jvu,wr1 (by simpa using (show 0<n from n1)),jgk]
 refine congrArg some (f1u (fun b hb=>?_))
 have hb:=f1z.1 hb
 show(if b=0 then si 0 else si (-1))=dv L (D0 (pl b))
 by_cases e:b=0
 .subst e
  have:pl 0=0:=by have:=N.pL 0 n1;rwa [N.z] at this
  rw[if_pos rfl,this]
  show si 0=si (L 0)
  rw[N.z];rfl
 .have:pl b≠0:=fun h=>e (by rw[←N.Lp b hb,h,N.z])
  rw[if_neg e]
  show _=dv L (if pl b=0 then some 0 else none)
  rw[if_neg this];rfl
abbrev idA (L pl:Nat->Nat) (D:Nat->Option Nat):Nat->SV:=fun b=>if b=0 then si (-1) else idX L pl D b
structure IdT (n:Nat) (L pl:Nat->Nat) (D:Nat->Option Nat):Prop where
 N:Num n L pl
 d:DomOk n D
 k:∀ v,v<n->D v≠none
section
variable {F:Fns} (S:SF F)
include S
theorem qec {h:Hp} (ok:Ok h) (hf:ShT f) {l:List Nat} (od:Ord f l) (hl:l.length=f.blocks.length) :
 WC F 38 [FA f,.s (jag jak l)] h (fun v h'=>∃ L pl D d,v=.s (.slice d 0 f.blocks.length f.blocks.length true 1)/\Gw h h'/\h.next<=d/\d<h'.next/\h'.get d=some (.arr ((List.range f.blocks.length).map (idA L pl D)) 3)/\IdT f.blocks.length L pl D):=by
 refine jan (S.X _ (by simp) _ _) ((S.T _).trans qlk) rfl ?_
 unfold j9v
 obtain⟨n,hn⟩:∃ n,f.blocks.length=n:=⟨_,rfl⟩
 have n1:=hf.n1
 have n2:=hf.n2
 have hp:=ok.pos
 obtain⟨L,pl,N,hL,hpre⟩:=qii od hl n2
 have hll:=hl
 have l2:=jad (enc:=jax) (l:=f.blocks)
 rw[hn] at n1 n2 N hL hpre hl l2 ⊢
 have ll:=jad (enc:=jak) (l:=l)
 rw[hl] at ll
 obtain⟨hA,eA,gA,nA,xA⟩:=bxG ok [jag jak f.values,jag jax f.blocks] 29
 have okA:=gA.ok
 obtain⟨hB,eB,gB,nB,xB⟩:=bxG okA (rep [si 0] n) 3
 have okB:=gB.ok
 have ms:=jhf (e:=3) (size:=1) (bytes:=8) (z:=[si 0]) (m:=n) okA (by omega) (by omega)
 rw[eB,nA] at ms
 rw[nA] at xB
 have mB:hB.next=h.next+2:=by omega
 obtain⟨hC,eC,gC,nC,xC⟩:=nwG okB [.nilSlice] [.slice (h.next+1) 0 n n true 1] 26
 have okC:=gC.ok
 rw[mB] at eC xC
 have mC:hC.next=h.next+3:=by omega
 have G1:Gw h hC:=gA.trans (gB.trans gC)
 have yA:hC.get h.next=_:=(gC.g _ (by omega)).trans ((gB.g _ (by omega)).trans xA)
 have yB:hC.get (h.next+1)=_:=(gC.g _ (by omega)).trans xB
 have p0:rep [si 0] n=(List.range n).map (plX pl 0):=by
  rw[jmc,jvu]
  refine f1u (fun b hb=>?_)
  exact(if_neg (by omega)).symm
 rw[p0] at yB
 have zA:hA.get h.next=_:=xA
 simp(disch:=first|omega|rfl) only[go_sem,eA,nA,xA,l2,ll,ms,mB,eC]
 refine qmw S N hL (k:=h.next) hp (h0:=hC) (fun hP x22 x23 x26 okP nP xP gP=>?_) xC n 0 (by omega) okC rfl (fun _ _=>rfl) yB
 have zAP:=(gP h.next (by omega)).trans yA
 have mP:hP.next=h.next+3:=by omega
 obtain⟨hD,eD,gD,nD,xD⟩:=bxG okP [si (-1)] 3
 have okD:=gD.ok
 rw[mP] at xD
 have mD:hD.next=h.next+4:=by omega
 have zAD:=(gD.g h.next (by omega)).trans zAP
 simp(disch:=first|omega|rfl) only[go_sem,mP,eD,zAD,l2]
 refine WC.imp (qea S okD n1 n2 xD ⟨by omega,by omega⟩) ?_
 rintro v hR ⟨rfl,gR,nR,xR⟩
 rw[mD] at xR nR ⊢
 have okR:=gR.ok
 have mR:hR.next=h.next+5:=by omega
 obtain⟨hE,eE,gE,nE,xE⟩:=nwG okR [.nilSlice] [.slice (h.next+4) 0 n n true 1] 26
 have okE:=gE.ok
 rw[mR] at eE xE
 have zR:=(gE.g (h.next+4) (by omega)).trans xR
 have i0:=ixI (b:=h.next+4) (n:=n) (ex:=true) (v:=0) (by omega)
 have w0:=qlr N
 obtain⟨hF,eF,okF,nF,xF,gF⟩:=pt1 okE (b:=h.next+4) (by omega) (some (.arr ((List.range n).map (idX L pl D0)) 3))
 have mF:hF.next=h.next+6:=by omega
 have zAF:hF.get h.next=_:=(gF _ (by omega)).trans ((gE.g _ (by omega)).trans ((gR.g _ (by omega)).trans zAD))
 have zcF:=(gF (h.next+5) (by omega)).trans xE
 simp(disch:=first|omega|rfl) only[go_sem,mR,eE,xE,i0,zR,w0,eF,zAF]
 have IN:=jvr S okF hf
 rw[hn,mF] at IN
 refine WC.imp IN ?_
 rintro v hG ⟨P,rfl,O,nG,gG,T⟩
 have okG:=gG.ok
 obtain⟨xs,bs,o1,o2,o3,o4⟩:=O
 have chP:∀ m,m<h.next+3->hG.get m=hP.get m:=fun m hm=>(gG.g m (by omega)).trans ((gF m (by omega)).trans ((gE.g m (by omega)).trans ((gR.g m (by omega)).trans (gD.g m (by omega)))))
 have chC:∀ m,m<h.next+3->m≠h.next+1->hG.get m=hC.get m:=fun m hm h1=>(chP m hm).trans (gP m h1)
 have s:PsS n L pl P xs bs l h.next (h.next+6) hG:=⟨(chC _ (by omega) (by omega)).trans xC,(chP _ (by omega)).trans xP,(gG.g _ (by omega)).trans zcF,o1,o2,o3,hp,f0d _,hL,hl⟩
 have H0:PsH n L pl h.next hG hG D0:=⟨okG,rfl,fun _ _=>rfl,(gG.g _ (by omega)).trans xF⟩
 have I0:PassI (PPl n L pl P) n D0 0 1:=PassI.start (by omega)
 simp(disch:=first|omega|rfl) only[go_sem]
 refine qij S hn N hpre T s (fun hj D x3 x5 x6 x7 x8 x9 x10 x11 x12 x13 x15 x16 x17 x18 x19 HJ DK all=>?_) (n+2) 0 (by omega) H0 I0 (fun h=>absurd h (by omega)) (.inl rfl)
 have okj:=HJ.ok
 have ic:=(HJ.kp (h.next+5) (by omega)).trans s.ic
 have ia:=HJ.ia
 have wz:jat 0 [si (-1)] ((List.range n).map (idX L pl D))=some ((List.range n).map (idA L pl D)):=by
  rw[wr1 (by simpa using (show 0<n by omega)),jgk]
 obtain⟨hZ,eZ,okZ,nZ,xZ,gZ⟩:=pt1 okj (b:=h.next+4) (by omega) (some (.arr ((List.range n).map (idA L pl D)) 3))
 have icZ:=(gZ (h.next+5) (by omega)).trans ic
 have nJ:=HJ.nx
 have low:∀ m,m<h.next->hZ.get m=h.get m:=fun m hm=>(gZ m (by omega)).trans ((HJ.kp m (by omega)).trans ((chC m (by omega) (by omega)).trans (G1.g m hm)))
 simp(disch:=first|omega|rfl) only[go_sem,ic,i0,ia,wz,eZ,icZ]
 exact⟨L,pl,D,h.next+4,rfl,⟨okZ,by omega,low⟩,by omega,by omega,xZ,N,DK,all⟩
end
end Go.Proofs.Ytkplfnkgodnmaaa.Ev
