/- Code of functions as the interpreter has it prepared, cut at loops. -/
import Derived.Test.YtehhjbfmjdlcjaaTz
import Derived.Test.YtehhjbfmjdlcjaaBk
namespace Go.Proofs.Ytehhjbfmjdlcjaa.Ev
open Go Go.RowKit
set_option linter.all false
set_option maxRecDepth 100000
def qa2:IC:=.seq (.block 7 (qr [qP (.ixs 5 (.g 8) (.g 11)),qK 5,qB 6 (.new 48 [.int .i64 0,.int .i64 0,.bool false,.int .i64 0,.int .i64 0]),qA (.store 5 qa qb)] (qr [qM 7,qP (.mv qa),qR 0 false (.fld 0 (.g 6)),qS 1 false (.load 1 false qa),qR 2 false (.bin .eq qa (qC 1)),qR 3 false (.mv qa),qR 0 true (.fld 1 (.g 6)),qS 1 true (.load 1 false qa),qR 2 true (.mv (.g 18)),qR 3 true (.bin .eq qb qa),qR 8 false (.pick (.l 4) qa (.c (.s (.bool false)))),qP (.pick (.l 9) (.c (.s (.bool true))) qa),qT 7] (.region [qM 5,qP (.mv qa),qR 0 false (.fld 0 (.g 6)),qS 1 false (.load 1 false qa),qR 2 false (.bin .eq qa (qC 2)),qR 3 false (.mv qa),qR 0 true (.fld 1 (.g 6)),qS 1 true (.load 1 false qa),qR 2 true (.mv (.g 18)),qR 3 true (.bin .eq qb qa),qR 8 false (.pick (.l 4) qa (.c (.s (.bool false)))),qP (.pick (.l 9) (.c (.s (.bool true))) qa),qT 5])))) (.region [qI 11,qT 11])
def ju8:IC:=qr [qQ 9 (.bin .lt (.g 11) (.g 10))] (.seq (qX 9 6) qa2)
def qa3:IC:=.seq (.block 5 (qr [qP (.ixs 3 (.g 13) (.g 16)),qK 3,qB 12 (.new 46 [.int .i64 0,.nilSlice,.nilSlice]),qA (.store 3 qa qb)] (qr [qF 1 12,qB 8 (.load 1 false qa),qQ 10 (.len qa),qQ 11 (.mv (qC 0))] (.block 6 (.loop ju8))))) (.region [qI 16,qT 16])
def ju9:IC:=qr [qQ 14 (.bin .lt (.g 16) (.g 15))] (.seq (qX 14 4) qa3)
def qa4:IC:=.seq (.block 3 (qr [qM 22,qT 18] (qr [qF 1 28,qL,qM 19,qP (.ixs 1 qb qa),qL,qM 18,qA (.call 14 [qb,qa]),qT 7] (qr [qF 0 17,qL,qM 18,qA (.call 14 [qb,qa]),qT 5] (.seq (qr [qF 1 17,qB 13 (.load 1 false qa),qQ 15 (.len qa),qQ 16 (.mv (qC 0))] (.block 4 (.loop ju9))) (qr [qF 0 28,qL,qM 19,qP (.ixs 1 qb qa),qL,qM 18,qA (.call 14 [qb,qa]),qM 7,qP (.mv qa),qR 0 true (.mv (.g 5)),qR 1 true (.not qa),qP (.pick qc qa (.c (.s (.bool false)))),qQ 4 (.eqv true false [true] (.l 5) qa)] (.cond (.g 4) (qr [qQ 3 (.mv (.c (.s (.bool false))))] .ret) .skip))))))) (.region [qI 22,qT 22])
def jva:IC:=qr [qQ 20 (.bin .lt (.g 22) (.g 21))] (.seq (qX 20 2) qa4)
def qa5:IC:=.seq (.block 1 (qr [qM 26,qP (.ixs 3 (.g 23) (.g 26)),qK 3,qB 17 (.new 42 [.nilSlice,.nilSlice,.nilSlice]),qQ 19 (.mv qd),qA (.store 3 qb qc)] (qr [qF 0 30,qL,qQ 21 (.len qa),qQ 22 (.mv (qC 0))] (.block 2 (.loop jva))))) (.region [qI 26,qT 26])
def jvb:IC:=qr [qQ 24 (.bin .lt (.g 26) (.g 25))] (.seq (qX 24 0) qa5)
def qa6:IC:=.seq (qr [qF 1 30,qB 23 (.load 1 false qa),qQ 25 (.len qa),qQ 26 (.mv (qC 0))] (.block 0 (.loop jvb))) (qr [qQ 3 (.mv (.c (.s (.bool true))))] .ret)
def qgo:IC:=qr [qQ 3 (.mv (.c (.s (.bool false))))] (qr [qM 0,qM 1,qA (.call 9 [qb,qa]),qB 31 (.new 25 [.int .i64 0,.int .i64 0]),qA (.store 2 qa qb)] (qr [qA (.load 2 true (.g 31)),qM 2,qA (.call 10 [qb,qa]),qB 30 (.new 30 [.nilSlice,.nilSlice]),qA (.store 2 qa qb)] (qr [qA (.load 2 true (.g 30)),qA (.load 2 true (.g 31)),qA (.call 13 [qb,qa]),qP (.mv qa),qP (.ext 0 qa),qP (.ext 1 qb),qB 28 (.new 52 [.nilSlice,.nilSlice]),qA (.store 2 qa qc),qQ 29 (.mv qc)] (.seq (qr [qM 29,qP (.bin .ne qa (qC 0)),qP (.mv qa),qR 0 false (.fld 0 (.g 28)),qS 1 false (.load 1 false qa),qR 2 false (.len qa),qR 3 false (.fld 1 (.g 30)),qS 4 false (.load 1 false qa),qR 5 false (.len qa),qR 6 false (.bin .ne qd qa),qQ 27 (.pick (.l 7) (.c (.s (.bool true))) qa)] (.cond (.g 27) (qr [qQ 3 (.mv (.c (.s (.bool false))))] .ret) .skip)) qa6))))
theorem qwk:T 5=some (.mk qgo 3 29 [(.tmp 3)]):=by kernel_rfl
def qa7:IC:=.seq (.block 5 (qr [qP (.ixs 2 (.g 9) (.g 12)),qK 2,qB 7 (.new 56 [.int .i64 0,.nilSlice]),qA (.store 2 qa qb)] (.region [qM 8,qP (.mv qa),qR 0 false (.fld 1 (.g 7)),qS 1 false (.load 1 false qa),qR 2 false (.mv (.g 6)),qS 3 false (.call 14 [qb,qa]),qP (.pick (.l 4) (.c (.s (.bool true))) qa),qP (.mv qa),qR 0 false (.fld 0 (.g 22)),qS 1 false (.load 1 false qa),qR 2 false (.fld 0 (.g 7)),qS 3 false (.load 1 false qa),qR 4 false (.ixs 1 qc qa),qS 5 false (.load 1 false qa),qR 6 false (.mv (.g 6)),qS 7 false (.call 14 [qb,qa]),qP (.pick (.l 8) (.c (.s (.bool true))) qa),qT 8]))) (.region [qI 12,qT 12])
def jvc:IC:=qr [qQ 10 (.bin .lt (.g 12) (.g 11))] (.seq (qX 10 4) qa7)
def qa8:IC:=.seq (.block 3 (qr [qM 16,qT 6] (qr [qQ 8 (.mv (.c (.s (.bool false))))] (.seq (qr [qF 2 13,qB 9 (.load 1 false qa),qQ 11 (.len qa),qQ 12 (.mv (qC 0))] (.block 4 (.loop jvc))) (qr [qM 8,qF 1 22,qL,qM 5,qP (.ixs 1 qb qa),qL,qM 6,qA (.call 14 [qb,qa]),qQ 4 (.eqv true false [true] (.l 7) qa)] (.cond (.g 4) (qr [qQ 3 (.mv (.c (.s (.bool false))))] .ret) .skip)))))) (.region [qI 16,qT 16])
def jvd:IC:=qr [qQ 14 (.bin .lt (.g 16) (.g 15))] (.seq (qX 14 2) qa8)
def qa9:IC:=.seq (.block 1 (qr [qM 20,qP (.ixs 3 (.g 17) (.g 20)),qK 3,qB 13 (.new 42 [.nilSlice,.nilSlice,.nilSlice]),qQ 5 (.mv qd),qA (.store 3 qb qc)] (qr [qF 0 24,qL,qQ 15 (.len qa),qQ 16 (.mv (qC 0))] (.block 2 (.loop jvd))))) (.region [qI 20,qT 20])
def jve:IC:=qr [qQ 18 (.bin .lt (.g 20) (.g 19))] (.seq (qX 18 0) qa9)
def qba:IC:=.seq (qr [qF 1 24,qB 17 (.load 1 false qa),qQ 19 (.len qa),qQ 20 (.mv (qC 0))] (.block 0 (.loop jve))) (qr [qQ 3 (.mv (.c (.s (.bool true))))] .ret)
def qgp:IC:=qr [qQ 3 (.mv (.c (.s (.bool false))))] (qr [qM 0,qM 1,qA (.call 9 [qb,qa]),qB 25 (.new 25 [.int .i64 0,.int .i64 0]),qA (.store 2 qa qb)] (qr [qA (.load 2 true (.g 25)),qM 2,qA (.call 10 [qb,qa]),qB 24 (.new 30 [.nilSlice,.nilSlice]),qA (.store 2 qa qb)] (qr [qA (.load 2 true (.g 24)),qA (.load 2 true (.g 25)),qA (.call 13 [qb,qa]),qP (.mv qa),qP (.ext 0 qa),qP (.ext 1 qb),qB 22 (.new 52 [.nilSlice,.nilSlice]),qA (.store 2 qa qc),qQ 23 (.mv qc)] (.seq (qr [qM 23,qP (.bin .ne qa (qC 0)),qP (.mv qa),qR 0 false (.fld 0 (.g 22)),qS 1 false (.load 1 false qa),qR 2 false (.len qa),qR 3 false (.fld 1 (.g 24)),qS 4 false (.load 1 false qa),qR 5 false (.len qa),qR 6 false (.bin .ne qd qa),qP (.pick (.l 7) (.c (.s (.bool true))) qa),qP (.mv qa),qR 0 false (.fld 1 (.g 22)),qS 1 false (.load 1 false qa),qR 2 false (.len qa),qR 3 false (.fld 1 (.g 24)),qS 4 false (.load 1 false qa),qR 5 false (.len qa),qR 6 false (.bin .ne qd qa),qP (.pick (.l 7) (.c (.s (.bool true))) qa),qP (.mv qa),qR 0 false (.fld 0 (.g 22)),qS 1 false (.load 1 false qa),qR 2 false (.ixs 1 qa (qC 0)),qS 3 false (.load 1 false qa),qR 4 false (.len qa),qR 5 false (.bin .gt qa (qC 0)),qQ 21 (.pick (.l 6) (.c (.s (.bool true))) qa)] (.cond (.g 21) (qr [qQ 3 (.mv (.c (.s (.bool false))))] .ret) .skip)) qba))))
theorem qwl:T 4=some (.mk qgp 3 23 [(.tmp 3)]):=by kernel_rfl
open Go Go.RowKit Go.Proofs.Ytehhjbfmjdlcjaa.Ms
variable {x0 x1 x2 x3 x4 x17 x19 x20 x21 x22 x23 x24 x25 x26 x27 x28 x29 x30 x31:AV} {f:Fc} {a b:Int} {N k sx:Nat} {xl:SV}
attribute [local go_sem] f0i f0r f0s decide_eq_true_eq decide_eq_false_iff_not f0f and_true true_and f0m f0o reduceCtorEq decide_true decide_false f00 f0v f0u f0l Option.some.injEq f0j not_true_eq_false not_false_eq_true Hp.next_push Hp.next_put f0t Int.reduceToNat Nat.reduceAdd Nat.reduceMul Nat.reduceEqDiff Int.reduceEq Int.reduceLT Int.reduceLE Int.reduceNeg Int.reduceAdd Int.reduceSub Int.reduceMul Int.reduceNe
attribute [local go_sem ↓] reduceIte
set_option maxHeartbeats 4000000
def uOp (v:Nat) (u:Bool) (o:Ms.Opd):Bool:=u||(decide (o.kind=1)&&decide (o.value=v))
def mOp (v:Nat) (u:Bool) (o:Ms.Opd):Bool:=u||(decide (o.kind=2)&&decide (o.value=v))
def uIn (v:Nat) (u:Bool) (x:Ms.Ins):Bool:=x.ops.foldl (uOp v) u
def mIn (v:Nat) (u:Bool) (x:Ms.Ins):Bool:=x.ops.foldl (mOp v) u
theorem jls {h:Hp} {Q:AV->Hp->Prop} {l:List Nat} {n:Nat} (hl:l.length<=10000):WC FL2 14 [.s (jah jaq l),vi n] h Q=Q (vb (jmg l n)) h :=
 jau ((jbi rfl).trans ((jif rfl).trans ((jif rfl).trans (jbd rfl (by simp only[jat,jaz,ja6,jb0,ja0,ja7,ja4,jbk,ja8,jbe,if_true]) (qsw jdo hl (jqi rfl) rfl)))))
noncomputable def neB (v w:AV):Option AV:=qop [v,w] [] true false [true] (.l 0) (.l 1)
theorem qbb {st fr:List AV} {x y:Od}:pop st fr (.eqv true false [true] x y)=ob (ev st fr x) (fun v=>ob (ev st fr y) (fun w=>neB v w)):=rfl
theorem j3b {a:Bool}:neB (.s (.bool a)) (.s (.bool a))=some (.s (.bool false)):=by cases a<;>rfl
theorem jm5 {ws:List Nat} {n v:Nat} (hv:v<n):jmg (jbh ws n) v=jci ws v:=by
 unfold jmg jbh
 cases h:jci ws v with
 | true=>exact f3t.2 ⟨v,f11.2 ⟨f2g.2 hv,h⟩,by simp⟩
 | false =>
  refine Bool.eq_false_iff.2 (fun e=>?_)
  obtain⟨x,hx,e⟩:=f3t.1 e
  have e':x=v:=Int.ofNat.inj (of_decide_eq_true e)
  subst e'
  have:=(f11.1 hx).2
  rw[h] at this;cases this
theorem j3c {l:List Nat} {v:Nat}:jmg l v=true↔v∈l:=by
 unfold jmg
 rw[f3t]
 constructor
 ·rintro⟨x,hx,e⟩
  have e':x=v:=Int.ofNat.inj (of_decide_eq_true e)
  exact e'▸hx
 ·intro h;exact⟨v,h,by simp⟩
theorem qsz (v:Nat):∀ (l:List Ms.Opd) (u:Bool),l.foldl (uOp v) u=true↔(u=true∨∃ o∈l,o.kind=1/\o.value=v)
 | [],u=>by simp
 | o::l,u=>by
  rw[f1r,qsz v l]
  unfold uOp
  simp only[f14,f1b,decide_eq_true_eq,f0e,exists_eq_or_imp]
  constructor
  ·rintro((h | h) | h)
   ·exact .inl h
   ·exact .inr (.inl h)
   ·exact .inr (.inr h)
  ·rintro(h | h | h)
   ·exact .inl (.inl h)
   ·exact .inl (.inr h)
   ·exact .inr h
theorem qs0 (v:Nat):∀ (l:List Ms.Opd) (u:Bool),l.foldl (mOp v) u=true↔(u=true∨∃ o∈l,o.kind=2/\o.value=v)
 | [],u=>by simp
 | o::l,u=>by
  rw[f1r,qs0 v l]
  unfold mOp
  simp only[f14,f1b,decide_eq_true_eq,f0e,exists_eq_or_imp]
  constructor
  ·rintro((h | h) | h)
   ·exact .inl h
   ·exact .inr (.inl h)
   ·exact .inr (.inr h)
  ·rintro(h | h | h)
   ·exact .inl (.inl h)
   ·exact .inl (.inr h)
   ·exact .inr h
theorem qbc (v:Nat):∀ (l:List Ms.Ins) (u:Bool),l.foldl (uIn v) u=true↔(u=true∨v∈(l.map jps).flatten)
 | [],u=>by simp
 | x::l,u=>by
  rw[f1r,qbc v l]
  unfold uIn
  rw[qsz,f28,f1t,f0h,or_assoc]
  refine or_congr Iff.rfl (or_congr ?_ Iff.rfl)
  unfold jps
  simp only[f1m,f11,decide_eq_true_eq]
  constructor
  ·rintro⟨o,h1,h2,h3⟩;exact⟨o,⟨h1,h2⟩,h3⟩
  ·rintro⟨o,⟨h1,h2⟩,h3⟩;exact⟨o,h1,h2,h3⟩
theorem qbd (v:Nat):∀ (l:List Ms.Ins) (u:Bool),l.foldl (mIn v) u=true↔(u=true∨v∈(l.map jbt).flatten)
 | [],u=>by simp
 | x::l,u=>by
  rw[f1r,qbd v l]
  unfold mIn
  rw[qs0,f28,f1t,f0h,or_assoc]
  refine or_congr Iff.rfl (or_congr ?_ Iff.rfl)
  unfold jbt
  simp only[f1m,f11,decide_eq_true_eq]
  constructor
  ·rintro⟨o,h1,h2,h3⟩;exact⟨o,⟨h1,h2⟩,h3⟩
  ·rintro⟨o,⟨h1,h2⟩,h3⟩;exact⟨o,h1,h2,h3⟩
theorem qs1 {bs:List Ms.Blk} {ins outs:List (List Nat)} {n v:Nat} {b:Ms.Blk} (fx:FxB bs ins outs k) (hb:bs[k]?=some b) (hv:v<n) :
 jmg (jbh (ins.getD k []) n) v=(b.instrs.foldl (uIn v) (jmg (jbh (outs.getD k []) n) v) && !b.instrs.foldl (mIn v) (jmg b.params v)):=by
 rw[jm5 hv,jm5 hv]
 have h2:=(fx b hb).2 v
 have e1:=qbc v b.instrs (jci (outs.getD k []) v)
 have e2:=qbd v b.instrs (jmg b.params v)
 rw[j3c] at e2
 have e3:v∈jej b↔(v∈b.params∨v∈(b.instrs.map jbt).flatten):=by unfold jej;exact f0h
 rw[f19,h2,f1b,e1,f12,←Bool.not_eq_true,e2,e3]
 unfold j4t
 exact Iff.rfl
theorem j0d {l:List Ms.Opd} {v:Nat} (hl:l.length<=1000) {fm fu:Bool} {x12 x13 x14 x15 x16:AV} {Q:Ex->St->Prop} :
 ∀ (d i:Nat) (_:i+d=l.length) {hi:Hp} (_:Ok hi) {u mm:Bool} (_:(l.drop i).foldl (uOp v) u=fu) (_:(l.drop i).foldl (mOp v) mm=fm) {x6 x9:AV}
  (hQ:∀ hj x6 x9,Ok hj->hi.next<=hj.next->(∀ n,n<hi.next->hj.get n=hi.get n)->Q (.exit 6) (.mk [x0,x1,x2,x3,x4,vb fm,x6,vb fu,.s (jah jba l),x9,vi l.length,vi l.length,x12,x13,x14,x15,x16,x17,vi v,x19,x20,x21,x22,x23,x24,x25,x26,x27,x28,x29,x30,x31] hj)),
  W FL2 ju8.loop (.mk [x0,x1,x2,x3,x4,vb mm,x6,vb u,.s (jah jba l),x9,vi l.length,vi i,x12,x13,x14,x15,x16,x17,vi v,x19,x20,x21,x22,x23,x24,x25,x26,x27,x28,x29,x30,x31] hi) Q
 | 0,i,hd,hi,ok,u,mm,hfu,hfm,x6,x9,hQ=>by
  obtain rfl:i=l.length:=by omega
  rw[f2c] at hfu hfm
  have hfu':u=fu:=hfu
  have hfm':mm=fm:=hfm
  subst hfu' hfm'
  rw[jal]
  unfold ju8
  simp(disch:=first|omega|rfl|apply_rules[jaa,jab,jad]) only[go_sem,f0z]
  exact hQ hi _ _ ok (f0g _) (fun _ _=>rfl)
 | d+1,i,hd,hi,ok,u,mm,hfu,hfm,x6,x9,hQ=>by
  have hil:i<l.length:=by omega
  have hlt:(i:Int)<(l.length:Int):=by omega
  have hs:(i:Int)+1=((i+1:Nat):Int):=by omega
  obtain⟨o,ho⟩:∃ u,l[i]?=some u:=⟨_,f0a hil⟩
  have hix:=jaj (enc:=jba) (size:=5) ho rfl
  have hdr:l.drop i=o::l.drop (i+1):=by
   rw[f1e hil];congr 1;exact(f0q.1 ho).2
  rw[hdr,f1r] at hfu hfm
  unfold uOp at hfu
  unfold mOp at hfm
  obtain⟨hA,eA,okA,nA,xA,gA⟩:=jbo ok [.int .i64 0,.int .i64 0,.bool false,.int .i64 0,.int .i64 0] (jba o) 48
  unfold jba at xA eA
  rw[jal]
  unfold ju8 qa2
  have hk:o.kind=1∨o.kind=2∨(o.kind≠1/\o.kind≠2):=by omega
  rcases hk with hk | hk | hk<;>by_cases hv:o.value=v
  ·have c1:((o.kind:Int)=1)=True:=eq_true (by omega)
   have c2:((o.kind:Int)=2)=False:=eq_false (by omega)
   have c3:((o.value:Int)=(v:Int))=True:=eq_true (by omega)
   have d1:decide (o.kind=1)=true:=by simp;omega
   have d2:decide (o.kind=2)=false:=by simp;omega
   have d3:decide (o.value=v)=true:=by simp;omega
   rw[d1,d3] at hfu
   rw[d2,d3] at hfm
   cases u<;>cases mm<;>simp(disch:=first|omega|rfl|apply_rules[jaa,jab,jad]) only[go_sem,jag,eq_true hlt,hix,jba,eA,xA,c1,c2,c3,hs]<;>exact j0d hl d (i+1) (by omega) okA hfu hfm (fun hj x6 x9 o' n' g'=>hQ hj x6 x9 o' (by omega) (fun n hn=>(g' n (by omega)).trans (gA n hn)))
  ·have c1:((o.kind:Int)=1)=True:=eq_true (by omega)
   have c2:((o.kind:Int)=2)=False:=eq_false (by omega)
   have c3:((o.value:Int)=(v:Int))=False:=eq_false (by omega)
   have d1:decide (o.kind=1)=true:=by simp;omega
   have d2:decide (o.kind=2)=false:=by simp;omega
   have d3:decide (o.value=v)=false:=by simp;omega
   rw[d1,d3] at hfu
   rw[d2,d3] at hfm
   cases u<;>cases mm<;>simp(disch:=first|omega|rfl|apply_rules[jaa,jab,jad]) only[go_sem,jag,eq_true hlt,hix,jba,eA,xA,c1,c2,c3,hs]<;>exact j0d hl d (i+1) (by omega) okA hfu hfm (fun hj x6 x9 o' n' g'=>hQ hj x6 x9 o' (by omega) (fun n hn=>(g' n (by omega)).trans (gA n hn)))
  ·have c1:((o.kind:Int)=1)=False:=eq_false (by omega)
   have c2:((o.kind:Int)=2)=True:=eq_true (by omega)
   have c3:((o.value:Int)=(v:Int))=True:=eq_true (by omega)
   have d1:decide (o.kind=1)=false:=by simp;omega
   have d2:decide (o.kind=2)=true:=by simp;omega
   have d3:decide (o.value=v)=true:=by simp;omega
   rw[d1,d3] at hfu
   rw[d2,d3] at hfm
   cases u<;>cases mm<;>simp(disch:=first|omega|rfl|apply_rules[jaa,jab,jad]) only[go_sem,jag,eq_true hlt,hix,jba,eA,xA,c1,c2,c3,hs]<;>exact j0d hl d (i+1) (by omega) okA hfu hfm (fun hj x6 x9 o' n' g'=>hQ hj x6 x9 o' (by omega) (fun n hn=>(g' n (by omega)).trans (gA n hn)))
  ·have c1:((o.kind:Int)=1)=False:=eq_false (by omega)
   have c2:((o.kind:Int)=2)=True:=eq_true (by omega)
   have c3:((o.value:Int)=(v:Int))=False:=eq_false (by omega)
   have d1:decide (o.kind=1)=false:=by simp;omega
   have d2:decide (o.kind=2)=true:=by simp;omega
   have d3:decide (o.value=v)=false:=by simp;omega
   rw[d1,d3] at hfu
   rw[d2,d3] at hfm
   cases u<;>cases mm<;>simp(disch:=first|omega|rfl|apply_rules[jaa,jab,jad]) only[go_sem,jag,eq_true hlt,hix,jba,eA,xA,c1,c2,c3,hs]<;>exact j0d hl d (i+1) (by omega) okA hfu hfm (fun hj x6 x9 o' n' g'=>hQ hj x6 x9 o' (by omega) (fun n hn=>(g' n (by omega)).trans (gA n hn)))
  ·have c1:((o.kind:Int)=1)=False:=eq_false (by omega)
   have c2:((o.kind:Int)=2)=False:=eq_false (by omega)
   have c3:((o.value:Int)=(v:Int))=True:=eq_true (by omega)
   have d1:decide (o.kind=1)=false:=by simp;omega
   have d2:decide (o.kind=2)=false:=by simp;omega
   have d3:decide (o.value=v)=true:=by simp;omega
   rw[d1,d3] at hfu
   rw[d2,d3] at hfm
   cases u<;>cases mm<;>simp(disch:=first|omega|rfl|apply_rules[jaa,jab,jad]) only[go_sem,jag,eq_true hlt,hix,jba,eA,xA,c1,c2,c3,hs]<;>exact j0d hl d (i+1) (by omega) okA hfu hfm (fun hj x6 x9 o' n' g'=>hQ hj x6 x9 o' (by omega) (fun n hn=>(g' n (by omega)).trans (gA n hn)))
  ·have c1:((o.kind:Int)=1)=False:=eq_false (by omega)
   have c2:((o.kind:Int)=2)=False:=eq_false (by omega)
   have c3:((o.value:Int)=(v:Int))=False:=eq_false (by omega)
   have d1:decide (o.kind=1)=false:=by simp;omega
   have d2:decide (o.kind=2)=false:=by simp;omega
   have d3:decide (o.value=v)=false:=by simp;omega
   rw[d1,d3] at hfu
   rw[d2,d3] at hfm
   cases u<;>cases mm<;>simp(disch:=first|omega|rfl|apply_rules[jaa,jab,jad]) only[go_sem,jag,eq_true hlt,hix,jba,eA,xA,c1,c2,c3,hs]<;>exact j0d hl d (i+1) (by omega) okA hfu hfm (fun hj x6 x9 o' n' g'=>hQ hj x6 x9 o' (by omega) (fun n hn=>(g' n (by omega)).trans (gA n hn)))
theorem qs2 {l:List Ms.Ins} {v:Nat} (hl:l.length<=1000) (hop:∀ x∈l,x.ops.length<=6) {fm fu:Bool} {Q:Ex->St->Prop} :
 ∀ (d i:Nat) (_:i+d=l.length) {hi:Hp} (_:Ok hi) {u mm:Bool} (_:(l.drop i).foldl (uIn v) u=fu) (_:(l.drop i).foldl (mIn v) mm=fm) {x6 x8 x9 x10 x11 x12 x14:AV}
  (hQ:∀ hj x6 x8 x9 x10 x11 x12 x14,Ok hj->hi.next<=hj.next->(∀ n,n<hi.next->hj.get n=hi.get n)->Q (.exit 4) (.mk [x0,x1,x2,x3,x4,vb fm,x6,vb fu,x8,x9,x10,x11,x12,.s (jah jc1 l),x14,vi l.length,vi l.length,x17,vi v,x19,x20,x21,x22,x23,x24,x25,x26,x27,x28,x29,x30,x31] hj)),
  W FL2 ju9.loop (.mk [x0,x1,x2,x3,x4,vb mm,x6,vb u,x8,x9,x10,x11,x12,.s (jah jc1 l),x14,vi l.length,vi i,x17,vi v,x19,x20,x21,x22,x23,x24,x25,x26,x27,x28,x29,x30,x31] hi) Q
 | 0,i,hd,hi,ok,u,mm,hfu,hfm,x6,x8,x9,x10,x11,x12,x14,hQ=>by
  obtain rfl:i=l.length:=by omega
  rw[f2c] at hfu hfm
  have hfu':u=fu:=hfu
  have hfm':mm=fm:=hfm
  subst hfu' hfm'
  rw[jal]
  unfold ju9
  simp(disch:=first|omega|rfl|apply_rules[jaa,jab,jad]) only[go_sem,f0z]
  exact hQ hi _ _ _ _ _ _ _ ok (f0g _) (fun _ _=>rfl)
 | d+1,i,hd,hi,ok,u,mm,hfu,hfm,x6,x8,x9,x10,x11,x12,x14,hQ=>by
  have hil:i<l.length:=by omega
  have hlt:(i:Int)<(l.length:Int):=by omega
  have hs:(i:Int)+1=((i+1:Nat):Int):=by omega
  obtain⟨x,hx⟩:∃ u,l[i]?=some u:=⟨_,f0a hil⟩
  have hox:=hop x (f0b hx)
  have hix:=jaj (enc:=jc1) (size:=3) hx rfl
  have lo:=jai (enc:=jba) (l:=x.ops)
  have hdr:l.drop i=x::l.drop (i+1):=by
   rw[f1e hil];congr 1;exact(f0q.1 hx).2
  rw[hdr,f1r] at hfu hfm
  obtain⟨hA,eA,okA,nA,xA,gA⟩:=jbo ok [.int .i64 0,.nilSlice,.nilSlice] (jc1 x) 46
  unfold jc1 at xA eA
  rw[jal]
  unfold ju9 qa3
  simp(disch:=first|omega|rfl|apply_rules[jaa,jab,jad]) only[go_sem,jag,eq_true hlt,hix,jc1,eA,xA,lo]
  refine j0d (l:=x.ops) (by omega) (fu:=uIn v u x) (fm:=mIn v mm x) x.ops.length 0 (by omega) okA rfl rfl (fun hj x6 x9 oj nj gj=>?_)
  simp(disch:=first|omega|rfl|apply_rules[jaa,jab,jad]) only[go_sem,jag,hs]
  exact qs2 hl hop d (i+1) (by omega) oj hfu hfm (fun hk x6 x8 x9 x10 x11 x12 x14 o' n' g'=>hQ hk x6 x8 x9 x10 x11 x12 x14 o' (by omega) (fun n hn=>(g' n (by omega)).trans ((gj n (by omega)).trans (gA n hn))))
theorem qs3 {bb:Nat} {b:Ms.Blk} {ins outs:List (List Nat)} (lv:LvOk f N) (hb:f.blocks[k]?=some b) (hli:ins.length=f.blocks.length) (hlo:outs.length=f.blocks.length) (fxb:FxB f.blocks ins outs k) {Q:Ex->St->Prop} :
 ∀ (d i:Nat) (_:i+d=f.values.length) {hi:Hp} (_:Ok hi) (_:bb<hi.next/\hi.get bb=some (.arr [jah jaq b.params,jah jc1 b.instrs,jah jee b.edges] 42)) (_:sx<hi.next/\hi.get sx=some (.arr [jah jc8 (jcz f.values.length ins),jah jc8 (jcz f.values.length outs)] 52)) {x4 x5 x6 x7 x8 x9 x10 x11 x12 x13 x14 x15 x16 x18 x20:AV}
  (hQ:∀ hj x4 x5 x6 x7 x8 x9 x10 x11 x12 x13 x14 x15 x16 x18 x20,Ok hj->hi.next<=hj.next->(∀ n,n<hi.next->hj.get n=hi.get n)->Q (.exit 2) (.mk [x0,x1,x2,x3,x4,x5,x6,x7,x8,x9,x10,x11,x12,x13,x14,x15,x16,.s (.ptr bb 0),x18,vi k,x20,vi f.values.length,vi f.values.length,x23,x24,x25,x26,x27,.s (.ptr sx 0),x29,x30,x31] hj)),
  W FL2 jva.loop (.mk [x0,x1,x2,x3,x4,x5,x6,x7,x8,x9,x10,x11,x12,x13,x14,x15,x16,.s (.ptr bb 0),x18,vi k,x20,vi f.values.length,vi i,x23,x24,x25,x26,x27,.s (.ptr sx 0),x29,x30,x31] hi) Q
 | 0,i,hd,hi,ok,hbb,hsx,x4,x5,x6,x7,x8,x9,x10,x11,x12,x13,x14,x15,x16,x18,x20,hQ=>by
  obtain rfl:i=f.values.length:=by omega
  rw[jal]
  unfold jva
  simp(disch:=first|omega|rfl|apply_rules[jaa,jab,jad]) only[go_sem,f0z]
  exact hQ hi _ _ _ _ _ _ _ _ _ _ _ _ _ _ _ ok (f0g _) (fun _ _=>rfl)
 | d+1,i,hd,hi,ok,⟨hb1,hb2⟩,⟨hs1,hs2⟩,x4,x5,x6,x7,x8,x9,x10,x11,x12,x13,x14,x15,x16,x18,x20,hQ=>by
  have hlt:(i:Int)<(f.values.length:Int):=by omega
  have hs:(i:Int)+1=((i+1:Nat):Int):=by omega
  have hkl:=(f0q.1 hb).1
  have hnv:=lv.nv
  obtain⟨p1,p2,p3,p4,p5,p6⟩:=lv.blk b (f0b hb)
  have hki:(jcz f.values.length ins)[k]?=some (jbh (ins.getD k []) f.values.length):=by
   unfold jcz
   rw[f09,f0a (by omega),f0d,f0a (by omega)];rfl
  have hko:(jcz f.values.length outs)[k]?=some (jbh (outs.getD k []) f.values.length):=by
   unfold jcz
   rw[f09,f0a (by omega),f0d,f0a (by omega)];rfl
  have hxi:=jaj (enc:=jc8) (size:=1) hki rfl
  have hxo:=jaj (enc:=jc8) (size:=1) hko rfl
  have hlen:∀ ws,(jbh ws f.values.length).length<=10000:=fun ws=>by
   have:=f29 (jci ws) (List.range f.values.length)
   unfold jbh
   rw[f3p] at this
   omega
  have li:=jai (enc:=jc1) (l:=b.instrs)
  have law:=qs1 (v:=i) (n:=f.values.length) fxb hb (by omega)
  obtain⟨A,eA⟩:∃ A,jmg (jbh (ins.getD k []) f.values.length) i=A:=⟨_,rfl⟩
  obtain⟨U,eU⟩:∃ U,jmg (jbh (outs.getD k []) f.values.length) i=U:=⟨_,rfl⟩
  obtain⟨M,eM⟩:∃ M,jmg b.params i=M:=⟨_,rfl⟩
  obtain⟨U',eU'⟩:∃ U',b.instrs.foldl (uIn i) U=U':=⟨_,rfl⟩
  obtain⟨M',eM'⟩:∃ M',b.instrs.foldl (mIn i) M=M':=⟨_,rfl⟩
  rw[eA,eU,eM,eU',eM'] at law
  rw[jal]
  unfold jva qa4
  simp(disch:=first|omega|rfl|apply_rules[jaa,jab,jad]) only[go_sem,jag,eq_true hlt,hs2,hb2,hxo,jc8,jls (hlen _),eU,jls (show b.params.length<=10000 by omega),eM,li]
  refine qs2 (l:=b.instrs) (v:=i) (by omega) (fun x hx=>(p5 x hx).1) b.instrs.length 0 (by omega) ok eU' eM' (fun hj x6 x8 x9 x10 x11 x12 x14 oj nj gj=>?_)
  have hs3:=(gj sx hs1).trans hs2
  have hb3:=(gj bb hb1).trans hb2
  cases A<;>cases U'<;>cases M'<;>first | (exfalso;revert law;decide) | skip
  all_goals
   simp(disch:=first|omega|rfl|apply_rules[jaa,jab,jad]) only[go_sem,jag,hs3,hxi,jc8,jls (hlen _),eA,hs,qbb,j3b]
   exact qs3 lv hb hli hlo fxb d (i+1) (by omega) oj ⟨by omega,hb3⟩ ⟨by omega,hs3⟩ (fun hk x4 x5 x6 x7 x8 x9 x10 x11 x12 x13 x14 x15 x16 x18 x20 o' n' g'=>hQ hk x4 x5 x6 x7 x8 x9 x10 x11 x12 x13 x14 x15 x16 x18 x20 o' (by omega) (fun n hn=>(g' n (by omega)).trans (gj n hn)))
theorem qd9 {g:FuncId} {h:Hp} (h1:SL2 g=false) (h2:Nat.beq g qwj.f=false) (h3:Nat.beq g qto.f=false) (h4:SLv g=false) {vs:List AV}:jcm FL2 g vs h=jcm F12 g vs h:=(jbi h1).trans ((jif h2).trans ((jif h3).trans (jbi h4)))
section
variable {h:Hp} {m:Nat×Nat} {Q:AV->Hp->Prop}
theorem jp4 (ha:In6 a) (hb:In6 b):WC FL2 9 [vi a,vi b] h Q=Q (.agg (qoj (jqe a b))) h:=jau ((qd9 rfl rfl rfl rfl).trans ((qsp rfl rfl rfl rfl rfl rfl rfl rfl rfl).trans (j4j ha hb)))
theorem j3d {l:List Pc} (m1:2<=m.1/\m.1<=10) (m2:2<=m.2/\m.2<=10) (pin:∀ q∈l,Pin q) (lx:LstE jb3 7 xl l):WC FL2 10 [.agg [si m.1,si m.2],.s xl] h Q=Q (.agg (qeq (jd2 m l))) h:=jau ((qd9 rfl rfl rfl rfl).trans ((qsp rfl rfl rfl rfl rfl rfl rfl rfl rfl).trans (qix m1 m2 pin lx)))
end
theorem qs4 {fx:Nat} {ins outs:List (List Nat)} (lv:LvOk f N) (hli:ins.length=f.blocks.length) (hlo:outs.length=f.blocks.length) (hfx:∀ q,q<f.blocks.length->FxB f.blocks ins outs q) {Q:Ex->St->Prop} :
 ∀ (d i:Nat) (_:i+d=f.blocks.length) {hi:Hp} (_:Ok hi) (_:fx<hi.next/\hi.get fx=some (.arr [jah jaq f.values,jah ja1 f.blocks] 30)) (_:sx<hi.next/\hi.get sx=some (.arr [jah jc8 (jcz f.values.length ins),jah jc8 (jcz f.values.length outs)] 52)) {x4 x5 x6 x7 x8 x9 x10 x11 x12 x13 x14 x15 x16 x17 x18 x19 x20 x21 x22 x24:AV}
  (hQ:∀ hj x4 x5 x6 x7 x8 x9 x10 x11 x12 x13 x14 x15 x16 x17 x18 x19 x20 x21 x22 x24,Q (.exit 0) (.mk [x0,x1,x2,x3,x4,x5,x6,x7,x8,x9,x10,x11,x12,x13,x14,x15,x16,x17,x18,x19,x20,x21,x22,.s (jah ja1 f.blocks),x24,vi f.blocks.length,vi f.blocks.length,x27,.s (.ptr sx 0),x29,.s (.ptr fx 0),x31] hj)),
  W FL2 jvb.loop (.mk [x0,x1,x2,x3,x4,x5,x6,x7,x8,x9,x10,x11,x12,x13,x14,x15,x16,x17,x18,x19,x20,x21,x22,.s (jah ja1 f.blocks),x24,vi f.blocks.length,vi i,x27,.s (.ptr sx 0),x29,.s (.ptr fx 0),x31] hi) Q
 | 0,i,hd,hi,ok,hff,hsx,x4,x5,x6,x7,x8,x9,x10,x11,x12,x13,x14,x15,x16,x17,x18,x19,x20,x21,x22,x24,hQ=>by
  obtain rfl:i=f.blocks.length:=by omega
  rw[jal]
  unfold jvb
  simp(disch:=first|omega|rfl|apply_rules[jaa,jab,jad]) only[go_sem,f0z]
  exact hQ ..
 | d+1,i,hd,hi,ok,⟨hf1,hf2⟩,⟨hs1,hs2⟩,x4,x5,x6,x7,x8,x9,x10,x11,x12,x13,x14,x15,x16,x17,x18,x19,x20,x21,x22,x24,hQ=>by
  have hlt:(i:Int)<(f.blocks.length:Int):=by omega
  have hs:(i:Int)+1=((i+1:Nat):Int):=by omega
  obtain⟨b,hb⟩:∃ u,f.blocks[i]?=some u:=⟨_,f0a (by omega)⟩
  have hnb:=lv.nb
  have hnv:=lv.nv
  have hix:=jaj (enc:=ja1) (size:=3) hb rfl
  have lvv:=jai (enc:=jaq) (l:=f.values)
  obtain⟨hA,eA,okA,nA,xA,gA⟩:=jbo ok [.nilSlice,.nilSlice,.nilSlice] (ja1 b) 42
  have hf3:=(gA _ hf1).trans hf2
  have hs3:=(gA _ hs1).trans hs2
  unfold ja1 at xA eA
  rw[jal]
  unfold jvb qa5
  simp(disch:=first|omega|rfl|apply_rules[jaa,jab,jad]) only[go_sem,jag,eq_true hlt,hix,ja1,eA,xA,hf3,lvv]
  refine qs3 lv hb hli hlo (hfx i (by omega)) f.values.length 0 (by omega) okA ⟨by omega,xA⟩ ⟨by omega,hs3⟩ (fun hj x4 x5 x6 x7 x8 x9 x10 x11 x12 x13 x14 x15 x16 x18 x20 oj nj gj=>?_)
  simp(disch:=first|omega|rfl|apply_rules[jaa,jab,jad]) only[go_sem,jag,hs]
  exact qs4 lv hli hlo hfx d (i+1) (by omega) oj ⟨by omega,(gj _ (by omega)).trans hf3⟩ ⟨by omega,(gj _ (by omega)).trans hs3⟩ hQ
theorem qoc {h:Hp} (ok:Ok h) {l:List Pc} (ha:In6 a) (hb:In6 b) (pin:∀ q∈l,Pin q) (lx:LstE jb3 7 xl l):WC FL2 5 [vi a,vi b,.s xl] h (fun v _=>v=.s (.bool true)):=by
 refine ja5 ((qd9 rfl rfl rfl rfl).trans (jqi rfl)) qwk rfl ?_
 unfold qgo
 obtain⟨m1,m2⟩:=j7r a b
 obtain⟨m,em⟩:∃ m,jqe a b=m:=⟨_,rfl⟩
 rw[em] at m1 m2
 obtain⟨s,o,_,_⟩:=qap m1 m2 l
 obtain⟨f,ef⟩:∃ f,jd2 m l=f:=⟨_,rfl⟩
 rw[ef] at o
 have hpos:=ok.pos
 have lv:=qob o.k o.hv
 have hnb:=lv.nb
 obtain⟨ins,outs,jj,hfx,hS⟩:=j3a o m1 m2
 obtain⟨hA,eA,okA,nA,xA,gA⟩:=jbo ok [.int .i64 0,.int .i64 0] [si m.1,si m.2] 25
 obtain⟨hB,eB,okB,nB,xB,gB⟩:=jbo okA [.nilSlice,.nilSlice] [jah jaq f.values,jah ja1 f.blocks] 30
 obtain⟨hC,eC,okC,nC,xC,gC⟩:=jbo okB [.nilSlice,.nilSlice] [jah jc8 (jcz f.values.length ins),jah jc8 (jcz f.values.length outs)] 52
 have yA:=(gB _ (by omega)).trans xA
 have zB:=(gC _ (by omega)).trans xB
 have nb2:hB.next=h.next+2:=by omega
 rw[nA] at eB xB zB
 rw[nb2] at eC xC
 have li:=jai (enc:=jc8) (l:=jcz f.values.length ins)
 have lb:=jai (enc:=ja1) (l:=f.blocks)
 have hil:(jcz f.values.length ins).length=f.blocks.length:=by unfold jcz;rw[f1d];exact jj.li
 have c1:(((jcz f.values.length ins).length:Int)≠(f.blocks.length:Int))=False:=eq_false (by omega)
 simp(disch:=first|omega|rfl|apply_rules[jaa,jab,jad]) only[go_sem,jp4 ha hb,em,qoj,eA,nA,xA,j3d m1 m2 pin lx,ef,qeq,eB,yA,xB,hS,qd5,nb2,eC,zB,xC,li,lb,c1]
 unfold qa6
 simp(disch:=first|omega|rfl|apply_rules[jaa,jab,jad]) only[go_sem,zB,lb]
 refine qs4 lv jj.li jj.lo hfx f.blocks.length 0 (by omega) okC ⟨by omega,zB⟩ ⟨by omega,xC⟩ (fun hj x4 x5 x6 x7 x8 x9 x10 x11 x12 x13 x14 x15 x16 x17 x18 x19 x20 x21 x22 x24=>?_)
 simp(disch:=first|omega|rfl|apply_rules[jaa,jab,jad]) only[go_sem]
end Go.Proofs.Ytehhjbfmjdlcjaa.Ev
