/- Code of functions as the interpreter has it prepared, cut at loops. -/
import Derived.Test.YtokcdoklcbgigaaRh
namespace Go.Proofs.Ytokcdoklcbgigaa.Ev
open Go Go.RowKit
set_option linter.all false
set_option maxRecDepth 100000
def qbc:IC:=(.draw [((qA (.load 2 true (.g 31))),(.some [])),((qA (.load 2 true (.g 32))),(.some [0])),((qP (.mv (.g 3))),.none),((qP (.mv (.g 4))),.none),((qA (.call 12 [(.l 0),(qC 300)])),(.some [2,3])),((qP (.bin .add (qC 2) (.l 0))),.none),((qA (.call 13 [(.l 5),(.l 4),(.l 3),(.l 0)])),.none),((qP (.mv (.l 0))),.none),((qP (.ext 0 (.l 0))),.none),((qP (.ext 1 (.l 1))),.none),((qQ 29 (.mv (.l 1))),.none),((qQ 30 (.mv (.l 1))),.none)])
def qbd:IC:=(.block 3 (.seq (.region [(qP (.fld 1 (.g 31))),(qA (.load 1 false (.l 0))),(qP (.mv (.g 22))),(qP (.ixs 3 (.l 1) (.l 0))),(qP (.fld 2 (.l 0))),(qA (.load 1 false (.l 0))),(qP (.ixs 2 (.l 0) (qC 0))),(qP (.fld 0 (.l 0))),(qA (.load 1 false (.l 0))),(qQ 22 (.mv (.l 0)))]) (.region [(qQ 23 (.mv (qC 0)))])))
def jvk:IC:=(.seq (.seq (.region [(qP (.mv (.g 23))),(qP (.fld 1 (.g 31))),(qA (.load 1 false (.l 0))),(qP (.mv (.g 22))),(qP (.ixs 3 (.l 1) (.l 0))),(qP (.fld 1 (.l 0))),(qA (.load 1 false (.l 0))),(qP (.len (.l 0))),(qP (.bin .eq (.l 7) (.l 0))),(qP (.mv (.l 0))),(qR 0 true (.fld 1 (.g 31))),(qS 1 true (.load 1 false (.l 0))),(qR 2 true (.mv (.g 22))),(qR 3 true (.ixs 3 (.l 1) (.l 0))),(qR 4 true (.fld 2 (.l 0))),(qS 5 true (.load 1 false (.l 0))),(qR 6 true (.len (.l 0))),(qR 7 true (.bin .eq (.l 0) (qC 1))),(qQ 21 (.pick (.l 8) (.l 0) (.c (.s (.bool false)))))]) (.cond (.g 21) .skip (.exit 2))) qbd)
def qbe:IC:=(.seq (.block 5 (.seq (.region [(qP (.ixs 5 (.g 14) (.g 17))),(qA (.load 5 true (.l 0))),(qB 13 (.new 59 [(.int .i64 0),(.int .i64 0),(.bool false),(.int .i64 0),(.int .i64 0)])),(qA (.store 5 (.l 0) (.l 1)))]) (.seq (.region [(qP (.fld 0 (.g 13))),(qA (.load 1 false (.l 0))),(qQ 12 (.bin .eq (.l 0) (qC 1)))]) (.cond (.g 12) (.region [(qP (.mv (.g 11))),(qP (.bin .add (.l 0) (qC 1))),(qQ 11 (.mv (.l 0)))]) .skip)))) (.region [(qP (.bin .add (.g 17) (qC 1))),(qQ 17 (.mv (.l 0)))]))
def jvl:IC:=(.seq (.region [(qQ 15 (.bin .lt (.g 17) (.g 16)))]) (.seq (.cond (.g 15) .skip (.exit 4)) qbe))
def jvm:IC:=(.draw [((qP (.mv (.g 9))),.none),((qP (.not (.l 0))),.none),((qP (.mv (.l 0))),.none),((qR 0 true (.fld 3 (.g 20))),.none),((qS 1 true (.load 1 false (.l 0))),(.some [])),((qR 2 true (.bin .ne (.l 0) (qC (-1)))),.none),((qP (.pick (.l 3) (.l 0) (.c (.s (.bool false))))),.none),((qP (.mv (.l 0))),.none),((qR 0 false (.mv (.g 9))),.none),((qR 1 false (.mv (.l 0))),.none),((qR 0 true (.fld 3 (.g 20))),.none),((qS 1 true (.load 1 false (.l 0))),(.some [])),((qR 2 true (.fld 1 (.g 31))),.none),((qS 3 true (.load 1 false (.l 0))),(.some [1])),((qR 4 true (.mv (.g 22))),.none),((qR 5 true (.ixs 3 (.l 1) (.l 0))),.none),((qR 6 true (.fld 2 (.l 0))),.none),((qS 7 true (.load 1 false (.l 0))),(.some [5])),((qR 8 true (.len (.l 0))),.none),((qR 9 true (.bin .ge (.l 7) (.l 0))),.none),((qR 12 false (.pick (.l 10) (.l 0) (.c (.s (.bool false))))),.none),((qQ 8 (.pick (.l 13) (.c (.s (.bool true))) (.l 0))),.none)])
def qbf:IC:=(.draw [((qP (.fld 1 (.g 31))),.none),((qA (.load 1 false (.l 0))),(.some [])),((qP (.mv (.g 22))),.none),((qP (.ixs 3 (.l 1) (.l 0))),.none),((qP (.fld 2 (.l 0))),.none),((qA (.load 1 false (.l 0))),(.some [])),((qP (.fld 3 (.g 20))),.none),((qA (.load 1 false (.l 0))),(.some [1,5])),((qP (.ixs 2 (.l 2) (.l 0))),.none),((qP (.fld 0 (.l 0))),.none),((qA (.load 1 false (.l 0))),.none),((qQ 22 (.mv (.l 0))),.none)])
def qbg:IC:=(.seq qbf (.region [(qQ 23 (.mv (qC 0)))]))
def jvn:IC:=(.seq (.region [(qP (.mv (.g 9))),(qP (.mv (.l 0))),(qR 0 true (.fld 1 (.g 31))),(qS 1 true (.load 1 false (.l 0))),(qR 2 true (.mv (.g 22))),(qR 3 true (.ixs 3 (.l 1) (.l 0))),(qR 4 true (.fld 2 (.l 0))),(qS 5 true (.load 1 false (.l 0))),(qR 6 true (.len (.l 0))),(qR 7 true (.bin .gt (.l 0) (qC 0))),(qQ 7 (.pick (.l 8) (.l 0) (.c (.s (.bool false)))))]) (.cond (.g 7) (.seq (.seq (.region [(qP (.fld 3 (.g 20))),(qA (.load 1 false (.l 0))),(qQ 6 (.bin .lt (.l 0) (qC 0)))]) (.cond (.g 6) (.seq (.region [(qQ 5 (.mv (.c (.s (.bool false)))))]) .ret) .skip)) qbg) .skip))
def qbh:IC:=(.seq (.region [(qP (.mv (.g 23))),(qP (.bin .add (.l 0) (qC 1))),(qQ 23 (.mv (.l 0)))]) (.seq (.region [(qP (.mv (.g 23))),(qP (.fld 1 (.g 31))),(qA (.load 1 false (.l 0))),(qP (.mv (.g 22))),(qP (.ixs 3 (.l 1) (.l 0))),(qP (.fld 1 (.l 0))),(qA (.load 1 false (.l 0))),(qP (.len (.l 0))),(qP (.bin .eq (.l 7) (.l 0))),(qQ 9 (.mv (.l 0)))]) (.seq (.seq jvm (.cond (.g 8) (.seq (.region [(qQ 5 (.mv (.c (.s (.bool false)))))]) .ret) .skip)) jvn)))
def qbi:IC:=(.seq (.region [(qP (.fld 1 (.g 31))),(qA (.load 1 false (.l 0))),(qP (.mv (.g 22))),(qP (.ixs 3 (.l 1) (.l 0))),(qP (.fld 1 (.l 0))),(qA (.load 1 false (.l 0))),(qP (.mv (.g 23))),(qP (.ixs 3 (.l 1) (.l 0))),(qA (.load 3 true (.l 0))),(qB 18 (.new 57 [(.int .i64 0),.nilSlice,.nilSlice])),(qA (.store 3 (.l 0) (.l 1)))]) (.seq (.region [(qQ 11 (.mv (qC 0)))]) (.seq (.seq (.region [(qP (.fld 1 (.g 18))),(qB 14 (.load 1 false (.l 0))),(qQ 16 (.len (.l 0))),(qQ 17 (.mv (qC 0)))]) (.block 4 (.loop jvl))) (.seq (.seq (.region [(qP (.fld 2 (.g 20))),(qA (.load 1 false (.l 0))),(qP (.len (.l 0))),(qP (.mv (.g 11))),(qQ 10 (.bin .ne (.l 1) (.l 0)))]) (.cond (.g 10) (.seq (.region [(qQ 5 (.mv (.c (.s (.bool false)))))]) .ret) .skip)) qbh))))
def qbj:IC:=(.seq (.block 1 (.seq (.region [(qP (.ixs 4 (.g 24) (.g 27))),(qA (.load 4 true (.l 0))),(qB 20 (.new 51 [(.int .i64 0),(.int .i64 0),.nilSlice,(.int .i64 0)])),(qA (.store 4 (.l 0) (.l 1)))]) (.seq (.block 2 (.loop jvk)) (.seq (.seq (.region [(qP (.fld 0 (.g 20))),(qA (.load 1 false (.l 0))),(qP (.mv (.g 22))),(qP (.bin .ne (.l 1) (.l 0))),(qP (.mv (.l 0))),(qR 0 false (.fld 1 (.g 20))),(qS 1 false (.load 1 false (.l 0))),(qR 2 false (.mv (.g 23))),(qR 3 false (.bin .ne (.l 1) (.l 0))),(qQ 19 (.pick (.l 4) (.c (.s (.bool true))) (.l 0)))]) (.cond (.g 19) (.seq (.region [(qQ 5 (.mv (.c (.s (.bool false)))))]) .ret) .skip)) qbi)))) (.region [(qP (.bin .add (.g 27) (qC 1))),(qQ 27 (.mv (.l 0)))]))
def jvo:IC:=(.seq (.region [(qQ 25 (.bin .lt (.g 27) (.g 26)))]) (.seq (.cond (.g 25) .skip (.exit 0)) qbj))
def qbk:IC:=(.seq (.region [(qQ 22 (.mv (qC 0)))]) (.seq (.region [(qQ 23 (.mv (qC 0)))]) (.seq (.seq (.region [(qQ 24 (.mv (.g 29))),(qQ 26 (.len (.l 0))),(qQ 27 (.mv (qC 0)))]) (.block 0 (.loop jvo))) (.seq (.region [(qQ 5 (.mv (.c (.s (.bool true)))))]) .ret))))
def qgm:IC:=(.seq (.region [(qQ 5 (.mv (.c (.s (.bool false)))))]) (.seq (.region [(qP (.mv (.g 0))),(qP (.mv (.g 1))),(qA (.call 8 [(.l 1),(.l 0)])),(qB 32 (.new 30 [(.int .i64 0),(.int .i64 0)])),(qA (.store 2 (.l 0) (.l 1)))]) (.seq (.region [(qA (.load 2 true (.g 32))),(qP (.mv (.g 2))),(qA (.call 7 [(.l 1),(.l 0)])),(qB 31 (.new 26 [.nilSlice,.nilSlice])),(qA (.store 2 (.l 0) (.l 1)))]) (.seq qbc (.seq (.seq (.region [(qP (.mv (.g 30))),(qP (.bin .ne (.l 0) (qC 0))),(qP (.mv (.l 0))),(qR 0 false (.mv (.g 29))),(qR 1 false (.len (.l 0))),(qR 2 false (.bin .eq (.l 0) (qC 0))),(qQ 28 (.pick (.l 3) (.c (.s (.bool true))) (.l 0)))]) (.cond (.g 28) (.seq (.region [(qQ 5 (.mv (.c (.s (.bool false)))))]) .ret) .skip)) qbk)))))
theorem qtx:T 6=some (.mk qgm 5 28 [(.tmp 5)]):=by kernel_rfl
open Go Go.RowKit Go.Proofs.Ytokcdoklcbgigaa.Ms
variable {x0 x1 x2 x3 x4 x5 x6 x7 x8 x9 x10 x18 x19 x20 x24 x25 x26 x27 x28 x29 x30 x32:AV}
attribute [local go_sem] f0j f0o f0q decide_eq_true_eq decide_eq_false_iff_not f0e and_true true_and f0n f0m reduceCtorEq decide_true decide_false f0z f0u f0s f0i Option.some.injEq f0k not_true_eq_false not_false_eq_true Hp.next_push Hp.next_put f0t Int.reduceToNat Nat.reduceAdd Nat.reduceMul Nat.reduceEqDiff Int.reduceEq Int.reduceLT Int.reduceLE Int.reduceNeg Int.reduceAdd Int.reduceSub Int.reduceMul Int.reduceNe
attribute [local go_sem ↓] reduceIte
set_option maxHeartbeats 8000000
def jvp (l:List Ms.Opd):Nat:=l.foldl (fun n o=>if o.kind=1 then n+1 else n) 0
theorem jx9 {l:List Ms.Opd} {o:Ms.Opd}:jvp (l++[o])=if o.kind=1 then jvp l+1 else jvp l:=by unfold jvp;rw [List.foldl_append];rfl
theorem qm6 (l:List Ms.Opd):jvp l<=l.length:=by
 have:∀ (l:List Ms.Opd) (n:Nat),l.foldl (fun n o=>if o.kind=1 then n+1 else n) n<=n+l.length:=by
  intro l
  induction l with
  | nil=>intro n;simp
  | cons a l ih =>
   intro n
   have h1:=ih (if a.kind=1 then n+1 else n)
   have h2:(if a.kind=1 then n+1 else n)<=n+1:=by split<;>omega
   simp only [f15,f1n]
   omega
 have:=this l 0
 unfold jvp
 omega
theorem qbl (vs:List Int) (l:List Ms.Opd):(j0v l vs).length=jvp l:=by
 have:∀ (l:List Ms.Opd) (r:List Int),(l.foldl (rdF vs) r).length=l.foldl (fun n o=>if o.kind=1 then n+1 else n) r.length:=by
  intro l
  induction l with
  | nil=>intro r;rfl
  | cons a l ih =>
   intro r
   simp only [f15]
   rw [ih]
   unfold rdF
   split
   ·simp
   ·rfl
 exact this l []
section
variable {f:Fc} {seed:Int} {bf:Nat}
theorem qm7 {ops:List Ms.Opd} (hl:ops.length<=1000) {x21 x22 x23 x31:AV} {Q:Ex->St->Prop} :
 ∀ (d i:Nat) (_:i+d=ops.length) {hi:Hp} (_:Ok hi) {x12 x13 x15:AV}
  (hQ:∀ hj x12 x13 x15,Ok hj->hi.next<=hj.next->(∀ n,n<hi.next->hj.get n=hi.get n)->Q (.exit 4) (.mk [x0,x1,x2,x3,x4,x5,x6,x7,x8,x9,x10,vi (jvp ops),x12,x13,.s (jah jbd ops),x15,vi ops.length,vi ops.length,x18,x19,x20,x21,x22,x23,x24,x25,x26,x27,x28,x29,x30,x31,x32] hj)),
  W F17 jvl.loop (.mk [x0,x1,x2,x3,x4,x5,x6,x7,x8,x9,x10,vi (jvp (ops.take i)),x12,x13,.s (jah jbd ops),x15,vi ops.length,vi i,x18,x19,x20,x21,x22,x23,x24,x25,x26,x27,x28,x29,x30,x31,x32] hi) Q
 | 0,i,hd,hi,ok,x12,x13,x15,hQ=>by
  obtain rfl:i=ops.length:=by omega
  rw [jam,f19]
  unfold jvl
  simp (disch:=first|omega|rfl|apply_rules[jaa,jab,jad]) only [go_sem,f05]
  exact hQ hi _ _ _ ok (f0f _) (fun _ _=>rfl)
 | d+1,i,hd,hi,ok,x12,x13,x15,hQ=>by
  have hlt:(i:Int)<(ops.length:Int):=by omega
  have hs:(i:Int)+1=((i+1:Nat):Int):=by omega
  obtain ⟨o,hio⟩:∃ o,ops[i]?=some o:=⟨_,f0b (by omega)⟩
  have hix:=jaj (enc:=jbd) (size:=5) hio rfl
  have ht:ops.take (i+1)=ops.take i++[o]:=by rw [List.take_add_one,hio];rfl
  have hul:=qm6 (ops.take i)
  have htl:(ops.take i).length<=1000:=by rw [f1y];omega
  obtain ⟨hA,eA,okA,nA,xA,gA⟩:=jcq ok [.int .i64 0,.int .i64 0,.bool false,.int .i64 0,.int .i64 0] (jbd o) 59
  unfold jbd at xA eA
  rw [jam]
  unfold jvl qbe
  by_cases e:o.kind=1
  ·have c1:((o.kind:Int)=1)=True:=eq_true (by omega)
   have hu:jvp (ops.take (i+1))=jvp (ops.take i)+1:=by rw [ht,jx9,if_pos e]
   have hs2:(jvp (ops.take i):Int)+1=((jvp (ops.take (i+1)):Nat):Int):=by rw [hu];omega
   simp (disch:=first|omega|rfl|apply_rules[jaa,jab,jad]) only [go_sem,jag,eq_true hlt,hix,jbd,eA,xA,c1,hs,hs2]
   exact qm7 hl d (i+1) (by omega) okA (fun hj x12 x13 x15 o' n' g'=>hQ hj x12 x13 x15 o' (by omega) (fun n hn=>(g' n (by omega)).trans (gA n hn)))
  ·have c1:((o.kind:Int)=1)=False:=eq_false (by omega)
   have hu:jvp (ops.take (i+1))=jvp (ops.take i):=by rw [ht,jx9,if_neg e]
   simp (disch:=first|omega|rfl|apply_rules[jaa,jab,jad]) only [go_sem,jag,eq_true hlt,hix,jbd,eA,xA,c1,hs]
   rw [←hu]
   exact qm7 hl d (i+1) (by omega) okA (fun hj x12 x13 x15 o' n' g'=>hQ hj x12 x13 x15 o' (by omega) (fun n hn=>(g' n (by omega)).trans (gA n hn)))
def qty (f:Fc) (k i:Nat) (e:Int) (K A:Nat):Prop :=
 (K=k/\A=i/\(i=(f.blocks.getD k jdf).instrs.length->i=0∨(f.blocks.getD k jdf).edges=[]))∨(i=(f.blocks.getD k jdf).instrs.length/\∃ d,(f.blocks.getD k jdf).edges[e.toNat]?=some d/\K=d.block/\A=0)
theorem qm8 (rn:RnOk f) {h:Hp} (ok:Ok h) (xf:h.get bf=some (.arr [jah ja1 f.values,jah ja0 f.blocks] 26)) {v:Evt} {rest:List Evt} {x11 x12 x13 x14 x15 x16 x17:AV} {Q:Ex->St->Prop}
 (hQ:∀ (n k i:Nat) (vs:List Int) (e:Int) x21,k<f.blocks.length->i<(f.blocks.getD k jdf).instrs.length->GoOk f k i vs e->goS f seed (n+1) k i vs e=v::rest->Q (.exit 2) (.mk [x0,x1,x2,x3,x4,x5,x6,x7,x8,x9,x10,x11,x12,x13,x14,x15,x16,x17,x18,x19,x20,x21,vi k,vi i,x24,x25,x26,x27,x28,x29,x30,.s (.ptr bf 0),x32] h)) :
 ∀ (n k i:Nat) (vs:List Int) (e:Int) (K A:Nat) (_:GoOk f k i vs e) (_:goS f seed n k i vs e=v::rest) (_:qty f k i e K A) {x21:AV},
  W F17 jvk.loop (.mk [x0,x1,x2,x3,x4,x5,x6,x7,x8,x9,x10,x11,x12,x13,x14,x15,x16,x17,x18,x19,x20,x21,vi K,vi A,x24,x25,x26,x27,x28,x29,x30,.s (.ptr bf 0),x32] h) Q
 | 0,k,i,vs,e,K,A,g,hg,lw,x21=>by simp [goS] at hg
 | n+1,k,i,vs,e,K,A,g,hg,lw,x21=>by
  obtain ⟨b,hb⟩:∃ b,f.blocks[k]?=some b:=⟨_,f0b g.kb⟩
  have mb:=f0c hb
  have hdb:f.blocks.getD k jdf=b:=by rw [f0d,hb];rfl
  have hbl:=rn.blk b mb
  have hib:=g.ib
  rw [hdb] at hib
  have hixb:=jaj (enc:=ja0) (size:=3) hb rfl
  have li:=jai (enc:=jc7) (l:=b.instrs)
  have le:=jai (enc:=jfb) (l:=b.edges)
  by_cases hil:i<b.instrs.length
  ·have hKA:K=k/\A=i:=by
    rcases lw with ⟨h1,h2,_⟩ | ⟨h1,_⟩
    ·exact ⟨h1,h2⟩
    ·rw [hdb] at h1;omega
   obtain ⟨rfl,rfl⟩:=hKA
   have c1:((A:Int)=(b.instrs.length:Int))=False:=eq_false (by omega)
   rw [jam]
   unfold jvk
   simp (disch:=first|omega|rfl|apply_rules[jaa,jab,jad]) only [go_sem,xf,hixb,ja0,li,c1]
   exact hQ n K A vs e _ g.kb (by rw [hdb];exact hil) g hg
  ·have hie:i=b.instrs.length:=by omega
   have hd:∃ d,b.edges[e.toNat]?=some d:=by
    cases he:b.edges[e.toNat]? with
    | some d=>exact ⟨d,rfl⟩
    | none =>
     rw [hie,qaw hb he] at hg
     cases hg
   obtain ⟨d,hd⟩:=hd
   have gj:=g.jump rn (d:=d) (by rw [hdb];exact hd)
   have hg':goS f seed n d.block 0 (qbq f d vs) 0=v::rest:=by
    have h1:goS f seed (n+1) k i vs e=qax f seed (n+1) d.block (qbq f d vs):=by rw [hie];exact j3y hb hd
    rw [h1] at hg
    exact hg
   have lw2:qty f d.block 0 0 d.block 0:=.inl ⟨rfl,rfl,fun _=>.inl rfl⟩
   rcases lw with ⟨rfl,rfl,h3⟩ | ⟨h1,d',h2,rfl,rfl⟩
   ·rw [hdb] at h3
    have hne:b.edges≠[]:=fun e'=>by rw [e'] at hd;simp at hd
    have hi0:A=0:=(h3 hie).resolve_right hne
    have hz:b.instrs=[]:=f1q (by omega)
    have he1:b.edges.length=1:=by
     have h4:=rn.par b mb
     have h5:=f1g.2 hne
     rcases f0l 1 b.edges.length with h6 | h6
     ·exact absurd hz (h4 h6)
     ·omega
    have hq:e.toNat=0:=by have:=(f07.1 hd).1;omega
    rw [hq] at hd
    have hix0:=jaj (enc:=jfb) (size:=2) hd rfl
    have e0:((0:Nat):Int)=0:=rfl
    rw [e0] at hix0
    have c1:((A:Int)=(b.instrs.length:Int))=True:=eq_true (by omega)
    have c2:((b.edges.length:Int)=1)=True:=eq_true (by omega)
    rw [jam]
    unfold jvk qbd
    simp (disch:=first|omega|rfl|apply_rules[jaa,jab,jad]) only [go_sem,xf,hixb,ja0,li,le,c1,c2,hix0,jfb]
    exact qm8 rn ok xf hQ n d.block 0 _ 0 d.block 0 gj hg' lw2
   ·rw [hdb] at h2
    rw [hd] at h2
    cases h2
    exact qm8 rn ok xf hQ n d.block 0 _ 0 d.block 0 gj hg' lw2
theorem qd8 (rn:RnOk f) {L:List Evt} (hL:L.length<=100000) {Q:Ex->St->Prop}
 (hQ:∀ hj x6 x7 x8 x9 x10 x11 x12 x13 x14 x15 x16 x17 x18 x19 x20 x21 x22 x23 x25,Q (.exit 0) (.mk [x0,x1,x2,x3,x4,x5,x6,x7,x8,x9,x10,x11,x12,x13,x14,x15,x16,x17,x18,x19,x20,x21,x22,x23,.s (jah jeh L),x25,vi L.length,vi L.length,x28,x29,x30,.s (.ptr bf 0),x32] hj)) :
 ∀ (d j:Nat) (_:j+d=L.length) (n k i:Nat) (vs:List Int) (e:Int) (K A:Nat) (_:GoOk f k i vs e) (_:goS f seed n k i vs e=L.drop j) (_:qty f k i e K A) {hi:Hp} (_:Ok hi) (_:bf<hi.next) (_:hi.get bf=some (.arr [jah ja1 f.values,jah ja0 f.blocks] 26)) {x6 x7 x8 x9 x10 x11 x12 x13 x14 x15 x16 x17 x18 x19 x20 x21 x25:AV},
  W F17 jvo.loop (.mk [x0,x1,x2,x3,x4,x5,x6,x7,x8,x9,x10,x11,x12,x13,x14,x15,x16,x17,x18,x19,x20,x21,vi K,vi A,.s (jah jeh L),x25,vi L.length,vi j,x28,x29,x30,.s (.ptr bf 0),x32] hi) Q
 | 0,j,hd,n,k,i,vs,e,K,A,g,hg,lw,hi,ok,hbf,xf,x6,x7,x8,x9,x10,x11,x12,x13,x14,x15,x16,x17,x18,x19,x20,x21,x25=>by
  obtain rfl:j=L.length:=by omega
  rw [jam]
  unfold jvo
  simp (disch:=first|omega|rfl|apply_rules[jaa,jab,jad]) only [go_sem,f05]
  exact hQ ..
 | d+1,j,hd,n,k,i,vs,e,K,A,g,hg,lw,hi,ok,hbf,xf,x6,x7,x8,x9,x10,x11,x12,x13,x14,x15,x16,x17,x18,x19,x20,x21,x25=>by
  have hjl:j<L.length:=by omega
  have hlt:(j:Int)<(L.length:Int):=by omega
  have hs:(j:Int)+1=((j+1:Nat):Int):=by omega
  obtain ⟨v,hv⟩:∃ v,L[j]?=some v:=⟨_,f0b hjl⟩
  have hdr:L.drop j=v::L.drop (j+1):=by
   rw [f1p hjl];congr 1;exact (f07.1 hv).2
  rw [hdr] at hg
  have hix:=jaj (enc:=jeh) (size:=4) hv rfl
  obtain ⟨hA,eA,okA,nA,xA,gA⟩:=jcq ok [.int .i64 0,.int .i64 0,.nilSlice,.int .i64 0] (jeh v) 51
  have xfA:=(gA bf hbf).trans xf
  unfold jeh at xA eA
  rw [jam]
  unfold jvo qbj
  simp (disch:=first|omega|rfl|apply_rules[jaa,jab,jad]) only [go_sem,jag,eq_true hlt,hix,jeh,eA,xA]
  refine qm8 rn okA xfA (fun n' k' i' vs' e' x21 hk' hi' g' hg'=>?_) n k i vs e K A g hg lw
  obtain ⟨b,hb⟩:∃ b,f.blocks[k']?=some b:=⟨_,f0b hk'⟩
  have mb:=f0c hb
  have hdb:f.blocks.getD k' jdf=b:=by rw [f0d,hb];rfl
  rw [hdb] at hi'
  obtain ⟨x,hx⟩:∃ x,b.instrs[i']?=some x:=⟨_,f0b hi'⟩
  have mx:=f0c hx
  obtain ⟨ho1,ho2,ho3⟩:=rn.ops b mb x mx
  have hbl:=rn.blk b mb
  rw [j3x hb hx] at hg'
  obtain ⟨hvE,hrest⟩:=List.cons.inj hg'
  have gn:=g'.next (seed:=seed) (x:=x) (by rw [hdb];exact hx)
  rw [hdb] at gn
  have hvb:v.block=k':=by rw [←hvE];rfl
  have hva:v.at_=i':=by rw [←hvE];rfl
  have hvr:v.read.length=jvp x.ops:=by rw [←hvE];exact qbl vs' x.ops
  have hve:v.edge=jds seed b i' x (j0v x.ops vs'):=by rw [←hvE];rfl
  have hve2:(jjp seed k' b i' x vs').1.edge=v.edge:=by rw [hvE]
  rw [hve2] at gn hrest
  have hixb:=jaj (enc:=ja0) (size:=3) hb rfl
  have hixx:=jaj (enc:=jc7) (size:=3) hx rfl
  have li:=jai (enc:=jc7) (l:=b.instrs)
  have le:=jai (enc:=jfb) (l:=b.edges)
  have lo1:=jai (enc:=jbd) (l:=x.ops)
  have lR:jwr (.s (jah jby v.read))=some (vi (jvp x.ops)):=by rw [jai,hvr]
  have c0:((v.block:Int)≠(k':Int))=False:=eq_false (by omega)
  have c1:((v.at_:Int)≠(i':Int))=False:=eq_false (by omega)
  have cu:((jvp x.ops:Int)≠(jvp x.ops:Int))=False:=eq_false (by omega)
  obtain ⟨hB,eB,okB,nB,xB,gB⟩:=jcq okA [.int .i64 0,.nilSlice,.nilSlice] (jc7 x) 57
  unfold jc7 at xB eB
  simp (disch:=first|omega|rfl|apply_rules[jaa,jab,jad]) only [go_sem,jag,xA,c0,c1]
  unfold qbi
  simp (disch:=first|omega|rfl|apply_rules[jaa,jab,jad]) only [go_sem,jag,xfA,hixb,ja0,hixx,jc7,eB,xB,lo1]
  refine qm7 (ops:=x.ops) (by omega) x.ops.length 0 (by omega) okB (fun hC x12 x13 x15 okC nC gC=>?_)
  have xAC:=(gC _ (by omega)).trans ((gB _ (by omega)).trans xA)
  have xfC:=(gC bf (by omega)).trans ((gB bf (by omega)).trans xfA)
  have hs2:(i':Int)+1=((i'+1:Nat):Int):=by omega
  simp (disch:=first|omega|rfl|apply_rules[jaa,jab,jad]) only [go_sem,jag,xAC,lR,cu]
  unfold qbh
  by_cases hlast:i'+1=b.instrs.length
  ·have c2:(((i'+1:Nat):Int)=(b.instrs.length:Int))=True:=eq_true (by omega)
   by_cases hed:b.edges=[]
   ·have he0:v.edge=-1:=by rw [hve];unfold jds;rw [if_neg (by omega),if_pos (by rw [hed];rfl)]
    have c3:((b.edges.length:Int)<=-1)=False:=eq_false (by omega)
    have c4:(0<(b.edges.length:Int))=False:=eq_false (by rw [hed];simp)
    rw [he0] at xAC
    simp (disch:=first|omega|rfl|apply_rules[jaa,jab,jad]) only [go_sem,jag,hs2,xfC,hixb,ja0,li,c2]
    unfold jvm
    simp (disch:=first|omega|rfl|apply_rules[jaa,jab,jad]) only [go_sem,jag,xfC,xAC,hixb,ja0,le,c3]
    unfold jvn
    simp (disch:=first|omega|rfl|apply_rules[jaa,jab,jad]) only [go_sem,jag,xfC,xAC,hixb,ja0,le,c4,hs]
    exact qd8 rn hL hQ d (j+1) (by omega) n' k' (i'+1) _ v.edge k' (i'+1) gn hrest (.inl ⟨rfl,rfl,fun _=>.inr (by rw [hdb];exact hed)⟩) okC (by omega) xfC
   ·have hin:=j3t (seed:=seed) (x:=x) (rd:=j0v x.ops vs') hlast hed
    rw [←hve] at hin
    obtain ⟨q,hq⟩:=Int.eq_ofNat_of_zero_le hin.1
    have hql:q<b.edges.length:=by omega
    obtain ⟨dd,hdd⟩:∃ d,b.edges[q]?=some d:=⟨_,f0b hql⟩
    have hixe:=jaj (enc:=jfb) (size:=2) hdd rfl
    have c3:((b.edges.length:Int)<=(q:Int))=False:=eq_false (by omega)
    have c4:(0<(b.edges.length:Int))=True:=eq_true (by omega)
    have c5:((q:Int)<0)=False:=eq_false (by omega)
    rw [hq] at xAC
    simp (disch:=first|omega|rfl|apply_rules[jaa,jab,jad]) only [go_sem,jag,hs2,xfC,hixb,ja0,li,c2]
    unfold jvm
    simp (disch:=first|omega|rfl|apply_rules[jaa,jab,jad]) only [go_sem,jag,xfC,xAC,hixb,ja0,le,c3]
    unfold jvn
    simp (disch:=first|omega|rfl|apply_rules[jaa,jab,jad]) only [go_sem,jag,xfC,xAC,hixb,ja0,le,c4,c5]
    unfold qbg qbf
    simp (disch:=first|omega|rfl|apply_rules[jaa,jab,jad]) only [go_sem,jag,xfC,xAC,hixb,ja0,hixe,jfb,hs]
    exact qd8 rn hL hQ d (j+1) (by omega) n' k' (i'+1) _ v.edge dd.block 0 gn hrest (.inr ⟨by rw [hdb];exact hlast,dd,by rw [hdb,hq];exact hdd,rfl,rfl⟩) okC (by omega) xfC
  ·have c2:(((i'+1:Nat):Int)=(b.instrs.length:Int))=False:=eq_false (by omega)
   have he0:v.edge=-1:=by rw [hve];unfold jds;rw [if_pos hlast]
   rw [he0] at xAC
   simp (disch:=first|omega|rfl|apply_rules[jaa,jab,jad]) only [go_sem,jag,hs2,xfC,hixb,ja0,li,c2]
   unfold jvm
   simp (disch:=first|omega|rfl|apply_rules[jaa,jab,jad]) only [go_sem,jag,xfC,xAC,hixb,ja0,le,ne_eq]
   unfold jvn
   simp (disch:=first|omega|rfl|apply_rules[jaa,jab,jad]) only [go_sem,jag,xfC,xAC,hixb,ja0,le,hs]
   exact qd8 rn hL hQ d (j+1) (by omega) n' k' (i'+1) _ v.edge k' (i'+1) gn hrest (.inl ⟨rfl,rfl,fun h=>absurd h (by rw [hdb];exact hlast)⟩) okC (by omega) xfC
end
section
variable {h:Hp} {Q:AV->Hp->Prop}
theorem qq3 {g:FuncId} (h4:S4 g=false) (h5:S5 g=false) (h6:S6 g=false) (h7:S7 g=false) (h8:S8 g=false) (h9:S9 g=false) (h10:S10 g=false) (h11:S11 g=false) {vs:List AV}:jc6 F11 g vs h=jc6 F3 g vs h :=
 (ja4 h11).trans ((qgb h9 h10).trans ((ja4 h8).trans (qrb h4 h5 h6 h7)))
theorem qbm {n:Int} (hn:In6 n) {m:Nat} (hm:0<m/\m<=1000000):WC F17 12 [vi n,vi m] h Q=Q (vi (pk n m)) h:=by
 refine jaq ((j5c rfl rfl rfl).trans ((qq3 rfl rfl rfl rfl rfl rfl rfl rfl).trans ((ja4 rfl).trans (jhr.pk _ h))) |>.trans ?_)
 rw [jpx hn.1 hn.2 (by omega) (by omega),jbn (by omega)]
end
theorem qbn {f:Fc} (seed:Int) (n:Nat) (h0:H0 f.blocks):jqt f seed (n+2)≠[]:=by
 obtain ⟨b,h1,h2⟩:=h0
 obtain ⟨x,hx⟩:∃ x,b.instrs[0]?=some x:=⟨_,f0b (f1g.2 h2)⟩
 show goS f seed (n+1) 0 0 _ 0≠[]
 rw [j3x h1 hx]
 simp
theorem qd9 {h:Hp} (ok:Ok h) {a b sd st:Int} {l:List Pc} (ha:In6 a) (hb:In6 b) (hsd:In6 sd) (hst:In6 st) (pin:∀ q∈l,Pin q) {xl:SV} (lx:LstE jb7 7 xl l):WC F17 6 [vi a,vi b,.s xl,vi sd,vi st] h (fun v _=>v=.s (.bool true)):=by
 refine jba (qri rfl rfl rfl rfl rfl rfl rfl rfl rfl rfl rfl rfl rfl rfl) qtx rfl ?_
 unfold qgm
 obtain ⟨m1,m2⟩:=j8j a b
 obtain ⟨m,em⟩:∃ m,jp9 a b=m:=⟨_,rfl⟩
 rw [em] at m1 m2
 obtain ⟨s,o,_,_⟩:=qai m1 m2 l
 have hent:=jsf m l
 obtain ⟨f,ef⟩:∃ f,jer m l=f:=⟨_,rfl⟩
 rw [ef] at o hent
 have hpos:=ok.pos
 have rn:=qmw o.k
 obtain ⟨P,eP⟩:∃ P,pk st 300=P:=⟨_,rfl⟩
 have hP:P<300:=by have:=jfc (n:=st) (m:=300) (by omega);omega
 obtain ⟨hA,eA,okA,nA,xA,gA⟩:=jcq ok [.int .i64 0,.int .i64 0] [si m.1,si m.2] 30
 obtain ⟨hB,eB,okB,nB,xB,gB⟩:=jcq okA [.nilSlice,.nilSlice] [jah ja1 f.values,jah ja0 f.blocks] 26
 have yA:=(gB _ (by omega)).trans xA
 rw [nA] at eB xB
 have p1:∀ {h:Hp} {Q:AV->Hp->Prop},WC F17 12 [vi st,vi 300] h Q=Q (vi P) h:=fun {h Q}=>by rw [←eP];exact qbm (m:=300) hst (by omega)
 have s1:(2:Int)+(P:Int)=((P+2:Nat):Int):=by omega
 have q1:∀ {h:Hp} {Q:AV->Hp->Prop},WC F17 13 [.agg [jah ja1 f.values,jah ja0 f.blocks],.agg [si m.1,si m.2],vi sd,vi ((P+2:Nat):Int)] h Q=Q (j5h (jqt f sd (P+2))) h:=fun {h Q}=>qd4 o m1 m2 hsd (by omega)
 have hne:=qbn sd P hent
 have hlx:=j3z f sd (P+2)
 have hgo:goS f sd (P+1) 0 0 (List.replicate f.values.length 0) 0=jqt f sd (P+2):=rfl
 obtain ⟨X,eX⟩:∃ X,jqt f sd (P+2)=X:=⟨_,rfl⟩
 rw [eX] at hne hlx hgo q1
 have hxpos:=f1g.2 hne
 have lX:=jai (enc:=jeh) (l:=X)
 have c1:((X.length:Int)=0)=False:=eq_false (by omega)
 simp (disch:=first|omega|rfl|apply_rules[jaa,jab,jad]) only [go_sem,jag,jx6 ha hb,em,qir,eA,nA,xA,qa2 m1 m2 pin lx,ef,qcu,eB,yA,xB]
 unfold qbc
 simp (disch:=first|omega|rfl|apply_rules[jaa,jab,jad]) only [go_sem,jag,yA,xB,p1,s1,q1,j5h,lX,c1,ne_eq]
 unfold qbk
 simp (disch:=first|omega|rfl|apply_rules[jaa,jab,jad]) only [go_sem,lX]
 refine qd8 rn (L:=X) (by omega) (fun hj x6 x7 x8 x9 x10 x11 x12 x13 x14 x15 x16 x17 x18 x19 x20 x21 x22 x23 x25=>?_) X.length 0 (by omega) (P+1) 0 0 (List.replicate f.values.length 0) 0 0 0 (rn.start o.hne) hgo (.inl ⟨rfl,rfl,fun _=>.inl rfl⟩) okB (by omega) xB
 simp (disch:=first|omega|rfl|apply_rules[jaa,jab,jad]) only [go_sem]
end Go.Proofs.Ytokcdoklcbgigaa.Ev
