/- Code of functions as the interpreter has it prepared, cut at loops. -/
import Derived.Test.YtaljcpoopmedmaaUi
namespace Go.Proofs.Ytaljcpoopmedmaa.Ev
open Go Go.RowKit
set_option linter.all false
set_option maxRecDepth 100000
def j8u:IC:=(.region [(qP (.fld 1 (.g 6))),(qA (.load 1 false (.l 0))),(qP (.mv (.g 2))),(qP (.ixs 1 (.l 1) (.l 0))),(qA (.load 1 false (.l 0))),(qQ 2 (.mv (.l 0)))])
def jzq:IC:=(.seq (.block 1 (.seq (.seq (.region [(qP (.mv (.g 1))),(qP (.mv (.g 2))),(qQ 4 (.bin .eq (.l 1) (.l 0)))]) (.cond (.g 4) (.seq (.region [(qQ 3 (.mv (.c (.s (.bool true)))))]) .ret) .skip)) j8u)) (.region [(qP (.mv (.g 7))),(qP (.bin .add (.l 0) (qC 1))),(qQ 7 (.mv (.l 0)))]))
def jl7:IC:=(.seq (.seq (.region [(qP (.mv (.g 7))),(qP (.fld 1 (.g 6))),(qA (.load 1 false (.l 0))),(qP (.len (.l 0))),(qP (.bin .le (.l 3) (.l 0))),(qP (.mv (.l 0))),(qR 0 true (.mv (.g 2))),(qR 1 true (.bin .ge (.l 0) (qC 0))),(qQ 5 (.pick (.l 2) (.l 0) (.c (.s (.bool false)))))]) (.cond (.g 5) .skip (.exit 0))) jzq)
def qdi:IC:=(.seq (.region [(qB 6 (.box 53 (.g 0))),(qQ 3 (.mv (.c (.s (.bool false)))))]) (.seq (.seq (.region [(qQ 7 (.mv (qC 0)))]) (.block 0 (.loop jl7))) (.seq (.region [(qQ 3 (.mv (.c (.s (.bool false)))))]) .ret)))
theorem qrz:T 24=some (.mk qdi 3 5 [(.tmp 3)]):=by kernel_rfl
open Go Go.RowKit Go.Proofs.Ytaljcpoopmedmaa.Ms
attribute [local go_sem] Int.cast_ofNat_Int Int.natCast_zero Int.natCast_one decide_eq_true_eq decide_eq_false_iff_not Bool.false_eq_true and_true true_and List.cons_append List.nil_append reduceCtorEq decide_true decide_false Bool.not_true Bool.not_false Nat.add_zero Nat.zero_add Option.some.injEq Bool.true_eq_false not_true_eq_false not_false_eq_true Hp.next_push Hp.next_put Nat.add_assoc Int.reduceToNat Nat.reduceAdd Nat.reduceMul Nat.reduceEqDiff Int.reduceEq Int.reduceLT Int.reduceLE Int.reduceNeg Int.reduceAdd Int.reduceSub Int.reduceMul Int.reduceNe
attribute [local go_sem ↓] reduceIte
set_option maxHeartbeats 2000000
def dmF (idom:List Int) (a:Int):Nat->Int->Bool
 | 0,_=>false
 | k+1,b=>if b<0 then false else if a=b then true else dmF idom a k (idom.getD b.toNat 0)
theorem j16 {idom:List Int} {o d:SV} (hv:∀ c∈idom,c<idom.length) (hl:idom.length<=10000) {a:Int} {bT:Nat} {x0:AV} {Q:Ex->St->Prop} :
 ∀ (r:Nat) (n:Nat) (b:Int) (_:n+r=idom.length+1) (_:b<idom.length) {hi:Hp} (_:Ok hi) (_:hi.get bT=some (.arr [o,jah jfl idom,d] 53)) {x4 x5:AV}
  (_:dmF idom a r b=true->∀ b x4 x5 n,Q .ret (.mk [x0,vi a,b,vb true,x4,x5,.s (.ptr bT 0),n] hi))
  (_:dmF idom a r b=false->∀ b x4 x5 n,Q (.exit 0) (.mk [x0,vi a,b,vb false,x4,x5,.s (.ptr bT 0),n] hi)),
  W F12 jl7.loop (.mk [x0,vi a,vi b,vb false,x4,x5,.s (.ptr bT 0),vi n] hi) Q
 | 0,n,b,hn,hb,hi,ok,xT,x4,x5,h1,h2=>by
  have ll:=jal (enc:=jfl) (l:=idom)
  have c1:((n:Int)<=(idom.length:Int))=False:=eq_false (by omega)
  rw [jan]
  unfold jl7
  simp (disch:=first|omega|simp only[List.length]|apply_rules[jaa,jac,jad]) only [go_sem,xT,ll,c1]
  exact h2 rfl _ _ _ _
 | r+1,n,b,hn,hb,hi,ok,xT,x4,x5,h1,h2=>by
  have ll:=jal (enc:=jfl) (l:=idom)
  have c1:((n:Int)<=(idom.length:Int))=True:=eq_true (by omega)
  by_cases e0:b<0
  ·have c2:(0<=b)=False:=eq_false (by omega)
   rw [jan]
   unfold jl7
   simp (disch:=first|omega|simp only[List.length]|apply_rules[jaa,jac,jad]) only [go_sem,xT,ll,c1,c2]
   exact h2 (by unfold dmF;rw [if_pos e0]) _ _ _ _
  ·have c2:(0<=b)=True:=eq_true (by omega)
   by_cases e1:a=b
   ·have c3:(a=b)=True:=eq_true e1
    rw [jan]
    unfold jl7 jzq
    simp (disch:=first|omega|simp only[List.length]|apply_rules[jaa,jac,jad]) only [go_sem,xT,ll,c1,c2,c3]
    exact h1 (by unfold dmF;rw [if_neg e0,if_pos e1]) _ _ _ _
   ·have c3:(a=b)=False:=eq_false e1
    obtain ⟨m,rfl⟩:∃ m:Nat,b=(m:Int):=⟨b.toNat,by omega⟩
    have hm:m<idom.length:=by omega
    obtain ⟨c,hc⟩:∃ c,idom[m]?=some c:=⟨_,List.getElem?_eq_getElem hm⟩
    have ix:=jak (enc:=jfl) (size:=1) hc rfl
    have hs:(n:Int)+1=((n+1:Nat):Int):=by omega
    have hcl:=hv c (List.mem_of_getElem? hc)
    have ed:dmF idom a (r+1) (m:Int)=dmF idom a r c:=by
     show (if (m:Int)<0 then false else if a=(m:Int) then true else dmF idom a r (idom.getD (m:Int).toNat 0))=_
     rw [if_neg e0,if_neg e1,Int.toNat_natCast,List.getD_eq_getElem?_getD,hc];rfl
    rw [jan]
    unfold jl7 jzq
    simp (disch:=first|omega|simp only[List.length]|apply_rules[jaa,jac,jad]) only [go_sem,xT,ll,c1,c2,c3]
    unfold j8u
    simp (disch:=first|omega|simp only[List.length]|apply_rules[jaa,jac,jad]) only [go_sem,jag,xT,ix,jfl,hs]
    exact j16 hv hl r (n+1) c (by omega) hcl ok xT (fun h=>h1 (ed.trans h)) (fun h=>h2 (ed.trans h))
theorem qkq {h:Hp} (ok:Ok h) {idom:List Int} {o d:SV} (hv:∀ c∈idom,c<idom.length) (hl:idom.length<=10000) {a b:Int} (hb:b<idom.length):WC F12 24 [.agg [o,jah jfl idom,d],vi a,vi b] h (fun v h'=>∃ e,jhf true h' e v=some (vb (dmF idom a (idom.length+1) b))):=by
 refine jbg (qsj rfl rfl rfl rfl rfl rfl rfl rfl rfl rfl rfl rfl) qrz rfl ?_
 unfold qdi
 obtain ⟨hA,eA,okA,nA,xA,gA⟩:=jfk ok [o,jah jfl idom,d] 53
 simp (disch:=first|omega|simp only[List.length]|apply_rules[jaa,jac,jad]) only [go_sem,eA]
 refine j16 hv hl (idom.length+1) 0 b (by omega) hb okA xA (fun h b x4 x5 n=>?_) (fun h b x4 x5 n=>?_)
 ·simp (disch:=first|omega|simp only[List.length]|apply_rules[jaa,jac,jad]) only [go_sem]
  rw [h];exact ⟨1,rfl⟩
 ·simp (disch:=first|omega|simp only[List.length]|apply_rules[jaa,jac,jad]) only [go_sem]
  rw [h];exact ⟨1,rfl⟩
def S13 (f:FuncId):Bool:=Nat.beq f 24
noncomputable def F13:Fns:=PX S13 F12
theorem qr0 {A:Nat->Int}:Env Try.prog A tys F13:=jhd qry
theorem qts {f:FuncId} (h1:S1 f=false) (h2:Nat.beq f jfg.f=false) (h3:S3 f=false) (h4:S4 f=false) (h5:S5 f=false) (h6:S6 f=false) (h7:S7 f=false) (h8:S8 f=false) (h9:S9 f=false) (h10:S10 f=false) (h11:S11 f=false) (h12:S12 f=false) (h13:S13 f=false) {vs:List AV} {h:Hp}:jdy F13 f vs h=none:=(jbj h13).trans (qsj h1 h2 h3 h4 h5 h6 h7 h8 h9 h10 h11 h12)
theorem qbg {s:List Bool} (hs:s.length<=5):∀ c∈jbd s,c<(jbd s).length:=by
 have h:=jzp (P:=fun s=>(jbd s).all (fun c=>decide (c<(jbd s).length))) (by kernel_rfl) hs
 intro c hc
 exact of_decide_eq_true (List.all_eq_true.1 h c hc)
section
variable {h:Hp} {m:Nat×Nat} {f:Fc} {s:List Bool} {Q:AV->Hp->Prop}
theorem qkr (hs:s.length<=5) {a b:Int} (hb:b<(jbd s).length) {r:Bool} (hr:dmF (jbd s) a ((jbd s).length+1) b=r):jdy F13 24 [.agg [jah jaz (jp0 s 0),jah jfl (jbd s),jah jaz (j86 s)],vi a,vi b] h=some (vb r,h) :=
 jbh rfl (by simp only [jat,ja1,ja8,jcd,ja2,ja9,ja6,jbl,jba,jbi,if_true]) (by rw [←hr];exact qkq jem (qbg hs) (by rw [jkj];omega) hb)
theorem j17 (hs:s.length<=5) {a b:Int} (hb:b<(jbd s).length) {r:Bool} (hr:dmF (jbd s) a ((jbd s).length+1) b=r):WC F13 24 [.agg [jah jaz (jp0 s 0),jah jfl (jbd s),jah jaz (j86 s)],vi a,vi b] h Q=Q (vb r) h:=jau (qkr hs hb hr)
theorem qbh (o:FlOk m f s) (m1:2<=m.1/\m.1<=10) (m2:2<=m.2/\m.2<=10):WC F13 23 [.agg [jah jaz f.values,jah ja3 f.blocks],.agg [si m.1,si m.2]] h Q=Q (qbe s) h :=
 jau ((jbj rfl).trans (jbh rfl (by simp only [jat,ja1,ja8,jcd,ja2,ja9,ja6,jbl,jba,jbi,if_true]) (qkp jem o m1 m2)))
theorem jw8 {a b:Int} (ha:In6 a) (hb:In6 b):WC F13 17 [vi a,vi b] h Q=Q (.agg (qmm (jt2 a b))) h:=jau ((jbj rfl).trans ((qo1 rfl rfl rfl rfl rfl rfl rfl rfl rfl).trans (j3c ha hb)))
theorem j8v {l:List Pc} (m1:2<=m.1/\m.1<=10) (m2:2<=m.2/\m.2<=10) (pin:∀ q∈l,Pin q) {xl:SV} (lx:LstE jb4 7 xl l):WC F13 16 [.agg [si m.1,si m.2],.s xl] h Q=Q (.agg (ql9 (jfo m l))) h:=jau ((jbj rfl).trans ((qo1 rfl rfl rfl rfl rfl rfl rfl rfl rfl).trans (qfq m1 m2 pin lx)))
end
end Go.Proofs.Ytaljcpoopmedmaa.Ev
