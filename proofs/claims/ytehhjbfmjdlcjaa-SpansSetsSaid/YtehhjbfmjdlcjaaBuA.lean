/- Code of functions as the interpreter has it prepared, cut at loops. -/
import Derived.Test.YtehhjbfmjdlcjaaBt
namespace Go.Proofs.Ytehhjbfmjdlcjaa.Ev
open Go Go.RowKit
set_option linter.all false
set_option maxRecDepth 100000
def qc0:IC:=.draw [(qM 18,.none),(qM 8,.none),(qP (.ixs 1 qb qa),.none),(qL,.some []),(qM 17,.none),(qM 7,.none),(qP (.ixs 1 qb qa),.none),(qL,.some [3]),(qA (.call 17 [.l 4,qa]),.some []),(qF 0 6,.none),(qL,.some [1,2,6]),(qM 7,.none),(qP (.ixs 1 qb qa),.none),(qL,.some [4,5,9]),(qM 8,.none),(qA (.call 14 [qb,qa]),.some []),(qP (.mv qa),.none),(qR 0 false (.fld 0 (.g 5)),.none),(qS 1 false (.load 1 false qa),.some []),(qR 2 false (.mv (.g 8)),.none),(qS 3 false (.call 14 [qb,qa]),.some []),(qP (.pick (.l 4) (.c (.s (.bool true))) qa),.none),(qP (.eqv true false [true] (.l 13) qa),.none),(qP (.mv qa),.none),(qR 0 false (.mv (.g 18)),.none),(qR 1 false (.mv (.g 8)),.none),(qR 2 false (.ixs 1 qb qa),.none),(qS 3 false (.load 1 false qa),.some []),(qR 4 false (.mv (.g 17)),.none),(qR 5 false (.mv (.g 7)),.none),(qR 6 false (.bin .add qa (qC 1)),.none),(qR 7 false (.ixs 1 qc qa),.none),(qS 8 false (.load 1 false qa),.some [4]),(qR 9 false (.bin .sub qa (qC 1)),.none),(qS 10 false (.call 17 [.l 6,qa]),.some []),(qR 11 false (.fld 1 (.g 6)),.none),(qS 12 false (.load 1 false qa),.some [1,3,8]),(qR 13 false (.mv (.g 7)),.none),(qR 14 false (.ixs 1 qb qa),.none),(qS 15 false (.load 1 false qa),.some [4,6,11]),(qR 16 false (.mv (.g 8)),.none),(qS 17 false (.call 14 [qb,qa]),.none),(qR 18 false (.eqv true false [true] (.l 7) qa),.none),(qQ 4 (.pick (.l 19) (.c (.s (.bool true))) qa),.none)]
def qc1:IC:=.seq (.block 3 (qr [qM 11,qT 8] (.seq qc0 (.cond (.g 4) (qr [qQ 3 (.mv (.c (.s (.bool false))))] .ret) .skip)))) (.region [qI 11,qT 11])
def jv2:IC:=qr [qQ 9 (.bin .lt (.g 11) (.g 10))] (.seq (qX 9 2) qc1)
def qc2:IC:=.seq (.block 1 (qr [qM 15,qP (.ixs 3 (.g 12) (.g 15)),qK 3,qB 5 (.new 42 [.nilSlice,.nilSlice,.nilSlice]),qQ 7 (.mv qd),qA (.store 3 qb qc)] (qr [qF 0 21,qL,qQ 10 (.len qa),qQ 11 (.mv (qC 0))] (.block 2 (.loop jv2))))) (.region [qI 15,qT 15])
def jv3:IC:=qr [qQ 13 (.bin .lt (.g 15) (.g 14))] (.seq (qX 13 0) qc2)
def qc3:IC:=.seq (qr [qF 1 21,qB 12 (.load 1 false qa),qQ 14 (.len qa),qQ 15 (.mv (qC 0))] (.block 0 (.loop jv3))) (qr [qQ 3 (.mv (.c (.s (.bool true))))] .ret)
def qiu:IC:=qr [qQ 3 (.mv (.c (.s (.bool false))))] (qr [qM 0,qM 1,qA (.call 9 [qb,qa]),qB 22 (.new 25 [.int .i64 0,.int .i64 0]),qA (.store 2 qa qb)] (qr [qA (.load 2 true (.g 22)),qM 2,qA (.call 10 [qb,qa]),qB 21 (.new 30 [.nilSlice,.nilSlice]),qA (.store 2 qa qb)] (qr [qA (.load 2 true (.g 21)),qA (.load 2 true (.g 22)),qA (.call 15 [qb,qa]),qP (.mv qa),qP (.ext 0 qa),qP (.ext 1 qb),qQ 18 (.mv qb),qQ 20 (.mv qb)] (qr [qA (.load 2 true (.g 21)),qA (.load 2 true (.g 22)),qA (.call 13 [qb,qa]),qP (.mv qa),qP (.ext 0 qa),qP (.ext 1 qb),qB 6 (.new 52 [.nilSlice,.nilSlice]),qA (.store 2 qa qc),qQ 19 (.mv qc)] (qr [qA (.load 2 true (.g 21)),qA (.call 16 [qa]),qT 17] (.seq (qr [qM 20,qP (.bin .ne qa (qC 0)),qP (.mv qa),qR 0 false (.mv (.g 19)),qR 1 false (.bin .ne qa (qC 0)),qP (.pick qc (.c (.s (.bool true))) qa),qP (.mv qa),qR 0 false (.mv (.g 18)),qR 1 false (.len qa),qR 2 false (.fld 0 (.g 21)),qS 3 false (.load 1 false qa),qR 4 false (.len qa),qR 5 false (.bin .ne qd qa),qP (.pick (.l 6) (.c (.s (.bool true))) qa),qP (.mv qa),qR 0 false (.mv (.g 17)),qR 1 false (.len qa),qR 2 false (.fld 1 (.g 21)),qS 3 false (.load 1 false qa),qR 4 false (.len qa),qR 5 false (.bin .add qa (qC 1)),qR 6 false (.bin .ne (.l 4) qa),qQ 16 (.pick (.l 7) (.c (.s (.bool true))) qa)] (.cond (.g 16) (qr [qQ 3 (.mv (.c (.s (.bool false))))] .ret) .skip)) qc3))))))
theorem qy8:T 8=some (.mk qiu 3 20 [(.tmp 3)]):=by kernel_rfl
open Go Go.RowKit Go.Proofs.Ytehhjbfmjdlcjaa.Ms
variable {n:Nat}
attribute [local go_sem] Int.reduceToNat reduceCtorEq Nat.reduceAdd Nat.reduceMul Nat.reduceEqDiff Int.reduceEq Int.reduceLT Int.reduceLE Int.reduceNeg Int.reduceAdd Int.reduceSub Int.reduceMul Int.reduceNe
attribute [local go_sem ↓] reduceIte
set_option maxHeartbeats 4000000
theorem qc4 {F:Fns} {l:List (Nat×Nat)} (hl:l.length<=10000) {x0 x2:AV} {Q:Ex->St->Prop} :
 ∀ (rest done:List (Nat×Nat)) (_:done++rest=l) {hi:Hp} (_:Ok hi) {x3 x4 x6:AV}
  (_:jes rest n=true->∀ hj x3 x4 x6 x7 x8,Q .ret (.mk [x0,vi n,vb true,x3,x4,.s (jae jmd l),x6,x7,x8] hj)) (_:jes rest n=false->∀ hj x3 x4 x6 x7 x8,Q (.exit 0) (.mk [x0,vi n,x2,x3,x4,.s (jae jmd l),x6,x7,x8] hj)),
  W F jvw.loop (.mk [x0,vi n,x2,x3,x4,.s (jae jmd l),x6,vi l.length,vi done.length] hi) Q
 | [],done,hdn,hi,ok,x3,x4,x6,h1,h2=>by
  rw[f1c] at hdn
  subst hdn
  rw[jai]
  unfold jvw
  simp(disch:=first|omega|rfl) only[go_sem,f0o]
  exact h2 rfl _ _ _ _ _ _
 | q::rest,done,hdn,hi,ok,x3,x4,x6,h1,h2=>by
  have hlt1:done.length<l.length:=by rw[←hdn];simp
  have hlt:(done.length:Int)<l.length:=by omega
  have hget:l[done.length]?=some q:=by rw[←hdn];simp
  have hix:=jag (enc:=jmd) (size:=2) hget rfl
  have hdn':(done++[q])++rest=l:=by rw[←hdn];simp
  have hs:(done.length:Int)+1=(((done++[q]).length:Nat):Int):=by simp
  obtain⟨hA,eA,okA,nA,xA,gA⟩:=jbt ok [.int .i64 0,.int .i64 0] (jmd q) 65
  unfold jmd at xA eA
  have en:jes (q::rest) n=(decide (q.1<=n/\n<q.2)||jes rest n):=by unfold jes;rw[List.any_cons]
  rw[jai]
  unfold jvw qcp
  by_cases e1:q.1<=n
  .have c1:((q.1:Int)<=(n:Int))=True:=eq_true (by omega)
   by_cases e2:n<q.2
   .have c2:((n:Int)<(q.2:Int))=True:=eq_true (by omega)
    simp(disch:=first|omega|rfl) only[go_sem,jab,eq_true hlt,hix,jmd,eA,xA,c1,c2]
    exact h1 (by rw[en,decide_eq_true ⟨e1,e2⟩];rfl) _ _ _ _ _ _
   .have c2:((n:Int)<(q.2:Int))=False:=eq_false (by omega)
    rw[decide_eq_false (fun h=>e2 h.2),f2v] at en
    simp(disch:=first|omega|rfl) only[go_sem,jab,eq_true hlt,hix,jmd,eA,xA,c1,c2,hs]
    exact qc4 hl rest (done++[q]) hdn' okA (fun h=>h1 (en.trans h)) (fun h=>h2 (en.trans h))
  .have c1:((q.1:Int)<=(n:Int))=False:=eq_false (by omega)
   rw[decide_eq_false (fun h=>e1 h.1),f2v] at en
   simp(disch:=first|omega|rfl) only[go_sem,jab,eq_true hlt,hix,jmd,eA,xA,c1,hs]
   exact qc4 hl rest (done++[q]) hdn' okA (fun h=>h1 (en.trans h)) (fun h=>h2 (en.trans h))
theorem qqh {F:Fns} {h:Hp} (ok:Ok h) {l:List (Nat×Nat)} (hl:l.length<=10000) (hX:jb9 F 17 [.s (jae jmd l),vi n] h=none) (hT:jqt F 17=T 17) :
 WC F 17 [.s (jae jmd l),vi n] h (fun v h'=>∃ d,jf2 true h' d v=some (vb (jes l n))):=by
 refine ja3 hX (hT.trans qy1) rfl ?_
 unfold qim
 have ll:=jaf (enc:=jmd) (l:=l)
 simp(disch:=first|omega|rfl) only[go_sem,ll]
 refine qc4 hl l [] rfl ok (fun h hj x3 x4 x6 x7 x8=>?_) (fun h hj x3 x4 x6 x7 x8=>?_)
 .simp (disch:=first|omega|rfl) only[go_sem]
  rw[h];exact⟨1,rfl⟩
 .simp (disch:=first|omega|rfl) only[go_sem]
  rw[h];exact⟨1,rfl⟩
def SLn (f:FuncId):Bool:=Nat.beq f 17
noncomputable def FV:Fns:=PX SLn FL4
theorem q1d {A:Nat->Int}:Env Try.prog A tys FV:=je4 qy7
theorem qvs {g:FuncId} {h:Hp} (h0:SLn g=false) (h5:SL3 g=false) (h1:SL2 g=false) (h2:Nat.beq g qyz.f=false) (h3:Nat.beq g qvr.f=false) (h4:SLv g=false) {vs:List AV}:jb9 FV g vs h=jb9 F12 g vs h:=(ja0 h0).trans ((ja0 h5).trans ((ja0 h1).trans ((jdd h2).trans ((jdd h3).trans (ja0 h4)))))
section
variable {h:Hp} {m:Nat×Nat} {Q:AV->Hp->Prop}
end
theorem qc5 {bs:List Ms.Blk} {ins outs:List (List Nat)} {v:Nat} (hv:v<n):(jf0 bs ins outs n)[v]?=some (jg2 bs ins outs v bs.length):=by
 unfold jf0
 rw[f0p,f3b hv]
 rfl
theorem qqi {m:Nat×Nat} {f:Fc} {s:List Bool} (o:FlOk m f s) (hp:(jc3 f.blocks).Perm (List.range f.values.length))
 (hu:∀ (k i:Nat) (b:Ms.Blk) (x:Ms.Ins) (q:Ms.Opd),f.blocks[k]?=some b->b.instrs[i]?=some x->q∈x.ops->q.kind=1->jq9 (jeb s) f.blocks q.value k i) {ins outs:List (List Nat)} (fx:∀ q,q<f.blocks.length->FxB f.blocks ins outs q):SpFc f.blocks f.values.length ins outs s :=
 ⟨hp,fun b hb x hx q hq=>((o.k.ins b hb x hx).opd q hq).kind,hu,fx⟩
end Go.Proofs.Ytehhjbfmjdlcjaa.Ev
