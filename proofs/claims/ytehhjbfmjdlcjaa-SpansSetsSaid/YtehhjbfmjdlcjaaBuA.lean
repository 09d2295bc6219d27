/- Code of functions as the interpreter has it prepared, cut at loops. -/
import Derived.Test.YtehhjbfmjdlcjaaBt
namespace Go.Proofs.Ytehhjbfmjdlcjaa.Ev
open Go Go.RowKit
set_option linter.all false
set_option maxRecDepth 100000
def j1i:IC:=qr [qM 33,qF 1 13,qL,qP (.ixs 1 qc qa),qL,qM 11,qA (.call 17 [qb,qa]),qP (.not qa),qP (.mv qa),qR 0 false (.fld 0 (.g 13)),qS 1 false (.load 1 false qa),qR 2 false (.bin .eq qa (qC 2)),qR 3 false (.mv qa),qR 0 true (.mv (.g 33)),qR 1 true (.fld 1 (.g 13)),qS 2 true (.load 1 false qa),qR 3 true (.ixs 1 qc qa),qS 4 true (.load 1 false qa),qR 5 true (.mv (.g 11)),qR 6 true (.bin .sub qa (qC 1)),qS 7 true (.call 17 [qc,qa]),qR 12 false (.pick (.l 8) qa (.c (.s (.bool false)))),qQ 10 (.pick (.l 13) (.c (.s (.bool true))) qa)] (.cond (.g 10) (qr [qQ 3 (.mv (.c (.s (.bool false))))] .ret) .skip)
def qcg:IC:=.seq (.block 5 (qr [qP (.ixs 5 (.g 15) (.g 18)),qK 5,qB 13 (.new 48 [.int .i64 0,.int .i64 0,.bool false,.int .i64 0,.int .i64 0]),qA (.store 5 qa qb)] (qr [qM 14,qT 11] (.seq (qr [qF 2 13,qB 12 (.load 1 false qa)] (.cond (.g 12) (.region [qM 11,qP (.bin .add qa (qC 1)),qT 11]) .skip)) j1i)))) (.region [qI 18,qT 18])
def jvx:IC:=qr [qQ 16 (.bin .lt (.g 18) (.g 17))] (.seq (qX 16 4) qcg)
def qch:IC:=.seq (.block 3 (qr [qM 25,qP (.ixs 3 (.g 22) (.g 25)),qK 3,qB 19 (.new 46 [.int .i64 0,.nilSlice,.nilSlice]),qQ 20 (.mv qd),qA (.store 3 qb qc)] (qr [qM 32,qM 21,qP (.ixs 1 qb qa),qL,qP (.bin .add qa (qC 1)),qM 20,qP (.bin .mul (qC 2) qa),qP (.bin .add qc qa),qT 14] (qr [qF 1 19,qB 15 (.load 1 false qa),qQ 17 (.len qa),qQ 18 (.mv (qC 0))] (.block 4 (.loop jvx)))))) (.region [qI 25,qT 25])
def jvy:IC:=qr [qQ 23 (.bin .lt (.g 25) (.g 24))] (.seq (qX 23 2) qch)
def qci:IC:=.draw [(qM 33,.none),(qM 5,.none),(qP (.ixs 1 qb qa),.none),(qL,.some []),(qM 32,.none),(qM 21,.none),(qP (.ixs 1 qb qa),.none),(qL,.some [3]),(qA (.call 17 [.l 4,qa]),.none),(qQ 4 (.not qa),.none)]
def qcj:IC:=.seq (.block 7 (qr [qP (.ixs 1 (.g 6) (.g 9)),qL,qT 5] (.seq qci (.cond (.g 4) (qr [qQ 3 (.mv (.c (.s (.bool false))))] .ret) .skip)))) (.region [qI 9,qT 9])
def jvz:IC:=qr [qQ 7 (.bin .lt (.g 9) (.g 8))] (.seq (qX 7 6) qcj)
def qck:IC:=.seq (.block 1 (qr [qM 30,qP (.ixs 3 (.g 27) (.g 30)),qK 3,qB 26 (.new 42 [.nilSlice,.nilSlice,.nilSlice]),qQ 21 (.mv qd),qA (.store 3 qb qc)] (.seq (qr [qF 1 26,qB 22 (.load 1 false qa),qQ 24 (.len qa),qQ 25 (.mv (qC 0))] (.block 2 (.loop jvy))) (qr [qF 0 26,qB 6 (.load 1 false qa),qQ 8 (.len qa),qQ 9 (.mv (qC 0))] (.block 6 (.loop jvz)))))) (.region [qI 30,qT 30])
def jv0:IC:=qr [qQ 28 (.bin .lt (.g 30) (.g 29))] (.seq (qX 28 0) qck)
def qcl:IC:=.seq (qr [qF 1 35,qB 27 (.load 1 false qa),qQ 29 (.len qa),qQ 30 (.mv (qC 0))] (.block 0 (.loop jv0))) (qr [qQ 3 (.mv (.c (.s (.bool true))))] .ret)
def qh7:IC:=qr [qQ 3 (.mv (.c (.s (.bool false))))] (qr [qM 0,qM 1,qA (.call 9 [qb,qa]),qB 36 (.new 25 [.int .i64 0,.int .i64 0]),qA (.store 2 qa qb)] (qr [qA (.load 2 true (.g 36)),qM 2,qA (.call 10 [qb,qa]),qB 35 (.new 30 [.nilSlice,.nilSlice]),qA (.store 2 qa qb)] (qr [qA (.load 2 true (.g 35)),qA (.load 2 true (.g 36)),qA (.call 15 [qb,qa]),qP (.mv qa),qP (.ext 0 qa),qP (.ext 1 qb),qQ 33 (.mv qb),qQ 34 (.mv qb)] (qr [qA (.load 2 true (.g 35)),qA (.call 16 [qa]),qT 32] (.seq (qr [qM 34,qP (.bin .ne qa (qC 0)),qP (.mv qa),qR 0 false (.mv (.g 33)),qR 1 false (.len qa),qR 2 false (.fld 0 (.g 35)),qS 3 false (.load 1 false qa),qR 4 false (.len qa),qR 5 false (.bin .ne qd qa),qP (.pick (.l 6) (.c (.s (.bool true))) qa),qP (.mv qa),qR 0 false (.mv (.g 32)),qR 1 false (.len qa),qR 2 false (.fld 1 (.g 35)),qS 3 false (.load 1 false qa),qR 4 false (.len qa),qR 5 false (.bin .add qa (qC 1)),qR 6 false (.bin .ne (.l 4) qa),qQ 31 (.pick (.l 7) (.c (.s (.bool true))) qa)] (.cond (.g 31) (qr [qQ 3 (.mv (.c (.s (.bool false))))] .ret) .skip)) qcl)))))
theorem qym:T 6=some (.mk qh7 3 34 [(.tmp 3)]):=by kernel_rfl
def qcm:IC:=.draw [(qM 8,.none),(qM 6,.none),(qP (.ixs 2 qb qa),.none),(qG 0,.none),(qL,.some []),(qM 8,.none),(qM 6,.none),(qP (.ixs 2 qb qa),.none),(qG 1,.none),(qL,.some [4]),(qP (.bin .ge (.l 5) qa),.none),(qP (.mv qa),.none),(qR 0 false (.mv (.g 6)),.none),(qR 1 false (.bin .gt qa (qC 0)),.none),(qR 2 false (.mv qa),.none),(qR 0 true (.mv (.g 8)),.none),(qR 1 true (.mv (.g 6)),.none),(qR 2 true (.ixs 2 qb qa),.none),(qR 3 true (.fld 0 qa),.none),(qS 4 true (.load 1 false qa),.some []),(qR 5 true (.mv (.g 8)),.none),(qR 6 true (.mv (.g 6)),.none),(qR 7 true (.bin .sub qa (qC 1)),.none),(qR 8 true (.ixs 2 qc qa),.none),(qR 9 true (.fld 1 qa),.none),(qS 10 true (.load 1 false qa),.some [5]),(qR 11 true (.bin .le (.l 6) qa),.none),(qR 15 false (.pick (.l 12) qa (.c (.s (.bool false)))),.none),(qQ 4 (.pick (.l 16) (.c (.s (.bool true))) qa),.none)]
def qcn:IC:=.seq (.block 3 (.seq qcm (.cond (.g 4) (qr [qQ 3 (.mv (.c (.s (.bool false))))] .ret) .skip))) (.region [qM 6,qP (.bin .add qa (qC 1)),qT 6])
def jv1:IC:=.seq (qr [qM 6,qM 8,qP (.len qa),qQ 5 (.bin .lt qc qa)] (qX 5 2)) qcn
def qco:IC:=qr [qQ 6 (.mv (qC 0))] (.block 2 (.loop jv1))
def qcp:IC:=.seq (.block 1 (qr [qP (.ixs 1 (.g 9) (.g 12)),qL,qT 8] (.seq (qr [qM 8,qP (.len qa),qQ 7 (.bin .eq qa (qC 0))] (.cond (.g 7) (qr [qQ 3 (.mv (.c (.s (.bool false))))] .ret) .skip)) qco))) (.region [qI 12,qT 12])
def jv2:IC:=qr [qQ 10 (.bin .lt (.g 12) (.g 11))] (.seq (qX 10 0) qcp)
def qcq:IC:=.seq (qr [qQ 9 (.mv (.g 14)),qQ 11 (.len qa),qQ 12 (.mv (qC 0))] (.block 0 (.loop jv2))) (qr [qQ 3 (.mv (.c (.s (.bool true))))] .ret)
def qh8:IC:=qr [qQ 3 (.mv (.c (.s (.bool false))))] (qr [qM 0,qM 1,qA (.call 9 [qb,qa]),qB 17 (.new 25 [.int .i64 0,.int .i64 0]),qA (.store 2 qa qb)] (qr [qA (.load 2 true (.g 17)),qM 2,qA (.call 10 [qb,qa]),qB 16 (.new 30 [.nilSlice,.nilSlice]),qA (.store 2 qa qb)] (qr [qA (.load 2 true (.g 16)),qA (.load 2 true (.g 17)),qA (.call 15 [qb,qa]),qP (.mv qa),qP (.ext 0 qa),qP (.ext 1 qb),qQ 14 (.mv qb),qQ 15 (.mv qb)] (.seq (qr [qM 15,qP (.bin .ne qa (qC 0)),qP (.mv qa),qR 0 false (.mv (.g 14)),qR 1 false (.len qa),qR 2 false (.fld 0 (.g 16)),qS 3 false (.load 1 false qa),qR 4 false (.len qa),qR 5 false (.bin .ne qd qa),qQ 13 (.pick (.l 6) (.c (.s (.bool true))) qa)] (.cond (.g 13) (qr [qQ 3 (.mv (.c (.s (.bool false))))] .ret) .skip)) qcq))))
theorem qyn:T 7=some (.mk qh8 3 15 [(.tmp 3)]):=by kernel_rfl
open Go Go.RowKit Go.Proofs.Ytehhjbfmjdlcjaa.Ms
variable {f:Fc} {s:List Bool} {n:Nat}
attribute [local go_sem] Int.reduceToNat reduceCtorEq Nat.reduceAdd Nat.reduceMul Nat.reduceEqDiff Int.reduceEq Int.reduceLT Int.reduceLE Int.reduceNeg Int.reduceAdd Int.reduceSub Int.reduceMul Int.reduceNe
attribute [local go_sem ↓] reduceIte
set_option maxHeartbeats 4000000
theorem qcr {F:Fns} {l:List (Nat×Nat)} (hl:l.length<=10000) {x0 x2:AV} {Q:Ex->St->Prop} :
 ∀ (rest done:List (Nat×Nat)) (_:done++rest=l) {hi:Hp} (_:Ok hi) {x3 x4 x6:AV}
  (_:jdz rest n=true->∀ hj x3 x4 x6 x7 x8,Q .ret (.mk [x0,vi n,vb true,x3,x4,.s (jae jg5 l),x6,x7,x8] hj)) (_:jdz rest n=false->∀ hj x3 x4 x6 x7 x8,Q (.exit 0) (.mk [x0,vi n,x2,x3,x4,.s (jae jg5 l),x6,x7,x8] hj)),
  W F jvs.loop (.mk [x0,vi n,x2,x3,x4,.s (jae jg5 l),x6,vi l.length,vi done.length] hi) Q
 | [],done,hdn,hi,ok,x3,x4,x6,h1,h2=>by
  rw[f1d] at hdn
  subst hdn
  rw[jah]
  unfold jvs
  simp(disch:=first|omega|rfl) only[go_sem,f0n]
  exact h2 rfl _ _ _ _ _ _
 | q::rest,done,hdn,hi,ok,x3,x4,x6,h1,h2=>by
  have hlt1:done.length<l.length:=by rw[←hdn];simp
  have hlt:(done.length:Int)<l.length:=by omega
  have hget:l[done.length]?=some q:=by rw[←hdn];simp
  have hix:=jag (enc:=jg5) (size:=2) hget rfl
  have hdn':(done++[q])++rest=l:=by rw[←hdn];simp
  have hs:(done.length:Int)+1=(((done++[q]).length:Nat):Int):=by simp
  obtain⟨hA,eA,okA,nA,xA,gA⟩:=jbn ok [.int .i64 0,.int .i64 0] (jg5 q) 65
  unfold jg5 at xA eA
  have en:jdz (q::rest) n=(decide (q.1<=n/\n<q.2)||jdz rest n):=by unfold jdz;rw[List.any_cons]
  rw[jah]
  unfold jvs qb6
  by_cases e1:q.1<=n
  .have c1:((q.1:Int)<=(n:Int))=True:=eq_true (by omega)
   by_cases e2:n<q.2
   .have c2:((n:Int)<(q.2:Int))=True:=eq_true (by omega)
    simp(disch:=first|omega|rfl) only[go_sem,jab,eq_true hlt,hix,jg5,eA,xA,c1,c2]
    exact h1 (by rw[en,decide_eq_true ⟨e1,e2⟩];rfl) _ _ _ _ _ _
   .have c2:((n:Int)<(q.2:Int))=False:=eq_false (by omega)
    rw[decide_eq_false (fun h=>e2 h.2),f25] at en
    simp(disch:=first|omega|rfl) only[go_sem,jab,eq_true hlt,hix,jg5,eA,xA,c1,c2,hs]
    exact qcr hl rest (done++[q]) hdn' okA (fun h=>h1 (en.trans h)) (fun h=>h2 (en.trans h))
  .have c1:((q.1:Int)<=(n:Int))=False:=eq_false (by omega)
   rw[decide_eq_false (fun h=>e1 h.1),f25] at en
   simp(disch:=first|omega|rfl) only[go_sem,jab,eq_true hlt,hix,jg5,eA,xA,c1,hs]
   exact qcr hl rest (done++[q]) hdn' okA (fun h=>h1 (en.trans h)) (fun h=>h2 (en.trans h))
theorem qpv {F:Fns} {h:Hp} (ok:Ok h) {l:List (Nat×Nat)} (hl:l.length<=10000) (hX:jcj F 17 [.s (jae jg5 l),vi n] h=none) (hT:jrf F 17=T 17) :
 WC F 17 [.s (jae jg5 l),vi n] h (fun v h'=>∃ d,jgd true h' d v=some (vb (jdz l n))):=by
 refine ja2 hX (hT.trans qye) rfl ?_
 unfold qhz
 have ll:=jaf (enc:=jg5) (l:=l)
 simp(disch:=first|omega|rfl) only[go_sem,ll]
 refine qcr hl l [] rfl ok (fun h hj x3 x4 x6 x7 x8=>?_) (fun h hj x3 x4 x6 x7 x8=>?_)
 .simp (disch:=first|omega|rfl) only[go_sem]
  rw[h];exact⟨1,rfl⟩
 .simp (disch:=first|omega|rfl) only[go_sem]
  rw[h];exact⟨1,rfl⟩
def SLn (f:FuncId):Bool:=Nat.beq f 17
noncomputable def FU:Fns:=PX SLn FL3
theorem qy6 {A:Nat->Int}:Env Try.prog A tys FU:=jfw qyl
theorem quk {g:FuncId} {h:Hp} (h1:SLn g=false) (h2:SL3 g=false) (h3:Nat.beq g qu8.f=false) (h4:SLv g=false) {vs:List AV}:jcj FU g vs h=jcj F12 g vs h:=(jbb h1).trans ((jbb h2).trans ((jil h3).trans (jbb h4)))
section
variable {h:Hp} {m:Nat×Nat} {Q:AV->Hp->Prop}
theorem jql {a b:Int} (ha:In6 a) (hb:In6 b):WC FU 9 [vi a,vi b] h Q=Q (.agg (qp3 (jqy a b))) h:=jaq ((quk rfl rfl rfl rfl).trans ((qfh rfl rfl rfl rfl rfl rfl rfl rfl rfl).trans (j5l ha hb)))
theorem j4c {l:List Pc} (m1:2<=m.1/\m.1<=10) (m2:2<=m.2/\m.2<=10) (pin:∀ q∈l,Pin q) {xl:SV} (lx:LstE jb3 7 xl l):WC FU 10 [.agg [si m.1,si m.2],.s xl] h Q=Q (.agg (j0i (je9 m l))) h:=jaq ((quk rfl rfl rfl rfl).trans ((qfh rfl rfl rfl rfl rfl rfl rfl rfl rfl).trans (qke m1 m2 pin lx)))
theorem j5z (h1:f.blocks.length<=10000) (h2:∀ b∈f.blocks,b.instrs.length<=10000):WC FU 16 [.agg [jae jal f.values,jae jaw f.blocks]] h Q=Q (.s (jae jal (jam f.blocks))) h:=jaq ((quk rfl rfl rfl rfl).trans ((qfh rfl rfl rfl rfl rfl rfl rfl rfl rfl).trans (jxt h1 h2)))
theorem qh9 (o:FlOk m f s) (m1:2<=m.1/\m.1<=10) (m2:2<=m.2/\m.2<=10) :
 ∃ ins outs,JJ f.values.length ((f.values.length+63) / 64) f.blocks ins outs/\(∀ q,q<f.blocks.length->FxB f.blocks ins outs q)/\∀ h Q,WC FU 15 [.agg [jae jal f.values,jae jaw f.blocks],.agg [si m.1,si m.2]] h Q=Q (j4b f.blocks ins outs f.values.length) h:=by
 obtain⟨n,v,h',h1,ins,outs,jj,fx,d,e⟩:=qcf qyk jdo o m1 m2
 exact⟨ins,outs,jj,fx,fun h Q=>jaq ((jbb rfl).trans (jbf rfl (by simp only[jat,ja0,ja7,jb0,ja1,ja8,ja5,jbj,ja9,jbg,if_true]) ⟨n,v,h',h1,d,e⟩))⟩
theorem j4d {l:List (Nat×Nat)} (hl:l.length<=10000):WC FU 17 [.s (jae jg5 l),vi n] h Q=Q (vb (jdz l n)) h :=
 jaq (jbf rfl (by simp only[jat,ja0,ja7,jb0,ja1,ja8,ja5,jbj,ja9,jbg,if_true]) (qpv jdo hl ((jbb rfl).trans ((jil rfl).trans ((jbb rfl).trans (jq3 rfl)))) rfl))
end
theorem jys {bs:List Ms.Blk} {ins outs:List (List Nat)} {v:Nat} (hv:v<n):(jb8 bs ins outs n)[v]?=some (jf1 bs ins outs v bs.length):=by
 unfold jb8
 rw[f0s,f29 hv]
 rfl
theorem qcs {m:Nat×Nat} (o:FlOk m f s) (hp:(jcs f.blocks).Perm (List.range f.values.length))
 (hu:∀ (k i:Nat) (b:Ms.Blk) (x:Ms.Ins) (q:Ms.Opd),f.blocks[k]?=some b->b.instrs[i]?=some x->q∈x.ops->q.kind=1->jq2 (jed s) f.blocks q.value k i) {ins outs:List (List Nat)} (fx:∀ q,q<f.blocks.length->FxB f.blocks ins outs q):SpFc f.blocks f.values.length ins outs s :=
 ⟨hp,fun b hb x hx q hq=>((o.k.ins b hb x hx).opd q hq).kind,hu,fx⟩
end Go.Proofs.Ytehhjbfmjdlcjaa.Ev
