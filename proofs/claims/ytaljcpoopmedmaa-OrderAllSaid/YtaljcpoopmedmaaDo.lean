/- Code of functions as the interpreter has it prepared, cut at loops. -/
import Derived.Test.YtaljcpoopmedmaaUi
import Derived.Test.YtaljcpoopmedmaaDa
namespace Go.Proofs.Ytaljcpoopmedmaa.Ev
open Go Go.RowKit
set_option linter.all false
set_option maxRecDepth 100000
def j9s:IC:=(.seq (.block 1 (.seq (.region [(qP (.mv (.g 0))),(qP (.mv (.g 5))),(qP (.ixs 1 (.l 1) (.l 0))),(qA (.load 1 false (.l 0))),(qP (.mv (.g 1))),(qQ 3 (.bin .eq (.l 1) (.l 0)))]) (.cond (.g 3) (.seq (.region [(qQ 2 (.mv (.c (.s (.bool true)))))]) .ret) .skip))) (.region [(qP (.mv (.g 5))),(qP (.bin .add (.l 0) (qC 1))),(qQ 5 (.mv (.l 0)))]))
def jva:IC:=(.seq (.seq (.region [(qP (.mv (.g 5))),(qP (.mv (.g 0))),(qP (.len (.l 0))),(qQ 4 (.bin .lt (.l 2) (.l 0)))]) (.cond (.g 4) .skip (.exit 0))) j9s)
def qep:IC:=(.seq (.region [(qQ 2 (.mv (.c (.s (.bool false)))))]) (.seq (.seq (.region [(qQ 5 (.mv (qC 0)))]) (.block 0 (.loop jva))) (.seq (.region [(qQ 2 (.mv (.c (.s (.bool false)))))]) .ret)))
theorem qs6:T 25=some (.mk qep 2 4 [(.tmp 2)]):=by kernel_rfl
open Go Go.RowKit Go.Proofs.Ytaljcpoopmedmaa.Ms
attribute [local go_sem] Int.cast_ofNat_Int Int.natCast_zero Int.natCast_one decide_eq_true_eq decide_eq_false_iff_not Bool.false_eq_true and_true true_and List.cons_append List.nil_append reduceCtorEq decide_true decide_false Bool.not_true Bool.not_false Nat.add_zero Nat.zero_add Option.some.injEq Bool.true_eq_false not_true_eq_false not_false_eq_true Hp.next_push Hp.next_put Nat.add_assoc Int.reduceToNat Nat.reduceAdd Nat.reduceMul Nat.reduceEqDiff Int.reduceEq Int.reduceLT Int.reduceLE Int.reduceNeg Int.reduceAdd Int.reduceSub Int.reduceMul Int.reduceNe
attribute [local go_sem ↓] reduceIte
set_option maxHeartbeats 2000000
def j9z (l:List Nat) (n:Int):Bool:=l.any (fun x=>decide ((x:Int)=n))
theorem j2r {l:List Nat} {n:Int} (hl:l.length<=10000) {x2:AV} {Q:Ex->St->Prop} :
 ∀ (rest done:List Nat) (_:done++rest=l) {hi:Hp} (_:Ok hi) {x3 x4:AV}
  (_:j9z rest n=true->∀ x3 x4 x5,Q .ret (.mk [.s (.lst (l.map jas)),vi n,vb true,x3,x4,x5] hi)) (_:j9z rest n=false->∀ x3 x4 x5,Q (.exit 0) (.mk [.s (.lst (l.map jas)),vi n,x2,x3,x4,x5] hi)),
  W F13 jva.loop (.mk [.s (.lst (l.map jas)),vi n,x2,x3,x4,vi done.length] hi) Q
 | [],done,hdn,hi,ok,x3,x4,h1,h2=>by
  rw [List.append_nil] at hdn
  subst hdn
  have ll:=jhc (rows:=done.map jas)
  rw [List.length_map] at ll
  rw [jan]
  unfold jva
  simp (maxSteps:=1000000) (disch:=first|omega|assumption|(simp only [List.length];done)|exact jaa|((repeat (first|apply jac|apply jad));assumption)) only [go_sem,ll,Int.lt_irrefl]
  exact h2 rfl _ _ _
 | v::rest,done,hdn,hi,ok,x3,x4,h1,h2=>by
  have ll:=jhc (rows:=l.map jas)
  rw [List.length_map] at ll
  have hlt1:done.length<l.length:=by rw [←hdn];simp
  have hlt:(done.length:Int)<l.length:=by omega
  have hget:l[done.length]?=some v:=by rw [←hdn];simp
  have hix:=js1 (size:=1) (rows:=l.map jas) (m:=done.length) (row:=jas v) (by rw [List.getElem?_map,hget];rfl) rfl
  have hdn':(done++[v])++rest=l:=by rw [←hdn];simp
  have hs:(done.length:Int)+1=(((done++[v]).length:Nat):Int):=by simp
  rw [jan]
  unfold jva j9s
  by_cases e:(v:Int)=n
  ·have c1:((v:Int)=n)=True:=eq_true e
   simp (maxSteps:=1000000) (disch:=first|omega|assumption|(simp only [List.length];done)|exact jaa|((repeat (first|apply jac|apply jad));assumption)) only [go_sem,jag,ll,eq_true hlt,hix,jas,c1]
   exact h1 (by unfold j9z;simp [e]) _ _ _
  ·have c1:((v:Int)=n)=False:=eq_false e
   have ed:j9z (v::rest) n=j9z rest n:=by unfold j9z;simp [e]
   simp (maxSteps:=1000000) (disch:=first|omega|assumption|(simp only [List.length];done)|exact jaa|((repeat (first|apply jac|apply jad));assumption)) only [go_sem,jag,ll,eq_true hlt,hix,jas,c1,hs]
   exact j2r hl rest (done++[v]) hdn' ok (fun h=>h1 (ed.trans h)) (fun h=>h2 (ed.trans h))
theorem qlz {h:Hp} (ok:Ok h) {l:List Nat} {n:Int} (hl:l.length<=10000):WC F13 25 [.s (.lst (l.map jas)),vi n] h (fun v h'=>∃ e,jgu true h' e v=some (vb (j9z l n))):=by
 refine jba (qqj rfl rfl rfl rfl rfl rfl rfl rfl rfl rfl rfl rfl rfl) qs6 rfl ?_
 unfold qep
 simp (maxSteps:=1000000) (disch:=first|omega|assumption|(simp only [List.length];done)|exact jaa|((repeat (first|apply jac|apply jad));assumption)) only [go_sem]
 refine j2r hl l [] rfl ok (fun h x3 x4 x5=>?_) (fun h x3 x4 x5=>?_)
 ·simp (maxSteps:=1000000) (disch:=first|omega|assumption|(simp only [List.length];done)|exact jaa|((repeat (first|apply jac|apply jad));assumption)) only [go_sem]
  rw [h];exact ⟨1,rfl⟩
 ·simp (maxSteps:=1000000) (disch:=first|omega|assumption|(simp only [List.length];done)|exact jaa|((repeat (first|apply jac|apply jad));assumption)) only [go_sem]
  rw [h];exact ⟨1,rfl⟩
def S14 (f:FuncId):Bool:=Nat.beq f 25
noncomputable def F14:Fns:=PX S14 F13
theorem qs7 {A:Nat->Int}:Env Try.prog A tys F14:=jgx qlw
theorem qux {f:FuncId} (h1:S1 f=false) (h2:Nat.beq f jes.f=false) (h3:S3 f=false) (h4:S4 f=false) (h5:S5 f=false) (h6:S6 f=false) (h7:S7 f=false) (h8:S8 f=false) (h9:S9 f=false) (h10:S10 f=false) (h11:S11 f=false) (h12:S12 f=false) (h13:S13 f=false) (h14:S14 f=false) {vs:List AV} {h:Hp}:jdp F14 f vs h=none:=(ja3 h14).trans (qqj h1 h2 h3 h4 h5 h6 h7 h8 h9 h10 h11 h12 h13)
theorem jvb {l:List Nat} {n:Int} {r:Bool} {h:Hp} {Q:AV->Hp->Prop} (hl:l.length<=10000) (hr:j9z l n=r):WC F14 25 [.s (.lst (l.map jas)),vi n] h Q=Q (vb r) h :=
 jao (jbb rfl rfl (by rw [←hr];exact qlz jcz hl))
theorem qp6 {l:List Nat} {i:Nat} (hi:i<l.length):qnj 1 (some (.s (jah jas l))) (some (vi (i:Int)))=some (.s (.lst ((l.take i).map jas))):=by
 cases l with
 | nil=>simp at hi
 | cons a l =>
  show oif (Nat.ble i (jc5 ((a::l).map jas))) (oif (Nat.ble 0 i) (oif (j0c 1 ((a::l).map jas)) (ob (jbw (Nat.sub i 0) (jb1 0 ((a::l).map jas))) (fun r=>some (AV.s (.lst r)))) none) none) none=_
  have h1:jc5 ((a::l).map jas)=(a::l).length:=by rw [jbm,List.length_map]
  have h2:Nat.ble i (jc5 ((a::l).map jas))=true:=Nat.ble_eq_true_of_le (by rw [h1];omega)
  have h3:jbw (Nat.sub i 0) (jb1 0 ((a::l).map jas))=some (((a::l).take i).map jas):=(jbd _).2 ⟨by show i<=(jb1 0 ((a::l).map jas)).length;rw [jbv,List.drop_zero,List.length_map];omega,by rw [jbv,List.map_take];rfl⟩
  rw [h2,h3]
  rfl
section
variable {h:Hp} {m:Nat×Nat} {f:Fc} {s:List Bool} {Q:AV->Hp->Prop}
theorem qch (o:FlOk m f s) (m1:2<=m.1/\m.1<=10) (m2:2<=m.2/\m.2<=10):WC F14 23 [.agg [jah jas f.values,jah ja4 f.blocks],.agg [si m.1,si m.2]] h Q=Q (ju4 s) h :=
 jao ((ja3 rfl).trans ((ja3 rfl).trans (jbb rfl (by simp only [jau,jaz,ja6,jb8,ja0,ja7,ja5,jbk,ja8,jbg,if_true]) (jz9 jcz o m1 m2))))
theorem jxp {a b:Int} (ha:In6 a) (hb:In6 b):WC F14 17 [vi a,vi b] h Q=Q (.agg (j37 (jiy a b))) h:=jao ((ja3 rfl).trans ((ja3 rfl).trans ((j33 rfl rfl rfl rfl rfl rfl rfl rfl rfl).trans (jip ha hb))))
theorem j9t {l:List Pc} (m1:2<=m.1/\m.1<=10) (m2:2<=m.2/\m.2<=10) (pin:∀ q∈l,Pin q) {xl:SV} (lx:LstE jbx 7 xl l):WC F14 16 [.agg [si m.1,si m.2],.s xl] h Q=Q (.agg (j36 (jdy m l))) h:=jao ((ja3 rfl).trans ((ja3 rfl).trans ((j33 rfl rfl rfl rfl rfl rfl rfl rfl rfl).trans (juc m1 m2 pin lx))))
end
def j9u:IC:=(.draw [((qP (.fld 0 (.g 8))),.none),((qA (.load 1 false (.l 0))),(.some [])),((qP (.mv (.g 6))),.none),((qP (.slice 1 (.l 1) .none (.some (.l 0)))),.none),((qP (.fld 0 (.g 8))),.none),((qA (.load 1 false (.l 0))),(.some [3])),((qP (.mv (.g 6))),.none),((qP (.ixs 1 (.l 1) (.l 0))),.none),((qA (.load 1 false (.l 0))),(.some [6])),((qA (.call 25 [(.l 5),(.l 0)])),(.some [])),((qP (.mv (.l 0))),.none),((qR 0 false (.mv (.g 6))),.none),((qR 1 false (.bin .gt (.l 0) (qC 0))),.none),((qR 2 false (.mv (.l 0))),.none),((qR 0 true (.fld 0 (.g 8))),.none),((qS 1 true (.load 1 false (.l 0))),(.some [])),((qR 2 true (.mv (.g 6))),.none),((qR 3 true (.slice 1 (.l 1) .none (.some (.l 0)))),.none),((qR 4 true (.fld 1 (.g 8))),.none),((qS 5 true (.load 1 false (.l 0))),(.some [3])),((qR 6 true (.fld 0 (.g 8))),.none),((qS 7 true (.load 1 false (.l 0))),(.some [1,5])),((qR 8 true (.mv (.g 6))),.none),((qR 9 true (.ixs 1 (.l 1) (.l 0))),.none),((qS 10 true (.load 1 false (.l 0))),(.some [4,8])),((qR 11 true (.ixs 1 (.l 5) (.l 0))),.none),((qS 12 true (.load 1 false (.l 0))),(.some [10])),((qS 13 true (.call 25 [(.l 9),(.l 0)])),.none),((qR 14 true (.not (.l 0))),.none),((qR 18 false (.pick (.l 15) (.l 0) (.c (.s (.bool false))))),.none),((qQ 4 (.pick (.l 19) (.c (.s (.bool true))) (.l 0))),.none)])
def j9v:IC:=(.seq (.block 1 (.seq j9u (.cond (.g 4) (.seq (.region [(qQ 3 (.mv (.c (.s (.bool false)))))]) .ret) .skip))) (.region [(qP (.mv (.g 6))),(qP (.bin .add (.l 0) (qC 1))),(qQ 6 (.mv (.l 0)))]))
def jvc:IC:=(.seq (.seq (.region [(qP (.mv (.g 6))),(qP (.fld 0 (.g 8))),(qA (.load 1 false (.l 0))),(qP (.len (.l 0))),(qQ 5 (.bin .lt (.l 3) (.l 0)))]) (.cond (.g 5) .skip (.exit 0))) j9v)
def j9w:IC:=(.seq (.seq (.region [(qQ 6 (.mv (qC 0)))]) (.block 0 (.loop jvc))) (.seq (.region [(qQ 3 (.mv (.c (.s (.bool true)))))]) .ret))
def qeq:IC:=(.seq (.region [(qQ 3 (.mv (.c (.s (.bool false)))))]) (.seq (.region [(qP (.mv (.g 0))),(qP (.mv (.g 1))),(qA (.call 17 [(.l 1),(.l 0)])),(qB 11 (.new 30 [(.int .i64 0),(.int .i64 0)])),(qA (.store 2 (.l 0) (.l 1)))]) (.seq (.region [(qA (.load 2 true (.g 11))),(qP (.mv (.g 2))),(qA (.call 16 [(.l 1),(.l 0)])),(qB 10 (.new 26 [.nilSlice,.nilSlice])),(qA (.store 2 (.l 0) (.l 1)))]) (.seq (.region [(qA (.load 2 true (.g 10))),(qA (.load 2 true (.g 11))),(qA (.call 23 [(.l 1),(.l 0)])),(qP (.mv (.l 0))),(qP (.ext 0 (.l 0))),(qP (.ext 1 (.l 1))),(qB 8 (.new 53 [.nilSlice,.nilSlice,.nilSlice])),(qA (.store 3 (.l 0) (.l 2))),(qQ 9 (.mv (.l 2)))]) (.seq (.seq (.region [(qP (.mv (.g 9))),(qP (.bin .ne (.l 0) (qC 0))),(qP (.mv (.l 0))),(qR 0 false (.fld 0 (.g 8))),(qS 1 false (.load 1 false (.l 0))),(qR 2 false (.len (.l 0))),(qR 3 false (.fld 1 (.g 10))),(qS 4 false (.load 1 false (.l 0))),(qR 5 false (.len (.l 0))),(qR 6 false (.bin .ne (.l 3) (.l 0))),(qP (.pick (.l 7) (.c (.s (.bool true))) (.l 0))),(qP (.mv (.l 0))),(qR 0 false (.fld 1 (.g 8))),(qS 1 false (.load 1 false (.l 0))),(qR 2 false (.len (.l 0))),(qR 3 false (.fld 1 (.g 10))),(qS 4 false (.load 1 false (.l 0))),(qR 5 false (.len (.l 0))),(qR 6 false (.bin .ne (.l 3) (.l 0))),(qP (.pick (.l 7) (.c (.s (.bool true))) (.l 0))),(qP (.mv (.l 0))),(qR 0 false (.fld 0 (.g 8))),(qS 1 false (.load 1 false (.l 0))),(qR 2 false (.ixs 1 (.l 0) (qC 0))),(qS 3 false (.load 1 false (.l 0))),(qR 4 false (.bin .ne (.l 0) (qC 0))),(qQ 7 (.pick (.l 5) (.c (.s (.bool true))) (.l 0)))]) (.cond (.g 7) (.seq (.region [(qQ 3 (.mv (.c (.s (.bool false)))))]) .ret) .skip)) j9w)))))
theorem qs8:T 12=some (.mk qeq 3 9 [(.tmp 3)]):=by kernel_rfl
def oaB (s:List Bool):Bool:=(List.range (jen s 0).length).all (fun (i:Nat) =>
 decide ((jen s 0).getD i 999<(jbf s).length)&&(!j9z ((jen s 0).take i) ((jen s 0).getD i 0:Nat)&&(i == 0||j9z ((jen s 0).take i) ((jbf s).getD ((jen s 0).getD i 0) 0))))
theorem ql0:(shp 5).all oaB=true:=by kernel_rfl
theorem j9x (s:List Bool) (c:Nat):(jen s c)[0]?=some c:=by
 cases s with
 | nil=>rfl
 | cons b s=>cases b<;>rfl
theorem j0b {s:List Bool} (hs:s.length<=5) {bT:Nat} {x0 x1 x2 x3 x7 x9 x10 x11:AV} {Q:Ex->St->Prop} :
 ∀ (d i:Nat) (_:i+d=(jen s 0).length) {hi:Hp} (_:Ok hi) (_:bT<hi.next) (_:hi.get bT=some (.arr [jah jas (jen s 0),jah jeo (jbf s),jah jas (ji5 s)] 53)) {x4 x5:AV}
  (hQ:∀ x4 x5,Q (.exit 0) (.mk [x0,x1,x2,x3,x4,x5,vi (jen s 0).length,x7,.s (.ptr bT 0),x9,x10,x11] hi)),
  W F14 jvc.loop (.mk [x0,x1,x2,x3,x4,x5,vi i,x7,.s (.ptr bT 0),x9,x10,x11] hi) Q
 | 0,i,hd,hi,ok,hT,xT,x4,x5,hQ=>by
  obtain rfl:i=(jen s 0).length:=by omega
  have ll:=jaj (enc:=jas) (l:=jen s 0)
  rw [jan]
  unfold jvc
  simp (maxSteps:=1000000) (disch:=first|omega|assumption|(simp only [List.length];done)|exact jaa|((repeat (first|apply jac|apply jad));assumption)) only [go_sem,xT,ll,Int.lt_irrefl]
  exact hQ _ _
 | d+1,i,hd,hi,ok,hT,xT,x4,x5,hQ=>by
  have hl:=jit s 0
  have hil:i<(jen s 0).length:=by omega
  have hlt:(i:Int)<((jen s 0).length:Int):=by omega
  have ll:=jaj (enc:=jas) (l:=jen s 0)
  have hss:(i:Int)+1=((i+1:Nat):Int):=by omega
  obtain ⟨b,hb⟩:∃ c,(jen s 0)[i]?=some c:=⟨_,List.getElem?_eq_getElem hil⟩
  have ib:=jak (enc:=jas) (size:=1) hb rfl
  have h1:=jmc ql0 hs
  unfold oaB at h1
  rw [List.all_eq_true] at h1
  have h2:=h1 i (List.mem_range.2 hil)
  simp only [List.getD_eq_getElem?_getD,hb,Option.getD_some,Bool.and_eq_true,decide_eq_true_eq,Bool.not_eq_true',Bool.or_eq_true,beq_iff_eq] at h2
  obtain ⟨h3,h4,h5⟩:=h2
  obtain ⟨c,hc⟩:∃ c,(jbf s)[b]?=some c:=⟨_,List.getElem?_eq_getElem h3⟩
  have ic:=jak (enc:=jeo) (size:=1) hc rfl
  rw [hc] at h5
  simp only [Option.getD_some] at h5
  have sl:=qp6 hil
  have hh:∀ n:Nat,(hi.next<=n/\n<hi.next)=False:=fun n=>eq_false (by omega)
  have htl:((jen s 0).take i).length<=10000:=by rw [List.length_take];omega
  rw [jan]
  unfold jvc j9v j9u
  cases i with
  | zero =>
   simp only [Int.natCast_zero] at hlt ib sl hss
   simp (maxSteps:=1000000) (disch:=first|omega|assumption|(simp only [List.length];done)|exact jaa|((repeat (first|apply jac|apply jad));assumption)) only [go_sem,jag,xT,ll,eq_true hlt,ib,jas,jej,sl,jvb htl h4,hh,hss,Int.lt_irrefl]
   exact j0b hs d (0+1) (by omega) ok hT xT hQ
  | succ i =>
   have p0:(0<((i+1:Nat):Int))=True:=eq_true (by omega)
   have h6:=h5.resolve_left (by omega)
   simp (maxSteps:=1000000) (disch:=first|omega|assumption|(simp only [List.length];done)|exact jaa|((repeat (first|apply jac|apply jad));assumption)) only [go_sem,jag,xT,ll,eq_true hlt,ib,ic,jas,jeo,jej,sl,jvb htl h4,jvb htl h6,hh,hss,p0]
   exact j0b hs d (i+1+1) (by omega) ok hT xT hQ
theorem qp7 {h:Hp} (ok:Ok h) {a b:Int} {l:List Pc} (ha:In6 a) (hb:In6 b) (pin:∀ q∈l,Pin q) {xl:SV} (lx:LstE jbx 7 xl l):WC F14 12 [vi a,vi b,.s xl] h (fun v _=>v=.s (.bool true)):=by
 refine jba (qux rfl rfl rfl rfl rfl rfl rfl rfl rfl rfl rfl rfl rfl rfl) qs8 rfl ?_
 unfold qeq
 obtain ⟨m1,m2⟩:=jp3 a b
 obtain ⟨m,em⟩:∃ m,jiy a b=m:=⟨_,rfl⟩
 rw [em] at m1 m2
 obtain ⟨s,o,_,_⟩:=ju3 m1 m2 l
 obtain ⟨f,ef⟩:∃ f,jdy m l=f:=⟨_,rfl⟩
 rw [ef] at o
 obtain ⟨hA,eA,okA,nA,xA,gA⟩:=jbz ok [.int .i64 0,.int .i64 0] [si m.1,si m.2] 30
 obtain ⟨hB,eB,okB,nB,xB,gB⟩:=jbz okA [.nilSlice,.nilSlice] [jah jas f.values,jah ja4 f.blocks] 26
 obtain ⟨hC,eC,okC,nC,xC,gC⟩:=jbz okB [.nilSlice,.nilSlice,.nilSlice] [jah jas (jen s 0),jah jeo (jbf s),jah jas (ji5 s)] 53
 have yA:=(gB _ (by omega)).trans xA
 have zA:=(gC _ (by omega)).trans yA
 have zB:=(gC _ (by omega)).trans xB
 have nb:hB.next=h.next+2:=by omega
 rw [nA] at eB xB zB
 rw [nb] at eC xC
 have l1:=jaj (enc:=ja4) (l:=f.blocks)
 have l2:=jaj (enc:=jeo) (l:=jbf s)
 have l3:=jaj (enc:=jas) (l:=jen s 0)
 have i0:jxu 1 (.s (jah jas (jen s 0))) (vi 0)=some (.s (.cp (jas 0))):=jak (enc:=jas) (size:=1) (j9x s 0) rfl
 have c1:(((jbf s).length:Int)≠(f.blocks.length:Int))=False:=by rw [jel,o.len];simp
 have c2:(((jen s 0).length:Int)≠(f.blocks.length:Int))=False:=by rw [jit,o.len];simp
 simp (maxSteps:=1000000) (disch:=first|omega|assumption|(simp only [List.length];done)|exact jaa|((repeat (first|apply jac|apply jad));assumption)) only [go_sem,jut,nb,eC,zA,zB,jxp ha hb,em,j37,eA,nA,xA,j9t m1 m2 pin lx,ef,j36,eB,yA,xB,qch o m1 m2,ju4,xC,l1,l2,l3,c1,c2,i0,jas]
 unfold j9w
 simp (maxSteps:=1000000) (disch:=first|omega|assumption|(simp only [List.length];done)|exact jaa|((repeat (first|apply jac|apply jad));assumption)) only [go_sem]
 refine j0b o.hs (jen s 0).length 0 (by omega) okC (by omega) xC (fun x4 x5=>?_)
 simp (maxSteps:=1000000) (disch:=first|omega|assumption|(simp only [List.length];done)|exact jaa|((repeat (first|apply jac|apply jad));assumption)) only [go_sem]
end Go.Proofs.Ytaljcpoopmedmaa.Ev
