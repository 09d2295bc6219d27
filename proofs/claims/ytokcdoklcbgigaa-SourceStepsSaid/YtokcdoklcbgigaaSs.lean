/- Code of functions as the interpreter has it prepared, cut at loops. -/
import Derived.Test.YtokcdoklcbgigaaRh
namespace Go.Proofs.Ytokcdoklcbgigaa.Ev
open Go Go.RowKit
set_option linter.all false
set_option maxRecDepth 100000
def qa3:IC:=(.draw [((qA (.load 2 true (.g 14))),(.some [])),((qA (.load 2 true (.g 15))),(.some [0])),((qP (.mv (.g 3))),.none),((qP (.mv (.g 13))),.none),((qP (.mv (.g 5))),.none),((qA (.call 12 [(.l 0),(qC 100)])),(.some [3,4])),((qP (.bin .add (.l 2) (.l 0))),.none),((qA (.call 13 [(.l 6),(.l 5),(.l 4),(.l 0)])),.none),((qP (.mv (.l 0))),.none),((qP (.ext 0 (.l 0))),.none),((qP (.ext 1 (.l 1))),.none),((qQ 7 (.mv (.l 1))),.none),((qQ 11 (.mv (.l 1))),.none)])
def qgj:IC:=(.seq (.region [(qQ 6 (.mv (.c (.s (.bool false)))))]) (.seq (.region [(qP (.mv (.g 0))),(qP (.mv (.g 1))),(qA (.call 8 [(.l 1),(.l 0)])),(qB 15 (.new 30 [(.int .i64 0),(.int .i64 0)])),(qA (.store 2 (.l 0) (.l 1)))]) (.seq (.region [(qA (.load 2 true (.g 15))),(qP (.mv (.g 2))),(qA (.call 7 [(.l 1),(.l 0)])),(qB 14 (.new 26 [.nilSlice,.nilSlice])),(qA (.store 2 (.l 0) (.l 1)))]) (.seq (.region [(qP (.mv (.g 4))),(qA (.call 12 [(.l 0),(qC 200)])),(qP (.bin .add (qC 2) (.l 0))),(qQ 13 (.mv (.l 0)))]) (.seq (.region [(qA (.load 2 true (.g 14))),(qA (.load 2 true (.g 15))),(qP (.mv (.g 3))),(qP (.mv (.g 13))),(qA (.call 13 [(.l 3),(.l 2),(.l 1),(.l 0)])),(qP (.mv (.l 0))),(qP (.ext 0 (.l 0))),(qP (.ext 1 (.l 1))),(qQ 8 (.mv (.l 1))),(qQ 12 (.mv (.l 1)))]) (.seq qa3 (.seq (.region [(qA (.load 2 true (.g 14))),(qA (.load 2 true (.g 15))),(qP (.mv (.g 3))),(qA (.call 13 [(.l 2),(.l 1),(.l 0),(qC 1)])),(qP (.mv (.l 0))),(qP (.ext 0 (.l 0))),(qP (.ext 1 (.l 1))),(qQ 9 (.mv (.l 1))),(qQ 10 (.mv (.l 1)))]) (.seq (.region [(qP (.mv (.g 12))),(qP (.bin .eq (.l 0) (qC 0))),(qP (.mv (.l 0))),(qR 0 true (.mv (.g 11))),(qR 1 true (.bin .eq (.l 0) (qC 0))),(qP (.pick (.l 2) (.l 0) (.c (.s (.bool false))))),(qP (.mv (.l 0))),(qR 0 true (.mv (.g 10))),(qR 1 true (.bin .eq (.l 0) (qC 0))),(qP (.pick (.l 2) (.l 0) (.c (.s (.bool false))))),(qP (.mv (.l 0))),(qR 0 true (.mv (.g 9))),(qR 1 true (.len (.l 0))),(qR 2 true (.bin .eq (.l 0) (qC 0))),(qP (.pick (.l 3) (.l 0) (.c (.s (.bool false))))),(qP (.mv (.l 0))),(qR 0 true (.mv (.g 8))),(qR 1 true (.len (.l 0))),(qR 2 true (.bin .gt (.l 0) (qC 0))),(qP (.pick (.l 3) (.l 0) (.c (.s (.bool false))))),(qP (.mv (.l 0))),(qR 0 true (.mv (.g 8))),(qR 1 true (.len (.l 0))),(qR 2 true (.mv (.g 7))),(qR 3 true (.len (.l 0))),(qR 4 true (.bin .le (.l 2) (.l 0))),(qP (.pick (.l 5) (.l 0) (.c (.s (.bool false))))),(qP (.mv (.l 0))),(qR 0 true (.mv (.g 8))),(qR 1 true (.len (.l 0))),(qR 2 true (.mv (.g 13))),(qR 3 true (.bin .lt (.l 1) (.l 0))),(qP (.pick (.l 4) (.l 0) (.c (.s (.bool false))))),(qP (.mv (.l 0))),(qR 0 true (.mv (.g 8))),(qR 1 true (.mv (.g 7))),(qR 2 true (.mv (.g 8))),(qR 3 true (.len (.l 0))),(qR 4 true (.slice 4 (.l 2) .none (.some (.l 0)))),(qS 5 true (.call 14 [(.l 4),(.l 0)])),(qP (.pick (.l 6) (.l 0) (.c (.s (.bool false))))),(qQ 6 (.mv (.l 0)))]) .ret))))))))
theorem qtt:T 5=some (.mk qgj 6 10 [(.tmp 6)]):=by kernel_rfl
def qa4:IC:=(.draw [((qP (.mv (.g 0))),.none),((qP (.mv (.g 5))),.none),((qP (.ixs 4 (.l 1) (.l 0))),.none),((qP (.fld 0 (.l 0))),.none),((qA (.load 1 false (.l 0))),(.some [])),((qP (.mv (.g 1))),.none),((qP (.mv (.g 5))),.none),((qP (.ixs 4 (.l 1) (.l 0))),.none),((qP (.fld 0 (.l 0))),.none),((qA (.load 1 false (.l 0))),(.some [4])),((qP (.bin .ne (.l 5) (.l 0))),.none),((qP (.mv (.l 0))),.none),((qR 0 false (.mv (.g 0))),.none),((qR 1 false (.mv (.g 5))),.none),((qR 2 false (.ixs 4 (.l 1) (.l 0))),.none),((qR 3 false (.fld 1 (.l 0))),.none),((qS 4 false (.load 1 false (.l 0))),(.some [])),((qR 5 false (.mv (.g 1))),.none),((qR 6 false (.mv (.g 5))),.none),((qR 7 false (.ixs 4 (.l 1) (.l 0))),.none),((qR 8 false (.fld 1 (.l 0))),.none),((qS 9 false (.load 1 false (.l 0))),(.some [4])),((qR 10 false (.bin .ne (.l 5) (.l 0))),.none),((qP (.pick (.l 11) (.c (.s (.bool true))) (.l 0))),.none),((qP (.mv (.l 0))),.none),((qR 0 false (.mv (.g 0))),.none),((qR 1 false (.mv (.g 5))),.none),((qR 2 false (.ixs 4 (.l 1) (.l 0))),.none),((qR 3 false (.fld 3 (.l 0))),.none),((qS 4 false (.load 1 false (.l 0))),(.some [])),((qR 5 false (.mv (.g 1))),.none),((qR 6 false (.mv (.g 5))),.none),((qR 7 false (.ixs 4 (.l 1) (.l 0))),.none),((qR 8 false (.fld 3 (.l 0))),.none),((qS 9 false (.load 1 false (.l 0))),(.some [4])),((qR 10 false (.bin .ne (.l 5) (.l 0))),.none),((qP (.pick (.l 11) (.c (.s (.bool true))) (.l 0))),.none),((qP (.mv (.l 0))),.none),((qR 0 false (.mv (.g 0))),.none),((qR 1 false (.mv (.g 5))),.none),((qR 2 false (.ixs 4 (.l 1) (.l 0))),.none),((qR 3 false (.fld 2 (.l 0))),.none),((qS 4 false (.load 1 false (.l 0))),(.some [])),((qR 5 false (.mv (.g 1))),.none),((qR 6 false (.mv (.g 5))),.none),((qR 7 false (.ixs 4 (.l 1) (.l 0))),.none),((qR 8 false (.fld 2 (.l 0))),.none),((qS 9 false (.load 1 false (.l 0))),(.some [4])),((qS 10 false (.call 28 [(.l 5),(.l 0)])),.none),((qR 11 false (.not (.l 0))),.none),((qQ 3 (.pick (.l 12) (.c (.s (.bool true))) (.l 0))),.none)])
def qa5:IC:=(.seq (.block 1 (.seq qa4 (.cond (.g 3) (.seq (.region [(qQ 2 (.mv (.c (.s (.bool false)))))]) .ret) .skip))) (.region [(qP (.mv (.g 5))),(qP (.bin .add (.l 0) (qC 1))),(qQ 5 (.mv (.l 0)))]))
def jvg:IC:=(.seq (.seq (.region [(qP (.mv (.g 5))),(qP (.mv (.g 0))),(qP (.len (.l 0))),(qQ 4 (.bin .lt (.l 2) (.l 0)))]) (.cond (.g 4) .skip (.exit 0))) qa5)
def qa6:IC:=(.seq (.seq (.region [(qQ 5 (.mv (qC 0)))]) (.block 0 (.loop jvg))) (.seq (.region [(qQ 2 (.mv (.c (.s (.bool true)))))]) .ret))
def qgk:IC:=(.seq (.region [(qQ 2 (.mv (.c (.s (.bool false)))))]) (.seq (.seq (.region [(qP (.mv (.g 0))),(qP (.len (.l 0))),(qP (.mv (.g 1))),(qP (.len (.l 0))),(qQ 6 (.bin .ne (.l 2) (.l 0)))]) (.cond (.g 6) (.seq (.region [(qQ 2 (.mv (.c (.s (.bool false)))))]) .ret) .skip)) qa6))
theorem qtu:T 14=some (.mk qgk 2 5 [(.tmp 2)]):=by kernel_rfl
def qa7:IC:=(.draw [((qP (.mv (.g 0))),.none),((qP (.mv (.g 5))),.none),((qP (.ixs 1 (.l 1) (.l 0))),.none),((qA (.load 1 false (.l 0))),(.some [])),((qP (.mv (.g 1))),.none),((qP (.mv (.g 5))),.none),((qP (.ixs 1 (.l 1) (.l 0))),.none),((qA (.load 1 false (.l 0))),(.some [3])),((qQ 3 (.bin .ne (.l 4) (.l 0))),.none)])
def qa8:IC:=(.seq (.block 1 (.seq qa7 (.cond (.g 3) (.seq (.region [(qQ 2 (.mv (.c (.s (.bool false)))))]) .ret) .skip))) (.region [(qP (.mv (.g 5))),(qP (.bin .add (.l 0) (qC 1))),(qQ 5 (.mv (.l 0)))]))
def jvh:IC:=(.seq (.seq (.region [(qP (.mv (.g 5))),(qP (.mv (.g 0))),(qP (.len (.l 0))),(qQ 4 (.bin .lt (.l 2) (.l 0)))]) (.cond (.g 4) .skip (.exit 0))) qa8)
def qa9:IC:=(.seq (.seq (.region [(qQ 5 (.mv (qC 0)))]) (.block 0 (.loop jvh))) (.seq (.region [(qQ 2 (.mv (.c (.s (.bool true)))))]) .ret))
def qgl:IC:=(.seq (.region [(qQ 2 (.mv (.c (.s (.bool false)))))]) (.seq (.seq (.region [(qP (.mv (.g 0))),(qP (.len (.l 0))),(qP (.mv (.g 1))),(qP (.len (.l 0))),(qQ 6 (.bin .ne (.l 2) (.l 0)))]) (.cond (.g 6) (.seq (.region [(qQ 2 (.mv (.c (.s (.bool false)))))]) .ret) .skip)) qa9))
theorem qtv:T 28=some (.mk qgl 2 5 [(.tmp 2)]):=by kernel_rfl
open Go Go.RowKit Go.Proofs.Ytokcdoklcbgigaa.Ms
variable {x2 x6:AV} {k:Bool} {g:FuncId} {a b seed:Int} {vs:List AV} {xl:SV}
attribute [local go_sem] f0j f0o f0q decide_eq_true_eq decide_eq_false_iff_not f0e and_true true_and f0n f0m reduceCtorEq decide_true decide_false f0z f0u f0s f0i Option.some.injEq f0k not_true_eq_false not_false_eq_true Hp.next_push Hp.next_put f0t Int.reduceToNat Nat.reduceAdd Nat.reduceMul Nat.reduceEqDiff Int.reduceEq Int.reduceLT Int.reduceLE Int.reduceNeg Int.reduceAdd Int.reduceSub Int.reduceMul Int.reduceNe
attribute [local go_sem ↓] reduceIte
set_option maxHeartbeats 4000000
theorem qqz {F:Fns} {l:List Int} (hl:l.length<=100000) {h:Hp} {Q:Ex->St->Prop} (hQ:∀ x3 x4,Q (.exit 0) (.mk [.s (jah jby l),.s (jah jby l),x2,x3,x4,vi l.length,x6] h)) :
 ∀ (d i:Nat) (_:i+d=l.length) (_:Ok h) {x3 x4:AV},W F jvh.loop (.mk [.s (jah jby l),.s (jah jby l),x2,x3,x4,vi i,x6] h) Q
 | 0,i,hd,ok,x3,x4=>by
  obtain rfl:i=l.length:=by omega
  have ll:=jai (enc:=jby) (l:=l)
  rw [jam]
  unfold jvh
  simp (disch:=first|omega|rfl|apply_rules[jaa,jab,jad]) only [go_sem,ll,f05]
  exact hQ _ _
 | d+1,i,hd,ok,x3,x4=>by
  have hlt:(i:Int)<(l.length:Int):=by omega
  have ll:=jai (enc:=jby) (l:=l)
  obtain ⟨n,hn⟩:∃ n,l[i]?=some n:=⟨_,f0b (by omega)⟩
  have hix:=jaj (enc:=jby) (size:=1) hn rfl
  have hs:(i:Int)+1=((i+1:Nat):Int):=by omega
  rw [jam]
  unfold jvh qa8 qa7
  simp (disch:=first|omega|rfl|apply_rules[jaa,jab,jad]) only [go_sem,jag,ll,eq_true hlt,hix,jby,ne_eq,hs]
  exact qqz hl hQ d (i+1) (by omega) ok
theorem qq0 {F:Fns} {h:Hp} (ok:Ok h) {l:List Int} (hl:l.length<=100000) (hX:jc6 F 28 [.s (jah jby l),.s (jah jby l)] h=none) (hT:qel F 28=T 28) :
 WC F 28 [.s (jah jby l),.s (jah jby l)] h (fun v h'=>∃ d,jgb k h' d v=some (vb true)):=by
 refine jba hX (hT.trans qtv) rfl ?_
 unfold qgl
 have ll:=jai (enc:=jby) (l:=l)
 simp (disch:=first|omega|rfl|apply_rules[jaa,jab,jad]) only [go_sem,ll,ne_eq]
 unfold qa9
 simp (disch:=first|omega|rfl|apply_rules[jaa,jab,jad]) only [go_sem]
 refine qqz hl (fun x3 x4=>?_) l.length 0 (by omega) ok
 simp (disch:=first|omega|rfl|apply_rules[jaa,jab,jad]) only [go_sem]
 exact ⟨1,rfl⟩
def S18 (f:FuncId):Bool:=Nat.beq f 28
noncomputable def F18:Fns:=PX S18 F17
theorem qm1 {h:Hp} {Q:AV->Hp->Prop} {l:List Int} (hl:l.length<=100000):WC F18 28 [.s (jah jby l),.s (jah jby l)] h Q=Q (vb true) h :=
 jaq (jbf rfl (by simp only [jas,jav,ja6,jbx,jaw,ja7,ja5,jbh,ja8,jbc,if_true]) (qq0 jde hl (qri rfl rfl rfl rfl rfl rfl rfl rfl rfl rfl rfl rfl rfl rfl) rfl))
theorem qq1 {l:List Evt} (hl:l.length<=100000) (hr:∀ e∈l,e.read.length<=100000) {h:Hp} {Q:Ex->St->Prop} (hQ:∀ x3 x4,Q (.exit 0) (.mk [.s (jah jeh l),.s (jah jeh l),x2,x3,x4,vi l.length,x6] h)) :
 ∀ (d i:Nat) (_:i+d=l.length) (_:Ok h) {x3 x4:AV},W F18 jvg.loop (.mk [.s (jah jeh l),.s (jah jeh l),x2,x3,x4,vi i,x6] h) Q
 | 0,i,hd,ok,x3,x4=>by
  obtain rfl:i=l.length:=by omega
  have ll:=jai (enc:=jeh) (l:=l)
  rw [jam]
  unfold jvg
  simp (disch:=first|omega|rfl|apply_rules[jaa,jab,jad]) only [go_sem,ll,f05]
  exact hQ _ _
 | d+1,i,hd,ok,x3,x4=>by
  have hlt:(i:Int)<(l.length:Int):=by omega
  have ll:=jai (enc:=jeh) (l:=l)
  obtain ⟨e,hn⟩:∃ n,l[i]?=some n:=⟨_,f0b (by omega)⟩
  have her:=hr e (f0c hn)
  have hix:=jaj (enc:=jeh) (size:=4) hn rfl
  have hs:(i:Int)+1=((i+1:Nat):Int):=by omega
  rw [jam]
  unfold jvg qa5 qa4
  simp (disch:=first|omega|rfl|apply_rules[jaa,jab,jad]) only [go_sem,jag,ll,eq_true hlt,hix,jeh,ne_eq,qm1 her,hs]
  exact qq1 hl hr hQ d (i+1) (by omega) ok
theorem qq2 {h:Hp} (ok:Ok h) {l:List Evt} (hl:l.length<=100000) (hr:∀ e∈l,e.read.length<=100000) :
 WC F18 14 [.s (jah jeh l),.s (jah jeh l)] h (fun v h'=>∃ d,jgb k h' d v=some (vb true)):=by
 refine jba ((ja4 rfl).trans (qri rfl rfl rfl rfl rfl rfl rfl rfl rfl rfl rfl rfl rfl rfl)) qtu rfl ?_
 unfold qgk
 have ll:=jai (enc:=jeh) (l:=l)
 simp (disch:=first|omega|rfl|apply_rules[jaa,jab,jad]) only [go_sem,ll,ne_eq]
 unfold qa6
 simp (disch:=first|omega|rfl|apply_rules[jaa,jab,jad]) only [go_sem]
 refine qq1 hl hr (fun x3 x4=>?_) l.length 0 (by omega) ok
 simp (disch:=first|omega|rfl|apply_rules[jaa,jab,jad]) only [go_sem]
 exact ⟨1,rfl⟩
def S19 (f:FuncId):Bool:=Nat.beq f 14
noncomputable def F19:Fns:=PX S19 F18
theorem qtw {A:Nat->Int}:Env Try.prog A tys F19:=jfr (jfr qqy)
theorem qvj {f:FuncId} (h1:S1 f=false) (h2:Nat.beq f jex.f=false) (h3:S3 f=false) (h4:S4 f=false) (h5:S5 f=false) (h6:S6 f=false) (h7:S7 f=false) (h8:S8 f=false) (h9:S9 f=false) (h10:S10 f=false) (h11:S11 f=false) (h15:S15 f=false) (h16:S16 f=false) (h17:S17 f=false) (h18:S18 f=false) (h19:S19 f=false) {h:Hp}:jc6 F19 f vs h=none:=(ja4 h19).trans ((ja4 h18).trans (qri h1 h2 h3 h4 h5 h6 h7 h8 h9 h10 h11 h15 h16 h17))
section
variable {h:Hp} {m:Nat×Nat} {f:Fc} {s:List Bool} {Q:AV->Hp->Prop}
theorem qd5 (h18:S18 g=false) (h19:S19 g=false):jc6 F19 g vs h=jc6 F17 g vs h:=(ja4 h19).trans (ja4 h18)
theorem qm2 {l:List Evt} (hl:l.length<=100000) (hr:∀ e∈l,e.read.length<=100000):WC F19 14 [.s (jah jeh l),.s (jah jeh l)] h Q=Q (vb true) h :=
 jaq (jbf rfl (by simp only [jas,jav,ja6,jbx,jaw,ja7,ja5,jbh,ja8,jbc,if_true]) (qq2 jde hl hr))
theorem qm3 (o:FlOk m f s) (m1:2<=m.1/\m.1<=10) (m2:2<=m.2/\m.2<=10) (hsd:In6 seed) {steps:Nat} (hst:steps<=5000):jc6 F17 13 [.agg [jah ja1 f.values,jah ja0 f.blocks],.agg [si m.1,si m.2],vi seed,vi steps] h=some (j5h (jqt f seed steps),h) :=
 jbf rfl (by simp only [jas,jav,ja6,jbx,jaw,ja7,ja5,jbh,ja8,jbc,if_true]) (qa1 jde o m1 m2 hsd hst)
theorem jvi (o:FlOk m f s) (m1:2<=m.1/\m.1<=10) (m2:2<=m.2/\m.2<=10) (hsd:In6 seed) {steps:Nat} (hst:steps<=5000):WC F19 13 [.agg [jah ja1 f.values,jah ja0 f.blocks],.agg [si m.1,si m.2],vi seed,vi steps] h Q=Q (j5h (jqt f seed steps)) h :=
 jaq ((qd5 rfl rfl).trans (qm3 o m1 m2 hsd hst))
theorem qm4 (h4:S4 g=false) (h5:S5 g=false) (h6:S6 g=false) (h7:S7 g=false) (h8:S8 g=false) (h9:S9 g=false) (h10:S10 g=false) (h11:S11 g=false):jc6 F11 g vs h=jc6 F3 g vs h :=
 (ja4 h11).trans ((qgb h9 h10).trans ((ja4 h8).trans (qrb h4 h5 h6 h7)))
theorem jx7 (ha:In6 a) (hb:In6 b):WC F19 8 [vi a,vi b] h Q=Q (.agg (qir (jp9 a b))) h:=jaq ((qd5 rfl rfl).trans ((j5c rfl rfl rfl).trans ((qm4 rfl rfl rfl rfl rfl rfl rfl rfl).trans (jr6 ha hb))))
theorem qba {l:List Pc} (m1:2<=m.1/\m.1<=10) (m2:2<=m.2/\m.2<=10) (pin:∀ q∈l,Pin q) (lx:LstE jb7 7 xl l):WC F19 7 [.agg [si m.1,si m.2],.s xl] h Q=Q (.agg (qcu (jer m l))) h:=jaq ((qd5 rfl rfl).trans ((j5c rfl rfl rfl).trans ((qm4 rfl rfl rfl rfl rfl rfl rfl rfl).trans (j8k m1 m2 pin lx))))
theorem jx8 {n:Int} (hn:In6 n) {m:Nat} (hm:0<m/\m<=1000000):WC F19 12 [vi n,vi m] h Q=Q (vi (pk n m)) h:=by
 refine jaq ((qd5 rfl rfl).trans ((j5c rfl rfl rfl).trans ((qm4 rfl rfl rfl rfl rfl rfl rfl rfl).trans ((ja4 rfl).trans (jhr.pk _ h)))) |>.trans ?_)
 rw [jpx hn.1 hn.2 (by omega) (by omega),jbn (by omega)]
end
theorem qm5 {α:Type} {enc:α->List SV} {size:Nat} (hn:∀ a,(enc a).length=size) {xs ys:List α} (hp:xs <+: ys) (hx:xs≠[]):qoq size (some (.s (jah enc ys))) (some (vi xs.length))=some (.s (jah enc xs)):=by
 obtain ⟨r,rfl⟩:=hp
 cases xs with
 | nil=>exact absurd rfl hx
 | cons a xs =>
  have hrows:jvv size (((a::xs)++r).map enc)=true:=by
   show Nat.beq (jcx (enc a)) size=true
   rw [jbj,hn]
   exact f11 _
  have hlen:jcx (((a::xs)++r).map enc)=(a::xs).length+r.length:=by rw [jbj,f1l,f09]
  show oif (Nat.ble (a::xs).length (jcx (((a::xs)++r).map enc))) (oif (Nat.ble 0 (a::xs).length) (oif (jvv size (((a::xs)++r).map enc)) (ob (jbv (Nat.sub (a::xs).length 0) (((a::xs)++r).map enc)) (fun r=>some (AV.s (.lst r)))) none) none) none=_
  rw [hrows,hlen,show Nat.ble (a::xs).length ((a::xs).length+r.length)=true from f2z (by omega),show Nat.ble 0 (a::xs).length=true from f2z (f13 _)]
  show ob (jbv (a::xs).length (((a::xs)++r).map enc)) _=_
  rw [(jbb _).2 ⟨by rw [f1l,f09];omega,rfl⟩]
  have:(((a::xs)++r).map enc).take (a::xs).length=(a::xs).map enc:=by rw [f3e,List.take_left' (by rw [f1l])]
  rw [this]
  rfl
theorem jvj {f:Fc} (rn:RnOk f):∀ (n k i:Nat) (vs:List Int) (e:Int),k<f.blocks.length->∀ v∈goS f seed n k i vs e,v.read.length<=6
 | 0,_,_,_,_,_,v,hv=>by simp [goS] at hv
 | n+1,k,i,vs,e,hk,v,hv=>by
  have hb:f.blocks.getD k jdf∈f.blocks:=by
   rw [f0d,f0b hk]
   exact f2h hk
  unfold goS at hv
  split at hv
  ·rename_i x hx
   rcases f0h.1 hv with rfl | hv
   ·have h1:=jqq vs x.ops []
    have h2:=(rn.ops _ hb x (f0c hx)).2.1
    simp only [f1z,f0i] at h1
    exact f08 h1 h2
   ·exact jvj rn n _ _ _ _ hk v hv
  ·split at hv
   ·simp at hv
   ·rename_i d hd
    obtain ⟨t,h1,_⟩:=rn.edg _ hb d (f0c hd)
    exact jvj rn n _ _ _ _ (f07.1 h1).1 v hv
theorem qd6 (f:Fc) (seed:Int) (n j:Nat):jqt f seed (n+1) <+: jqt f seed (n+1+j):=by
 rw [show n+1+j=(n+j)+1 by omega]
 exact j0x f seed j n 0 0 _ 0
theorem qd7 {f:Fc} (seed:Int) (n:Nat) (h0:H0 f.blocks):jqt f seed (n+2)≠[]:=by
 obtain ⟨b,h1,h2⟩:=h0
 obtain ⟨x,hx⟩:∃ x,b.instrs[0]?=some x:=⟨_,f0b (f1g.2 h2)⟩
 show goS f seed (n+1) 0 0 _ 0≠[]
 rw [j3x h1 hx]
 simp
theorem qbb {h:Hp} (ok:Ok h) {sd st mo:Int} {l:List Pc} (ha:In6 a) (hb:In6 b) (hsd:In6 sd) (hst:In6 st) (hmo:In6 mo) (pin:∀ q∈l,Pin q) (lx:LstE jb7 7 xl l):WC F19 5 [vi a,vi b,.s xl,vi sd,vi st,vi mo] h (fun v _=>v=.s (.bool true)):=by
 refine jba (qvj rfl rfl rfl rfl rfl rfl rfl rfl rfl rfl rfl rfl rfl rfl rfl rfl) qtt rfl ?_
 unfold qgj
 obtain ⟨m1,m2⟩:=j8j a b
 obtain ⟨m,em⟩:∃ m,jp9 a b=m:=⟨_,rfl⟩
 rw [em] at m1 m2
 obtain ⟨s,o,_,_⟩:=qai m1 m2 l
 have hent:=jsf m l
 obtain ⟨f,ef⟩:∃ f,jer m l=f:=⟨_,rfl⟩
 rw [ef] at o hent
 have hpos:=ok.pos
 have rn:=qmw o.k
 obtain ⟨P,eP⟩:∃ P,pk st 200=P:=⟨_,rfl⟩
 obtain ⟨K,eK⟩:∃ K,pk mo 100=K:=⟨_,rfl⟩
 have hP:P<200:=by have:=jfc (n:=st) (m:=200) (by omega);omega
 have hK:K<100:=by have:=jfc (n:=mo) (m:=100) (by omega);omega
 obtain ⟨hA,eA,okA,nA,xA,gA⟩:=jcq ok [.int .i64 0,.int .i64 0] [si m.1,si m.2] 30
 obtain ⟨hB,eB,okB,nB,xB,gB⟩:=jcq okA [.nilSlice,.nilSlice] [jah ja1 f.values,jah ja0 f.blocks] 26
 have yA:=(gB _ (by omega)).trans xA
 rw [nA] at eB xB
 have p1:∀ {h:Hp} {Q:AV->Hp->Prop},WC F19 12 [vi st,vi 200] h Q=Q (vi P) h:=fun {h Q}=>by rw [←eP];exact jx8 (m:=200) hst (by omega)
 have p2:∀ {h:Hp} {Q:AV->Hp->Prop},WC F19 12 [vi mo,vi 100] h Q=Q (vi K) h:=fun {h Q}=>by rw [←eK];exact jx8 (m:=100) hmo (by omega)
 have s1:(2:Int)+(P:Int)=((P+2:Nat):Int):=by omega
 have s2:((P+2:Nat):Int)+(K:Int)=((P+(2+K):Nat):Int):=by omega
 have q1:∀ {h:Hp} {Q:AV->Hp->Prop},WC F19 13 [.agg [jah ja1 f.values,jah ja0 f.blocks],.agg [si m.1,si m.2],vi sd,vi ((P+2:Nat):Int)] h Q=Q (j5h (jqt f sd (P+2))) h:=fun {h Q}=>jvi o m1 m2 hsd (by omega)
 have q2:∀ {h:Hp} {Q:AV->Hp->Prop},WC F19 13 [.agg [jah ja1 f.values,jah ja0 f.blocks],.agg [si m.1,si m.2],vi sd,vi ((P+(2+K):Nat):Int)] h Q=Q (j5h (jqt f sd (P+(2+K)))) h:=fun {h Q}=>jvi o m1 m2 hsd (by omega)
 have q3:∀ {h:Hp} {Q:AV->Hp->Prop},WC F19 13 [.agg [jah ja1 f.values,jah ja0 f.blocks],.agg [si m.1,si m.2],vi sd,vi 1] h Q=Q (j5h []) h:=fun {h Q}=>jvi o m1 m2 hsd (steps:=1) (by omega)
 have hpre:=qd6 f sd (P+1) K
 rw [show P+1+1+K=P+(2+K) by omega] at hpre
 have hne:=qd7 sd P hent
 have hlx:(jqt f sd (P+2)).length<=P+1:=jvf f sd (P+1) _ _ _ _
 have hrd:∀ e∈jqt f sd (P+2),e.read.length<=100000:=fun e he=>by
  have:=jvj rn (P+1) 0 0 (List.replicate f.values.length 0) 0 (by have:=o.k.nb;omega) e he
  omega
 have hpl:=hpre.length_le
 have hxpos:=f1g.2 hne
 obtain ⟨X,eX⟩:∃ X,jqt f sd (P+2)=X:=⟨_,rfl⟩
 obtain ⟨Y,eY⟩:∃ Y,jqt f sd (P+(2+K))=Y:=⟨_,rfl⟩
 have eX':jqt f sd (P+1+1)=X:=eX
 rw [eX',eY] at hpre hpl
 rw [eX] at hne hlx hrd hxpos q1
 rw [eY] at q2
 have lX:=jai (enc:=jeh) (l:=X)
 have lY:=jai (enc:=jeh) (l:=Y)
 have hsl:=qm5 (enc:=jeh) (size:=4) (fun _=>rfl) hpre hne
 have c1:(0<(X.length:Int))=True:=eq_true (by omega)
 have c2:((X.length:Int)<=(Y.length:Int))=True:=eq_true (by omega)
 have c3:((X.length:Int)<((P+2:Nat):Int))=True:=eq_true (by omega)
 have l0:jwr (.s (jah jeh []))=some (vi 0):=rfl
 simp (disch:=first|omega|rfl|apply_rules[jaa,jab,jad]) only [go_sem,jag,jx7 ha hb,em,qir,eA,nA,xA,qba m1 m2 pin lx,ef,qcu,eB,yA,xB,p1,s1,q1,j5h]
 unfold qa3
 simp (disch:=first|omega|rfl|apply_rules[jaa,jab,jad]) only [go_sem,jag,yA,xB,p2,s2,q2,q3,j5h,lX,lY,l0,c1,c2,c3,jgg,hsl,qm2 (show X.length<=100000 by omega) hrd]
end Go.Proofs.Ytokcdoklcbgigaa.Ev
