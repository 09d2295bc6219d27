/- Code of functions as the interpreter has it prepared, cut at loops. -/
import Derived.Test.YtaljcpoopmedmaaOx
import Derived.Test.YtaljcpoopmedmaaGb
namespace Go.Proofs.Ytaljcpoopmedmaa.Ev
open Go Go.RowKit
set_option linter.all false
set_option maxRecDepth 100000
def j8q:IC:=(.seq (.region [(qA (.load 2 true (.g 5))),(qA (.load 2 true (.g 6))),(qA (.call 22 [(.l 1),(.l 0)])),(qP (.bin .eq (.l 0) (qC 16))),(qQ 3 (.mv (.l 0)))]) .ret)
def qc2:IC:=(.seq (.region [(qQ 3 (.mv (.c (.s (.bool false)))))]) (.seq (.region [(qP (.mv (.g 0))),(qP (.mv (.g 1))),(qA (.call 17 [(.l 1),(.l 0)])),(qB 6 (.new 30 [(.int .i64 0),(.int .i64 0)])),(qA (.store 2 (.l 0) (.l 1)))]) (.seq (.region [(qA (.load 2 true (.g 6))),(qP (.mv (.g 2))),(qA (.call 16 [(.l 1),(.l 0)])),(qA (.call 20 [(.l 0)])),(qB 5 (.new 26 [.nilSlice,.nilSlice])),(qA (.store 2 (.l 0) (.l 1)))]) (.seq (.region [(qP (.fld 1 (.g 5))),(qA (.load 1 false (.l 0))),(qP (.build [.nilSlice,.nilSlice,.nilSlice] [])),(qA (.bslice 36 3 [.nilSlice,.nilSlice,.nilSlice] 1 [(0,(3,(.l 0)))])),(qA (.app 36 3 72 (.l 2) (.l 0))),(qP (.fld 1 (.g 5))),(qA (.store 1 (.l 0) (.l 1)))]) (.seq (.seq (.region [(qP (.fld 1 (.g 5))),(qA (.load 1 false (.l 0))),(qP (.len (.l 0))),(qQ 4 (.bin .gt (.l 0) (qC 16)))]) (.cond (.g 4) (.seq (.region [(qA (.load 2 true (.g 5))),(qA (.load 2 true (.g 6))),(qA (.call 22 [(.l 1),(.l 0)])),(qP (.bin .eq (.l 0) (qC 1))),(qQ 3 (.mv (.l 0)))]) .ret) .skip)) j8q)))))
theorem qkz:T 6=some (.mk qc2 3 4 [(.tmp 3)]):=by kernel_rfl
open Go Go.RowKit Go.Proofs.Ytaljcpoopmedmaa.Ms
def edG (s:List Bool):List (List Nat):=(gS s).modify (3*s.length) (fun _=>[3*s.length+1,3*s.length+2])++[[3*s.length+2],[]]
def qk0:List Bool->Nat->List Nat
 | [],c=>[c,c+1,c+2]
 | false::s,c=>c::(c+2)::(c+1)::qk0 s (c+3)
 | true::s,c=>c::(c+1)::(qk0 s (c+3)++[c+2])
def xG (s:List Bool):Prop:=∀ (v:SV) (ps is:Nat->SV) (ags:Nat->Nat->SV),qgo 38 [] (gS s++[[]]) v ps is ags=some (.s (jak ja5 (j8x s 0)))/\qgo 38 [] (edG s) v ps is ags=some (.s (jak ja5 (qk0 s 0)))/\qgo 39 [] (edG s) v ps is ags=some (.s (jak qim (qil (edG s))))
theorem x_:xG []:=fun _ _ _ _=>⟨by kernel_rfl,by kernel_rfl,by kernel_rfl⟩
theorem x_f:xG [false]:=fun _ _ _ _=>⟨by kernel_rfl,by kernel_rfl,by kernel_rfl⟩
theorem x_t:xG [true]:=fun _ _ _ _=>⟨by kernel_rfl,by kernel_rfl,by kernel_rfl⟩
theorem qmi:xG [false,false]:=fun _ _ _ _=>⟨by kernel_rfl,by kernel_rfl,by kernel_rfl⟩
theorem qmj:xG [false,true]:=fun _ _ _ _=>⟨by kernel_rfl,by kernel_rfl,by kernel_rfl⟩
theorem qmk:xG [true,false]:=fun _ _ _ _=>⟨by kernel_rfl,by kernel_rfl,by kernel_rfl⟩
theorem qml:xG [true,true]:=fun _ _ _ _=>⟨by kernel_rfl,by kernel_rfl,by kernel_rfl⟩
theorem qk1:xG [false,false,false]:=fun _ _ _ _=>⟨by kernel_rfl,by kernel_rfl,by kernel_rfl⟩
theorem qk2:xG [false,false,true]:=fun _ _ _ _=>⟨by kernel_rfl,by kernel_rfl,by kernel_rfl⟩
theorem qk3:xG [false,true,false]:=fun _ _ _ _=>⟨by kernel_rfl,by kernel_rfl,by kernel_rfl⟩
theorem qk4:xG [false,true,true]:=fun _ _ _ _=>⟨by kernel_rfl,by kernel_rfl,by kernel_rfl⟩
theorem qk5:xG [true,false,false]:=fun _ _ _ _=>⟨by kernel_rfl,by kernel_rfl,by kernel_rfl⟩
theorem qk6:xG [true,false,true]:=fun _ _ _ _=>⟨by kernel_rfl,by kernel_rfl,by kernel_rfl⟩
theorem qk7:xG [true,true,false]:=fun _ _ _ _=>⟨by kernel_rfl,by kernel_rfl,by kernel_rfl⟩
theorem qk8:xG [true,true,true]:=fun _ _ _ _=>⟨by kernel_rfl,by kernel_rfl,by kernel_rfl⟩
theorem qis:xG [false,false,false,false]:=fun _ _ _ _=>⟨by kernel_rfl,by kernel_rfl,by kernel_rfl⟩
theorem qit:xG [false,false,false,true]:=fun _ _ _ _=>⟨by kernel_rfl,by kernel_rfl,by kernel_rfl⟩
theorem qiu:xG [false,false,true,false]:=fun _ _ _ _=>⟨by kernel_rfl,by kernel_rfl,by kernel_rfl⟩
theorem qiv:xG [false,false,true,true]:=fun _ _ _ _=>⟨by kernel_rfl,by kernel_rfl,by kernel_rfl⟩
theorem qiw:xG [false,true,false,false]:=fun _ _ _ _=>⟨by kernel_rfl,by kernel_rfl,by kernel_rfl⟩
theorem qix:xG [false,true,false,true]:=fun _ _ _ _=>⟨by kernel_rfl,by kernel_rfl,by kernel_rfl⟩
theorem qiy:xG [false,true,true,false]:=fun _ _ _ _=>⟨by kernel_rfl,by kernel_rfl,by kernel_rfl⟩
theorem qiz:xG [false,true,true,true]:=fun _ _ _ _=>⟨by kernel_rfl,by kernel_rfl,by kernel_rfl⟩
theorem qi0:xG [true,false,false,false]:=fun _ _ _ _=>⟨by kernel_rfl,by kernel_rfl,by kernel_rfl⟩
theorem qi1:xG [true,false,false,true]:=fun _ _ _ _=>⟨by kernel_rfl,by kernel_rfl,by kernel_rfl⟩
theorem qi2:xG [true,false,true,false]:=fun _ _ _ _=>⟨by kernel_rfl,by kernel_rfl,by kernel_rfl⟩
theorem qi3:xG [true,false,true,true]:=fun _ _ _ _=>⟨by kernel_rfl,by kernel_rfl,by kernel_rfl⟩
theorem qi4:xG [true,true,false,false]:=fun _ _ _ _=>⟨by kernel_rfl,by kernel_rfl,by kernel_rfl⟩
theorem qi5:xG [true,true,false,true]:=fun _ _ _ _=>⟨by kernel_rfl,by kernel_rfl,by kernel_rfl⟩
theorem qi6:xG [true,true,true,false]:=fun _ _ _ _=>⟨by kernel_rfl,by kernel_rfl,by kernel_rfl⟩
theorem qi7:xG [true,true,true,true]:=fun _ _ _ _=>⟨by kernel_rfl,by kernel_rfl,by kernel_rfl⟩
theorem qk9:∀ (s:List Bool),s.length<=4->xG s
 | [],_=>x_
 | [false],_=>x_f
 | [true],_=>x_t
 | [false,false],_=>qmi
 | [false,true],_=>qmj
 | [true,false],_=>qmk
 | [true,true],_=>qml
 | [false,false,false],_=>qk1
 | [false,false,true],_=>qk2
 | [false,true,false],_=>qk3
 | [false,true,true],_=>qk4
 | [true,false,false],_=>qk5
 | [true,false,true],_=>qk6
 | [true,true,false],_=>qk7
 | [true,true,true],_=>qk8
 | [false,false,false,false],_=>qis
 | [false,false,false,true],_=>qit
 | [false,false,true,false],_=>qiu
 | [false,false,true,true],_=>qiv
 | [false,true,false,false],_=>qiw
 | [false,true,false,true],_=>qix
 | [false,true,true,false],_=>qiy
 | [false,true,true,true],_=>qiz
 | [true,false,false,false],_=>qi0
 | [true,false,false,true],_=>qi1
 | [true,false,true,false],_=>qi2
 | [true,false,true,true],_=>qi3
 | [true,true,false,false],_=>qi4
 | [true,true,false,true],_=>qi5
 | [true,true,true,false],_=>qi6
 | [true,true,true,true],_=>qi7
 | _::_::_::_::_::_,h=>absurd h (by simp)
attribute [local go_sem] Int.cast_ofNat_Int Int.natCast_zero Int.natCast_one decide_eq_true_eq decide_eq_false_iff_not Bool.false_eq_true and_true true_and List.cons_append List.nil_append reduceCtorEq decide_true decide_false Bool.not_true Bool.not_false Nat.add_zero Nat.zero_add Option.some.injEq Bool.true_eq_false not_true_eq_false not_false_eq_true Hp.next_push Hp.next_put Nat.add_assoc Int.reduceToNat Nat.reduceAdd Nat.reduceMul Nat.reduceEqDiff Int.reduceEq Int.reduceLT Int.reduceLE Int.reduceNeg Int.reduceAdd Int.reduceSub Int.reduceMul Int.reduceNe
attribute [local go_sem ↓] reduceIte
set_option maxHeartbeats 2000000
theorem qi8 {h:Hp} (ok:Ok h) {f:Fc} (hb:16<f.blocks.length):WC F3 34 [.agg [jak ja5 f.values,jak ja7 f.blocks]] h (fun v h'=>∃ d,jhf true h' d v=some (vi 1)):=by
 refine ja9 (no3 rfl rfl rfl) qln rfl ?_
 unfold qfa
 obtain ⟨hA,eA,okA,nA,xA,gA⟩:=je5 ok [jak ja5 f.values,jak ja7 f.blocks] 26
 have ll:=jan (enc:=ja7) (l:=f.blocks)
 have c1:((f.blocks.length:Int)<1)=False:=eq_false (by omega)
 have c2:(16<(f.blocks.length:Int))=True:=eq_true (by omega)
 simp (disch:=first|omega|simp only[List.length]|apply_rules[jaa,jac,jad]) only [go_sem,eA,xA,ll,c1,c2]
 exact ⟨1,rfl⟩
section
variable {h:Hp} {f:Fc} {m:Nat×Nat} {Q:AV->Hp->Prop}
theorem qgg (hb:16<f.blocks.length):WC F6 34 [.agg [jak ja5 f.values,jak ja7 f.blocks]] h Q=Q (vi 1) h :=
 jau ((ja4 rfl).trans ((ja4 rfl).trans (jb7 rfl (by simp only [ja2,jbb,jbr,jdz,jbc,jbs,jbn,jcu,jbt,jb8,if_true]) (qi8 jem hb))))
theorem qgh (ok:Ok h) (hb:16<f.blocks.length) (m1:2<=m.1/\m.1<=10) (m2:2<=m.2/\m.2<=10):WC F6 19 [.agg [jak ja5 f.values,jak ja7 f.blocks],.agg [si m.1,si m.2]] h (fun v h'=>∃ d,jhf true h' d v=some (vi 1)):=by
 refine ja9 (no6 rfl rfl rfl rfl rfl rfl) qib rfl ?_
 unfold j7k
 obtain ⟨hA,eA,okA,nA,xA,gA⟩:=je5 ok [jak ja5 f.values,jak ja7 f.blocks] 26
 obtain ⟨hB,eB,okB,nB,xB,gB⟩:=je5 okA [si m.1,si m.2] 30
 have yA:=(gB _ (by omega)).trans xA
 rw [nA] at xB
 simp (disch:=first|omega|simp only[List.length]|apply_rules[jaa,jac,jad]) only [go_sem,eA,eB,nA,xB,qcp m1 m2]
 unfold jy9
 simp (disch:=first|omega|simp only[List.length]|apply_rules[jaa,jac,jad]) only [go_sem,yA,qgg hb]
 exact ⟨1,rfl⟩
theorem j8r (hb:16<f.blocks.length) (m1:2<=m.1/\m.1<=10) (m2:2<=m.2/\m.2<=10):WC F10 19 [.agg [jak ja5 f.values,jak ja7 f.blocks],.agg [si m.1,si m.2]] h Q=Q (vi 1) h :=
 jau ((qin rfl rfl).trans ((ja4 rfl).trans (jb7 rfl (by simp only [ja2,jbb,jbr,jdz,jbc,jbs,jbn,jcu,jbt,jb8,if_true]) (qgh jem hb m1 m2))))
theorem qgi (ok:Ok h) (hb:16<f.blocks.length) (m1:2<=m.1/\m.1<=10) (m2:2<=m.2/\m.2<=10):WC F10 22 [.agg [jak ja5 f.values,jak ja7 f.blocks],.agg [si m.1,si m.2]] h (fun v h'=>∃ d,jhf true h' d v=some (vi 1)):=by
 refine ja9 (qkv rfl rfl rfl rfl rfl rfl rfl rfl rfl rfl) j79 rfl ?_
 unfold jul
 obtain ⟨hA,eA,okA,nA,xA,gA⟩:=je5 ok [jak ja5 f.values,jak ja7 f.blocks] 26
 obtain ⟨hB,eB,okB,nB,xB,gB⟩:=je5 okA [si m.1,si m.2] 30
 have yA:=(gB _ (by omega)).trans xA
 rw [nA] at xB
 simp (disch:=first|omega|simp only[List.length]|apply_rules[jaa,jac,jad]) only [go_sem,eA,eB,nA,yA,xB,j8r hb m1 m2]
 exact ⟨1,rfl⟩
theorem j8s (k:FcOk m f) (on:jey f=0) (m1:2<=m.1/\m.1<=10) (m2:2<=m.2/\m.2<=10):WC F10 19 [.agg [jak ja5 f.values,jak ja7 f.blocks],.agg [si m.1,si m.2]] h Q=Q (vi 0) h :=
 jau ((qin rfl rfl).trans ((ja4 rfl).trans (by rw [qct k m1 m2,on];rfl)))
theorem j8t {s:List Bool} (hs:s.length<=4) (hg:grL f.blocks=gS s++[[]]) (hne:f.blocks≠[]):WC F10 38 [.agg [jak ja5 f.values,jak ja7 f.blocks]] h Q=Q (.s (jak ja5 (j8x s 0))) h :=
 jau ((qin rfl rfl).trans (jb7 rfl (by simp only [ja2,jbb,jbr,jdz,jbc,jbs,jbn,jcu,jbt,jb8,if_true]) (by rw [qga hne,hg];exact j7x (qk9 s hs _ _ _ _).1)))
theorem qa0 (ok:Ok h) {s:List Bool} (k:FcOk m f) (on:jey f=0) (hs:s.length<=4) (hg:grL f.blocks=gS s++[[]]) (m1:2<=m.1/\m.1<=10) (m2:2<=m.2/\m.2<=10):WC F10 22 [.agg [jak ja5 f.values,jak ja7 f.blocks],.agg [si m.1,si m.2]] h (fun v h'=>∃ d,jhf true h' d v=some (vi 16)):=by
 refine ja9 (qkv rfl rfl rfl rfl rfl rfl rfl rfl rfl rfl) j79 rfl ?_
 unfold jul
 have hne:f.blocks≠[]:=List.length_pos_iff.1 (by have:=k.nb;omega)
 have hlen:f.blocks.length=2+3*s.length:=by rw [←jdv,hg,List.length_append,j1p];simp;omega
 obtain ⟨hA,eA,okA,nA,xA,gA⟩:=je5 ok [jak ja5 f.values,jak ja7 f.blocks] 26
 obtain ⟨hB,eB,okB,nB,xB,gB⟩:=je5 okA [si m.1,si m.2] 30
 have yA:=(gB _ (by omega)).trans xA
 rw [nA] at xB
 have l2:=jan (enc:=ja7) (l:=f.blocks)
 have l3:=jan (enc:=ja5) (l:=j8x s 0)
 have c1:(((j8x s 0).length:Int)<(f.blocks.length:Int))=True:=eq_true (by rw [jun,hlen];omega)
 have hh:(hB.next<=h.next/\h.next<hB.next)=False:=eq_false (by omega)
 simp (disch:=first|omega|simp only[List.length]|apply_rules[jaa,jac,jad]) only [go_sem,eA,eB,nA,yA,xB,j8s k on m1 m2]
 unfold jwo jwn
 simp (disch:=first|omega|simp only[List.length]|apply_rules[jaa,jac,jad]) only [go_sem,yA,xB,j8t hs hg hne,l3,l2,c1,hh]
 exact ⟨1,rfl⟩
end
def j3d (f:Fc):Fc:=⟨f.values,f.blocks++[⟨[],[],[]⟩]⟩
theorem qi9 {m:Nat×Nat} {f:Fc} (k:FcOk m f) (hb:f.blocks.length<=15) (on:jey f=0):FcOk m (j3d f)/\jey (j3d f)=0:=by
 have nb:=k.nb
 have mem:∀ {b:Ms.Blk},b∈(j3d f).blocks->b∈f.blocks∨b=⟨[],[],[]⟩:=fun hb=>by
  rcases List.mem_append.1 hb with h | h
  ·exact .inl h
  ·exact .inr (List.mem_singleton.1 h)
 refine ⟨⟨by simp [j3d];omega,k.nv,k.cls,fun b hb=>?_,?_,fun b hb x hx=>?_,fun b hb h=>?_,fun b hb e he=>?_,fun b hb=>?_,fun b hb v hv=>?_⟩,?_⟩
 ·rcases mem hb with h | rfl
  ·exact k.blk b h
  ·simp
 ·have:=k.all
  unfold j3d
  simp only [jmi]
  have e0:sm [(⟨[],[],[]⟩:Ms.Blk)]=0:=rfl
  omega
 ·rcases mem hb with h | rfl
  ·exact k.ins b h x hx
  ·simp at hx
 ·rcases mem hb with h1 | rfl
  ·exact k.par b h1 h
  ·simp at h
 ·rcases mem hb with h | rfl
  ·obtain ⟨h1,h2,t,h3,h4⟩:=k.edg b h e he
   exact ⟨h1,h2,t,by unfold j3d;simp only;rw [List.getElem?_append_left (List.getElem?_eq_some_iff.1 h3).1];exact h3,h4⟩
  ·simp at he
 ·unfold j3d at hb
  simp only at hb
  rw [List.getElem?_append_left (by omega)] at hb
  exact k.ent b hb
 ·rcases mem hb with h | rfl
  ·exact k.prm b h v hv
  ·simp at hv
 ·have e:jbp (j3d f).blocks=jbp f.blocks:=by
   unfold j3d
   simp only [jgx]
   rw [show jbp [(⟨[],[],[]⟩:Ms.Blk)]=[] from rfl,List.append_nil]
  unfold jey at on ⊢
  rw [e]
  exact on
section
variable {h:Hp} {f:Fc} {m:Nat×Nat} {x:AV} {na nb:List Nat} {Q:AV->Hp->Prop}
theorem qa1 (o:OF h x f na nb) (hb:16<f.blocks.length) (m1:2<=m.1/\m.1<=10) (m2:2<=m.2/\m.2<=10):WC F11 22 [x,.agg [si m.1,si m.2]] h Q=Q (vi 1) h :=
 jau (o.call2 (fun e=>by rw [e] at hb;simp at hb) rfl (qgi jem hb m1 m2))
theorem j8u (o:OF h x f na nb) {s:List Bool} (k:FcOk m f) (on:jey f=0) (hs:s.length<=4) (hg:grL f.blocks=gS s++[[]]) (m1:2<=m.1/\m.1<=10) (m2:2<=m.2/\m.2<=10):WC F11 22 [x,.agg [si m.1,si m.2]] h Q=Q (vi 16) h :=
 jau (o.call2 (List.length_pos_iff.1 (by have:=k.nb;omega)) rfl (qa0 jem k on hs hg m1 m2))
theorem jwy {a b:Int} (ha:In6 a) (hb:In6 b):WC F11 17 [vi a,vi b] h Q=Q (.agg (qe7 (jpv a b))) h:=jau ((ja4 rfl).trans ((qin rfl rfl).trans ((ja4 rfl).trans ((qij rfl rfl rfl rfl).trans (jrj ha hb)))))
theorem j8v {l:List Pc} (m1:2<=m.1/\m.1<=10) (m2:2<=m.2/\m.2<=10) (pin:∀ q∈l,Pin q) {xl:SV} (lx:LstE jb5 7 xl l):WC F11 16 [.agg [si m.1,si m.2],.s xl] h Q=Q (.agg (jq8 (jdl m l))) h:=jau ((ja4 rfl).trans ((qin rfl rfl).trans ((ja4 rfl).trans ((qij rfl rfl rfl rfl).trans (j6k m1 m2 pin lx)))))
end
theorem qa2 {h:Hp} (ok:Ok h) {a b:Int} {l:List Pc} (ha:In6 a) (hb:In6 b) (pin:∀ q∈l,Pin q) {xl:SV} (lx:LstE jb5 7 xl l):WC F11 6 [vi a,vi b,.s xl] h (fun v _=>v=.s (.bool true)):=by
 refine ja9 (qlq rfl rfl rfl rfl rfl rfl rfl rfl rfl rfl rfl) qkz rfl ?_
 unfold qc2
 obtain ⟨m1,m2⟩:=j6i a b
 obtain ⟨m,em⟩:∃ m,jpv a b=m:=⟨_,rfl⟩
 rw [em] at m1 m2
 obtain ⟨s,o,kp,_⟩:=qgb m1 m2 l
 obtain ⟨f,ef⟩:∃ f,jdl m l=f:=⟨_,rfl⟩
 rw [ef] at o kp
 have hpos:=ok.pos
 have knb:=o.k.nb
 obtain ⟨hA,eA,okA,nA,xA,gA⟩:=jda ok [.int .i64 0,.int .i64 0] [si m.1,si m.2] 30
 simp (disch:=first|omega|simp only[List.length]|apply_rules[jaa,jac,jad]) only [go_sem,jwy ha hb,em,qe7,eA,xA,j8v m1 m2 pin lx,ef]
 refine WC.imp (jzf okA (j1x o.k) (qlq rfl rfl rfl rfl rfl rfl rfl rfl rfl rfl rfl) rfl) ?_
 rintro v hC ⟨na,nb,oC,okC,nC,gC,lC⟩
 obtain ⟨ga,gb,rfl⟩:∃ ga gb,v=AV.agg [ga,gb]:=by obtain ⟨⟨a,b,e,_⟩,_⟩:=oC;exact ⟨a,b,e⟩
 obtain ⟨hD,eD,okD,nD,xD,gD⟩:=jda okC [.nilSlice,.nilSlice] [ga,gb] 26
 have oD:=oC.keep (h':=hD) (fun n hn=>gD n (oC.lt n hn).2) (by omega)
 obtain ⟨hE,eE,okE,nE,xE,gE⟩:=je5 okD [.nilSlice,.nilSlice,.nilSlice] 36
 have oE:=oD.keep (h':=hE) (fun n hn=>gE n (oD.lt n hn).2) (by omega)
 obtain ⟨gb',hF,nb',eF,okF,nF,gF,oF,lF⟩:=oE.addB okE (by omega) (bb:=hD.next) (rows:=[[.nilSlice,.nilSlice,.nilSlice]]) (l:=[⟨[],[],[]⟩]) (ms:=[]++[]) (by rw [xE];rfl)
  (.cons rfl ⟨_,_,_,[],[],[],false,rfl,.nil,.nil,.nil,rfl⟩ .nil) (by simp) (by simp) .nil (N:=hC.next) (by omega) (fun n hn=>(oC.lt n hn).2) (by omega) (fun n hn=>by simp at hn)
 have ncb:hC.next∉nb:=fun hc=>by have:=oC.lt _ (List.mem_append_right _ hc);omega
 have yD:=(gF hC.next (by omega) ncb).trans ((gE _ (by omega)).trans xD)
 obtain ⟨hG,eG,okG,nG,xG,gG⟩:=qcw okF (b:=hC.next) (by omega) (some (.arr [ga,gb'] 26))
 have oG:=oF.keep (h':=hG) (fun n hn=>gG n (fun e=>by
  subst e
  rcases List.mem_append.1 hn with hn | hn
  ·have:=oC.lt _ (List.mem_append_left _ hn);omega
  ·rcases lF _ hn with hn | hn | hn
   ·exact ncb hn
   ·simp at hn
   ·omega)) (by omega)
 have pA:hG.get h.next=some (.arr [si m.1,si m.2] 30):=by
  rw [gG _ (by omega),gF _ (by omega) (fun hc=>by have:=lC _ (List.mem_append_right _ hc);omega),gE _ (by omega),gD _ (by omega),gC _ (by omega)];exact xA
 have lb:jvo (.s gb')=some (vi (f.blocks.length+1:Nat)):=by
  obtain ⟨⟨a,b,e,_,s⟩,_⟩:=oG
  cases e
  have:=s.len
  rw [List.length_append] at this
  exact this
 have eF':jjk hE 36 3 72 (.s gb) (.s (.slice (hC.next+1) 0 1 1 true 3))=some (.s gb',hF):=by rw [←nD];exact eF
 have hlen:=o.len
 have hsl:=o.hs
 by_cases h5:s.length=5
 ·have c1:(16<((f.blocks.length+1:Nat):Int))=True:=eq_true (by omega)
  simp (disch:=first|omega|simp only[List.length]|apply_rules[jaa,jac,jad]) only [go_sem,eD,xD,eE,nD,eF',yD,eG,xG,lb,c1,pA,qa1 oG (by simp;omega) m1 m2]
 ·have c1:(16<((f.blocks.length+1:Nat):Int))=False:=eq_false (by omega)
  obtain ⟨dk,dn⟩:=qi9 o.k (by omega) o.on
  have hg:grL (j3d f).blocks=gS s++[[]]:=by rw [←o.hg];unfold j3d grL;simp [qf4]
  simp (disch:=first|omega|simp only[List.length]|apply_rules[jaa,jac,jad]) only [go_sem,eD,xD,eE,nD,eF',yD,eG,xG,lb,c1]
  unfold j8q
  simp (disch:=first|omega|simp only[List.length]|apply_rules[jaa,jac,jad]) only [go_sem,xG,pA,j8u (f:=j3d f) oG dk dn (by omega) hg m1 m2]
end Go.Proofs.Ytaljcpoopmedmaa.Ev
