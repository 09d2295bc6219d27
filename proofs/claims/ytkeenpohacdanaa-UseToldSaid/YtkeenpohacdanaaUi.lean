/- Is each value made where it is used? What the code tells. -/
import Derived.Test.YtkeenpohacdanaaUe
import Derived.Test.YtkeenpohacdanaaGT1
import Derived.Test.YtkeenpohacdanaaGT3
import Derived.Test.YtkeenpohacdanaaGT5
import Derived.Test.YtkeenpohacdanaaGT7
namespace Go.Proofs.Ytkeenpohacdanaa.Ev
noncomputable section
open Go Go.RowKit Go.Proofs.Ytkeenpohacdanaa.Ms
attribute [local go_sem] Int.reduceToNat reduceCtorEq Nat.reduceAdd Nat.reduceMul Nat.reduceEqDiff Int.reduceEq Int.reduceLT Int.reduceLE Int.reduceNeg Int.reduceAdd Int.reduceSub Int.reduceMul Int.reduceNe
attribute [local go_sem ↓] reduceIte
set_option linter.all false
set_option maxRecDepth 100000
set_option maxHeartbeats 2000000
variable {x0 x1 x2 x3 x12 x13 x14 x15 x16 x17 x18 x19 x20 x21 x22 x23 x24 x25 x26 x27 x29 x30 x31 x32 x33:AV} {r:Bool} {n:Int} {vs:List AV} {idom:List Int} {a v bB:Nat}
def S8 (f:FuncId):Bool:=Nat.beq f 74||(Nat.beq f 55||(Nat.beq f 25||(Nat.beq f 26||(Nat.beq f 28||Nat.beq f 29))))
def F8:Fns:=PX S8 F7
theorem qq5 {A:Nat->Int}:Env Try.prog A tys F8:=jg1 qqr
theorem no8 {f:FuncId} (h1:S1 f=false) (h2:Nat.beq f jfk.f=false) (h3:S3 f=false) (h4:S4 f=false) (h5:S5 f=false) (h6:S6 f=false) (h7:S7 f=false) (h8:S8 f=false) {h:Hp}:jdg F8 f vs h=none:=(jbg h8).trans (no7 h1 h2 h3 h4 h5 h6 h7)
def S9 (f:FuncId):Bool:=Nat.beq f 56
def F9:Fns:=PX S9 F8
theorem qq6 {A:Nat->Int}:Env Try.prog A tys F9:=jg1 qq5
theorem no9 {f:FuncId} (h1:S1 f=false) (h2:Nat.beq f jfk.f=false) (h3:S3 f=false) (h4:S4 f=false) (h5:S5 f=false) (h6:S6 f=false) (h7:S7 f=false) (h8:S8 f=false) (h9:S9 f=false) {h:Hp}:jdg F9 f vs h=none:=(jbg h9).trans (no8 h1 h2 h3 h4 h5 h6 h7 h8)
theorem qh4 {h:Hp} {Q:AV->Hp->Prop} {b:Int} (hd:Dom idom a b):WC F8 74 [.s (jaf jhv idom),vi a,vi b] h Q=Q (vb true) h :=
 jap (jbh rfl (by simp only[jav,ja3,jbc,jcv,ja4,jbd,ja8,jbt,jbe,jbi,if_true]) (qfe jec hd))
def KP (idom:List Int) (p:Nat×Int) (k:Nat) (i:Nat):Prop:=(p.1=k/\p.2<(i:Int))∨(p.1≠k/\Dom idom p.1 k)
theorem j66 {h:Hp} (ok:Ok h) {k i:Nat} (hk:KP idom (a,n) k i):WC F8 56 [.s (jaf jhv idom),.agg [si a,si n],.agg [si k,si i]] h (fun v h'=>∃ d,jfq true h' d v=some (vb true)):=by
 refine ja9 (no8 rfl rfl rfl rfl rfl rfl rfl rfl) j6y rfl ?_
 unfold jtr
 obtain⟨hA,eA,okA,nA,xA,gA⟩:=jed ok [si a,si n] 110
 obtain⟨hB,eB,okB,nB,xB,gB⟩:=jed okA [si k,si i] 110
 have yA:=(gB _ (by omega)).trans xA
 rw[nA] at xB
 rcases hk with⟨h1,h2⟩ | ⟨h1,h2⟩
 .simp only at h1 h2
  have c1:((a:Int)=(k:Int))=True:=by simp;omega
  have c2:(n<(i:Int))=True:=eq_true h2
  simp(disch:=first|omega|rfl) only[go_sem,eA,nA,eB,yA,xB,c1,c2]
  exact⟨1,rfl⟩
 .simp only at h1 h2
  have c1:((a:Int)=(k:Int))=False:=by simp;omega
  simp(disch:=first|omega|rfl) only[go_sem,eA,nA,eB,yA,xB,c1]
  unfold jvx
  simp(disch:=first|omega|rfl) only[go_sem,yA,xB,qh4 h2]
  exact⟨1,rfl⟩
theorem jv5 {h:Hp} {Q:AV->Hp->Prop} {k i:Nat} (hk:KP idom (a,n) k i):WC F9 56 [.s (jaf jhv idom),.agg [si a,si n],.agg [si k,si i]] h Q=Q (vb true) h :=
 jap (jbh rfl (by simp only[jav,ja3,jbc,jcv,ja4,jbd,ja8,jbt,jbe,jbi,if_true]) (j66 jec hk))
def KT (idom:List Int) (T:List (Nat×Int)) (v k i:Nat):Prop:=∃ p,T[v]?=some p/\KP idom p k i
theorem qbw {T:List (Nat×Int)} {l:List Nat} {b:Blk} {k:Nat} (hl:l.length<=10000) (hp:∀ v∈l,KT idom T v k b.instrs.length) {x9 x10 x11:AV} {Q:Ex->St->Prop} :
 ∀ (d j:Nat) (_:j+d=l.length) {hi:Hp} (_:Ok hi) (_:hi.get bB=some (.arr [jaf jay b.params,jaf jdz b.instrs,jaf jfj b.edges] 36)) {x3 x4 x6:AV}
  (hQ:∀ x3 x4 x6,Q (.exit 8) (.mk [x0,.s (jaf jhv idom),x2,x3,x4,.s (jaf jay l),x6,vi l.length,vi l.length,x9,x10,x11,x12,x13,x14,x15,vi k,.s (jaf jg9 T),x18,x19,x20,x21,x22,x23,x24,x25,x26,x27,.s (.ptr bB 0),x29,x30,x31,x32,x33] hi)),
  W F9 jj0.loop (.mk [x0,.s (jaf jhv idom),x2,x3,x4,.s (jaf jay l),x6,vi l.length,vi j,x9,x10,x11,x12,x13,x14,x15,vi k,.s (jaf jg9 T),x18,x19,x20,x21,x22,x23,x24,x25,x26,x27,.s (.ptr bB 0),x29,x30,x31,x32,x33] hi) Q
 | 0,j,hd,hi,ok,xB,x3,x4,x6,hQ=>by
  obtain rfl:j=l.length:=by omega
  rw[jak]
  unfold jj0
  simp(disch:=first|omega|rfl) only[go_sem,f0v]
  exact hQ _ _ _
 | d+1,j,hd,hi,ok,xB,x3,x4,x6,hQ=>by
  have hlt:(j:Int)<(l.length:Int):=by omega
  obtain⟨v,hio⟩:∃ y,l[j]?=some y:=⟨_,f0c (by omega)⟩
  obtain⟨⟨pb,pn⟩,h1,h2⟩:=hp v (f0b hio)
  have hix:=jag (enc:=jay) (size:=1) hio rfl
  have hxs:=jag (enc:=jg9) (size:=2) h1 rfl
  have hs:(j:Int)+1=((j+1:Nat):Int):=by omega
  have l1:=jaj (enc:=jdz) (l:=b.instrs)
  rw[jak]
  unfold jj0 jvu jvt
  simp(disch:=first|omega|rfl) only[go_sem,jad,eq_true hlt,hix,jay,hxs,jg9,xB,l1,jv5 h2,hs]
  exact qbw hl hp d (j+1) (by omega) ok xB hQ
theorem qbx {T:List (Nat×Int)} {l:List Ms.Edg} {b:Blk} {k:Nat} (hl:l.length<=10000) (hp:∀ e∈l,e.args.length<=10000/\∀ v∈e.args,KT idom T v k b.instrs.length) {Q:Ex->St->Prop} :
 ∀ (d j:Nat) (_:j+d=l.length) {hi:Hp} (_:Ok hi) (_:bB<hi.next) (_:hi.get bB=some (.arr [jaf jay b.params,jaf jdz b.instrs,jaf jfj b.edges] 36)) {x3 x4 x5 x6 x7 x8 x9 x11:AV}
  (hQ:∀ hj x3 x4 x5 x6 x7 x8 x9 x11,Ok hj->hi.next<=hj.next->(∀ n,n<hi.next->hj.get n=hi.get n)->Q (.exit 6) (.mk [x0,.s (jaf jhv idom),x2,x3,x4,x5,x6,x7,x8,x9,.s (jaf jfj l),x11,vi l.length,vi l.length,x14,x15,vi k,.s (jaf jg9 T),x18,x19,x20,x21,x22,x23,x24,x25,x26,x27,.s (.ptr bB 0),x29,x30,x31,x32,x33] hj)),
  W F9 jj1.loop (.mk [x0,.s (jaf jhv idom),x2,x3,x4,x5,x6,x7,x8,x9,.s (jaf jfj l),x11,vi l.length,vi j,x14,x15,vi k,.s (jaf jg9 T),x18,x19,x20,x21,x22,x23,x24,x25,x26,x27,.s (.ptr bB 0),x29,x30,x31,x32,x33] hi) Q
 | 0,j,hd,hi,ok,hb,xB,x3,x4,x5,x6,x7,x8,x9,x11,hQ=>by
  obtain rfl:j=l.length:=by omega
  rw[jak]
  unfold jj1
  simp(disch:=first|omega|rfl) only[go_sem,f0v]
  exact hQ hi _ _ _ _ _ _ _ _ ok (f0e _) (fun _ _=>rfl)
 | d+1,j,hd,hi,ok,hb,xB,x3,x4,x5,x6,x7,x8,x9,x11,hQ=>by
  have hlt:(j:Int)<(l.length:Int):=by omega
  obtain⟨e,hio⟩:∃ y,l[j]?=some y:=⟨_,f0c (by omega)⟩
  obtain⟨he1,he2⟩:=hp e (f0b hio)
  have hix:=jag (enc:=jfj) (size:=2) hio rfl
  have hs:(j:Int)+1=((j+1:Nat):Int):=by omega
  obtain⟨hA,eA,okA,nA,xA,gA⟩:=jcm ok [.int .i64 0,.nilSlice] (jfj e) 73
  have yB:=(gA _ hb).trans xB
  have l1:=jaj (enc:=jay) (l:=e.args)
  unfold jfj at xA eA
  rw[jak]
  unfold jj1 jvv
  simp(disch:=first|omega|rfl) only[go_sem,jad,eq_true hlt,hix,jfj,eA,xA,l1]
  refine qbw he1 he2 e.args.length 0 (by omega) okA yB (fun x3 x4 x6=>?_)
  simp(disch:=first|omega|rfl) only[go_sem,jad,hs]
  exact qbx hl hp d (j+1) (by omega) okA (by omega) yB (fun hk x3 x4 x5 x6 x7 x8 x9 x11 o' n' g'=>hQ hk x3 x4 x5 x6 x7 x8 x9 x11 o' (by omega) (fun m hm=>(g' m (by omega)).trans (gA m hm)))
structure UsOk (idom:List Int) (f:Fc):Prop where
 nb:f.blocks.length<=10000
 sz:∀ b∈f.blocks,b.instrs.length<=10000/\b.edges.length<=10000
 us:∀ (k i:Nat) (b:Blk) (x:Ms.Ins),f.blocks[k]?=some b->b.instrs[i]?=some x->x.ops.length<=6/\∀ o∈x.ops,o.kind=1->KT idom (jb5 f) o.value k i
 ed:∀ (k:Nat) (b:Blk) (e:Ms.Edg),f.blocks[k]?=some b->e∈b.edges->e.args.length<=10000/\∀ v∈e.args,KT idom (jb5 f) v k b.instrs.length
theorem qh5 {h:Hp} {Q:AV->Hp->Prop} {f:Fc} (hl:f.blocks.length<=10000) (hv:f.values.length<=10000) (hne:f.values≠[]) (hp:∀ b∈f.blocks,b.params.length<=10000/\b.instrs.length<=10000/\(∀ v∈b.params,v<f.values.length)/\∀ x∈b.instrs,x.ops.length<=6/\∀ o∈x.ops,o.value<f.values.length) :
 WC F9 55 [.agg [jaf jay f.values,jaf ja1 f.blocks]] h Q=Q (.s (jaf jg9 (jb5 f))) h :=
 jap ((jbg rfl).trans (jbh rfl (by simp only[jav,ja3,jbc,jcv,ja4,jbd,ja8,jbt,jbe,jbi,if_true]) (qff jec hl hv hne hp)))
theorem qo3:∀ (s:List Bool),s.length<=5->oG s
 | [],_=>o_
 | [false],_=>o_f
 | [true],_=>o_t
 | [false,false],_=>qq2
 | [false,true],_=>qqz
 | [true,false],_=>qqt
 | [true,true],_=>qqw
 | [false,false,false],_=>qo0
 | [false,false,true],_=>qox
 | [false,true,false],_=>qoi
 | [false,true,true],_=>qof
 | [true,false,false],_=>qor
 | [true,false,true],_=>qou
 | [true,true,false],_=>qol
 | [true,true,true],_=>qoo
 | [false,false,false,false],_=>qlz
 | [false,false,false,true],_=>qlq
 | [false,false,true,false],_=>qk5
 | [false,false,true,true],_=>qlh
 | [false,true,false,false],_=>qlb
 | [false,true,false,true],_=>qln
 | [false,true,true,false],_=>qkw
 | [false,true,true,true],_=>qk2
 | [true,false,false,false],_=>qkz
 | [true,false,false,true],_=>qkt
 | [true,false,true,false],_=>ql2
 | [true,false,true,true],_=>qk8
 | [true,true,false,false],_=>qlw
 | [true,true,false,true],_=>qle
 | [true,true,true,false],_=>qlk
 | [true,true,true,true],_=>qlt
 | [false,false,false,false,false],_=>qgs
 | [false,false,false,false,true],_=>qfp
 | [false,false,false,true,false],_=>qh1
 | [false,false,false,true,true],_=>qhv
 | [false,false,true,false,false],_=>qhm
 | [false,false,true,false,true],_=>qfy
 | [false,false,true,true,false],_=>qga
 | [false,false,true,true,true],_=>qhd
 | [false,true,false,false,false],_=>qgd
 | [false,true,false,false,true],_=>qgm
 | [false,true,false,true,false],_=>qg1
 | [false,true,false,true,true],_=>qhp
 | [false,true,true,false,false],_=>qha
 | [false,true,true,false,true],_=>qhg
 | [false,true,true,true,false],_=>qhs
 | [false,true,true,true,true],_=>qfs
 | [true,false,false,false,false],_=>qgp
 | [true,false,false,false,true],_=>qfm
 | [true,false,false,true,false],_=>qhy
 | [true,false,false,true,true],_=>qfv
 | [true,false,true,false,false],_=>qhj
 | [true,false,true,false,true],_=>qf7
 | [true,false,true,true,false],_=>qgj
 | [true,false,true,true,true],_=>qf4
 | [true,true,false,false,false],_=>qf1
 | [true,true,false,false,true],_=>qgy
 | [true,true,false,true,false],_=>qg7
 | [true,true,false,true,true],_=>qgg
 | [true,true,true,false,false],_=>qfj
 | [true,true,true,false,true],_=>qgv
 | [true,true,true,true,false],_=>qg4
 | [true,true,true,true,true],_=>qfg
 | _::_::_::_::_::_::_,h=>absurd h (by simp)
theorem qo4:∀ (s:List Bool),s.length<=5->nG s
 | [],_=>n_
 | [false],_=>n_f
 | [true],_=>n_t
 | [false,false],_=>qq3
 | [false,true],_=>qq0
 | [true,false],_=>qqu
 | [true,true],_=>qqx
 | [false,false,false],_=>qo1
 | [false,false,true],_=>qoy
 | [false,true,false],_=>qoj
 | [false,true,true],_=>qog
 | [true,false,false],_=>qos
 | [true,false,true],_=>qov
 | [true,true,false],_=>qom
 | [true,true,true],_=>qop
 | [false,false,false,false],_=>ql0
 | [false,false,false,true],_=>qlr
 | [false,false,true,false],_=>qk6
 | [false,false,true,true],_=>qli
 | [false,true,false,false],_=>qlc
 | [false,true,false,true],_=>qlo
 | [false,true,true,false],_=>qkx
 | [false,true,true,true],_=>qk3
 | [true,false,false,false],_=>qk0
 | [true,false,false,true],_=>qku
 | [true,false,true,false],_=>ql3
 | [true,false,true,true],_=>qk9
 | [true,true,false,false],_=>qlx
 | [true,true,false,true],_=>qlf
 | [true,true,true,false],_=>qll
 | [true,true,true,true],_=>qlu
 | [false,false,false,false,false],_=>qgt
 | [false,false,false,false,true],_=>qfq
 | [false,false,false,true,false],_=>qh2
 | [false,false,false,true,true],_=>qhw
 | [false,false,true,false,false],_=>qhn
 | [false,false,true,false,true],_=>qfz
 | [false,false,true,true,false],_=>qgb
 | [false,false,true,true,true],_=>qhe
 | [false,true,false,false,false],_=>qge
 | [false,true,false,false,true],_=>qgn
 | [false,true,false,true,false],_=>qg2
 | [false,true,false,true,true],_=>qhq
 | [false,true,true,false,false],_=>qhb
 | [false,true,true,false,true],_=>qhh
 | [false,true,true,true,false],_=>qht
 | [false,true,true,true,true],_=>qft
 | [true,false,false,false,false],_=>qgq
 | [true,false,false,false,true],_=>qfn
 | [true,false,false,true,false],_=>qhz
 | [true,false,false,true,true],_=>qfw
 | [true,false,true,false,false],_=>qhk
 | [true,false,true,false,true],_=>qf8
 | [true,false,true,true,false],_=>qgk
 | [true,false,true,true,true],_=>qf5
 | [true,true,false,false,false],_=>qf2
 | [true,true,false,false,true],_=>qgz
 | [true,true,false,true,false],_=>qg8
 | [true,true,false,true,true],_=>qgh
 | [true,true,true,false,false],_=>qfk
 | [true,true,true,false,true],_=>qgw
 | [true,true,true,true,false],_=>qg5
 | [true,true,true,true,true],_=>qfh
 | _::_::_::_::_::_::_,h=>absurd h (by simp)
theorem qo5:∀ (s:List Bool),s.length<=5->iG s
 | [],_=>i_
 | [false],_=>i_f
 | [true],_=>i_t
 | [false,false],_=>qq4
 | [false,true],_=>qq1
 | [true,false],_=>qqv
 | [true,true],_=>qqy
 | [false,false,false],_=>qo2
 | [false,false,true],_=>qoz
 | [false,true,false],_=>qok
 | [false,true,true],_=>qoh
 | [true,false,false],_=>qot
 | [true,false,true],_=>qow
 | [true,true,false],_=>qon
 | [true,true,true],_=>qoq
 | [false,false,false,false],_=>ql1
 | [false,false,false,true],_=>qls
 | [false,false,true,false],_=>qk7
 | [false,false,true,true],_=>qlj
 | [false,true,false,false],_=>qld
 | [false,true,false,true],_=>qlp
 | [false,true,true,false],_=>qky
 | [false,true,true,true],_=>qk4
 | [true,false,false,false],_=>qk1
 | [true,false,false,true],_=>qkv
 | [true,false,true,false],_=>ql4
 | [true,false,true,true],_=>qla
 | [true,true,false,false],_=>qly
 | [true,true,false,true],_=>qlg
 | [true,true,true,false],_=>qlm
 | [true,true,true,true],_=>qlv
 | [false,false,false,false,false],_=>qgu
 | [false,false,false,false,true],_=>qfr
 | [false,false,false,true,false],_=>qh3
 | [false,false,false,true,true],_=>qhx
 | [false,false,true,false,false],_=>qho
 | [false,false,true,false,true],_=>qf0
 | [false,false,true,true,false],_=>qgc
 | [false,false,true,true,true],_=>qhf
 | [false,true,false,false,false],_=>qgf
 | [false,true,false,false,true],_=>qgo
 | [false,true,false,true,false],_=>qg3
 | [false,true,false,true,true],_=>qhr
 | [false,true,true,false,false],_=>qhc
 | [false,true,true,false,true],_=>qhi
 | [false,true,true,true,false],_=>qhu
 | [false,true,true,true,true],_=>qfu
 | [true,false,false,false,false],_=>qgr
 | [true,false,false,false,true],_=>qfo
 | [true,false,false,true,false],_=>qh0
 | [true,false,false,true,true],_=>qfx
 | [true,false,true,false,false],_=>qhl
 | [true,false,true,false,true],_=>qf9
 | [true,false,true,true,false],_=>qgl
 | [true,false,true,true,true],_=>qf6
 | [true,true,false,false,false],_=>qf3
 | [true,true,false,false,true],_=>qg0
 | [true,true,false,true,false],_=>qg9
 | [true,true,false,true,true],_=>qgi
 | [true,true,true,false,false],_=>qfl
 | [true,true,true,false,true],_=>qgx
 | [true,true,true,true,false],_=>qg6
 | [true,true,true,true,true],_=>qfi
 | _::_::_::_::_::_::_,h=>absurd h (by simp)
theorem jyf {α β:Type} (g:α->β):∀ (l:List α),(l.map (fun v=>(v,g v))).map (·.1)=l
 | []=>rfl
 | a::l=>congrArg (a::·) (jyf g l)
theorem j9q (b i:Nat) (ops:List Ms.Opd):(evO b i ops).map (·.1)=dfO ops:=jyf _ _
theorem j0s (b:Nat):∀ (l:List Ms.Ins) (i:Nat),(evI b i l).map (·.1)=(l.map jb3).flatten
 | [],i=>rfl
 | x::l,i=>by
  unfold evI
  rw[f3j,j9q,j0s b l]
  rfl
theorem jtw:∀ (l:List Blk) (k:Nat),(evL k l).map (·.1)=jb4 l
 | [],k=>rfl
 | b::l,k=>by
  unfold evL evB evP
  rw[f3j,f3j,j0s,jtw l,jyf]
  simp[jb4,jjt]
theorem j67 {b:Nat} {y:Ms.Ins} (hv:v∈jb3 y):∀ {l:List Ms.Ins} {i j:Nat},l[i]?=some y->(v,(b,((j+i:Nat):Int)))∈evI b j l
 | [],i,j,h=>by simp at h
 | x::l,0,j,h=>by
  simp only[f1b,Option.some.injEq] at h
  subst h
  unfold evI
  exact f04 _ (f1q.2 ⟨v,hv,rfl⟩)
 | x::l,i+1,j,h=>by
  simp only[f17] at h
  unfold evI
  have:=j67 (b:=b) hv (j:=j+1) h
  rw[show j+1+i=j+(i+1) by omega] at this
  exact f0u _ this
theorem j68 {b:Nat}:∀ {l:List Blk} {k:Nat} {i:Nat},b=k+i->jl9 l v i n->(v,(b,n))∈evL k l
 | [],k,i,e,h=>by
  obtain⟨x,h1,_⟩:=h
  simp at h1
 | x::l,k,0,e,h=>by
  obtain⟨y,h1,h2⟩:=h
  simp only[f1b,Option.some.injEq] at h1
  subst h1
  rw[f1f] at e
  subst e
  unfold evL evB
  refine f04 _ ?_
  rcases h2 with⟨rfl,h2⟩ | ⟨i,y,rfl,h2,h3⟩
  .exact f04 _ (f1q.2 ⟨v,h2,rfl⟩)
  .have:=j67 (b:=b) h3 (j:=0) h2
   rw[f0w] at this
   exact f0u _ this
 | x::l,k,i+1,e,h=>by
  unfold evL
  refine f0u _ (j68 (i:=i) (by omega) ?_)
  obtain⟨y,h1,h2⟩:=h
  exact⟨y,by simpa using h1,h2⟩
theorem j69:∀ (l:List (Nat×(Nat×Int))) (T:List (Nat×Int)),v∉l.map (·.1)->(spF T l)[v]?=T[v]?
 | [],T,_=>rfl
 | e::l,T,h=>by
  simp only[f3b,f0g,not_or] at h
  show(spF (T.set e.1 e.2) l)[v]?=_
  rw[j69 l _ h.2,f1p (fun x=>h.1 x.symm)]
theorem j7a {p:Nat×Int}:∀ (l:List (Nat×(Nat×Int))) (T:List (Nat×Int)),(l.map (·.1)).Nodup->v<T.length->(v,p)∈l->(spF T l)[v]?=some p
 | [],T,_,_,h=>by cases h
 | e::l,T,hd,hv,h=>by
  rw[f3b,f0s] at hd
  show(spF (T.set e.1 e.2) l)[v]?=_
  rcases f0g.1 h with rfl | h
  .rw [j69 l _ hd.1,List.getElem?_set_self hv]
  .exact j7a l _ hd.2 (by rw[f3i];exact hv) h
theorem jtx {f:Fc} (hm:(jb4 f.blocks).Perm (List.range f.values.length)) {b:Nat} (h:jl9 f.blocks v b n):(jb5 f)[v]?=some (b,n):=by
 have hmem:=j68 (k:=0) (i:=b) (f0w b).symm h
 have hk:v∈jb4 f.blocks:=by rw[←jtw f.blocks 0];exact f1q.2 ⟨_,hmem,rfl⟩
 have hv:v<f.values.length:=List.mem_range.1 (hm.mem_iff.1 hk)
 unfold jb5
 exact j7a _ _ (by rw[jtw];exact hm.nodup_iff.2 List.nodup_range) (by rw[f2u];exact hv) hmem
theorem jhs.kt {f:Fc} (hm:(jb4 f.blocks).Perm (List.range f.values.length)) {k i:Nat} (h:jhs idom f.blocks v k i):KT idom (jb5 f) v k i:=by
 obtain⟨b,n,h1,h2⟩:=h
 exact⟨(b,n),jtx hm h1,h2⟩
def gPs (l:List Blk) (k:Nat):SV:=jaf jay (l.getD k jgc).params
def gIs (l:List Blk) (k:Nat):SV:=jaf jdz (l.getD k jgc).instrs
def gAs (l:List Blk) (k j:Nat):SV:=jaf jay ((l.getD k jgc).edges.getD j ⟨0,[]⟩).args
theorem j7b (a:Nat->SV):∀ (r p:List Ms.Edg),(∀ j,a j=jaf jay ((p++r).getD j ⟨0,[]⟩).args)->qmo a p.length (r.map (·.block))=r.map jfj
 | [],p,h=>rfl
 | e::r,p,h=>by
  show[si e.block,a p.length]::qmo a (p.length+1) (r.map (·.block))=jfj e::r.map jfj
  have h1:a p.length=jaf jay e.args:=by
   rw[h,f0f,f0q (f0e _)];simp
  have h2:=j7b a r (p++[e]) (fun j=>by rw[h];simp)
  rw[f0z] at h2
  rw[h1]
  exact congrArg _ h2
theorem qh6 (a:Nat->SV) (l:List Ms.Edg) (h:∀ j,a j=jaf jay (l.getD j ⟨0,[]⟩).args):qmp a (l.map (·.block))=jaf jfj l:=by
 cases l with
 | nil=>rfl
 | cons e r =>
  have:=j7b a (e::r) [] (by simpa using h)
  exact congrArg SV.lst this
theorem j0t (l:List Blk):∀ (r p:List Blk),p++r=l->j6t (gPs l) (gIs l) (gAs l) p.length (grL r)=r.map ja1
 | [],p,h=>rfl
 | b::r,p,h=>by
  have hb:l.getD p.length jgc=b:=by rw[←h,f0f,f0q (f0e _)];simp
  show[gPs l p.length,gIs l p.length,qmp (gAs l p.length) (qbo b)]::j6t (gPs l) (gIs l) (gAs l) (p.length+1) (grL r)=ja1 b::r.map ja1
  have h1:qmp (gAs l p.length) (qbo b)=jaf jfj b.edges:=qh6 _ _ (fun j=>by unfold gAs;rw[hb])
  have h2:=j0t l r (p++[b]) (by rw[←h];simp)
  rw[f0z] at h2
  rw[h1]
  unfold gPs gIs
  rw[hb]
  exact congrArg _ h2
theorem jyg {f:Fc} (hne:f.blocks≠[]):[jaf jay f.values,jaf ja1 f.blocks]=qmq (grL f.blocks) (jaf jay f.values) (gPs f.blocks) (gIs f.blocks) (gAs f.blocks):=by
 have h:=j0t f.blocks f.blocks [] rfl
 unfold qmq
 rw[show j6t (gPs f.blocks) (gIs f.blocks) (gAs f.blocks) 0 (grL f.blocks)=f.blocks.map ja1 from h]
 cases e:f.blocks with
 | nil=>exact absurd e hne
 | cons b r=>rfl
section
variable {f:Fc} {s:List Bool} {h:Hp} {Q:AV->Hp->Prop}
theorem j9r (hs:s.length<=5) (hg:grL f.blocks=gS s) (hne:f.blocks≠[]):jdg F8 25 [.agg [jaf jay f.values,jaf ja1 f.blocks]] h=some (.s (jaf jay (j6s s 0)),h) :=
 jbh rfl (by simp only[jav,ja3,jbc,jcv,ja4,jbd,ja8,jbt,jbe,jbi,if_true]) (by rw[jyg hne,hg];exact jpd (qo3 s hs _ _ _ _))
theorem qh7 (hs:s.length<=5) (hg:grL f.blocks=gS s) (hne:f.blocks≠[]):jdg F8 26 [.agg [jaf jay f.values,jaf ja1 f.blocks]] h=some (.s (jaf jpt (j17 (gS s))),h) :=
 jbh rfl (by simp only[jav,ja3,jbc,jcv,ja4,jbd,ja8,jbt,jbe,jbi,if_true]) (by rw[jyg hne,hg];exact jpd (qo4 s hs _ _ _ _))
theorem j9s (hs:s.length<=5) (hg:grL f.blocks=gS s) (hne:f.blocks≠[]):jdg F8 28 [.agg [jaf jay f.values,jaf ja1 f.blocks],.s (jaf jay (j6s s 0))] h=some (.s (jaf jhv (jd5 s)),h) :=
 jbh rfl (by simp only[jav,ja3,jbc,jcv,ja4,jbd,ja8,jbt,jbe,jbi,if_true]) (by rw[jyg hne,hg];exact jpd (qo5 s hs _ _ _ _))
end
def shp:Nat->List (List Bool)
 | 0=>[[]]
 | n+1=>[]::((shp n).map (false::·)++(shp n).map (true::·))
theorem j7c:∀ (n:Nat) (s:List Bool),s.length<=n->s∈shp n
 | 0,s,h=>by
  have:=f1h (Nat.le_zero.1 h)
  subst this;exact f0i.2 rfl
 | n+1,[],h=>by unfold shp;simp
 | n+1,b::s,h=>by
  have:=j7c n s (by simpa using h)
  unfold shp
  refine f0y _ (f0d.2 ?_)
  cases b
  .exact .inl (f1q.2 ⟨s,this,rfl⟩)
  .exact .inr (f1q.2 ⟨s,this,rfl⟩)
theorem qh8 {P:List Bool->Bool} (h:(shp 5).all P=true) {s:List Bool} (hs:s.length<=5):P s=true:=f26.1 h s (j7c 5 s hs)
def qpo (g:List (List Nat)):Bool:=g.all (fun es=>es.length<=1||es.all (fun t=>((j17 g).getD t [0,0]).length<=1))
theorem j9t:(shp 5).all (fun s=>qpo (gS s))=true:=by kernel_rfl
theorem jty:∀ (s:List Bool) (c:Nat),(j6s s c).length=1+3*s.length
 | [],c=>rfl
 | false::s,c=>by simp[j6s,jty s];omega
 | true::s,c=>by simp[j6s,jty s];omega
structure FlG (m:Nat×Nat) (f:Fc) (s:List Bool):Prop where
 k:FcOk m f
 on:jju f=0
 hs:s.length<=5
 hg:grL f.blocks=gS s
 hv:f.values≠[]
structure FlOk (m:Nat×Nat) (f:Fc) (s:List Bool):Prop extends FlG m f s where
 us:UsOk (jd5 s) f
theorem FlG.hne {m:Nat×Nat} {f:Fc} {s:List Bool} (o:FlG m f s):f.blocks≠[]:=f1v.1 (by have:=o.k.nb;omega)
theorem FlOk.len {m:Nat×Nat} {f:Fc} {s:List Bool} (o:FlOk m f s):f.blocks.length=1+3*s.length:=by rw[←jds,o.hg,j0p]
theorem qh9 {m:Nat×Nat} (m1:2<=m.1/\m.1<=10) (m2:2<=m.2/\m.2<=10) (l:List Pc):∃ s,FlOk m (jcs m l) s/\(jb4 (jcs m l).blocks).Perm (List.range (jcs m l).values.length) /\
 (∀ (k i:Nat) (b:Blk) (x:Ms.Ins) (o:Ms.Opd),(jcs m l).blocks[k]?=some b->b.instrs[i]?=some x->o∈x.ops->o.kind=1->jhs (jd5 s) (jcs m l).blocks o.value k i):=by
 obtain⟨k,kp,_⟩:=jz0 m1 m2 l
 obtain⟨s,h1,h2,h3,h4⟩:=jqv m1 m2 l
 have hv:(jcs m l).values≠[]:=by
  obtain⟨b,g,c,n,_⟩:=((jg8 m1 m2).pieces (l.take 24)).bd.lay ⟨0,0,1,0,0,0,3⟩
  obtain⟨_,_,_,_,_,_,_,_,cs,e1,e2,_⟩:=j9e ((jg8 m1 m2).pieces (l.take 24)).v ⟨0,0,1,0,0,0,3⟩
  have:(jcs m l).values=(jb8 ((l.take 24).foldl jbj (jbo m)) ⟨0,0,1,0,0,0,3⟩).values:=rfl
  rw[this,e2]
  rcases e1 with rfl | rfl<;>simp
 refine⟨s,⟨⟨k,jtq kp,h1,h2,hv⟩,⟨by have:=k.nb;omega,fun b hb=>by have:=k.blk b hb;omega,fun a i b x hb hx=>⟨(k.ins b (f0b hb) x (f0b hx)).nops,fun o ho hk=>jhs.kt kp (h3 a i b x o hb hx ho hk)⟩,fun a b e hb he=>⟨?_,fun v hv=>jhs.kt kp (h4 a b e v hb he hv)⟩⟩⟩,kp,h3⟩
 obtain⟨_,_,t,h5,h6,_⟩:=k.edg b (f0b hb) e he
 have h7:=(k.blk t (f0b h5)).1
 have:=congrArg List.length h6
 simp only[f1a] at this
 omega
def S10 (f:FuncId):Bool:=Nat.beq f 27
def F10:Fns:=PX S10 F9
theorem qo6 {A:Nat->Int}:Env Try.prog A tys F10:=jg1 qq6
theorem qpp {f:FuncId} (h1:S1 f=false) (h2:Nat.beq f jfk.f=false) (h3:S3 f=false) (h4:S4 f=false) (h5:S5 f=false) (h6:S6 f=false) (h7:S7 f=false) (h8:S8 f=false) (h9:S9 f=false) (h10:S10 f=false) {h:Hp}:jdg F10 f vs h=none:=(jbg h10).trans (no9 h1 h2 h3 h4 h5 h6 h7 h8 h9)
section
variable {h:Hp} {m:Nat×Nat} {f:Fc} {s:List Bool} {Q:AV->Hp->Prop}
theorem ql5 {g:FuncId} (h9:S9 g=false) (h10:S10 g=false):jdg F10 g vs h=jdg F8 g vs h:=(jbg h10).trans (jbg h9)
theorem j9u (k:FcOk m f) (on:jju f=0) (m1:2<=m.1/\m.1<=10) (m2:2<=m.2/\m.2<=10):WC F10 24 [.agg [jaf jay f.values,jaf ja1 f.blocks],.agg [si m.1,si m.2]] h Q=Q (vi 0) h :=
 jap ((ql5 rfl rfl).trans ((jbg rfl).trans (by rw[qkq k m1 m2,on];rfl)))
theorem j18 (o:FlG m f s):WC F10 25 [.agg [jaf jay f.values,jaf ja1 f.blocks]] h Q=Q (.s (jaf jay (j6s s 0))) h:=jap ((ql5 rfl rfl).trans (j9r o.hs o.hg o.hne))
theorem j7d (o:FlG m f s):WC F10 26 [.agg [jaf jay f.values,jaf ja1 f.blocks]] h Q=Q (.s (jaf jpt (j17 (gS s)))) h:=jap ((ql5 rfl rfl).trans (qh7 o.hs o.hg o.hne))
theorem j19 (o:FlG m f s):WC F10 28 [.agg [jaf jay f.values,jaf ja1 f.blocks],.s (jaf jay (j6s s 0))] h Q=Q (.s (jaf jhv (jd5 s))) h:=jap ((ql5 rfl rfl).trans (j9s o.hs o.hg o.hne))
end
theorem FlG.pred {m:Nat×Nat} {f:Fc} {s:List Bool} (o:FlG m f s) {b:Blk} (hb:b∈f.blocks) (h:1<b.edges.length) {e:Ms.Edg} (he:e∈b.edges):∃ pl,(j17 (gS s))[e.block]?=some pl/\pl.length<=1:=by
 have h1:=qh8 j9t o.hs
 unfold qpo at h1
 rw[f26] at h1
 have h2:=h1 (qbo b) (by rw[←o.hg];exact f1q.2 ⟨b,hb,rfl⟩)
 simp only[f3a,decide_eq_true_eq,f26] at h2
 have h3:=h2.resolve_left (by unfold qbo;rw[f1a];omega) e.block (f1q.2 ⟨e,he,rfl⟩)
 rw[f0f] at h3
 cases hq:(j17 (gS s))[e.block]? with
 | none=>rw[hq] at h3;simp at h3
 | some pl=>rw[hq] at h3;exact⟨pl,rfl,h3⟩
theorem j7e {m:Nat×Nat} {f:Fc} (k:FcOk m f) {IL:List (List Nat)} (pr:∀ b∈f.blocks,1<b.edges.length->∀ e∈b.edges,∃ pl,IL[e.block]?=some pl/\pl.length<=1) {b:Blk} (hb:b∈f.blocks) {Q:Ex->St->Prop} :
 ∀ (d j:Nat) (_:j+d=b.edges.length) {hi:Hp} (_:Ok hi) (_:bB<hi.next) (_:hi.get bB=some (.arr [jaf jay b.params,jaf jdz b.instrs,jaf jfj b.edges] 36)) {x4 x5 x8:AV}
  (hQ:∀ hj x4 x5 x8,Ok hj->hi.next<=hj.next->(∀ n,n<hi.next->hj.get n=hi.get n)->Q (.exit 2) (.mk [x0,x1,x2,x3,x4,x5,.s (jaf jpt (IL)),.s (jaf jfj b.edges),x8,vi b.edges.length,vi b.edges.length,.s (.ptr bB 0),x12,x13,x14,x15,x16,x17,x18,x19,x20] hj)),
  W F10 jj3.loop (.mk [x0,x1,x2,x3,x4,x5,.s (jaf jpt (IL)),.s (jaf jfj b.edges),x8,vi b.edges.length,vi j,.s (.ptr bB 0),x12,x13,x14,x15,x16,x17,x18,x19,x20] hi) Q
 | 0,j,hd,hi,ok,hB,xB,x4,x5,x8,hQ=>by
  obtain rfl:j=b.edges.length:=by omega
  rw[jak]
  unfold jj3
  simp(disch:=first|omega|rfl) only[go_sem,f0v]
  exact hQ hi _ _ _ ok (f0e _) (fun _ _=>rfl)
 | d+1,j,hd,hi,ok,hB,xB,x4,x5,x8,hQ=>by
  have hlt:(j:Int)<(b.edges.length:Int):=by omega
  have hne:=(k.blk b hb).2.2
  obtain⟨e,hio⟩:∃ y,b.edges[j]?=some y:=⟨_,f0c (by omega)⟩
  have hix:=jag (enc:=jfj) (size:=2) hio rfl
  have hs:(j:Int)+1=((j+1:Nat):Int):=by omega
  obtain⟨hA,eA,okA,nA,xA,gA⟩:=jcm ok [.int .i64 0,.nilSlice] (jfj e) 73
  have yB:=(gA _ hB).trans xB
  have l2:=jaj (enc:=jfj) (l:=b.edges)
  unfold jfj at xA eA
  rw[jak]
  unfold jj3 jvz
  by_cases h1:1<b.edges.length
  .have c1:(1<(b.edges.length:Int))=True:=by simp;omega
   obtain⟨pl,h2,h3⟩:=pr b hb h1 e (f0b hio)
   have hxp:=jag (enc:=jpt) (size:=1) h2 rfl
   have l3:=jaj (enc:=jay) (l:=pl)
   have c2:(1<(pl.length:Int))=False:=by simp;omega
   simp(disch:=first|omega|rfl) only[go_sem,jad,eq_true hlt,hix,jfj,eA,xA,yB,l2,c1,hxp,jpt,l3,c2,hs]
   exact j7e k pr hb d (j+1) (by omega) okA (by omega) yB (fun hj x4 x5 x8 ok' n g=>hQ hj x4 x5 x8 ok' (by omega) (fun q hq=>(g q (by omega)).trans (gA q hq)))
  .have c1:(1<(b.edges.length:Int))=False:=by simp;omega
   simp(disch:=first|omega|rfl) only[go_sem,jad,eq_true hlt,hix,jfj,eA,xA,yB,l2,c1,hs]
   exact j7e k pr hb d (j+1) (by omega) okA (by omega) yB (fun hj x4 x5 x8 ok' n g=>hQ hj x4 x5 x8 ok' (by omega) (fun q hq=>(g q (by omega)).trans (gA q hq)))
theorem qby {m:Nat×Nat} {f:Fc} (k:FcOk m f) {IL:List (List Nat)} (pr:∀ b∈f.blocks,1<b.edges.length->∀ e∈b.edges,∃ pl,IL[e.block]?=some pl/\pl.length<=1) {bF:Nat} {Q:Ex->St->Prop} :
 ∀ (d j:Nat) (_:j+d=f.blocks.length) {hi:Hp} (_:Ok hi) (_:bF<hi.next) {x4 x5 x7 x8 x9 x10 x11 x13:AV}
  (hQ:∀ hj x4 x5 x7 x8 x9 x10 x11 x13,Ok hj->hi.next<=hj.next->hj.get bF=hi.get bF->Q (.exit 0) (.mk [x0,x1,x2,x3,x4,x5,.s (jaf jpt (IL)),x7,x8,x9,x10,x11,.s (jaf ja1 f.blocks),x13,vi f.blocks.length,vi f.blocks.length,x16,x17,x18,x19,.s (.ptr bF 0)] hj)),
  W F10 jj4.loop (.mk [x0,x1,x2,x3,x4,x5,.s (jaf jpt (IL)),x7,x8,x9,x10,x11,.s (jaf ja1 f.blocks),x13,vi f.blocks.length,vi j,x16,x17,x18,x19,.s (.ptr bF 0)] hi) Q
 | 0,j,hd,hi,ok,hB,x4,x5,x7,x8,x9,x10,x11,x13,hQ=>by
  obtain rfl:j=f.blocks.length:=by omega
  rw[jak]
  unfold jj4
  simp(disch:=first|omega|rfl) only[go_sem,f0v]
  exact hQ hi _ _ _ _ _ _ _ _ ok (f0e _) rfl
 | d+1,j,hd,hi,ok,hB,x4,x5,x7,x8,x9,x10,x11,x13,hQ=>by
  have nb:=k.nb
  have hlt:(j:Int)<(f.blocks.length:Int):=by omega
  obtain⟨b,hio⟩:∃ y,f.blocks[j]?=some y:=⟨_,f0c (by omega)⟩
  have hbm:=f0b hio
  have hix:=jag (enc:=ja1) (size:=3) hio rfl
  have hs:(j:Int)+1=((j+1:Nat):Int):=by omega
  obtain⟨hA,eA,okA,nA,xA,gA⟩:=jcm ok [.nilSlice,.nilSlice,.nilSlice] (ja1 b) 36
  have l2:=jaj (enc:=jfj) (l:=b.edges)
  unfold ja1 at xA eA
  rw[jak]
  unfold jj4 jv0
  simp(disch:=first|omega|rfl) only[go_sem,jad,eq_true hlt,hix,ja1,eA,xA,l2]
  refine j7e k pr hbm b.edges.length 0 (by omega) okA (by omega) xA (fun hj x4 x5 x8 ok' n g=>?_)
  simp(disch:=first|omega|rfl) only[go_sem,jad,hs]
  exact qby k pr d (j+1) (by omega) ok' (by omega) (fun hk x4 x5 x7 x8 x9 x10 x11 x13 o' n' g'=>hQ hk x4 x5 x7 x8 x9 x10 x11 x13 o' (by omega) (g'.trans ((g _ (by omega)).trans (gA _ hB))))
theorem j9v {h:Hp} (ok:Ok h) {m:Nat×Nat} {f:Fc} (k:FcOk m f) (on:jju f=0) (m1:2<=m.1/\m.1<=10) (m2:2<=m.2/\m.2<=10) {IL:List (List Nat)} {O:List Nat} {D:List Int} (pr:∀ b∈f.blocks,1<b.edges.length->∀ e∈b.edges,∃ pl,IL[e.block]?=some pl/\pl.length<=1) (hl:f.blocks.length<=O.length)
 (hO:∀ h Q,WC F10 25 [.agg [jaf jay f.values,jaf ja1 f.blocks]] h Q=Q (.s (jaf jay O)) h) (hI:∀ h Q,WC F10 26 [.agg [jaf jay f.values,jaf ja1 f.blocks]] h Q=Q (.s (jaf jpt IL)) h)
 (hD:∀ h Q,WC F10 28 [.agg [jaf jay f.values,jaf ja1 f.blocks],.s (jaf jay O)] h Q=Q (.s (jaf jhv D)) h) (hU:∀ h Q,WC F10 27 [.agg [jaf jay f.values,jaf ja1 f.blocks],.s (jaf jhv D)] h Q=Q (vb r) h) :
 WC F10 13 [.agg [jaf jay f.values,jaf ja1 f.blocks],.agg [si m.1,si m.2]] h (fun v h'=>∃ d,jfq true h' d v=some (vi (Bool.rec 10 0 r))):=by
 refine ja9 (qpp rfl rfl rfl rfl rfl rfl rfl rfl rfl rfl) qfd rfl ?_
 unfold j0r
 obtain⟨hA,eA,okA,nA,xA,gA⟩:=jed ok [jaf jay f.values,jaf ja1 f.blocks] 26
 obtain⟨hB,eB,okB,nB,xB,gB⟩:=jed okA [si m.1,si m.2] 30
 have yA:=(gB _ (by omega)).trans xA
 rw[nA] at xB
 have l2:=jaj (enc:=ja1) (l:=f.blocks)
 have l3:=jaj (enc:=jay) (l:=O)
 have c1:((O.length:Int)<(f.blocks.length:Int))=False:=eq_false (by omega)
 have hh:(hB.next<=h.next/\h.next<hB.next)=False:=eq_false (by omega)
 simp(disch:=first|omega|rfl) only[go_sem,eA,eB,nA,yA,xB,j9u k on m1 m2]
 unfold jv4 jvy
 simp(disch:=first|omega|rfl) only[go_sem,yA,xB,hO,l3,l2,c1,hh]
 unfold jv3
 simp(disch:=first|omega|rfl) only[go_sem,yA,hI,l2]
 refine qby k pr f.blocks.length 0 (by omega) okB (by omega) (fun hj x4 x5 x7 x8 x9 x10 x11 x13 o' n g=>?_)
 have zA:=g.trans yA
 have hh:(hj.next<=h.next/\h.next<hj.next)=False:=eq_false (by omega)
 unfold jv1
 cases r with
 | false =>
  simp(disch:=first|omega|rfl) only[go_sem,zA,hO,hD,hU,hh]
  exact⟨1,rfl⟩
 | true =>
  simp(disch:=first|omega|rfl) only[go_sem,zA,hO,hD,hU,hh]
  unfold jv2
  simp(disch:=first|omega|rfl) only[go_sem]
  exact⟨1,rfl⟩
theorem FlG.fck {h:Hp} (ok:Ok h) {m:Nat×Nat} {f:Fc} {s:List Bool} (o:FlG m f s) (m1:2<=m.1/\m.1<=10) (m2:2<=m.2/\m.2<=10) (hU:∀ h Q,WC F10 27 [.agg [jaf jay f.values,jaf ja1 f.blocks],.s (jaf jhv (jd5 s))] h Q=Q (vb r) h) :
 WC F10 13 [.agg [jaf jay f.values,jaf ja1 f.blocks],.agg [si m.1,si m.2]] h (fun v h'=>∃ d,jfq true h' d v=some (vi (Bool.rec 10 0 r))) :=
 j9v ok o.k o.on m1 m2 (fun b hb h1 e he=>o.pred hb h1 he) (by rw[jty,←jds,o.hg,j0p];exact f0e _) (fun _ _=>j18 o) (fun _ _=>j7d o) (fun _ _=>j19 o) hU
def S11 (f:FuncId):Bool:=Nat.beq f 13
def F11:Fns:=PX S11 F10
theorem qo7 {A:Nat->Int}:Env Try.prog A tys F11:=jg1 qo6
theorem qpq {f:FuncId} (h1:S1 f=false) (h2:Nat.beq f jfk.f=false) (h3:S3 f=false) (h4:S4 f=false) (h5:S5 f=false) (h6:S6 f=false) (h7:S7 f=false) (h8:S8 f=false) (h9:S9 f=false) (h10:S10 f=false) (h11:S11 f=false) {h:Hp}:jdg F11 f vs h=none:=(jbg h11).trans (qpp h1 h2 h3 h4 h5 h6 h7 h8 h9 h10)
section
variable {h:Hp} {m:Nat×Nat} {f:Fc} {s:List Bool} {Q:AV->Hp->Prop}
end
section
variable {h:Hp} {m:Nat×Nat} {f:Fc} {s:List Bool} {Q:AV->Hp->Prop}
end
end
end Go.Proofs.Ytkeenpohacdanaa.Ev
